/- append. -/
import Derived.Test.YtkhheblmgbiniaaA9
namespace Go.Sy
open Go Go.RowKit

variable {N : Nat} {w0 : World} {C0 : CMap} {E : EX} {s : St} {a : Act} {w : World} {C : CMap} {ρ : RMap} {τ : TMap} {P : Program} {o : Oper} {e : Eff}

/-- In place: behind the block's first cells. -/
theorem RepG.inplace (h : RepG N w0 C0 E s a w C ρ τ) {k : Key} {b n c sz : Nat} {cs : Array Value} {ty : TypeId} (hk : τ k = some (.slice (some ⟨b, 0, none⟩) n c, sz)) (hd : s.d k = false) (hc : c ≠ 0)
    (hblk : w.heap[b]? = some (.cells cs ty (0, 0))) (hlow : ∀ o, n * sz ≤ o → C b o = none) (hG : (w0.heap.size ≤ b ∨ E b) ∧ ∀ k' B, s.b k' = some B → ρ k' ≠ some b)
    (news : List Value) (h1 : ∀ u ∈ news, u.oneCell' = true) (hfit : n * sz + news.length ≤ cs.size) :
    RepG N w0 C0 E { s with d := upd s.d k true } a (w.setRow b (cs.toList.take (n * sz) ++ news ++ cs.toList.drop (n * sz + news.length)).toArray)
      (fun b' o => if b' = b ∧ n * sz ≤ o ∧ o < n * sz + news.length then news[o - n * sz]? else C b' o) ρ τ := by
  have other : ∀ {b' : Nat}, b' ≠ b → (w.setRow b (cs.toList.take (n * sz) ++ news ++ cs.toList.drop (n * sz + news.length)).toArray).heap[b']? = w.heap[b']? := fun hne => setRow_other w b _ _ hne
  have hmono : ∀ b' o v, C b' o = some v → (if b' = b ∧ n * sz ≤ o ∧ o < n * sz + news.length then news[o - n * sz]? else C b' o) = some v := by
    intro b' o v hv
    rw [if_neg]
    · exact hv
    · rintro ⟨rfl, ho, _⟩
      rw [hlow o ho] at hv
      cases hv
  have mono : ∀ {v : Value} {x : AV}, RV C ρ τ v x → RV (fun b' o => if b' = b ∧ n * sz ≤ o ∧ o < n * sz + news.length then news[o - n * sz]? else C b' o) ρ τ v x := fun hv => hv.mono hmono (fun _ _ h => h) (fun _ _ h => h)
  have none_of : ∀ {b' : Nat}, b' ≠ b → ∀ o, C b' o = none → (if b' = b ∧ n * sz ≤ o ∧ o < n * sz + news.length then news[o - n * sz]? else C b' o) = none := by
    intro b' hne o ho
    rw [if_neg (fun h => hne h.1), ho]
  have low : ∀ k', upd s.d k true k' = false → s.d k' = false ∧ k' ≠ k := by
    intro k' e
    rw [upd_at] at e
    split at e
    · cases e
    · exact ⟨e, by assumption⟩
  have bne : ∀ {k' : Key} {A : Option Addr} {n' c' : Nat} {m : Nat}, τ k' = some (.slice A n' c', m) → upd s.d k true k' = false → c' ≠ 0 → ∀ b', A = some ⟨b', 0, none⟩ → b' ≠ b := by
    intro k' A n' c' m hk' hd' hc' b' hA
    obtain ⟨hd', hne⟩ := low _ hd'
    rintro rfl
    exact hne (h.tj k' k _ _ _ _ b' hk' hk hd' hd (by subst hA; simp [blk, hc']) (by simp [blk, hc]))
  exact {
    df := h.df
    sz := h.sz
    tm := fun t => mono (h.tm t)
    cw := by
      intro b' o v hv
      split at hv
      · rename_i hcond
        obtain ⟨rfl, ho1, ho2⟩ := hcond
        refine ⟨?_, h1 v (List.mem_of_getElem? hv)⟩
        simp only [World.cell?, setRow_heap w b' cs _ ty (0, 0) hblk, Option.isSome_none, Bool.false_eq_true, if_false, List.getElem?_toArray]
        rw [splice_at _ _ _ _ (by simpa using hfit), if_pos ⟨ho1, ho2⟩]
        exact hv
      · rename_i hcond
        obtain ⟨g1, g2⟩ := h.cw _ _ _ hv
        refine ⟨?_, g2⟩
        by_cases hb : b' = b
        · subst hb
          have ho : o < n * sz := by
            rcases Nat.lt_or_ge o (n * sz) with ho | ho
            · exact ho
            · rw [hlow o ho] at hv; cases hv
          simp only [World.cell?, hblk, Option.isSome_none, Bool.false_eq_true, if_false] at g1
          simp only [World.cell?, setRow_heap w b' cs _ ty (0, 0) hblk, Option.isSome_none, Bool.false_eq_true, if_false, List.getElem?_toArray]
          rw [splice_at _ _ _ _ (by simpa using hfit), if_neg (by omega)]
          simpa using g1
        · exact (World.cell?_of_block (w := w) (a := ⟨b', o, none⟩) (other hb)).trans g1
    c0 := fun b o v hv => hmono _ _ _ (h.c0 _ _ _ hv)
    c1 := by
      intro b' o v hlt hv
      split at hv
      · rename_i hcond
        obtain ⟨rfl, _⟩ := hcond
        rcases hG.1 with hG | hG
        · omega
        · exact .inr hG
      · exact h.c1 _ _ _ hlt hv
    bx := by
      intro k' B hB
      obtain ⟨b', hρ, ⟨⟨cs', ty', g1, g2, g3, g4, g5⟩, g6⟩, g7⟩ := h.bx k' B hB
      have hne : b' ≠ b := by rintro rfl; exact hG.2 _ _ hB hρ
      exact ⟨b', hρ, ⟨⟨cs', ty', (other hne).trans g1, g2, g3, fun i v x hv hx => mono (g4 i v x hv hx), fun hz i v hv => hmono _ _ _ (g5 hz i v hv)⟩, fun hz o => none_of hne o (g6 hz o)⟩, g7⟩
    bj := h.bj
    tk := by
      intro k' v m hk' hd'
      obtain ⟨A, n', c', rfl, g1⟩ := h.tk k' v m hk' (low _ hd').1
      refine ⟨A, n', c', rfl, ?_⟩
      rcases g1 with g1 | ⟨b', cs', ty', hA, g2, g3, g4, g5, g6, g7⟩
      · exact .inl g1
      · by_cases hc' : c' = 0
        · exact .inl hc'
        · have hne : b' ≠ b := bne hk' hd' hc' b' hA
          exact .inr ⟨b', cs', ty', hA, (other hne).trans g2, g3, g4, g5, fun o ho => none_of hne o (g6 o ho), g7⟩
    tj := fun k1 k2 v1 v2 n1 n2 b e1 e2 d1 d2 => h.tj k1 k2 v1 v2 n1 n2 b e1 e2 (low _ d1).1 (low _ d2).1
    fρ := h.fρ
    fτ := h.fτ
    fo := h.fo
    fr := h.fr.setRow _ hG.1 }

/-- The same with the block's element type let be. -/
theorem run_append_room' (w : World) (t ty e te : TypeId) (i : TypeInfo) (ht : P.underlying t = some (.slice e)) (hi : P.info? e = some i)
    (g sLen sCap : Nat) (cur : Array Value) (hg : w.heap[g]? = some (.cells cur te (0, 0)))
    (a : Addr) (m c : Nat) (news : List Value) (hl : news.length = m * i.size) (hnews : ∀ (j : Nat) (u : Value), news[j]? = some u → w.cell? (a.add j) = some u) (h1 : ∀ u ∈ news, u.oneCell' = true)
    (hroom : sLen + m ≤ sCap) (hfit : sLen * i.size + news.length ≤ cur.size) :
    (Builtin.append_ #[t, t] ty #[.slice (some ⟨g, 0, none⟩) sLen sCap, .slice (some a) m c]).run P w =
      .ok (.slice (some ⟨g, 0, none⟩) (sLen + m) sCap) (w.setRow g (cur.toList.take (sLen * i.size) ++ news ++ cur.toList.drop (sLen * i.size + news.length)).toArray) := by
  have hf := run_firstCells_some (P := P) w i.size m a m c news hl hnews
  have hst := run_storeCells_at P g (sLen * i.size) te news 0 cur w hg (by simpa using hfit) h1
  simp only [Nat.add_zero] at hst
  simp [Builtin.append_, run_underlying ht, sizeOf, typeInfo, hi, Builtin.lenOf, hroom, hf, Addr.add_lit, hst]

/-- The cells of a list's elements, one behind the other. -/
def flatCells (n sz : Nat) (cv : Nat → Nat → Value) : List Value := (List.range (n * sz)).map fun q => cv (q / sz) (q % sz)
theorem flatCells_length (n sz : Nat) (cv : Nat → Nat → Value) : (flatCells n sz cv).length = n * sz := by simp [flatCells]
theorem flatCells_get {n sz : Nat} {cv : Nat → Nat → Value} {i j : Nat} (hi : i < n) (hj : j < sz) : (flatCells n sz cv)[i * sz + j]? = some (cv i j) := by
  have := two_idx hi hj
  simp [flatCells, this, idx_div hj, idx_mod hj]
theorem flatCells_some {n sz : Nat} {cv : Nat → Nat → Value} {q : Nat} {u : Value} (h : (flatCells n sz cv)[q]? = some u) : q < n * sz ∧ u = cv (q / sz) (q % sz) := by
  have hq : q < n * sz := by have := (List.getElem?_eq_some_iff.1 h).1; simpa [flatCells] using this
  simp [flatCells, hq] at h
  exact ⟨hq, h.symm⟩

/-- A list's cells in the world. -/
theorem list_cells (h : RepG N w0 C0 E s a w C ρ τ) {sz : Nat} (hsz : 0 < sz) {xs : List (List AV)} {A : Option Addr} {cv : Nat → Nat → Value}
    (hcell : ∀ (i : Nat) (x : List AV), xs[i]? = some x → x.length = sz ∧ ∃ b o, A = some ⟨b, o, none⟩ ∧ ∀ j, j < sz → C b (o + i * sz + j) = some (cv i j)) :
    (∀ ad, A = some ad → ∀ (q : Nat) (u : Value), (flatCells xs.length sz cv)[q]? = some u → w.cell? (ad.add q) = some u) ∧ (∀ u ∈ flatCells xs.length sz cv, u.oneCell' = true) ∧ (xs.length ≠ 0 → ∃ b o, A = some ⟨b, o, none⟩) := by
  refine ⟨?_, ?_, ?_⟩
  · rintro ad rfl q u hu
    obtain ⟨hq, rfl⟩ := flatCells_some hu
    have hi := div_lt hq
    obtain ⟨_, b, o, hA, hj⟩ := hcell (q / sz) xs[q / sz] (by simp [hi])
    cases hA
    have := (h.cw _ _ _ (hj (q % sz) (Nat.mod_lt _ hsz))).1
    rw [Addr.add_lit]
    rwa [Nat.add_assoc, div_idx] at this
  · intro u hu
    obtain ⟨q, hq⟩ := List.mem_iff_getElem?.1 hu
    obtain ⟨hq', rfl⟩ := flatCells_some hq
    have hi := div_lt hq'
    obtain ⟨_, b, o, hA, hj⟩ := hcell (q / sz) xs[q / sz] (by simp [hi])
    exact (h.cw _ _ _ (hj (q % sz) (Nat.mod_lt _ hsz))).2
  · intro hne
    obtain ⟨_, b, o, hA, _⟩ := hcell 0 (xs[0]'(by omega)) (by simp)
    exact ⟨b, o, hA⟩

end Go.Sy
