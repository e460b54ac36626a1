/- append. -/
import Derived.Test.YtkhheblmgbiniaaF1
namespace Go.Sy
open Go Go.RowKit

variable {N : Nat} {w0 : World} {C0 : CMap} {E : EX} {s : St} {a : Act} {w : World} {C : CMap} {ρ : RMap} {τ : TMap} {P : Program} {o : Oper} {e : Eff}

/-- In place: behind the block's first cells. -/
theorem RepG.inplace (h : RepG N w0 C0 E s a w C ρ τ) {k : Key} {b n c sz : Nat} {cs : Array Value} {ty : TypeId} (hk : τ k = some (.slice (some ⟨b, 0, none⟩) n c, sz)) (hd : s.d k = false) (hc : c ≠ 0)
    (hblk : w.heap[b]? = some (.cells cs ty (0, 0))) (hlow : ∀ o, n * sz ≤ o → C b o = none) (hG : (w0.heap.size ≤ b ∨ E b) ∧ ∀ k' B, s.b k' = some B → ρ k' ≠ some b)
    (news : List Value) (h1 : ∀ u ∈ news, u.oneCell' = true) (hfit : n * sz + news.length ≤ cs.size) :
    RepG N w0 C0 E { s with d := upd s.d k true } a (w.setRow b (cs.toList.take (n * sz) ++ news ++ cs.toList.drop (n * sz + news.length)).toArray)
      (fun b' o => if b' = b ∧ n * sz ≤ o ∧ o < n * sz + news.length then news[o - n * sz]? else C b' o) ρ τ := by
  have other : ∀ {b' : Nat}, b' ≠ b → (w.setRow b (cs.toList.take (n * sz) ++ news ++ cs.toList.drop (n * sz + news.length)).toArray).heap[b']? = w.heap[b']? := fun hne => setRow_other w b _ _ hne
  have hmono : ∀ b' o v, C b' o = some v → (if b' = b ∧ n * sz ≤ o ∧ o < n * sz + news.length then news[o - n * sz]? else C b' o) = some v := by
    intro b' o v hv
    rw [if_neg]
    · exact hv
    · rintro ⟨rfl, ho, _⟩
      rw [hlow o ho] at hv
      cases hv
  have mono : ∀ {v : Value} {x : AV}, RV C ρ τ v x → RV (fun b' o => if b' = b ∧ n * sz ≤ o ∧ o < n * sz + news.length then news[o - n * sz]? else C b' o) ρ τ v x := fun hv => hv.mono hmono (fun _ _ h => h) (fun _ _ h => h)
  have none_of : ∀ {b' : Nat}, b' ≠ b → ∀ o, C b' o = none → (if b' = b ∧ n * sz ≤ o ∧ o < n * sz + news.length then news[o - n * sz]? else C b' o) = none := by
    intro b' hne o ho
    rw [if_neg (fun h => hne h.1), ho]
  have low : ∀ k', upd s.d k true k' = false → s.d k' = false ∧ k' ≠ k := by
    intro k' e
    rw [upd_at] at e
    split at e
    · cases e
    · exact ⟨e, by assumption⟩
  have bne : ∀ {k' : Key} {A : Option Addr} {n' c' : Nat} {m : Nat}, τ k' = some (.slice A n' c', m) → upd s.d k true k' = false → c' ≠ 0 → ∀ b', A = some ⟨b', 0, none⟩ → b' ≠ b := by
    intro k' A n' c' m hk' hd' hc' b' hA
    obtain ⟨hd', hne⟩ := low _ hd'
    rintro rfl
    exact hne (h.tj k' k _ _ _ _ b' hk' hk hd' hd (by subst hA; simp [blk, hc']) (by simp [blk, hc]))
  exact {
    df := h.df
    sz := h.sz
    tm := fun t => mono (h.tm t)
    cw := by
      intro b' o v hv
      split at hv
      · rename_i hcond
        obtain ⟨rfl, ho1, ho2⟩ := hcond
        refine ⟨?_, h1 v (List.mem_of_getElem? hv)⟩
        simp only [World.cell?, setRow_heap w b' cs _ ty (0, 0) hblk, Option.isSome_none, Bool.false_eq_true, if_false, List.getElem?_toArray]
        rw [splice_at _ _ _ _ (by simpa using hfit), if_pos ⟨ho1, ho2⟩]
        exact hv
      · rename_i hcond
        obtain ⟨g1, g2⟩ := h.cw _ _ _ hv
        refine ⟨?_, g2⟩
        by_cases hb : b' = b
        · subst hb
          have ho : o < n * sz := by
            rcases Nat.lt_or_ge o (n * sz) with ho | ho
            · exact ho
            · rw [hlow o ho] at hv; cases hv
          simp only [World.cell?, hblk, Option.isSome_none, Bool.false_eq_true, if_false] at g1
          simp only [World.cell?, setRow_heap w b' cs _ ty (0, 0) hblk, Option.isSome_none, Bool.false_eq_true, if_false, List.getElem?_toArray]
          rw [splice_at _ _ _ _ (by simpa using hfit), if_neg (by omega)]
          simpa using g1
        · exact (World.cell?_of_block (w := w) (a := ⟨b', o, none⟩) (other hb)).trans g1
    c0 := fun b o v hv => hmono _ _ _ (h.c0 _ _ _ hv)
    c1 := by
      intro b' o v hlt hv
      split at hv
      · rename_i hcond
        obtain ⟨rfl, _⟩ := hcond
        rcases hG.1 with hG | hG
        · omega
        · exact .inr hG
      · exact h.c1 _ _ _ hlt hv
    bx := by
      intro k' B hB
      obtain ⟨b', hρ, ⟨⟨cs', ty', g1, g2, g3, g4, g5⟩, g6⟩, g7⟩ := h.bx k' B hB
      have hne : b' ≠ b := by rintro rfl; exact hG.2 _ _ hB hρ
      exact ⟨b', hρ, ⟨⟨cs', ty', (other hne).trans g1, g2, g3, fun i v x hv hx => mono (g4 i v x hv hx), fun hz i v hv => hmono _ _ _ (g5 hz i v hv)⟩, fun hz o => none_of hne o (g6 hz o)⟩, g7⟩
    bj := h.bj
    tk := by
      intro k' v m hk' hd'
      obtain ⟨A, n', c', rfl, g1⟩ := h.tk k' v m hk' (low _ hd').1
      refine ⟨A, n', c', rfl, ?_⟩
      rcases g1 with g1 | ⟨b', cs', ty', hA, g2, g3, g4, g5, g6, g7⟩
      · exact .inl g1
      · by_cases hc' : c' = 0
        · exact .inl hc'
        · have hne : b' ≠ b := bne hk' hd' hc' b' hA
          exact .inr ⟨b', cs', ty', hA, (other hne).trans g2, g3, g4, g5, fun o ho => none_of hne o (g6 o ho), g7⟩
    tj := fun k1 k2 v1 v2 n1 n2 b e1 e2 d1 d2 => h.tj k1 k2 v1 v2 n1 n2 b e1 e2 (low _ d1).1 (low _ d2).1
    fρ := h.fρ
    fτ := h.fτ
    fo := h.fo
    fr := h.fr.setRow _ hG.1 }

/-- The same with the block's element type let be. -/
theorem run_append_room' (w : World) (t ty e te : TypeId) (i : TypeInfo) (ht : P.underlying t = some (.slice e)) (hi : P.info? e = some i)
    (g sLen sCap : Nat) (cur : Array Value) (hg : w.heap[g]? = some (.cells cur te (0, 0)))
    (a : Addr) (m c : Nat) (news : List Value) (hl : news.length = m * i.size) (hnews : ∀ (j : Nat) (u : Value), news[j]? = some u → w.cell? (a.add j) = some u) (h1 : ∀ u ∈ news, u.oneCell' = true)
    (hroom : sLen + m ≤ sCap) (hfit : sLen * i.size + news.length ≤ cur.size) :
    (Builtin.append_ #[t, t] ty #[.slice (some ⟨g, 0, none⟩) sLen sCap, .slice (some a) m c]).run P w =
      .ok (.slice (some ⟨g, 0, none⟩) (sLen + m) sCap) (w.setRow g (cur.toList.take (sLen * i.size) ++ news ++ cur.toList.drop (sLen * i.size + news.length)).toArray) := by
  have hf := run_firstCells_some (P := P) w i.size m a m c news hl hnews
  have hst := run_storeCells_at P g (sLen * i.size) te news 0 cur w hg (by simpa using hfit) h1
  simp only [Nat.add_zero] at hst
  simp [Builtin.append_, run_underlying ht, sizeOf, typeInfo, hi, Builtin.lenOf, hroom, hf, Addr.add_lit, hst]

/-- The cells of a list's elements, one behind the other. -/
def flatCells (n sz : Nat) (cv : Nat → Nat → Value) : List Value := (List.range (n * sz)).map fun q => cv (q / sz) (q % sz)
theorem flatCells_length (n sz : Nat) (cv : Nat → Nat → Value) : (flatCells n sz cv).length = n * sz := by simp [flatCells]
theorem flatCells_get {n sz : Nat} {cv : Nat → Nat → Value} {i j : Nat} (hi : i < n) (hj : j < sz) : (flatCells n sz cv)[i * sz + j]? = some (cv i j) := by
  have := two_idx hi hj
  simp [flatCells, this, idx_div hj, idx_mod hj]
theorem flatCells_some {n sz : Nat} {cv : Nat → Nat → Value} {q : Nat} {u : Value} (h : (flatCells n sz cv)[q]? = some u) : q < n * sz ∧ u = cv (q / sz) (q % sz) := by
  have hq : q < n * sz := by have := (List.getElem?_eq_some_iff.1 h).1; simpa [flatCells] using this
  simp [flatCells, hq] at h
  exact ⟨hq, h.symm⟩

/-- A list's cells in the world. -/
theorem list_cells (h : RepG N w0 C0 E s a w C ρ τ) {sz : Nat} (hsz : 0 < sz) {xs : List (List AV)} {A : Option Addr} {cv : Nat → Nat → Value}
    (hcell : ∀ (i : Nat) (x : List AV), xs[i]? = some x → x.length = sz ∧ ∃ b o, A = some ⟨b, o, none⟩ ∧ ∀ j, j < sz → C b (o + i * sz + j) = some (cv i j)) :
    (∀ ad, A = some ad → ∀ (q : Nat) (u : Value), (flatCells xs.length sz cv)[q]? = some u → w.cell? (ad.add q) = some u) ∧ (∀ u ∈ flatCells xs.length sz cv, u.oneCell' = true) ∧ (xs.length ≠ 0 → ∃ b o, A = some ⟨b, o, none⟩) := by
  refine ⟨?_, ?_, ?_⟩
  · rintro ad rfl q u hu
    obtain ⟨hq, rfl⟩ := flatCells_some hu
    have hi := div_lt hq
    obtain ⟨_, b, o, hA, hj⟩ := hcell (q / sz) xs[q / sz] (by simp [hi])
    cases hA
    have := (h.cw _ _ _ (hj (q % sz) (Nat.mod_lt _ hsz))).1
    rw [Addr.add_lit]
    rwa [Nat.add_assoc, div_idx] at this
  · intro u hu
    obtain ⟨q, hq⟩ := List.mem_iff_getElem?.1 hu
    obtain ⟨hq', rfl⟩ := flatCells_some hq
    have hi := div_lt hq'
    obtain ⟨_, b, o, hA, hj⟩ := hcell (q / sz) xs[q / sz] (by simp [hi])
    exact (h.cw _ _ _ (hj (q % sz) (Nat.mod_lt _ hsz))).2
  · intro hne
    obtain ⟨_, b, o, hA, _⟩ := hcell 0 (xs[0]'(by omega)) (by simp)
    exact ⟨b, o, hA⟩

end Go.Sy

/- append, joined. -/
namespace Go.Sy
open Go Go.RowKit

variable {N : Nat} {w0 : World} {C0 : CMap} {E : EX} {s : St} {a : Act} {w : World} {C : CMap} {ρ : RMap} {τ : TMap} {P : Program} {o : Oper} {e : Eff}

def killO (f : Key → Bool) : Option Key → Key → Bool
  | none => f
  | some k => upd f k true

theorem RepG.killO (h : RepG N w0 C0 E s a w C ρ τ) (kl : Option Key) : RepG N w0 C0 E { s with d := killO s.d kl } a w C ρ τ := by
  cases kl with
  | none => exact h
  | some k => exact h.kill k

theorem app_tok' (s : St) (d : Nat) (v : AV) (kl : Option Key) : s.app (some d) { v := v, nt := 1, kl := kl } =
    St.set { s with d := upd (killO s.d kl) (d, s.g d, 0) false, g := upd s.g d (s.g d + 1) } d v := by
  cases kl <;> simp [St.app, St.set, sto, crt_one, Sy.killO]

theorem killO_ne {f : Key → Bool} {kl : Option Key} {k : Key} (h : killO f kl k = false) : f k = false ∧ kl ≠ some k := by
  cases kl with
  | none => exact ⟨h, by simp⟩
  | some k' =>
    simp only [killO, upd_at] at h
    split at h
    · cases h
    · rename_i hne
      exact ⟨h, fun e => hne (by cases e; rfl)⟩

/-- What a token says of its value, live or nil. -/
theorem tok_info (h : RepG N w0 C0 E s a w C ρ τ) {v : Value} {sz : Nat} {tk : Tok} (ht : TokV τ v sz tk) (hok : tokOK s tk = true) :
    TokW C w v sz (fun b => (w0.heap.size ≤ b ∨ E b) ∧ ∀ k' B, s.b k' = some B → ρ k' ≠ some b) ∧
    (∀ k' v' n' b, τ k' = some (v', n') → killO s.d (tokKey tk) k' = false → blk v = some b → blk v' ≠ some b) := by
  cases tk with
  | no => simp [tokOK] at hok
  | nil =>
    obtain ⟨A, rfl⟩ := ht
    refine ⟨⟨A, 0, 0, rfl, .inl rfl⟩, ?_⟩
    intro k' v' n' b _ _ hb
    exact absurd rfl (blk_cap hb).1
  | own k =>
    simp only [tokOK, Bool.not_eq_true'] at hok
    refine ⟨h.tk k v sz ht hok, ?_⟩
    intro k' v' n' b hk' hd hb hb'
    obtain ⟨hd, hne⟩ := killO_ne hd
    exact hne (by simp only [tokKey]; rw [h.tj k k' _ _ _ _ b ht hk' hok hd hb hb'])

theorem done_tok {sz : Nat} {xs : List (List AV)} {kl : Option Key} {v : Value} {w' : World} {d : Nat} (hd : o.dst = some d) (hN : ∀ d, o.dst = some d → d < N)
    (hr : (execOp a.eval o).run P w = .ok (.value v) w')
    (key : ∃ C' ρ' τ', RepG N w0 C0 E { s with d := upd (killO s.d kl) (d, s.g d, 0) false, g := upd s.g d (s.g d + 1) } a w' C' ρ' τ' ∧ RV C' ρ' τ' v (.list sz xs (.own (d, s.g d, 0)))) :
    Done N w0 C0 E P o a w (s.app o.dst { v := .list sz xs (.own (d, s.g d, 0)), nt := 1, kl := kl }) := by
  obtain ⟨C', ρ', τ', k1, k2⟩ := key
  refine ⟨_, _, .inl hr, C', ρ', τ', ?_⟩
  rw [hd, app_tok']
  exact k1.set d (hN d hd) k2

theorem app_get {xs ys : List (List AV)} {i : Nat} {x : List AV} (h : (xs ++ ys)[i]? = some x) : (i < xs.length ∧ xs[i]? = some x) ∨ (xs.length ≤ i ∧ ys[i - xs.length]? = some x) := by
  rcases Nat.lt_or_ge i xs.length with hi | hi
  · rw [List.getElem?_append_left hi] at h; exact .inl ⟨hi, h⟩
  · rw [List.getElem?_append_right hi] at h; exact .inr ⟨hi, h⟩

theorem ev_append {args : Array Operand} {ts : Array TypeId} (h : RepG N w0 C0 E s a w C ρ τ) (hN : ∀ d, o.dst = some d → d < N) (ho : o.op = .call { callee := .builtin .append, args := args, argTypes := ts }) (he : ev P s o = some e) : Done N w0 C0 E P o a w (s.app o.dst e) := by
  simp only [ev, ho] at he
  split at he
  case h_2 => cases he
  rename_i x y t t' hx ht
  have hargs : args = #[x, y] := by apply Array.ext'; simpa using hx
  have hts : ts = #[t, t'] := by apply Array.ext'; simpa using ht
  subst hargs hts
  clear hx ht
  split at he
  case h_2 => cases he
  rename_i sz xs tk sz' ys tk' hlx hly
  split at he
  case isFalse => cases he
  rename_i hcond
  obtain ⟨hds, hsl, htt, hsz, hsz', htok, hbytes, hz, hmx⟩ := hcond
  cases he
  obtain ⟨d, hd⟩ := Option.isSome_iff_exists.1 hds
  rw [show o.dst.getD 0 = d by rw [hd]; rfl]
  subst htt hsz'
  have c1 := opnd (P := P) h t x
  have c2 := opnd (P := P) h t y
  rw [hlx] at c1
  rw [hly] at c2
  obtain ⟨el, hu, hi, hpos, hez, heb⟩ := slT_elim hsl
  simp only [elT, hu] at hz
  obtain ⟨ie, z, hie, hzz, hzs⟩ := zvals_elim hz
  rw [← hsz] at hez hzs
  have hpos' : 0 < sz' := by omega
  have hisz : ie.size = sz' := by rw [hez]; simp [Program.cellsOf, hie]
  have hiby : ie.bytes = ebytes P t := by rw [heb]; simp [Program.bytesOf, hie]
  obtain ⟨A, c, cv1, hx, hnc, hcm, hcell1, hrv1, htk1⟩ := rv_list c1
  obtain ⟨B, c2', cv2, hy, hnc2, hcm2, hcell2, hrv2, htk2⟩ := rv_list c2
  rw [hx] at htk1
  obtain ⟨l1, l2, l3⟩ := list_cells h hpos' hcell1
  obtain ⟨m1, m2, m3⟩ := list_cells h hpos' hcell2
  obtain ⟨tw, tn⟩ := tok_info h htk1 htok
  have hexec : ∀ {v : Value} {w' : World}, (Builtin.append_ #[t, t] o.type #[.slice A xs.length c, .slice B ys.length c2']).run P w = .ok v w' → (execOp a.eval o).run P w = .ok (.value v) w' := by
    intro v w' hr
    simp only [execOp, ho, resolve, invoke, builtin, Sem.run_bind, Sem.run_pure, Result.andThen_ok, List.map_toArray, List.map_cons, List.map_nil, hx, hy, hr]
  have hk := h.killO (tokKey tk)
  by_cases hm : ys.length = 0
  · -- nothing is appended
    have hys : ys = [] := List.eq_nil_of_length_eq_zero hm
    subst hys
    have hr : (Builtin.append_ #[t, t] o.type #[.slice A xs.length c, .slice B 0 c2']).run P w = .ok (.slice A xs.length c) w := by
      cases A <;> cases B <;> simp [Builtin.append_, run_underlying hu, sizeOf, typeInfo, hie, Builtin.lenOf, Builtin.firstCells, loadCells, loadCellsFrom, hnc, storeCells]
    refine done_tok hd hN (hexec hr) ?_
    refine ⟨C, ρ, _, hk.addtok (d, s.g d, 0) (Nat.le_refl _) (v := .slice A xs.length c) (n := sz') tw tn, ?_⟩
    rw [List.append_nil]
    refine .list _ _ _ _ _ _ cv1 rfl hnc hcm hcell1 hrv1 (by simp [TokV, upd])
  · obtain ⟨b2, o2, hB⟩ := m3 hm
    subst hB
    have hnews := m1 _ rfl
    have hnl : (flatCells ys.length sz' cv2).length = ys.length * ie.size := by rw [flatCells_length, hisz]
    by_cases hroom : xs.length + ys.length ≤ c
    · -- in place
      cases tk with
      | no => simp [tokOK] at htok
      | nil =>
        obtain ⟨A', hA'⟩ := htk1
        simp only [Value.slice.injEq] at hA'
        omega
      | own k =>
        simp only [tokOK, Bool.not_eq_true'] at htok
        obtain ⟨A', n', c', hv', htw⟩ := tw
        cases hv'
        rcases htw with htw | ⟨b, cs, ty, hA, g2, g3, g4, g5, g6, g7⟩
        · omega
        · subst hA
          have hfit : xs.length * sz' + (flatCells ys.length sz' cv2).length ≤ cs.size := by
            rw [flatCells_length, g3, ← Nat.add_mul]
            exact Nat.mul_le_mul_right _ hroom
          have hr := run_append_room' (P := P) w t o.type el ty ie hu hie b xs.length c cs g2 ⟨b2, o2, none⟩ ys.length c2' _ hnl hnews m2 hroom (by rw [hisz]; exact hfit)
          rw [hisz] at hr
          refine done_tok hd hN (hexec hr) ?_
          have k1 := h.inplace htk1 htok (by omega) g2 g6 g7 _ m2 hfit
          have k2 := k1.addtok (d, s.g d, 0) (Nat.le_refl _) (v := .slice (some ⟨b, 0, none⟩) (xs.length + ys.length) c) (n := sz')
            ⟨_, _, _, rfl, .inr ⟨b, _, ty, rfl, setRow_heap w b cs _ ty (0, 0) g2, by
              simp only [List.size_toArray, List.length_append, List.length_take, List.length_drop, Array.length_toList]
              omega, hroom, g5, fun q hq => by
                dsimp only
                rw [flatCells_length]
                rw [if_neg (by rw [Nat.add_mul] at hq; omega)]
                exact g6 q (Nat.le_trans (Nat.mul_le_mul_right _ (by omega)) hq), g7⟩⟩
            (fun k' v' n' b' hk' hd' hb' => tn k' v' n' b' hk' hd' (by simpa [blk] using hb'))
          refine ⟨_, _, _, k2, .list _ _ _ _ _ _ (fun i j => if i < xs.length then cv1 i j else cv2 (i - xs.length) j) (by simp) hroom hcm ?_ ?_ (by simp [TokV, upd])⟩
          · intro i x hxi
            rcases app_get hxi with ⟨hi, hxi⟩ | ⟨hi, hxi⟩
            · obtain ⟨q1, b', o', hbo, q2⟩ := hcell1 i x hxi
              cases hbo
              refine ⟨q1, b, 0, rfl, fun j hj => ?_⟩
              rw [if_pos hi]
              have := two_idx hi hj
              rw [if_neg (by omega)]
              exact q2 j hj
            · obtain ⟨q1, b', o', hbo, q2⟩ := hcell2 _ x hxi
              refine ⟨q1, b, 0, rfl, fun j hj => ?_⟩
              rw [if_neg (show ¬ i < xs.length by omega)]
              have hlt : i - xs.length < ys.length := (List.getElem?_eq_some_iff.1 hxi).1
              have e1 : 0 + i * sz' + j = xs.length * sz' + ((i - xs.length) * sz' + j) := by
                rw [← Nat.add_assoc, ← Nat.add_mul, show xs.length + (i - xs.length) = i by omega, Nat.zero_add]
              have e2 := two_idx hlt hj
              rw [e1, flatCells_length, if_pos ⟨rfl, by omega, by omega⟩, show xs.length * sz' + ((i - xs.length) * sz' + j) - xs.length * sz' = (i - xs.length) * sz' + j by omega]
              exact flatCells_get hlt hj
          · intro i x j y hxi hxj
            have cm : ∀ b' o v, C b' o = some v → (if b' = b ∧ xs.length * sz' ≤ o ∧ o < xs.length * sz' + (flatCells ys.length sz' cv2).length then (flatCells ys.length sz' cv2)[o - xs.length * sz']? else C b' o) = some v := by
              intro b' o v hv
              rw [if_neg]
              · exact hv
              · rintro ⟨rfl, ho, _⟩
                rw [g6 o ho] at hv
                cases hv
            rcases app_get hxi with ⟨hi, hxi⟩ | ⟨hi, hxi⟩
            · rw [if_pos hi]
              exact (hrv1 i x j y hxi hxj).mono cm (fun _ _ h => h) (fun _ _ h => h)
            · rw [if_neg (by omega)]
              exact (hrv2 _ x j y hxi hxj).mono cm (fun _ _ h => h) (fun _ _ h => h)
    · -- a new block
      have hol : (flatCells xs.length sz' cv1).length = xs.length * ie.size := by rw [flatCells_length, hisz]
      have hge := grownCap_ge w (xs.length + ys.length) c el
      have hcap : grownCap w (xs.length + ys.length) c el ≤ maxLen := grownCap_le_maxLen w (xs.length + ys.length) c el (by simp only [maxLen]; omega)
      have hr : (Builtin.append_ #[t, t] o.type #[.slice A xs.length c, .slice (some ⟨b2, o2, none⟩) ys.length c2']).run P w =
          .ok (.slice (some ⟨w.heap.size, 0, none⟩) (xs.length + ys.length) (grownCap w (xs.length + ys.length) c el))
            (w.drew.alloc (.cells ((flatCells xs.length sz' cv1).toArray ++ (flatCells ys.length sz' cv2).toArray ++ Builtin.zeroCells z.cells (grownCap w (xs.length + ys.length) c el - (xs.length + ys.length))) el)) := by
        cases A with
        | some ad =>
          exact run_append_grow (P := P) w t o.type el ie z hu hie hzz ad xs.length c _ hol (l1 _ rfl) ⟨b2, o2, none⟩ ys.length c2' _ hnl hnews (by omega) (by omega) (growslice_fits (by omega) (by rw [hiby]; exact hbytes))
        | none =>
          have h0 : xs.length = 0 := by
            rcases Nat.eq_zero_or_pos xs.length with h0 | h0
            · exact h0
            · obtain ⟨b, o', hbo⟩ := l3 (by omega); cases hbo
          have hc0 : c = 0 := by
            cases tk with
            | no => simp [tokOK] at htok
            | nil => obtain ⟨A', hA'⟩ := htk1; simp only [Value.slice.injEq] at hA'; exact hA'.2.2
            | own k =>
              obtain ⟨A', n', c', hv', htw⟩ := tw
              cases hv'
              rcases htw with htw | ⟨b, cs, ty, hA, _⟩
              · exact htw
              · cases hA
          have hx0 : xs = [] := List.eq_nil_of_length_eq_zero h0
          subst hx0 hc0
          have := run_append_nil (P := P) w t o.type el ie z hu hie hzz ⟨b2, o2, none⟩ ys.length c2' _ hnl hnews (by omega) (by omega) (by rw [hiby]; simp only [List.length_nil, Nat.zero_add] at hbytes; omega)
          simpa [flatCells] using this
      refine done_tok hd hN (hexec hr) ?_
      have kd := hk.same (w1 := w.drew) (Below.refl _ w).drew
      have key := kd.newrow d el (cs := (flatCells xs.length sz' cv1).toArray ++ (flatCells ys.length sz' cv2).toArray ++ Builtin.zeroCells z.cells (grownCap w (xs.length + ys.length) c el - (xs.length + ys.length))) (sz := sz') (n := xs.length + ys.length)
        (c := grownCap w (xs.length + ys.length) c el) (xs := xs ++ ys) ?_ (by simp) hge hcap ?_ ?_ ?_
      · obtain ⟨C', τ', k1, k2⟩ := key
        exact ⟨C', ρ, τ', k1, k2⟩
      · simp only [Array.size_append, List.size_toArray, flatCells_length, size_zeroCells, hzs, ← Nat.add_mul]
        congr 1
        omega
      · intro i x hxi
        rcases app_get hxi with ⟨hi, hxi⟩ | ⟨hi, hxi⟩
        · exact (hcell1 i x hxi).1
        · exact (hcell2 _ x hxi).1
      · intro i x j y hxi hxj
        rcases app_get hxi with ⟨hi, hxi⟩ | ⟨hi, hxi⟩
        · have hj : j < sz' := by rw [← (hcell1 i x hxi).1]; exact (List.getElem?_eq_some_iff.1 hxj).1
          have := two_idx hi hj
          refine ⟨cv1 i j, ?_, hrv1 i x j y hxi hxj⟩
          rw [Array.append_assoc, Array.getElem?_append_left (by simp [flatCells_length]; exact this), List.getElem?_toArray]
          exact flatCells_get hi hj
        · have hj : j < sz' := by rw [← (hcell2 _ x hxi).1]; exact (List.getElem?_eq_some_iff.1 hxj).1
          have hlt : i - xs.length < ys.length := (List.getElem?_eq_some_iff.1 hxi).1
          have := two_idx hlt hj
          have e1 : i * sz' + j = xs.length * sz' + ((i - xs.length) * sz' + j) := by
            rw [← Nat.add_assoc, ← Nat.add_mul, show xs.length + (i - xs.length) = i by omega]
          refine ⟨cv2 (i - xs.length) j, ?_, hrv2 _ x j y hxi hxj⟩
          rw [Array.append_assoc, Array.getElem?_append_right (by simp [flatCells_length]; omega), Array.getElem?_append_left (by simp [flatCells_length]; omega), List.getElem?_toArray]
          simp only [List.size_toArray, flatCells_length]
          rw [show i * sz' + j - xs.length * sz' = (i - xs.length) * sz' + j by omega]
          exact flatCells_get hlt hj
      · intro i u hi hu
        rw [Nat.add_mul] at hi
        by_cases hi1 : i < xs.length * sz'
        · rw [Array.append_assoc, Array.getElem?_append_left (by simp [flatCells_length]; exact hi1), List.getElem?_toArray] at hu
          exact l2 u (List.mem_of_getElem? hu)
        · rw [Array.append_assoc, Array.getElem?_append_right (by simp [flatCells_length]; omega), Array.getElem?_append_left (by simp [flatCells_length]; omega), List.getElem?_toArray] at hu
          exact m2 u (List.mem_of_getElem? hu)

end Go.Sy

/- One step of a region, calls too. -/
namespace Go.Sy
open Go Go.RowKit

variable {N : Nat} {w0 : World} {C0 : CMap} {E : EX} {s : St} {a : Act} {w : World} {C : CMap} {ρ : RMap} {τ : TMap} {P : Program} {o : Oper} {e : Eff}

theorem ev_sound (h : RepG N w0 C0 E s a w C ρ τ) (hN : ∀ d, o.dst = some d → d < N) (he : ev P s o = some e) : Done N w0 C0 E P o a w (s.app o.dst e) := by
  cases ho : o.op with
  | move x => exact ev_move h hN ho he
  | assign x => exact ev_assign h hN ho he
  | pick c x y => exact ev_pick h hN ho he
  | alloc t => exact ev_alloc h hN ho he
  | box t x => exact ev_box h hN ho he
  | build t ps => exact ev_build h hN ho he
  | buildSlice t n ps => exact ev_buildSlice h hN ho he
  | load t x => exact ev_load h hN ho he
  | store t x y => exact ev_store h hN ho he
  | nilCheck x => exact ev_nilCheck h hN ho he
  | binOp op t x y u => exact ev_binOp h hN ho he
  | unOp op t x => exact ev_unOp h hN ho he
  | convert t u x => exact ev_convert h hN ho he
  | fieldAddr t x f => exact ev_fieldAddr h hN ho he
  | indexAddr t x i => exact ev_indexAddr h hN ho he
  | extract x i => exact ev_extract h hN ho he
  | makeSlice t x y => exact ev_makeSlice h hN ho he
  | makeFunc fn first caps =>
    cases fn with
    | func f => exact ev_makeFunc h hN ho he
    | _ => simp [ev, ho] at he
  | slice t x lo hi mx =>
    cases lo with
    | some _ => simp [ev, ho] at he
    | none =>
      cases hi with
      | none => simp [ev, ho] at he
      | some hi =>
        cases mx with
        | some _ => simp [ev, ho] at he
        | none => exact ev_slice h hN ho he
  | call c =>
    obtain ⟨callee, args, ts⟩ := c
    cases callee with
    | value f => simp [ev, ho] at he
    | invoke r m => simp [ev, ho] at he
    | builtin b =>
      cases b with
      | len => exact ev_len h hN ho he
      | append => exact ev_append h hN ho he
      | max => exact ev_maxmin (.inl rfl) h hN ho he
      | min => exact ev_maxmin (.inr rfl) h hN ho he
      | _ => simp [ev, ho] at he
  | _ => simp [ev, ho] at he

/-! ### Contracts -/
def CW (C : CMap) (w : World) : Prop := ∀ b o v, C b o = some v → w.cell? ⟨b, o, none⟩ = some v ∧ v.oneCell' = true
def Enters (P : Program) (f : FuncId) : Prop := ∀ (args : Array Value) (w : World), (callFunc f args).run P w = .ok (.enter f args) w
theorem enters_of {f : FuncId} {fn : Func} {c : Code} (hf : P.funcs[f]? = some fn) (hname : (fn.name == "runtime.NumGoroutine") = false) (hb : fn.body = some c) : Enters P f := by
  intro args w
  have h1 : fn.name ≠ "runtime.NumGoroutine" := by simpa using hname
  simp [callFunc, hf, h1, hb]

/-- The tokens that a call hands back: (0, 0, i). -/
structure Toks (C : CMap) (w : World) (τ : TMap) (n B : Nat) : Prop where
  k : ∀ k x, τ k = some x → k.1 = 0 ∧ k.2.1 = 0 ∧ k.2.2 < n
  w : ∀ k v m, τ k = some (v, m) → TokW C w v m (fun b => B ≤ b)
  j : ∀ k k' v v' m m' b, τ k = some (v, m) → τ k' = some (v', m') → blk v = some b → blk v' = some b → k = k'

/-- A function that turns nothing that was there. n: how many slices of its own it hands back. -/
structure Con (P : Program) (f : FuncId) (args : List AV) (n : Nat) (r : AV) : Prop where
  enters : Enters P f
  calls : ∀ (C : CMap) (w : World) (vs : Array Value), CW C w → vs.size = args.length → (∀ (i : Nat) (v : Value) (x : AV), vs[i]? = some v → args[i]? = some x → RV C noρ noτ v x) →
    Calls P f vs w fun e w' => ∃ v C' τ', e = .returned v ∧ Below w.heap.size w w' ∧ (∀ b o v, C b o = some v → C' b o = some v) ∧ (∀ b o v, C' b o = some v → C b o = some v ∨ w.heap.size ≤ b) ∧
      CW C' w' ∧ RV C' noρ τ' v r ∧ Toks C' w' τ' n w.heap.size

/-- A function that turns nothing that was there, and hands back a slice of a block of its own that may still be written. -/
structure BCon (P : Program) (f : FuncId) (args : List AV) (n : Nat) (l : List AV) : Prop where
  enters : Enters P f
  calls : ∀ (C : CMap) (w : World) (vs : Array Value), CW C w → vs.size = args.length → (∀ (i : Nat) (v : Value) (x : AV), vs[i]? = some v → args[i]? = some x → RV C noρ noτ v x) →
    Calls P f vs w fun e w' => ∃ (b c : Nat) (C' : CMap) (cs : Array Value) (ty : TypeId), e = .returned (.slice (some ⟨b, 0, none⟩) n c) ∧ n ≤ c ∧ c ≤ maxLen ∧ Below w.heap.size w w' ∧ (∀ b o v, C b o = some v → C' b o = some v) ∧
      (∀ b o v, C' b o = some v → C b o = some v ∨ w.heap.size ≤ b) ∧ CW C' w' ∧ w.heap.size ≤ b ∧ w'.heap[b]? = some (.cells cs ty (0, 0)) ∧ cs.size = l.length ∧ (∀ (i : Nat) (v : Value), cs[i]? = some v → v.oneCell' = true) ∧
      (∀ (i : Nat) (v : Value) (x : AV), cs[i]? = some v → l[i]? = some x → RV C' noρ noτ v x) ∧ ∀ o, C' b o = none

def fgtV : AV → AV
  | .agg l => .agg (l.map fgt)
  | a => fgt a
def cleanV : AV → Bool
  | .agg l => l.all clean
  | a => clean a
def renT (d g : Nat) : Tok → Tok
  | .own k => .own (d, g, k.2.2)
  | t => t
def ren0 (d g : Nat) : AV → AV
  | .list sz xs tk => .list sz xs (renT d g tk)
  | .agg _ | .tup _ => .any
  | a => a
def ren1 (d g : Nat) : AV → AV
  | .agg l => .agg (l.map (ren0 d g))
  | .tup _ => .any
  | a => ren0 d g a
def ren (d g : Nat) : AV → AV
  | .tup l => .tup (l.map (ren1 d g))
  | a => ren1 d g a

def argsAV (P : Program) (s : St) (args : List Operand) (ts : List TypeId) : List AV := List.zipWith (fun x t => fgtV (s.o P t x)) args ts

def CallEv (P : Program) (s : St) (o : Oper) (e : Eff) : Prop := match o.op with
  | .call { callee := .value g, args, argTypes } => ∃ f caps, s.o P 0 g = .clo f caps ∧ args.size ≤ argTypes.size ∧ (argsAV P s args.toList argTypes.toList).all cleanV = true ∧
      ((∃ n r, Con P f (argsAV P s args.toList argTypes.toList ++ caps) n r ∧ e = { v := ren (o.dst.getD 0) (s.g (o.dst.getD 0)) r, nt := n }) ∨
        ∃ m n l, BCon P f (argsAV P s args.toList argTypes.toList ++ caps) n l ∧ e = { v := .sl (o.dst.getD 0, s.g (o.dst.getD 0), 0) n m, nb := some l })
  | _ => False

def Ev (P : Program) (s : St) (o : Oper) (e : Eff) : Prop := ev P s o = some e ∨ CallEv P s o e

theorem fgtV_rv {v : Value} {x : AV} (h : RV C ρ τ v x) : RV C ρ τ v (fgtV x) := by
  cases hx : x with
  | agg l =>
    rw [hx] at h
    obtain ⟨cs, rfl, h1, h2, h3⟩ := rv_agg h
    refine .agg _ _ (by simpa using h1) (fun i v y hv hy => ?_) h3
    simp only [List.getElem?_map] at hy
    obtain ⟨z, hz, rfl⟩ := Option.map_eq_some_iff.1 hy
    exact fgt_rv (h2 i v z hv hz)
  | _ => rw [hx] at h; exact fgt_rv h

theorem cleanV_rv {v : Value} {x : AV} (h : RV C ρ τ v x) (hc : cleanV x = true) : RV C noρ noτ v x := by
  cases hx : x with
  | agg l =>
    rw [hx] at h hc
    obtain ⟨cs, rfl, h1, h2, h3⟩ := rv_agg h
    exact .agg _ _ h1 (fun i v y hv hy => clean_rv (h2 i v y hv hy) (List.all_eq_true.1 hc y (List.mem_of_getElem? hy))) h3
  | _ => rw [hx] at h hc; exact clean_rv h hc

theorem ren0_rv {τ' : TMap} {d g : Nat} {v : Value} {x : AV} (hτ : ∀ k y, τ k = some y → τ' (d, g, k.2.2) = some y) (h : RV C noρ τ v x) : RV C ρ τ' v (ren0 d g x) := by
  cases h with
  | list sz xs tk A n c cv hn hc hm hcell hrv htk =>
    refine .list sz xs _ A n c cv hn hc hm hcell hrv ?_
    cases tk with
    | no => trivial
    | nil => exact htk
    | own k => exact hτ _ _ htk
  | any v => exact .any v
  | v v h => exact .v v h
  | agg cs l hl h h1 => exact .any _
  | tup cs l hl h => exact .any _
  | box k b off h => cases h
  | ptr b o l cv h hr => exact .ptr b o l cv h hr
  | sl k b n c sz h hc hm => cases h
  | clo f cs l hl h => exact .clo f cs l hl h

theorem ren1_rv {τ' : TMap} {d g : Nat} {v : Value} {x : AV} (hτ : ∀ k y, τ k = some y → τ' (d, g, k.2.2) = some y) (h : RV C noρ τ v x) : RV C ρ τ' v (ren1 d g x) := by
  cases hx : x with
  | agg l =>
    rw [hx] at h
    obtain ⟨cs, rfl, h1, h2, h3⟩ := rv_agg h
    refine .agg _ _ (by simpa using h1) (fun i v y hv hy => ?_) h3
    simp only [List.getElem?_map] at hy
    obtain ⟨z, hz, rfl⟩ := Option.map_eq_some_iff.1 hy
    exact ren0_rv hτ (h2 i v z hv hz)
  | tup l => exact .any _
  | _ => rw [hx] at h; exact ren0_rv hτ h

theorem rv_tup {v : Value} {l : List AV} (h : RV C ρ τ v (.tup l)) : ∃ cs, v = .tuple cs ∧ cs.size = l.length ∧ (∀ (i : Nat) (u : Value) (y : AV), cs[i]? = some u → l[i]? = some y → RV C ρ τ u y) := by
  cases h; exact ⟨_, rfl, by assumption, by assumption⟩

theorem ren_rv {τ' : TMap} {d g : Nat} {v : Value} {x : AV} (hτ : ∀ k y, τ k = some y → τ' (d, g, k.2.2) = some y) (h : RV C noρ τ v x) : RV C ρ τ' v (ren d g x) := by
  cases hx : x with
  | tup l =>
    rw [hx] at h
    obtain ⟨cs, rfl, h1, h2⟩ := rv_tup h
    refine .tup _ _ (by simpa using h1) (fun i v y hv hy => ?_)
    simp only [List.getElem?_map] at hy
    obtain ⟨z, hz, rfl⟩ := Option.map_eq_some_iff.1 hy
    exact ren1_rv hτ (h2 i v z hv hz)
  | _ => rw [hx] at h; exact ren1_rv hτ h

/-- The state takes a call's tokens over. -/
theorem RepG.toks (h : RepG N w0 C0 E s a w C ρ τ) (d : Nat) {τ1 : TMap} {n B : Nat} (ht : Toks C w τ1 n B) (hB0 : w0.heap.size ≤ B) (hB : ∀ k Bx, s.b k = some Bx → ∀ b, ρ k = some b → b < B)
    (hT : ∀ k v m, τ k = some (v, m) → s.d k = false → ∀ b, blk v = some b → b < B) :
    ∃ τ', RepG N w0 C0 E { s with d := crt d (s.g d) n s.d, g := if 0 < n then upd s.g d (s.g d + 1) else s.g } a w C ρ τ' ∧ (∀ k y, τ1 k = some y → τ' (d, s.g d, k.2.2) = some y) ∧ (∀ k y, τ k = some y → τ' k = some y) := by
  by_cases hn : n = 0
  · subst hn
    refine ⟨τ, by simpa [crt_zero] using h, ?_, fun _ _ h => h⟩
    intro k y hk
    have := (ht.k k y hk).2.2
    omega
  · have hpos : 0 < n := by omega
    simp only [hpos, if_true]
    let f : Key → Option (Value × Nat) := fun k => if k.1 = d ∧ k.2.1 = s.g d then τ1 (0, 0, k.2.2) else τ k
    have fnew : ∀ k, (k.1 = d ∧ k.2.1 = s.g d) → f k = τ1 (0, 0, k.2.2) := fun k hk => if_pos hk
    have fold' : ∀ k, ¬ (k.1 = d ∧ k.2.1 = s.g d) → f k = τ k := fun k hk => if_neg hk
    have up : ∀ k y, τ k = some y → f k = some y := by
      intro k y hk
      rw [fold' k]
      · exact hk
      · rintro ⟨h1, h2⟩
        have := h.fτ _ _ hk
        rw [h1, h2] at this
        omega
    have mono : ∀ {v' : Value} {x : AV}, RV C ρ τ v' x → RV C ρ f v' x := fun hv => hv.mono (fun _ _ _ h => h) (fun _ _ h => h) up
    have gup : ∀ (k' : Key), k'.2.1 < s.g k'.1 → k'.2.1 < upd s.g d (s.g d + 1) k'.1 := by
      intro k' hlt
      rw [upd_at]
      split
      · rename_i e; rw [e] at hlt; omega
      · exact hlt
    have live : ∀ k, crt d (s.g d) n s.d k = false → ¬ (k.1 = d ∧ k.2.1 = s.g d) → s.d k = false := by
      intro k hk hne
      simp only [crt] at hk
      rw [if_neg (fun hh => hne ⟨hh.1, hh.2.1⟩)] at hk
      exact hk
    refine ⟨f, ?_, ?_, up⟩
    · exact { h with
        tm := fun t => mono (h.tm t)
        bx := by
          intro k' B hB
          obtain ⟨b', hρ, ⟨⟨cs, ty, g1, g2, g3, g4, g5⟩, g6⟩, g7⟩ := h.bx k' B hB
          exact ⟨b', hρ, ⟨⟨cs, ty, g1, g2, g3, fun i v x hc hx => mono (g4 i v x hc hx), g5⟩, g6⟩, g7⟩
        tk := by
          intro k' v m hk' hd
          by_cases hc : k'.1 = d ∧ k'.2.1 = s.g d
          · rw [fnew _ hc] at hk'
            obtain ⟨A, n', c, rfl, g1⟩ := ht.w _ _ _ hk'
            refine ⟨A, n', c, rfl, ?_⟩
            rcases g1 with g1 | ⟨b, cs, ty, hA, g2, g3, g4, g5, g6, g7⟩
            · exact .inl g1
            · refine .inr ⟨b, cs, ty, hA, g2, g3, g4, g5, g6, .inl (by omega), ?_⟩
              intro k2 Bx hBx hr
              have := hB k2 Bx hBx b hr
              omega
          · rw [fold' _ hc] at hk'
            exact h.tk _ _ _ hk' (live _ hd hc)
        tj := by
          intro k1 k2 v1 v2 n1 n2 b e1 e2 d1 d2 r1 r2
          have tb : ∀ {k : Key} {v : Value} {m : Nat}, τ1 (0, 0, k.2.2) = some (v, m) → blk v = some b → B ≤ b := by
            intro k v m hk hr
            obtain ⟨A, n', c, rfl, g1⟩ := ht.w _ _ _ hk
            obtain ⟨hc, ad, rfl, hb⟩ := blk_cap hr
            rcases g1 with g1 | ⟨b', cs, ty, hA, _, _, _, _, _, g7⟩
            · exact absurd g1 hc
            · cases hA; subst hb; exact g7
          by_cases c1 : k1.1 = d ∧ k1.2.1 = s.g d
          · by_cases c2 : k2.1 = d ∧ k2.2.1 = s.g d
            · rw [fnew _ c1] at e1
              rw [fnew _ c2] at e2
              have := ht.j _ _ _ _ _ _ _ e1 e2 r1 r2
              simp only [Prod.mk.injEq, true_and] at this
              exact Prod.ext (by rw [c1.1, c2.1]) (Prod.ext (by rw [c1.2, c2.2]) this)
            · rw [fnew _ c1] at e1
              rw [fold' _ c2] at e2
              have h1 := tb e1 r1
              have h2 := hT _ _ _ e2 (live _ d2 c2) _ r2
              omega
          · by_cases c2 : k2.1 = d ∧ k2.2.1 = s.g d
            · rw [fold' _ c1] at e1
              rw [fnew _ c2] at e2
              have h1 := tb e2 r2
              have h2 := hT _ _ _ e1 (live _ d1 c1) _ r1
              omega
            · rw [fold' _ c1] at e1
              rw [fold' _ c2] at e2
              exact h.tj _ _ _ _ _ _ _ e1 e2 (live _ d1 c1) (live _ d2 c2) r1 r2
        fρ := fun k' x e => gup _ (h.fρ _ _ e)
        fτ := by
          intro k' x e
          by_cases c : k'.1 = d ∧ k'.2.1 = s.g d
          · rw [c.1, c.2]; simp [upd]
          · rw [fold' _ c] at e; exact gup _ (h.fτ _ _ e) }
    · intro k y hk
      have h1 := ht.k k y hk
      have : f (d, s.g d, k.2.2) = τ1 (0, 0, k.2.2) := fnew _ ⟨rfl, rfl⟩
      rw [this, ← hk]
      congr 1
      exact Prod.ext h1.1.symm (Prod.ext h1.2.1.symm rfl)

theorem app_call (s : St) (d : Nat) (x : AV) (n : Nat) : s.app (some d) { v := x, nt := n } = St.set { s with d := crt d (s.g d) n s.d, g := if 0 < n then upd s.g d (s.g d + 1) else s.g } d x := by
  simp [St.app, St.set, sto]

/-- One operation. -/
theorem step_sound {Q : Exit → Act → World → Prop} {K : Act → World → Prop} (h : Rep N w0 C0 E s a w) (hN : ∀ d, o.dst = some d → d < N) (he : Ev P s o e)
    (hK : ∀ a' w', Rep N w0 C0 E (s.app o.dst e) a' w' → K a' w') : o.wp P a w K Q := by
  obtain ⟨C, ρ, τ, h⟩ := h
  rcases he with he | he
  · obtain ⟨v, w', hr, hrep⟩ := ev_sound h hN he
    unfold Oper.wp
    rcases hr with hr | ⟨hr, rfl⟩
    · rw [hr]; exact hK _ _ hrep
    · rw [hr]; exact hK _ _ hrep
  · unfold CallEv at he
    split at he
    case h_2 => exact he.elim
    rename_i g args ts ho
    obtain ⟨f, caps, hg, hts, hcl, hor⟩ := he
    have hent : Enters P f := by
      rcases hor with ⟨_, _, hcon, _⟩ | ⟨_, _, _, hcon, _⟩
      · exact hcon.enters
      · exact hcon.enters
    have hgv := opnd (P := P) h 0 g
    rw [hg] at hgv
    have hfn : ∃ cs, a.eval g = .func (.func f) #[] cs ∧ cs.size = caps.length ∧ (∀ (i : Nat) (v : Value) (x : AV), cs[i]? = some v → caps[i]? = some x → RV C noρ noτ v x) := by
      generalize a.eval g = v at hgv
      cases hgv
      exact ⟨_, rfl, by assumption, by assumption⟩
    obtain ⟨cs, hfv, hcs1, hcs2⟩ := hfn
    have hrun : (execOp a.eval o).run P w = .ok (.enter f (args.map a.eval ++ cs)) w := by
      simp [execOp, ho, resolve, hfv, Deferred.ofValue, invoke, hent _ _]
    unfold Oper.wp
    rw [hrun]
    simp only [Oper.upon]
    have hlen : (argsAV P s args.toList ts.toList).length = args.size := by
      simp only [argsAV, List.length_zipWith, Array.length_toList]; omega
    have hrv : ∀ (i : Nat) (v : Value) (x : AV), (args.map a.eval ++ cs)[i]? = some v → (argsAV P s args.toList ts.toList ++ caps)[i]? = some x → RV C noρ noτ v x := by
      intro i v x hv hx
      by_cases hi : i < args.size
      · rw [Array.getElem?_append_left (by simpa using hi)] at hv
        rw [List.getElem?_append_left (by omega)] at hx
        simp only [Array.getElem?_map] at hv
        obtain ⟨y, hy, rfl⟩ := Option.map_eq_some_iff.1 hv
        have hmem := List.mem_of_getElem? hx
        have hcx := List.all_eq_true.1 hcl x hmem
        simp only [argsAV, List.getElem?_zipWith] at hx
        split at hx
        · rename_i y' t' hy' ht'
          cases hx
          simp only [Array.getElem?_toList] at hy'
          rw [hy] at hy'
          cases hy'
          exact cleanV_rv (fgtV_rv (opnd h t' y)) hcx
        · cases hx
      · rw [Array.getElem?_append_right (by simp; omega)] at hv
        rw [List.getElem?_append_right (by omega)] at hx
        simp only [Array.size_map, hlen] at hv hx
        exact hcs2 _ _ _ hv hx
    have old : (∀ k Bx, s.b k = some Bx → ∀ b, ρ k = some b → b < w.heap.size) ∧ ∀ k v m, τ k = some (v, m) → s.d k = false → ∀ b, blk v = some b → b < w.heap.size := by
      refine ⟨fun k Bx hB b hρ => ?_, fun k v m hk hd b hb => ?_⟩
      · obtain ⟨b', hρ', ⟨⟨cs, ty, g1, _⟩, _⟩, _⟩ := h.bx k Bx hB
        rw [hρ] at hρ'; cases hρ'
        exact heap_lt g1
      · obtain ⟨A, n', c, rfl, g1⟩ := h.tk k v m hk hd
        obtain ⟨hc, ad, rfl, hb2⟩ := blk_cap hb
        rcases g1 with g1 | ⟨b', cs, ty, hA, g2, _⟩
        · exact absurd g1 hc
        · cases hA; subst hb2; exact heap_lt g2
    rcases hor with ⟨n, r, hcon, rfl⟩ | ⟨m, n, l, hcon, rfl⟩
    · refine (hcon.calls C w (args.map a.eval ++ cs) h.cw (by simp [hlen, hcs1]) hrv).mono ?_
      rintro e' w' ⟨v, C', τ', rfl, hb, hC1, hC2, hcw, hr, ht⟩
      have h1 := h.grow hb hC1 hC2 (fun b o v _ hv => hcw b o v hv)
      apply hK
      cases hd : o.dst with
      | none => exact ⟨_, _, _, h1⟩
      | some d =>
        obtain ⟨τ2, h2, h3, h4⟩ := h1.toks d ht h.fr.size (fun k Bx hB b hρ => by
            obtain ⟨b', hρ', ⟨⟨cs, ty, g1, _⟩, _⟩, _⟩ := h.bx k Bx hB
            rw [hρ] at hρ'; cases hρ'
            exact heap_lt g1) (fun k v m hk hd b hb => by
            obtain ⟨A, n', c, rfl, g1⟩ := h.tk k v m hk hd
            obtain ⟨hc, ad, rfl, hb2⟩ := blk_cap hb
            rcases g1 with g1 | ⟨b', cs, ty, hA, g2, _⟩
            · exact absurd g1 hc
            · cases hA; subst hb2; exact heap_lt g2)
        rw [app_call]
        exact ⟨_, _, _, h2.set d (hN d hd) (ren_rv h3 hr)⟩
    · refine (hcon.calls C w (args.map a.eval ++ cs) h.cw (by simp [hlen, hcs1]) hrv).mono ?_
      rintro e' w' ⟨b, c, C', cs', ty, rfl, hn, hc, hb, hC1, hC2, hcw, hbs, q1, q2, q3, q4, q5⟩
      have h1 := h.grow hb hC1 hC2 (fun b o v _ hv => hcw b o v hv)
      apply hK
      have hsz := h.fr.size
      cases hd : o.dst with
      | none =>
        simp only [St.app, sto]
        exact ⟨_, _, _, h1⟩
      | some d =>
        rw [app_nb]
        have h2 := h1.addbox (d, s.g d, 0) (Nat.le_refl _) (b := b) (cs := cs') (ty := ty) l q1 q2 q3 (fun i v x hv hx => (q4 i v x hv hx).lift _ _) q5 (by omega)
          (fun k' B hB hρ => by have := old.1 k' B hB b hρ; omega) (fun k' v n hk hd hv => by have := old.2 k' v n hk hd b hv; omega)
        exact ⟨_, _, _, h2.set d (hN d hd) (.sl _ b n c m (by simp [upd]) hn hc)⟩

end Go.Sy

/- Calls that turn what their first argument points at. -/
namespace Go.Sy
open Go Go.RowKit

variable {N : Nat} {w0 : World} {C0 : CMap} {E : EX} {s : St} {a : Act} {w : World} {C : CMap} {ρ : RMap} {τ : TMap} {P : Program} {o : Oper} {e : Eff}

/-- A list that is nil has an owner too: there is nothing to own. -/
def canonT : Tok → Tok
  | .no => .no
  | _ => .own (0, 0, 0)
/-- What the token of a box's last cell stands for. -/
def tkVal (τ : TMap) (v : Value) : AV → Option (Value × Nat)
  | .list sz _ .nil => some (v, sz)
  | .list _ _ (.own k) => τ k
  | _ => none
def canonX : AV → AV
  | .list sz xs tk => .list sz xs (canonT tk)
  | a => a
def lastKey : AV → Option Key
  | .list _ _ tk => tokKey tk
  | _ => none
def lastOK (s : St) : AV → Bool
  | .list _ _ (.own k) => !s.d k
  | .list _ _ _ => true
  | a => clean a

/-- A block of a token. -/
def tb (τ : TMap) (i : Nat) : Prop := ∃ v m, τ (0, 0, 0) = some (v, m) ∧ blk v = some i

structure Tok1 (C : CMap) (w : World) (τ : TMap) (G : Nat → Prop) : Prop where
  k : ∀ k x, τ k = some x → k = (0, 0, 0)
  w : ∀ k v m, τ k = some (v, m) → TokW C w v m G

/-- A box's cells: the last one may bear a token. -/
structure BoxC (C : CMap) (τ : TMap) (w : World) (b : Nat) (pre : List AV) (x : AV) : Prop where
  ex : ∃ (cs : Array Value) (ty : TypeId), w.heap[b]? = some (.cells cs ty (0, 0)) ∧ cs.size = pre.length + 1 ∧ (∀ (i : Nat) (v : Value), cs[i]? = some v → v.oneCell' = true) ∧
    (∀ (i : Nat) (v : Value) (y : AV), cs[i]? = some v → pre[i]? = some y → RV C noρ noτ v y) ∧ (∀ v, cs[pre.length]? = some v → RV C noρ τ v x)
  fr : ∀ o, C b o = none

/-- A function that turns the box that its first argument points at, and the list that the box's last cell may be the owner of. -/
structure ECon (P : Program) (f : FuncId) (args : List AV) (pre : List AV) (x : AV) (r : AV) (pre' : List AV) (x' : AV) : Prop where
  enters : Enters P f
  calls : ∀ (C : CMap) (w : World) (b : Nat) (τ : TMap) (vs : Array Value), CW C w → BoxC C τ w b pre x → Tok1 C w τ (fun b' => b' ≠ b) → vs.size = args.length →
    (∀ (i : Nat) (v : Value) (x : AV), vs[i]? = some v → args[i]? = some x → RV C noρ noτ v x) →
    Calls P f (#[.pointer (some ⟨b, 0, none⟩)] ++ vs) w fun e w' => ∃ v C' τ', e = .returned v ∧ Fr w (fun i => i = b ∨ tb τ i) w' ∧ (∀ b o v, C b o = some v → C' b o = some v) ∧
      (∀ b' o v, C' b' o = some v → C b' o = some v ∨ w.heap.size ≤ b' ∨ tb τ b') ∧ CW C' w' ∧ BoxC C' τ' w' b pre' x' ∧ Tok1 C' w' τ' (fun b' => b' ≠ b ∧ (w.heap.size ≤ b' ∨ tb τ b')) ∧ RV C' noρ noτ v r

/-- What such a call leaves. -/
def St.ecall (s : St) (d : Option Nat) (k : Key) (v : AV) (c : List AV) (kl : Option Key) : St :=
  { t := match d with | none => s.t | some d => upd s.t d v
    b := upd s.b k (some ⟨c, false⟩)
    d := upd (killO s.d kl) (k.1, s.g k.1, 0) false
    g := upd s.g k.1 (s.g k.1 + 1) }

theorem canon_rv {v : Value} {x : AV} (h : RV C ρ τ v x) (hx : lastOK s x = true) (τ0 : TMap) (h0 : τ0 (0, 0, 0) = tkVal τ v x) : RV C noρ τ0 v (canonX x) := by
  cases hh : x with
  | list sz xs tk =>
    rw [hh] at h h0
    obtain ⟨A, c, cv, rfl, h1, h2, h3, h4, h5⟩ := rv_list h
    refine .list sz xs _ A _ c cv rfl h1 h2 h3 h4 ?_
    cases tk with
    | no => trivial
    | nil => exact h0
    | own k => exact h0.trans h5
  | _ =>
    rw [hh] at h hx
    exact (clean_rv h (by simpa [lastOK] using hx)).mono (fun _ _ _ h => h) (fun _ _ h => h) (fun _ _ h => by cases h)

theorem tkVal_cases {τ : TMap} {v u : Value} {m : Nat} {x : AV} (h : RV C ρ τ v x) (he : tkVal τ v x = some (u, m)) : (∃ A, u = .slice A 0 0) ∨ ∃ k, lastKey x = some k ∧ τ k = some (u, m) := by
  cases x with
  | list sz xs tk =>
    cases tk with
    | no => cases he
    | nil =>
      simp only [tkVal, Option.some.injEq, Prod.mk.injEq] at he
      obtain ⟨A, c, cv, _, _, _, _, _, h5⟩ := rv_list h
      obtain ⟨A', h5⟩ := h5
      exact .inl ⟨A', he.1 ▸ h5⟩
    | own k => exact .inr ⟨k, rfl, he⟩
  | _ => cases he

/-- A box is laid aside. -/
theorem RepG.turn (h : RepG N w0 C0 E s a w C ρ τ) {k : Key} {B : Box} {b : Nat} (hB : s.b k = some B) (hρ : ρ k = some b) (kl : Option Key) (hkl : ∀ k', kl = some k' → s.d k' = false)
    {w1 : World} {C1 : CMap} (hC : ∀ b o v, C b o = some v → C1 b o = some v) {T : Nat → Prop} (hT : ∀ i, T i → ∃ k' v m, kl = some k' ∧ τ k' = some (v, m) ∧ blk v = some i)
    (hF : Fr w (fun i => i = b ∨ T i) w1) (hn : ∀ b' o v, C1 b' o = some v → C b' o = some v ∨ w.heap.size ≤ b' ∨ T b') (hcw : CW C1 w1) :
    RepG N w0 C0 E { s with d := Sy.killO s.d kl, b := upd s.b k none } a w1 C1 ρ τ := by
  have mono : ∀ {v : Value} {x : AV}, RV C ρ τ v x → RV C1 ρ τ v x := fun hv => hv.mono hC (fun _ _ h => h) (fun _ _ h => h)
  obtain ⟨b0, hρ0, hBW, hE⟩ := h.bx k B hB
  rw [hρ] at hρ0
  cases hρ0
  have tG : ∀ i, T i → (w0.heap.size ≤ i ∨ E i) ∧ (∀ k' B, s.b k' = some B → ρ k' ≠ some i) ∧ i < w.heap.size := by
    intro i hi
    obtain ⟨k', v, m, h1, h2, h3⟩ := hT i hi
    obtain ⟨A, n, c, rfl, g⟩ := h.tk k' v m h2 (hkl k' h1)
    obtain ⟨hc, ad, rfl, hb⟩ := blk_cap h3
    rcases g with g | ⟨b', cs, ty, hA, g1, _, _, _, _, g6⟩
    · exact absurd g hc
    · cases hA; subst hb; exact ⟨g6.1, g6.2, heap_lt g1⟩
  have bsz : b < w.heap.size := by
    obtain ⟨⟨cs, ty, g1, _⟩, _⟩ := hBW
    exact heap_lt g1
  have old : ∀ {i : Nat} {x : Obj}, i ≠ b → ¬ T i → w.heap[i]? = some x → w1.heap[i]? = some x := by
    intro i x h1 h2 hx
    rw [hF.block i (heap_lt hx) (fun hh => hh.elim h1 h2)]
    exact hx
  have ob : ∀ k' B', (upd s.b k none : Key → Option Box) k' = some B' → k' ≠ k ∧ s.b k' = some B' := by
    intro k' B' hh
    rw [upd_at] at hh
    split at hh
    · cases hh
    · exact ⟨by assumption, hh⟩
  have cold : ∀ {i o : Nat}, i < w.heap.size → ¬ T i → C i o = none → C1 i o = none := by
    intro i o h1 h2 h3
    cases hc : C1 i o with
    | none => rfl
    | some v =>
      rcases hn _ _ _ hc with hh | hh | hh
      · rw [h3] at hh; cases hh
      · omega
      · exact absurd hh h2
  refine
    { df := h.df, sz := h.sz, tm := fun t => mono (h.tm t), cw := hcw, c0 := fun _ _ _ hh => hC _ _ _ (h.c0 _ _ _ hh), c1 := ?_, bx := ?_, bj := ?_, tk := ?_, tj := ?_, fρ := h.fρ, fτ := h.fτ, fo := h.fo, fr := ?_ }
  · intro b' o v hb' hv
    rcases hn _ _ _ hv with hh | hh | hh
    · exact h.c1 _ _ _ hb' hh
    · have := h.fr.size; omega
    · rcases (tG _ hh).1 with g | g
      · omega
      · exact .inr g
  · intro k' B' hB'
    obtain ⟨hne, hB'⟩ := ob _ _ hB'
    obtain ⟨b', hρ', ⟨⟨cs, ty, g1, g2, g3, g4, g5⟩, g6⟩, g7⟩ := h.bx k' B' hB'
    have hbb : b' ≠ b := fun hh => hne (h.bj k' k B' B b' hB' hB hρ' (hh ▸ hρ))
    have hTb : ¬ T b' := fun hh => (tG _ hh).2.1 k' B' hB' hρ'
    exact ⟨b', hρ', ⟨⟨cs, ty, old hbb hTb g1, g2, g3, fun i v x hc hx => mono (g4 i v x hc hx), fun hz i v hc => hC _ _ _ (g5 hz i v hc)⟩, fun hz o => cold (heap_lt g1) hTb (g6 hz o)⟩, g7⟩
  · intro k1 k2 B1 B2 b' h1 h2
    exact h.bj k1 k2 B1 B2 b' (ob _ _ h1).2 (ob _ _ h2).2
  · intro k' v m hk' hd
    obtain ⟨hd, hne⟩ := killO_ne hd
    obtain ⟨A, n, c, rfl, g⟩ := h.tk k' v m hk' hd
    refine ⟨A, n, c, rfl, ?_⟩
    rcases g with g | ⟨b', cs, ty, hA, g1, g2, g3, g4, g5, g6, g7⟩
    · exact .inl g
    · by_cases hc0 : c = 0
      · exact .inl hc0
      subst hA
      have hbb : b' ≠ b := fun hh => g7 k B hB (hh ▸ hρ)
      have hTb : ¬ T b' := by
        intro hh
        obtain ⟨k2, v2, m2, e1, e2, e3⟩ := hT _ hh
        have := h.tj k' k2 _ _ _ _ b' hk' e2 hd (hkl _ e1) (by simp [blk, hc0]) e3
        subst this
        exact hne e1
      refine .inr ⟨b', cs, ty, rfl, old hbb hTb g1, g2, g3, g4, fun o ho => cold (heap_lt g1) hTb (g5 o ho), g6, fun k2 B2 hB2 => g7 k2 B2 (ob _ _ hB2).2⟩
  · intro k1 k2 v1 v2 n1 n2 b' e1 e2 d1 d2
    exact h.tj k1 k2 v1 v2 n1 n2 b' e1 e2 (killO_ne d1).1 (killO_ne d2).1
  · refine ⟨hF.os.trans h.fr.os, hF.tape.trans h.fr.tape, hF.output.trans h.fr.output, Nat.le_trans h.fr.size hF.size, fun i hi hEi => ?_⟩
    rw [hF.block i (Nat.lt_of_lt_of_le hi h.fr.size), h.fr.block i hi hEi]
    rintro (rfl | hh)
    · rcases hE with g | g
      · omega
      · exact hEi g
    · rcases (tG _ hh).1 with g | g
      · omega
      · exact hEi g

/-- A box is laid back. -/
theorem RepG.putbox (h : RepG N w0 C0 E s a w C ρ τ) {k : Key} {b : Nat} {l : List AV} (hρ : ρ k = some b) (hE : w0.heap.size ≤ b ∨ E b) {cs : Array Value} {ty : TypeId}
    (hblk : w.heap[b]? = some (.cells cs ty (0, 0))) (hl : cs.size = l.length) (h1 : ∀ (i : Nat) (v : Value), cs[i]? = some v → v.oneCell' = true)
    (hv : ∀ (i : Nat) (v : Value) (x : AV), cs[i]? = some v → l[i]? = some x → RV C ρ τ v x) (hC : ∀ o, C b o = none)
    (hnb : ∀ k' B, k' ≠ k → s.b k' = some B → ρ k' ≠ some b) (hnt : ∀ k v n, τ k = some (v, n) → s.d k = false → blk v ≠ some b) :
    RepG N w0 C0 E { s with b := upd s.b k (some ⟨l, false⟩) } a w C ρ τ :=
  { h with
    bx := by
      intro k' B hB
      simp only [upd_at] at hB
      split at hB
      · rename_i hk; subst hk; cases hB
        exact ⟨b, hρ, ⟨⟨cs, ty, hblk, hl, h1, hv, fun hz => by cases hz⟩, fun _ => hC⟩, hE⟩
      · exact h.bx k' B hB
    bj := by
      intro k1 k2 B1 B2 b' h1 h2 e1 e2
      simp only [upd_at] at h1 h2
      split at h1 <;> split at h2
      · rename_i a1 a2; rw [a1, a2]
      · rename_i a1 a2; subst a1; rw [hρ] at e1; cases e1; exact absurd e2 (hnb _ _ a2 h2)
      · rename_i a1 a2; subst a2; rw [hρ] at e2; cases e2; exact absurd e1 (hnb _ _ a1 h1)
      · exact h.bj _ _ _ _ _ h1 h2 e1 e2
    tk := by
      intro k' v n hk hd
      obtain ⟨A, n', c, rfl, g⟩ := h.tk k' v n hk hd
      refine ⟨A, n', c, rfl, ?_⟩
      rcases g with g | ⟨b', cs', ty', hA, g1, g2, g3, g4, g5, g6, g7⟩
      · exact .inl g
      · by_cases hc0 : c = 0
        · exact .inl hc0
        refine .inr ⟨b', cs', ty', hA, g1, g2, g3, g4, g5, g6, fun k2 B2 hB2 => ?_⟩
        simp only [upd_at] at hB2
        split at hB2
        · rename_i hk2; subst hk2; rw [hρ]
          intro hh; cases hh
          exact hnt _ _ _ hk hd (by subst hA; simp [blk, hc0])
        · exact g7 k2 B2 hB2 }

theorem RepG.bump (h : RepG N w0 C0 E s a w C ρ τ) (k : Key) (hk : s.g k.1 ≤ k.2.1) : RepG N w0 C0 E { s with d := upd s.d k false, g := upd s.g k.1 (k.2.1 + 1) } a w C ρ τ := by
  have hτk : τ k = none := by
    cases hh : τ k with
    | none => rfl
    | some y => have := h.fτ _ _ hh; omega
  have up : ∀ k' : Key, k'.2.1 < s.g k'.1 → k'.2.1 < upd s.g k.1 (k.2.1 + 1) k'.1 := by
    intro k' hlt
    rw [upd_at]
    split
    · rename_i e; rw [e] at hlt; omega
    · exact hlt
  have low : ∀ k' x, τ k' = some x → upd s.d k false k' = false → s.d k' = false := by
    intro k' x hx e
    rw [upd_at] at e
    split at e
    · rename_i ek; subst ek; rw [hτk] at hx; cases hx
    · exact e
  exact { h with
    tk := fun k' v n hk' hd => h.tk k' v n hk' (low _ _ hk' hd)
    tj := fun k1 k2 v1 v2 n1 n2 b e1 e2 d1 d2 => h.tj k1 k2 v1 v2 n1 n2 b e1 e2 (low _ _ e1 d1) (low _ _ e2 d2)
    fρ := fun k' b e => up _ (h.fρ _ _ e)
    fτ := fun k' b e => up _ (h.fτ _ _ e) }

def isPtrT (P : Program) (t : TypeId) : Bool := match P.underlying t with | some (.pointer _) => true | _ => false

/-- The call as an operation. -/
def EEvK (P : Program) (s : St) (o : Oper) (k : Key) (v : AV) (c : List AV) (kl : Option Key) : Prop := match o.op with
  | .call { callee := .value g, args, argTypes } => ∃ f x0 xs t0 ts pre x pre' x', s.o P 0 g = .clo f [] ∧ args.toList = x0 :: xs ∧ argTypes.toList = t0 :: ts ∧ xs.length ≤ ts.length ∧ isPtrT P t0 = true ∧
      s.o P t0 x0 = .box k 0 ∧ s.b k = some ⟨pre ++ [x], false⟩ ∧ pre.all clean = true ∧ lastOK s x = true ∧ (argsAV P s xs ts).all cleanV = true ∧ ECon P f (argsAV P s xs ts) pre (canonX x) v pre' x' ∧
      c = pre' ++ [ren0 k.1 (s.g k.1) x'] ∧ kl = lastKey x
  | _ => False

theorem ecall_set (s : St) (d : Nat) (k : Key) (v : AV) (c : List AV) (kl : Option Key) : s.ecall (some d) k v c kl = (s.ecall none k v c kl).set d v := rfl

theorem estep_sound {k : Key} {r : AV} {c : List AV} {kl : Option Key} {Q : Exit → Act → World → Prop} {K : Act → World → Prop} (h : Rep N w0 C0 E s a w) (hN : ∀ d, o.dst = some d → d < N) (he : EEvK P s o k r c kl)
    (hK : ∀ a' w', Rep N w0 C0 E (s.ecall o.dst k r c kl) a' w' → K a' w') : o.wp P a w K Q := by
  obtain ⟨C, ρ, τ, h⟩ := h
  unfold EEvK at he
  split at he
  case h_2 => exact he.elim
  rename_i g args tys ho
  obtain ⟨f, x0, xs, t0, ts, pre, x, pre', x', hg, hargs, htys, hlen, _, hbx, hB, hpre, hx, hcl, hcon, rfl, rfl⟩ := he
  have hgv := opnd (P := P) h 0 g
  rw [hg] at hgv
  have hfn : a.eval g = .func (.func f) #[] #[] := by
    generalize a.eval g = v at hgv
    cases hgv with
    | clo _ cs _ hl _ =>
      have : cs = #[] := by simpa using hl
      rw [this]
  have hrun : (execOp a.eval o).run P w = .ok (.enter f (args.map a.eval)) w := by
    simp [execOp, ho, resolve, hfn, Deferred.ofValue, invoke, hcon.enters _ _]
  unfold Oper.wp
  rw [hrun]
  simp only [Oper.upon]
  have hbv := opnd (P := P) h t0 x0
  rw [hbx] at hbv
  obtain ⟨b, hv0, hρ⟩ := rv_box hbv
  have hmap : args.map a.eval = #[.pointer (some ⟨b, 0, none⟩)] ++ (xs.map a.eval).toArray := by
    apply Array.ext'
    simp [hargs, hv0]
  obtain ⟨b', hρ', ⟨⟨cs, ty, g1, g2, g3, g4, _⟩, g6⟩, g7⟩ := h.bx k _ hB
  rw [hρ] at hρ'
  cases hρ'
  have hlt : pre.length < cs.size := by rw [g2]; simp
  have hvx : RV C ρ τ cs[pre.length] x := g4 pre.length _ x (by simp [hlt]) (by simp)
  let τ0 : TMap := fun k' => if k' = (0, 0, 0) then tkVal τ cs[pre.length] x else none
  have hτ0 : τ0 (0, 0, 0) = tkVal τ cs[pre.length] x := if_pos rfl
  have hlive : ∀ k', lastKey x = some k' → s.d k' = false := by
    intro k' hk'
    cases x with
    | list sz ys tk =>
      cases tk with
      | own k2 => simp [lastKey, tokKey] at hk'; subst hk'; simpa [lastOK] using hx
      | _ => simp [lastKey, tokKey] at hk'
    | _ => simp [lastKey] at hk'
  have htb : ∀ i, tb τ0 i → ∃ k' v m, lastKey x = some k' ∧ τ k' = some (v, m) ∧ blk v = some i := by
    rintro i ⟨v, m, h1, h2⟩
    rw [hτ0] at h1
    rcases tkVal_cases hvx h1 with ⟨A, rfl⟩ | ⟨k', h3, h4⟩
    · cases A <;> simp [blk] at h2
    · exact ⟨k', v, m, h3, h4, h2⟩
  rw [hmap]
  refine (hcon.calls C w b τ0 _ h.cw ⟨⟨cs, ty, g1, by simpa using g2, g3, ?_, ?_⟩, g6 rfl⟩ ⟨?_, ?_⟩ ?_ ?_).mono ?_
  · intro i v y hv hy
    have hi := (List.getElem?_eq_some_iff.1 hy).1
    exact clean_rv (g4 i v y hv (by rw [List.getElem?_append_left hi]; exact hy)) (List.all_eq_true.1 hpre y (List.mem_of_getElem? hy))
  · intro v hv
    have hv' : v = cs[pre.length] := by simp [hlt] at hv; exact hv.symm
    subst hv'
    exact canon_rv hvx hx τ0 hτ0
  · intro k' y hk'
    by_cases hh : k' = (0, 0, 0)
    · exact hh
    · simp only [τ0, if_neg hh] at hk'; cases hk'
  · intro k' v m hk'
    by_cases hh : k' = (0, 0, 0)
    · subst hh
      rw [hτ0] at hk'
      rcases tkVal_cases hvx hk' with ⟨A, rfl⟩ | ⟨k2, h3, h4⟩
      · exact ⟨A, 0, 0, rfl, .inl rfl⟩
      obtain ⟨A, n, c, rfl, g⟩ := h.tk k2 v m h4 (hlive _ h3)
      refine ⟨A, n, c, rfl, ?_⟩
      rcases g with g | ⟨b', cs, ty, hA, g1, g2, g3, g4, g5, g6, g7⟩
      · exact .inl g
      · exact .inr ⟨b', cs, ty, hA, g1, g2, g3, g4, g5, fun hh => g7 k _ hB (hh ▸ hρ)⟩
    · simp only [τ0, if_neg hh] at hk'; cases hk'
  · simp only [argsAV, List.length_zipWith, List.size_toArray, List.length_map]; omega
  · intro i v y hv hy
    have hmem := List.mem_of_getElem? hy
    have hcx := List.all_eq_true.1 hcl y hmem
    simp only [argsAV, List.getElem?_zipWith] at hy
    split at hy
    · rename_i y' t' hy' ht'
      cases hy
      simp only [List.getElem?_toArray, List.getElem?_map, hy', Option.map_some, Option.some.injEq] at hv
      subst hv
      exact cleanV_rv (fgtV_rv (opnd h t' y')) hcx
    · cases hy
  · rintro e' w' ⟨v, C', τ', rfl, hF, hC1, hC2, hcw, ⟨⟨cs', ty', q1, q2, q3, q4, q5⟩, q6⟩, ht, hr⟩
    have h1 := h.turn hB hρ (lastKey x) hlive hC1 htb hF hC2 hcw
    have bsz : b < w.heap.size := heap_lt g1
    have tB : ∀ i, tb τ0 i → (w0.heap.size ≤ i ∨ E i) ∧ (∀ k' B, s.b k' = some B → ρ k' ≠ some i) ∧ (∀ k' v' m' , τ k' = some (v', m') → killO s.d (lastKey x) k' = false → blk v' ≠ some i) := by
      intro i hi
      obtain ⟨k', v, m, e1, e2, e3⟩ := htb i hi
      obtain ⟨A, n, c, rfl, gg⟩ := h.tk k' v m e2 (hlive _ e1)
      obtain ⟨hc, ad, rfl, hb⟩ := blk_cap e3
      rcases gg with gg | ⟨b', cs, ty, hA, _, _, _, _, _, gg6⟩
      · exact absurd gg hc
      · cases hA
        subst hb
        refine ⟨gg6.1, gg6.2, ?_⟩
        intro k2 v2 m2 f1 f2 f3
        obtain ⟨f2, f4⟩ := killO_ne f2
        have := h.tj k' k2 _ _ _ _ _ e2 f1 (hlive _ e1) f2 e3 f3
        subst this
        exact f4 e1
    have boxlt : ∀ k' B i, s.b k' = some B → ρ k' = some i → i < w.heap.size := by
      intro k' B i e1 e2
      obtain ⟨b', hρ', ⟨⟨cs, ty, gg1, _⟩, _⟩, _⟩ := h.bx k' B e1
      rw [e2] at hρ'; cases hρ'
      exact heap_lt gg1
    have toklt : ∀ k' v' m' i, τ k' = some (v', m') → s.d k' = false → blk v' = some i → i < w.heap.size := by
      intro k' v' m' i e1 e2 e3
      obtain ⟨A, n', c, rfl, gg⟩ := h.tk k' v' m' e1 e2
      obtain ⟨hc, ad, rfl, hb2⟩ := blk_cap e3
      rcases gg with gg | ⟨b', cs, ty, hA, gg2, _⟩
      · exact absurd gg hc
      · cases hA; subst hb2; exact heap_lt gg2
    have obx : ∀ k' B', (upd s.b k none : Key → Option Box) k' = some B' → k' ≠ k ∧ s.b k' = some B' := by
      intro k' B' hh
      rw [upd_at] at hh
      split at hh
      · cases hh
      · exact ⟨by assumption, hh⟩
    -- the token
    have h2 : ∃ τ2, RepG N w0 C0 E { s with d := upd (killO s.d (lastKey x)) (k.1, s.g k.1, 0) false, b := upd s.b k none, g := upd s.g k.1 (s.g k.1 + 1) } a w' C' ρ τ2 ∧
        (∀ k' y, τ' k' = some y → τ2 (k.1, s.g k.1, k'.2.2) = some y) ∧ (∀ k' y, τ2 k' = some y → τ k' = some y ∨ τ' (0, 0, 0) = some y) ∧ (∀ k' y, τ2 k' = some y → killO s.d (lastKey x) k' = true → k' = (k.1, s.g k.1, 0) ∨ killO s.d (lastKey x) k' = true) := by
      cases hτ : τ' (0, 0, 0) with
      | none =>
        refine ⟨τ, h1.bump (k.1, s.g k.1, 0) (Nat.le_refl _), ?_, fun _ _ h => .inl h, fun _ _ _ h => .inr h⟩
        intro k' y hk'
        have := ht.k _ _ hk'
        subst this
        rw [hτ] at hk'; cases hk'
      | some y =>
        obtain ⟨u, m⟩ := y
        obtain ⟨A, n, c, rfl, gg⟩ := ht.w _ _ _ hτ
        refine ⟨upd τ (k.1, s.g k.1, 0) (some (.slice A n c, m)), h1.addtok (k.1, s.g k.1, 0) (Nat.le_refl _) ⟨A, n, c, rfl, ?_⟩ ?_, ?_, ?_, fun _ _ _ h => .inr h⟩
        · rcases gg with gg | ⟨b', cs, ty, hA, gg1, gg2, gg3, gg4, gg5, gg6, gg7⟩
          · exact .inl gg
          · refine .inr ⟨b', cs, ty, hA, gg1, gg2, gg3, gg4, gg5, ?_⟩
            rcases gg7 with gg7 | gg7
            · have := h.fr.size
              refine ⟨.inl (by omega), fun k2 B2 e1 e2 => ?_⟩
              have := boxlt _ _ _ (obx _ _ e1).2 e2
              omega
            · exact ⟨(tB _ gg7).1, fun k2 B2 e1 => (tB _ gg7).2.1 _ _ (obx _ _ e1).2⟩
        · intro k2 v2 m2 i e1 e2 e3
          obtain ⟨hc, ad, rfl, hb2⟩ := blk_cap e3
          rcases gg with gg | ⟨b', cs, ty, hA, _, _, _, _, _, gg6, gg7⟩
          · exact absurd gg hc
          · cases hA
            subst hb2
            rcases gg7 with gg7 | gg7
            · intro e4
              have := toklt _ _ _ _ e1 (killO_ne e2).1 e4
              simp at this
              omega
            · exact (tB _ gg7).2.2 _ _ _ e1 e2
        · intro k' y hk'
          have := ht.k _ _ hk'
          subst this
          rw [hτ] at hk'; cases hk'
          simp [upd]
        · intro k' y hk'
          rw [upd_at] at hk'
          split at hk'
          · exact .inr hk'
          · exact .inl hk'
    obtain ⟨τ2, h2, h3, h4, _⟩ := h2
    have hrx : ∀ u, cs'[pre'.length]? = some u → RV C' ρ τ2 u (ren0 k.1 (s.g k.1) x') := fun u hu => ren0_rv h3 (q5 u hu)
    have h5 := h2.putbox (k := k) (b := b) (l := pre' ++ [ren0 k.1 (s.g k.1) x']) hρ g7 q1 (by simpa using q2) q3 (by
        intro i u y hu hy
        rcases Nat.lt_or_ge i pre'.length with hi | hi
        · rw [List.getElem?_append_left hi] at hy
          exact (q4 i u y hu hy).lift _ _
        · rw [List.getElem?_append_right hi] at hy
          have : i = pre'.length := by
            have := (List.getElem?_eq_some_iff.1 hy).1
            simp at this; omega
          subst this
          simp at hy
          subst hy
          exact hrx u hu) q6 (by
        intro k' B hne e1 e2
        exact hne (h.bj k' k B _ b (obx _ _ e1).2 hB e2 hρ)) (by
        intro k' u m e1 e2 e3
        by_cases hkk : k' = (k.1, s.g k.1, 0)
        · subst hkk
          rcases h4 _ _ e1 with e4 | e4
          · have := h.fτ _ _ e4
            simp at this
          · obtain ⟨A, n, c, rfl, gg⟩ := ht.w _ _ _ e4
            obtain ⟨hc, ad, rfl, hb2⟩ := blk_cap e3
            rcases gg with gg | ⟨b', cs, ty, hA, _, _, _, _, _, gg6, gg7⟩
            · exact hc gg
            · cases hA
              exact gg6 hb2
        · have h6 := h2.tk k' u m e1 e2
          obtain ⟨A, n, c, rfl, gg⟩ := h6
          obtain ⟨hc, ad, rfl, hb2⟩ := blk_cap e3
          have e2' : killO s.d (lastKey x) k' = false := by simpa [upd, hkk] using e2
          rcases h4 _ _ e1 with e4 | e4
          · obtain ⟨A2, n2, c2, e5, gg⟩ := h.tk _ _ _ e4 (killO_ne e2').1
            cases e5
            rcases gg with gg | ⟨b', cs, ty, hA, _, _, _, _, _, gg6, gg7⟩
            · exact hc gg
            · cases hA
              exact gg7 k _ hB (by rw [hρ, ← hb2])
          · obtain ⟨A2, n2, c2, e5, gg⟩ := ht.w _ _ _ e4
            cases e5
            rcases gg with gg | ⟨b', cs, ty, hA, _, _, _, _, _, gg6, gg7⟩
            · exact hc gg
            · cases hA
              exact gg6 hb2)
    have h7 : upd (upd s.b k none) k (some ⟨pre' ++ [ren0 k.1 (s.g k.1) x'], false⟩) = upd s.b k (some ⟨pre' ++ [ren0 k.1 (s.g k.1) x'], false⟩) := by
      funext k'
      simp only [upd_at]
      split <;> rfl
    have h8 : RepG N w0 C0 E (s.ecall none k r (pre' ++ [ren0 k.1 (s.g k.1) x']) (lastKey x)) a w' C' ρ τ2 := by
      simp only [h7] at h5
      exact h5
    apply hK
    cases hd : o.dst with
    | none => exact ⟨_, _, _, h8⟩
    | some d =>
      rw [ecall_set]
      exact ⟨_, _, _, h8.set d (hN d hd) (hr.lift _ _)⟩

end Go.Sy

/- Regions, code, functions. -/
namespace Go.Sy
open Go Go.RowKit

variable {N : Nat} {w0 : World} {C0 : CMap} {E : EX} {s : St} {a : Act} {w : World} {C : CMap} {ρ : RMap} {τ : TMap} {P : Program} {o : Oper} {e : Eff}

/-- Is the operation wanted? -/
def wantA (ops : Array Oper) (s : St) (o : Oper) : Option Bool :=
  match o.guard with
  | none => some true
  | some (j, want) => match (ops[j]?).bind (·.dst) with
    | some d => match s.t d with
      | .v (.bool b) => some (b == want)
      | .tup [] => some false
      | _ => none
    | none => none

def St.skip (s : St) : Option Nat → St
  | none => s
  | some d => s.set d (.tup [])

/-- One operation, told what follows. -/
def stepF (P : Program) (s : St) (o : Oper) (K : Eff → Prop) : Prop := match o.op with
  | .call { callee := .value g, args, argTypes } => match s.o P 0 g with
    | .clo f caps => args.size ≤ argTypes.size ∧ (argsAV P s args.toList argTypes.toList).all cleanV = true ∧
        ((∃ n r, Con P f (argsAV P s args.toList argTypes.toList ++ caps) n r ∧ K { v := ren (o.dst.getD 0) (s.g (o.dst.getD 0)) r, nt := n }) ∨
          ∃ m n l, BCon P f (argsAV P s args.toList argTypes.toList ++ caps) n l ∧ K { v := .sl (o.dst.getD 0, s.g (o.dst.getD 0), 0) n m, nb := some l })
    | _ => False
  | _ => match ev P s o with
    | some e => K e
    | none => False

theorem stepF_elim {P : Program} {s : St} {o : Oper} {K : Eff → Prop} (h : stepF P s o K) : ∃ e, Ev P s o e ∧ K e := by
  unfold stepF at h
  split at h
  · rename_i g args ts ho
    split at h
    · rename_i f caps hg
      obtain ⟨h1, h2, ⟨n, r, h3, h4⟩ | ⟨m, n, l, h3, h4⟩⟩ := h
      · refine ⟨_, .inr ?_, h4⟩
        unfold CallEv
        rw [ho]
        exact ⟨f, caps, hg, h1, h2, .inl ⟨n, r, h3, rfl⟩⟩
      · refine ⟨_, .inr ?_, h4⟩
        unfold CallEv
        rw [ho]
        exact ⟨f, caps, hg, h1, h2, .inr ⟨m, n, l, h3, rfl⟩⟩
    · exact h.elim
  · split at h
    · rename_i e he
      exact ⟨e, .inl he, h⟩
    · exact h.elim

/-- The box that a call turns. -/
def box0 : AV → Option Key
  | .box k 0 => some k
  | _ => none
def boxArg (P : Program) (s : St) (o : Oper) : Option Key := match o.op with
  | .call { callee := .value _, args, argTypes } => (match args.toList, argTypes.toList with
    | x0 :: _, t0 :: _ => if isPtrT P t0 = true then box0 (s.o P t0 x0) else none
    | _, _ => none)
  | _ => none
def estepF (P : Program) (s : St) (o : Oper) (k : Key) (K : St → Prop) : Prop := ∃ v c kl, EEvK P s o k v c kl ∧ K (s.ecall o.dst k v c kl)
def stepG (P : Program) (s : St) (o : Oper) (K : St → Prop) : Prop := match boxArg P s o with
  | none => stepF P s o fun e => K (s.app o.dst e)
  | some k => estepF P s o k K

inductive Stp where
  | ef (e : Eff)
  | ec (k : Key) (v : AV) (c : List AV) (kl : Option Key) (g : Nat)
def EvG (P : Program) (s : St) (o : Oper) : Stp → Prop
  | .ef e => Ev P s o e
  | .ec k v c kl g => EEvK P s o k v c kl ∧ g = s.g k.1
def St.stp (s : St) (d : Option Nat) : Stp → St
  | .ef e => s.app d e
  | .ec k v c kl _ => s.ecall d k v c kl

theorem stepG_elim {P : Program} {s : St} {o : Oper} {K : St → Prop} (h : stepG P s o K) : ∃ p, EvG P s o p ∧ K (s.stp o.dst p) := by
  unfold stepG at h
  split at h
  · obtain ⟨e, h1, h2⟩ := stepF_elim h
    exact ⟨.ef e, h1, h2⟩
  · obtain ⟨v, c, kl, h1, h2⟩ := h
    exact ⟨.ec _ v c kl _, ⟨h1, rfl⟩, h2⟩

theorem stp_sound {p : Stp} {Q : Exit → Act → World → Prop} {K : Act → World → Prop} (h : Rep N w0 C0 E s a w) (hN : ∀ d, o.dst = some d → d < N) (he : EvG P s o p)
    (hK : ∀ a' w', Rep N w0 C0 E (s.stp o.dst p) a' w' → K a' w') : o.wp P a w K Q := by
  cases p with
  | ef e => exact step_sound h hN he hK
  | ec k v c kl g => exact estep_sound h hN he.1 hK

def aops (P : Program) (ops : Array Oper) : List Oper → St → (St → Prop) → Prop
  | [], s, K => K s
  | o :: r, s, K => match wantA ops s o with
    | none => False
    | some c => (c = true → stepG P s o fun s' => aops P ops r s' K) ∧ (c = false → aops P ops r (s.skip o.dst) K)

theorem wantA_sound {ops : Array Oper} {c : Bool} (h : RepG N w0 C0 E s a w C ρ τ) (hc : wantA ops s o = some c) : Region.wanted o (yielded ops a.tmps) = c := by
  unfold wantA at hc
  unfold Region.wanted
  split at hc
  · rename_i hg
    rw [hg]
    simpa using hc
  · rename_i j want hg
    rw [hg]
    split at hc
    · rename_i d hd
      split at hc
      · rename_i b hb
        cases hc
        have := h.tm d
        rw [hb] at this
        have := (rv_v this).1
        have hx : a.tmps[d]? = some (.bool b) := by
          rw [Array.getD_eq_getD_getElem?] at this
          cases hq : a.tmps[d]? with
          | none => rw [hq] at this; simp [undef] at this
          | some v => rw [hq] at this; simp at this; rw [this]
        simp [yielded, hd, hx]
      · rename_i hb
        cases hc
        have := h.tm d
        rw [hb] at this
        obtain ⟨cs, hcs, h1, _⟩ := rv_tup this
        rw [Array.getD_eq_getD_getElem?] at hcs
        have : ∀ b, a.tmps[d]? ≠ some (.bool b) := by
          intro b hb2
          rw [hb2] at hcs
          exact Value.noConfusion hcs
        have hy : yielded ops a.tmps j = none := by
          have hbd : ((ops[j]?).bind (·.dst)).bind (a.tmps[·]?) = a.tmps[d]? := by rw [hd]; rfl
          unfold yielded
          rw [hbd]
          cases hq : a.tmps[d]? with
          | none => rfl
          | some q =>
            cases q with
            | bool b => exact absurd hq (this b)
            | _ => rfl
        simp only [hy]
        rfl
      · cases hc
    · cases hc

theorem skip_sound (h : Rep N w0 C0 E s a w) (hN : ∀ d, o.dst = some d → d < N) : Rep N w0 C0 E (s.skip o.dst) (a.put o.dst undef) w := by
  obtain ⟨C, ρ, τ, h⟩ := h
  cases hd : o.dst with
  | none => exact ⟨C, ρ, τ, h⟩
  | some d => exact ⟨C, ρ, τ, h.set d (hN d hd) (.tup #[] [] rfl (fun i v a h => by simp at h))⟩

theorem aops_sound {ops : Array Oper} {Q : Exit → Act → World → Prop} {K : St → Prop} (hQ : ∀ s' a' w', K s' → Rep N w0 C0 E s' a' w' → Q .normal a' w') :
    ∀ (l : List Oper) (s : St) (a : Act) (w : World), (∀ o ∈ l, ∀ d, o.dst = some d → d < N) → aops P ops l s K → Rep N w0 C0 E s a w → wpList P ops Q l a w
  | [], s, a, w, _, h, hr => hQ s a w h hr
  | o :: r, s, a, w, hN, h, hr => by
    unfold aops at h
    split at h
    · exact h.elim
    · rename_i c hc
      obtain ⟨C, ρ, τ, hr'⟩ := id hr
      have hw := wantA_sound hr' hc
      have hNo := hN o (List.mem_cons_self ..)
      unfold wpList
      cases c with
      | true =>
        rw [if_pos hw]
        obtain ⟨e, he, h2⟩ := stepG_elim (h.1 rfl)
        exact .inl (stp_sound hr hNo he fun a' w' hr' => aops_sound hQ r _ a' w' (fun o ho => hN o (List.mem_cons_of_mem _ ho)) h2 hr')
      | false =>
        rw [if_neg (by simp [hw])]
        exact aops_sound hQ r _ _ w (fun o ho => hN o (List.mem_cons_of_mem _ ho)) (h.2 rfl) (skip_sound hr hNo)

/-! ### Code -/
def dstOK (N : Nat) : Code → Bool
  | .region _ ops _ => ops.all fun o => match o.dst with | some d => decide (d < N) | none => true
  | .seq x y => dstOK N x && dstOK N y
  | .cond _ x y => dstOK N x && dstOK N y
  | .block _ c | .loop c | .scope c => dstOK N c
  | .skip | .exit _ | .ret => true
  | _ => false

/-- What must be told apart in a region that draws its order, for each call that turns a box: the pointers that are no pointers to it, the slots that did not make it. -/
abbrev Ap := Nat × List Nat × List Nat
def ap0 (k : Key) : AV → Bool
  | .box k' _ => decide (k' ≠ k)
  | _ => true
def ap2 (s : St) (ys ds : List Nat) : AV → Bool
  | .box k _ => (ys.all fun y => ap0 k (s.t y)) && ds.all (fun d => decide (k.1 ≠ d))
  | _ => false
def ap1 (s : St) : Ap → Bool
  | (x, ys, ds) => ap2 s ys ds (s.t x)
/-- The hints on regions: the slots whose boxes will not be written any more, and what to tell apart. -/
abbrev Hints := List (Nat × List Nat × List Ap)
def hFz : Hints → Nat → List Nat
  | [], _ => []
  | (i, f, _) :: r, id => if id = i then f else hFz r id
def hAp : Hints → Nat → List Ap
  | [], _ => []
  | (i, _, a) :: r, id => if id = i then a else hAp r id
def St.frz (s : St) (u : Nat) : St := match s.t u with
  | .box k _ => match s.b k with
    | some B => if B.c.all clean = true then { s with b := upd s.b k (some ⟨B.c, true⟩) } else s
    | none => s
  | .sl k n sz => match s.b k with
    | some B => if B.c.all clean = true ∧ n = B.c.length ∧ sz = 1 then { s with t := upd s.t u (.list 1 (B.c.map fun y => [y]) .no), b := upd s.b k (some ⟨B.c, true⟩) } else s
    | none => s
  | _ => s

/-- The code's reckoning. -/
def acode (P : Program) (X : Hints) : Code → (Exit → St → Prop) → St → Prop
  | .skip, Q, s => Q .normal s
  | .region id ops _, Q, s => aops P ops ops.toList ((hFz X id).foldl St.frz s) (fun s' => (hAp X id).all (ap1 s') = true ∧ Q .normal s')
  | .seq x y, Q, s => acode P X x (fun e s' => match e with | .normal => acode P X y Q s' | e => Q e s') s
  | .cond c x y, Q, s => match s.o P 0 c with
    | .v (.bool b) => (b = true → acode P X x Q s) ∧ (b = false → acode P X y Q s)
    | _ => False
  | .block id c, Q, s => acode P X c (fun e s' => match e with | .exit id' => if id' = id then Q .normal s' else Q (.exit id') s' | e => Q e s') s
  | .loop c, Q, s => ∃ I : Nat → St → Prop, (∃ n, I n s) ∧ ∀ n s, I n s → acode P X c (fun e s' => match e with | .normal => ∃ m, m < n ∧ I m s' | e => Q e s') s
  | .scope c, Q, s => acode P X c (fun e s' => match e with | .goto _ => False | e => Q e s') s
  | .exit id, Q, s => Q (.exit id) s
  | .ret, Q, s => Q .ret s
  | _, _, _ => False

/-- What a test of regions must be worth. -/
def DOK (P : Program) (D : List Ap → Array Oper → Bool) : Prop := ∀ (N : Nat) (w0 : World) (C0 : CMap) (E : EX) (l : List Ap) (ops : Array Oper) (id : Nat) (s : St) (a : Act) (w : World) (K : St → Prop) (Q : Exit → Act → World → Prop),
  D l ops = true → (∀ o ∈ ops.toList, ∀ d, o.dst = some d → d < N) → aops P ops ops.toList s (fun s' => l.all (ap1 s') = true ∧ K s') → Rep N w0 C0 E s a w → (∀ s' a' w', K s' → Rep N w0 C0 E s' a' w' → Q .normal a' w') → (Code.region id ops true).wp P Q a w
/-- All the code's regions that draw their order pass the test. -/
def draws (D : List Ap → Array Oper → Bool) (X : Hints) : Code → Bool
  | .region id ops draw => !draw || D (hAp X id) ops
  | .seq x y => draws D X x && draws D X y
  | .cond _ x y => draws D X x && draws D X y
  | .block _ c | .loop c | .scope c => draws D X c
  | _ => true

theorem RepG.frz1 (h : RepG N w0 C0 E s a w C ρ τ) {k : Key} {B : Box} (hB : s.b k = some B) (hc : B.c.all clean = true) : ∃ C', RepG N w0 C0 E { s with b := upd s.b k (some ⟨B.c, true⟩) } a w C' ρ τ := by
  obtain ⟨b, hρ, ⟨⟨cs, ty, g1, g2, g3, g4, g5⟩, g6⟩, g7⟩ := h.bx k B hB
  by_cases hz : B.fz = true
  · refine ⟨C, ?_⟩
    have : (⟨B.c, true⟩ : Box) = B := by cases B; simp at hz; rw [hz]
    rw [this]
    have e : upd s.b k (some B) = s.b := by
      funext k'
      rw [upd_at]
      split
      · rename_i hk; rw [hk, hB]
      · rfl
    rw [e]
    exact h
  have hz' : B.fz = false := by simpa using hz
  let C' : CMap := fun b' o => if b' = b then cs[o]? else C b' o
  have Cnew : ∀ o, C' b o = cs[o]? := fun o => if_pos rfl
  have Cold : ∀ b' o, b' ≠ b → C' b' o = C b' o := fun b' o hne => if_neg hne
  have up : ∀ b' o v, C b' o = some v → C' b' o = some v := by
    intro b' o v hv
    by_cases hb : b' = b
    · subst hb; rw [g6 hz' o] at hv; cases hv
    · rw [Cold _ _ hb]; exact hv
  have mono : ∀ {v : Value} {x : AV}, RV C ρ τ v x → RV C' ρ τ v x := fun hv => hv.mono up (fun _ _ h => h) (fun _ _ h => h)
  refine ⟨C', { df := h.df, sz := h.sz, tm := fun t => mono (h.tm t), cw := ?_, c0 := fun b o v hv => up _ _ _ (h.c0 b o v hv), c1 := ?_, bx := ?_, bj := ?_, tk := ?_, tj := h.tj, fρ := h.fρ, fτ := h.fτ, fo := h.fo, fr := h.fr }⟩
  · intro b' o v hv
    by_cases hb : b' = b
    · subst hb
      rw [Cnew] at hv
      exact ⟨by simp only [World.cell?, g1]; exact hv, g3 o v hv⟩
    · rw [Cold _ _ hb] at hv; exact h.cw _ _ _ hv
  · intro b' o v hlt hv
    by_cases hb : b' = b
    · subst hb
      rcases g7 with g7 | g7
      · omega
      · exact .inr g7
    · rw [Cold _ _ hb] at hv; exact h.c1 _ _ _ hlt hv
  · intro k' B' hB'
    simp only [upd_at] at hB'
    split at hB'
    · rename_i hk
      subst hk
      cases hB'
      exact ⟨b, hρ, ⟨⟨cs, ty, g1, g2, g3, fun i v x hv hx => mono (g4 i v x hv hx), fun _ i v hv => by rw [Cnew]; exact hv⟩, fun hh => by cases hh⟩, g7⟩
    · rename_i hk
      obtain ⟨b', hρ', ⟨⟨cs', ty', q1, q2, q3, q4, q5⟩, q6⟩, q7⟩ := h.bx k' B' hB'
      have hbb : b' ≠ b := fun hh => hk (h.bj k' k B' B b' hB' hB hρ' (hh ▸ hρ))
      exact ⟨b', hρ', ⟨⟨cs', ty', q1, q2, q3, fun i v x hv hx => mono (q4 i v x hv hx), fun hz i v hv => up _ _ _ (q5 hz i v hv)⟩, fun hz o => by rw [Cold _ _ hbb]; exact q6 hz o⟩, q7⟩
  · intro k1 k2 B1 B2 b' h1 h2 e1 e2
    have old : ∀ k' B', (upd s.b k (some ⟨B.c, true⟩) : Key → Option Box) k' = some B' → ∃ B2, s.b k' = some B2 := by
      intro k' B' hh
      rw [upd_at] at hh
      split at hh
      · rename_i hk; exact ⟨B, by rw [hk, hB]⟩
      · exact ⟨B', hh⟩
    obtain ⟨B1', h1⟩ := old _ _ h1
    obtain ⟨B2', h2⟩ := old _ _ h2
    exact h.bj _ _ _ _ _ h1 h2 e1 e2
  · intro k' v n hk' hd
    obtain ⟨A, n', c, rfl, gg⟩ := h.tk k' v n hk' hd
    refine ⟨A, n', c, rfl, ?_⟩
    rcases gg with gg | ⟨b', cs', ty', hA, q1, q2, q3, q4, q5, q6, q7⟩
    · exact .inl gg
    · have hbb : b' ≠ b := fun hh => q7 k B hB (hh ▸ hρ)
      refine .inr ⟨b', cs', ty', hA, q1, q2, q3, q4, fun o ho => by rw [Cold _ _ hbb]; exact q5 o ho, q6, fun k2 B2 hB2 => ?_⟩
      simp only [upd_at] at hB2
      split at hB2
      · rename_i hk2; rw [hk2]; exact q7 k B hB
      · exact q7 k2 B2 hB2

theorem Rep.frz (h : Rep N w0 C0 E s a w) (u : Nat) : Rep N w0 C0 E (s.frz u) a w := by
  obtain ⟨C, ρ, τ, h⟩ := id h
  unfold St.frz
  split
  · split
    · rename_i hB
      split
      · rename_i hc
        obtain ⟨C', h'⟩ := h.frz1 hB hc
        exact ⟨C', ρ, τ, h'⟩
      · exact ⟨C, ρ, τ, h⟩
    · exact ⟨C, ρ, τ, h⟩
  · rename_i k n sz hu
    split
    · rename_i B hB
      split
      · rename_i hc
        obtain ⟨hc, hn, rfl⟩ := hc
        obtain ⟨C', h'⟩ := h.frz1 hB hc
        refine ⟨C', ρ, τ, { h' with tm := fun t => ?_ }⟩
        show RV C' ρ τ (a.tmps.getD t undef) (upd s.t u (.list 1 (B.c.map fun y => [y]) .no) t)
        rw [upd_at]
        split
        · rename_i ht
          subst ht
          have hv := h'.tm t
          have hv : RV C' ρ τ (a.tmps.getD t undef) (s.t t) := hv
          rw [hu] at hv
          obtain ⟨b, c, e, hρ, h1, h2⟩ := rv_sl hv
          rw [e]
          obtain ⟨b', hρ', ⟨⟨cs, ty, g1, g2, g3, g4, g5⟩, _⟩, _⟩ := h'.bx k ⟨B.c, true⟩ (by simp [upd])
          rw [hρ] at hρ'
          cases hρ'
          refine .list 1 _ .no _ _ c (fun i _ => cs.getD i undef) (by rw [List.length_map, hn]) h1 h2 (fun i x hx => ?_) (fun i x j y hx hy => ?_) trivial
          · rw [List.getElem?_map] at hx
            obtain ⟨z, hz, rfl⟩ := Option.map_eq_some_iff.1 hx
            have hi := (List.getElem?_eq_some_iff.1 hz).1
            refine ⟨rfl, b, 0, rfl, fun j hj => ?_⟩
            have e : 0 + i * 1 + j = i := by omega
            have g2 : cs.size = B.c.length := g2
            rw [e]
            exact g5 rfl i _ (by simp [show i < cs.size by omega])
          · rw [List.getElem?_map] at hx
            obtain ⟨z, hz, rfl⟩ := Option.map_eq_some_iff.1 hx
            have hi := (List.getElem?_eq_some_iff.1 hz).1
            cases j with
            | zero =>
              have hy : z = y := by simpa using hy
              subst hy
              have g2 : cs.size = B.c.length := g2
              exact clean_rv (g4 i _ z (by simp [show i < cs.size by omega]) hz) (List.all_eq_true.1 hc z (List.mem_of_getElem? hz))
            | succ j => simp at hy
        · exact h'.tm t
      · exact ⟨C, ρ, τ, h⟩
    · exact ⟨C, ρ, τ, h⟩
  · exact ⟨C, ρ, τ, h⟩

theorem Rep.frzs : ∀ (l : List Nat) (s : St), Rep N w0 C0 E s a w → Rep N w0 C0 E (l.foldl St.frz s) a w
  | [], _, h => h
  | u :: l, s, h => Rep.frzs l (s.frz u) (h.frz u)

theorem acode_sound {D : List Ap → Array Oper → Bool} {X : Hints} (hD : DOK P D) : ∀ (c : Code) (QA : Exit → St → Prop) (Q : Exit → Act → World → Prop) (s : St) (a : Act) (w : World), (dstOK N c && draws D X c) = true →
    (∀ e s' a' w', QA e s' → Rep N w0 C0 E s' a' w' → Q e a' w') → acode P X c QA s → Rep N w0 C0 E s a w → c.wp P Q a w := by
  intro c
  induction c with
  | skip => intro QA Q s a w _ hQ h hr; exact wp_skip (hQ _ _ _ _ h hr)
  | region id ops draw =>
    intro QA Q s a w hN hQ h hr
    simp only [acode] at h
    simp only [dstOK, draws, Bool.and_eq_true] at hN
    have hN' : ∀ o ∈ ops.toList, ∀ d, o.dst = some d → d < N := by
      intro o ho d hd
      have hN := hN.1
      simp only [Array.all_eq_true] at hN
      obtain ⟨i, hi, rfl⟩ := List.mem_iff_getElem.1 ho
      have := hN i (by simpa using hi)
      simp only [Array.getElem_toList] at hd
      rw [hd] at this
      simpa using this
    cases draw with
    | false => exact wp_region_list (aops_sound (fun s' a' w' hk hr => hQ _ _ _ _ hk.2 hr) _ _ a w hN' h (Rep.frzs _ _ hr))
    | true => exact hD N w0 C0 E _ ops id _ a w _ Q (by simpa using hN.2) hN' h (Rep.frzs _ _ hr) (fun s' a' w' hk hr => hQ _ _ _ _ hk hr)
  | seq x y ihx ihy =>
    intro QA Q s a w hN hQ h hr
    simp only [dstOK, draws, Bool.and_eq_true] at hN
    simp only [acode] at h
    refine wp_seq (ihx _ _ s a w (by simp [hN]) ?_ h hr)
    intro e s' a' w' hq hr'
    cases e with
    | normal => exact ihy _ _ _ _ _ (by simp [hN]) hQ hq hr'
    | _ => exact hQ _ _ _ _ hq hr'
  | cond c x y ihx ihy =>
    intro QA Q s a w hN hQ h hr
    simp only [dstOK, draws, Bool.and_eq_true] at hN
    simp only [acode] at h
    obtain ⟨C, ρ, τ, hr'⟩ := id hr
    have hc := opnd (P := P) hr' 0 c
    split at h
    · rename_i b hb
      rw [hb] at hc
      have hv := (rv_v hc).1
      cases b with
      | true => exact wp_cond_true hv (ihx _ _ _ _ _ (by simp [hN]) hQ (h.1 rfl) hr)
      | false => exact wp_cond_false hv (ihy _ _ _ _ _ (by simp [hN]) hQ (h.2 rfl) hr)
    · exact h.elim
  | block id c ih =>
    intro QA Q s a w hN hQ h hr
    simp only [acode] at h
    refine wp_block (ih _ _ s a w hN ?_ h hr)
    intro e s' a' w' hq hr'
    cases e with
    | exit id' =>
      simp only [Exit.inBlock]
      simp only at hq
      split
      · rename_i hid; rw [if_pos hid] at hq; exact hQ _ _ _ _ hq hr'
      · rename_i hid; rw [if_neg hid] at hq; exact hQ _ _ _ _ hq hr'
    | _ => exact hQ _ _ _ _ hq hr'
  | loop c ih =>
    intro QA Q s a w hN hQ h hr
    simp only [acode] at h
    obtain ⟨I, ⟨n0, h0⟩, hround⟩ := h
    let R : Nat → Act → World → Prop := fun n a w => ∃ s, I n s ∧ Rep N w0 C0 E s a w
    let μ : Act → World → Nat := fun a w => Classical.epsilon fun n => R n a w ∧ ∀ m, R m a w → n ≤ m
    have least : ∀ a w n, R n a w → R (μ a w) a w ∧ ∀ m, R m a w → μ a w ≤ m := by
      intro a w n hn
      have hex : ∃ n, R n a w ∧ ∀ m, R m a w → n ≤ m := by
        induction n using Nat.strongRecOn with
        | _ n ih2 =>
          by_cases hq : ∃ m, m < n ∧ R m a w
          · obtain ⟨m, hm, hR⟩ := hq
            exact ih2 m hm hR
          · refine ⟨n, hn, fun m hm => ?_⟩
            rcases Nat.lt_or_ge m n with hlt | hge
            · exact absurd ⟨m, hlt, hm⟩ hq
            · exact hge
      exact Classical.epsilon_spec hex
    refine wp_loop (fun a w => ∃ n, R n a w) μ ⟨n0, s, h0, hr⟩ ?_
    rintro a w ⟨n, hn⟩
    obtain ⟨⟨s', hI, hr'⟩, _⟩ := least a w n hn
    refine ih _ _ s' a w hN ?_ (hround _ _ hI) hr'
    intro e s2 a2 w2 hq hr2
    cases e with
    | normal =>
      obtain ⟨m, hm, hI2⟩ := hq
      have hRm : R m a2 w2 := ⟨s2, hI2, hr2⟩
      have := (least a2 w2 m hRm).2 m hRm
      exact ⟨⟨m, hRm⟩, by omega⟩
    | _ => exact hQ _ _ _ _ hq hr2
  | scope c ih =>
    intro QA Q s a w hN hQ h hr
    simp only [acode] at h
    refine wp_scope_straight (ih _ _ s a w hN ?_ h hr)
    intro e s' a' w' hq hr'
    cases e with
    | goto l => exact hq
    | _ => exact hQ _ _ _ _ hq hr'
  | exit id => intro QA Q s a w _ hQ h hr; exact wp_exit (hQ _ _ _ _ h hr)
  | ret => intro QA Q s a w _ hQ h hr; exact wp_ret (hQ _ _ _ _ h hr)
  | rangeFunc f ps x y _ _ => intro QA Q s a w hN; simp [dstOK] at hN
  | label l => intro QA Q s a w hN; simp [dstOK] at hN
  | goto l => intro QA Q s a w hN; simp [dstOK] at hN
  | refuse y => intro QA Q s a w hN; simp [dstOK] at hN

end Go.Sy

/- A function's contract out of its code. -/
namespace Go.Sy
open Go Go.RowKit

variable {N : Nat} {w0 : World} {C0 : CMap} {E : EX} {s : St} {a : Act} {w : World} {C : CMap} {ρ : RMap} {τ : TMap} {P : Program} {o : Oper} {e : Eff}

def resAV1 (P : Program) (s : St) : ResultVar → Option AV
  | .tmp t => some (s.t t)
  | .cell a t => match s.t a with
    | .box k off => match s.b k with
      | some B => if off < B.c.length then rdAV P t (B.c.drop off) else none
      | none => none
    | _ => none
def resAV (P : Program) (s : St) : List ResultVar → Option (List AV)
  | [] => some []
  | r :: rs => match resAV1 P s r, resAV P s rs with
    | some x, some xs => some (x :: xs)
    | _, _ => none

def one : List AV → AV
  | [x] => x
  | l => .tup l

/-- What a value handed back comes to behind the call. -/
def fin0 (s : St) (x r : AV) : Prop := (clean (fgt x) = true ∧ r = fgt x) ∨
  (∃ k n sz ys B, x = .sl k n sz ∧ r = .list sz ys .no ∧ s.b k = some B ∧ B.c = ys.flatten ∧ ys.length = n ∧ (∀ y ∈ ys, y.length = sz) ∧ (∀ x ∈ B.c, clean x = true))
inductive fin1 (s : St) : AV → AV → Prop
  | one (x r : AV) (h : fin0 s x r) : fin1 s x r
  | agg (l m : List AV) (hl : l.length = m.length) (h : ∀ (i : Nat) (x r : AV), l[i]? = some x → m[i]? = some r → fin0 s x r) : fin1 s (.agg l) (.agg m)
inductive fin (s : St) : AV → AV → Prop
  | one (x r : AV) (h : fin1 s x r) : fin s x r
  | tup (l m : List AV) (hl : l.length = m.length) (h : ∀ (i : Nat) (x r : AV), l[i]? = some x → m[i]? = some r → fin1 s x r) : fin s (.tup l) (.tup m)

def retQ (P : Program) (rs : List ResultVar) (r : AV) : Exit → St → Prop
  | .ret, s | .normal, s => ∃ xs, resAV P s rs = some xs ∧ fin s (one xs) r
  | _, _ => False

def s0 (args : List AV) : St := { t := fun u => args.getD u .any, b := fun _ => none, d := fun _ => false, g := fun _ => 0 }

def resRun (a : Act) : ResultVar → Sem Value
  | .tmp t => pure (a.tmps.getD t undef)
  | .cell b t => do loadVar t (← asAddr (a.tmps.getD b undef))

theorem toks_none {C : CMap} {w : World} {B : Nat} : Toks C w noτ 0 B :=
  ⟨fun k x h => (by cases h), fun k v m h => (by cases h), fun k k' v v' m m' b h => (by cases h)⟩

theorem resAV1_run (h : RepG N w0 C0 E s a w C ρ τ) {r : ResultVar} {x : AV} (hx : resAV1 P s r = some x) :
    ∃ v, (resRun a r).run P w = .ok v w ∧ RV C ρ τ v x := by
  cases r with
  | tmp t =>
    simp only [resAV1, Option.some.injEq] at hx
    subst hx
    exact ⟨_, rfl, h.tm t⟩
  | cell b t =>
    simp only [resAV1] at hx
    have hb := h.tm b
    split at hx
    case h_2 => cases hx
    rename_i k off hk
    rw [hk] at hb
    split at hx
    case h_2 => cases hx
    rename_i B hB
    split at hx
    case isFalse => cases hx
    rename_i hoff
    obtain ⟨bb, hv, hρ⟩ := rv_box hb
    obtain ⟨cs, ty, g1, g2, g3, g4⟩ := box_cells h hB hρ
    have hcs : ∀ j, j < (B.c.drop off).length → cs[off + j]? = some (cs.getD (off + j) undef) := by
      intro j hj
      have : off + j < cs.size := by simp at hj; omega
      simp [this]
    obtain ⟨u, hu, hru⟩ := run_load_of (P := P) (C := C) (ρ := ρ) (τ := τ) (w := w) (b := bb) (o := off) (fun j => cs.getD (off + j) undef) hx
      (fun j hj => by simp only [World.cell?, g1]; exact hcs j hj)
      (fun j y hy => g4 (off + j) _ _ (hcs j (List.getElem?_eq_some_iff.1 hy).1) (by simpa using hy)) (fun j hj => g3 _ _ (hcs j hj))
    refine ⟨u, ?_, hru⟩
    simp [resRun, hv, asAddr, hu]

theorem resAV_run (h : RepG N w0 C0 E s a w C ρ τ) : ∀ (rs : List ResultVar) (xs : List AV), resAV P s rs = some xs →
    ∃ vs, (rs.mapM (resRun a)).run P w = .ok vs w ∧ vs.length = xs.length ∧
      (∀ (i : Nat) (v : Value) (x : AV), vs[i]? = some v → xs[i]? = some x → RV C ρ τ v x)
  | [], xs, hx => by
    simp only [resAV, Option.some.injEq] at hx
    subst hx
    exact ⟨[], by simp, rfl, fun i v x hv => by simp at hv⟩
  | r :: rs, xs, hx => by
    unfold resAV at hx
    split at hx
    case h_2 => cases hx
    rename_i x xs' h1 h2
    cases hx
    obtain ⟨v, hv, hr⟩ := resAV1_run h h1
    obtain ⟨vs, hvs, hl, hrs⟩ := resAV_run h rs xs' h2
    refine ⟨v :: vs, ?_, by simp [hl], ?_⟩
    · rw [List.mapM_cons]
      simp only [Sem.run_bind, hv, Result.andThen_ok, hvs, Sem.run_pure]
    · intro i u y hu hy
      cases i with
      | zero => simp at hu hy; subst hu hy; exact hr
      | succ i => exact hrs i u y (by simpa using hu) (by simpa using hy)

theorem results_run (h : RepG N w0 C0 E s a w C ρ τ) {fn : Func} {xs : List AV} (hx : resAV P s fn.results.toList = some xs) :
    ∃ v, (results fn a.tmps).run P w = .ok v w ∧ RV C ρ τ v (one xs) := by
  obtain ⟨vs, hvs, hl, hr⟩ := resAV_run h _ _ hx
  have hm : (fn.results.mapM (resRun a)).run P w = .ok vs.toArray w := by
    rw [Array.mapM_eq_mapM_toList]
    simp only [Sem.run_map, hvs]
    rfl
  have hres : (results fn a.tmps).run P w = .ok (if h : vs.toArray.size = 1 then vs.toArray[0] else .tuple vs.toArray) w := by
    have e : results fn a.tmps = (do let vs ← fn.results.mapM (resRun a); pure (if h : vs.size = 1 then vs[0] else .tuple vs)) := by
      unfold results
      congr 1
    rw [e, Sem.run_bind, hm]
    rfl
  refine ⟨_, hres, ?_⟩
  by_cases h1 : vs.length = 1
  · match vs, xs, hl, hr, h1 with
    | [v], [x], _, hr, _ => exact hr 0 v x rfl rfl
  · have : one xs = .tup xs := by
      match xs, hl with
      | [], _ => rfl
      | [x], hl => exact absurd hl h1
      | _ :: _ :: _, _ => rfl
    rw [this]
    simp only [List.size_toArray, h1, dite_false]
    exact .tup _ _ (by simpa using hl) (fun i v x hv hx => hr i v x (by simpa using hv) hx)

/-- All that never turns any more, once the call is over: its boxes too. -/
noncomputable def endC (C : CMap) (ρ : RMap) (s : St) (w : World) : CMap := fun b o => match C b o with
  | some v => some v
  | none => open Classical in if ∃ k B, s.b k = some B ∧ ρ k = some b then w.cell? ⟨b, o, none⟩ else none

theorem endC_ge (b o : Nat) (v : Value) (h : C b o = some v) : endC C ρ s w b o = some v := by simp [endC, h]
theorem endC_cases {b o : Nat} {v : Value} (h : endC C ρ s w b o = some v) : C b o = some v ∨ (∃ k B, s.b k = some B ∧ ρ k = some b) ∧ w.cell? ⟨b, o, none⟩ = some v := by
  unfold endC at h
  split at h
  · rename_i u hu; exact .inl (hu.trans h)
  · split at h
    · rename_i hk; exact .inr ⟨hk, h⟩
    · cases h
theorem endC_box (h : RepG N w0 C0 E s a w C ρ τ) {k : Key} {B : Box} {b : Nat} (hB : s.b k = some B) (hρ : ρ k = some b) {cs : Array Value} {ty : TypeId} (hh : w.heap[b]? = some (.cells cs ty (0, 0))) {o : Nat} {v : Value} (hv : cs[o]? = some v) :
    endC C ρ s w b o = some v := by
  have hcell : w.cell? ⟨b, o, none⟩ = some v := by simp only [World.cell?, hh]; exact hv
  cases hc : C b o with
  | some u =>
    have := (h.cw _ _ _ hc).1
    rw [hcell] at this
    cases this
    exact endC_ge _ _ _ hc
  | none =>
    simp only [endC, hc]
    rw [if_pos ⟨k, B, hB, hρ⟩]
    exact hcell

theorem flat_get {sz : Nat} : ∀ (ys : List (List AV)), (∀ y ∈ ys, y.length = sz) → ∀ (i j : Nat) (y : List AV) (x : AV), ys[i]? = some y → y[j]? = some x → ys.flatten[i * sz + j]? = some x
  | [], _, i, j, y, x, hy, _ => by simp at hy
  | z :: ys, hl, i, j, y, x, hy, hx => by
    have hz : z.length = sz := hl z (List.mem_cons_self ..)
    rw [List.flatten_cons]
    cases i with
    | zero =>
      simp at hy
      subst hy
      have hj : j < z.length := (List.getElem?_eq_some_iff.1 hx).1
      rw [Nat.zero_mul, Nat.zero_add, List.getElem?_append_left hj]
      exact hx
    | succ i =>
      have e : (i + 1) * sz + j = z.length + (i * sz + j) := by rw [hz, Nat.add_mul]; omega
      rw [e, List.getElem?_append_right (by omega), show z.length + (i * sz + j) - z.length = i * sz + j by omega]
      exact flat_get ys (fun y hy => hl y (List.mem_cons_of_mem _ hy)) i j y x (by simpa using hy) hx

theorem fin0_rv (h : RepG N w0 C0 E s a w C ρ τ) {v : Value} {x r : AV} (hv : RV C ρ τ v x) (hf : fin0 s x r) : RV (endC C ρ s w) noρ noτ v r := by
  rcases hf with ⟨hc, rfl⟩ | ⟨k, n, sz, ys, B, rfl, rfl, hB, hBc, hn, hys, hcl⟩
  · exact (clean_rv (fgt_rv hv) hc).mono endC_ge (fun _ _ h => h) (fun _ _ h => h)
  · obtain ⟨b, c, rfl, hρ, hnc, hcm⟩ := rv_sl hv
    obtain ⟨cs, ty, g1, g2, g3, g4⟩ := box_cells h hB hρ
    refine .list _ _ .no _ n c (fun i j => cs.getD (i * sz + j) undef) hn hnc hcm ?_ ?_ trivial
    · intro i y hy
      refine ⟨hys y (List.mem_of_getElem? hy), b, 0, rfl, fun j hj => ?_⟩
      have hlen : y.length = sz := hys y (List.mem_of_getElem? hy)
      have hx := flat_get ys hys i j y (y[j]'(by omega)) hy (by simp)
      rw [← hBc] at hx
      have hlt : i * sz + j < cs.size := by rw [g2]; exact (List.getElem?_eq_some_iff.1 hx).1
      refine endC_box h hB hρ g1 ?_
      rw [Nat.zero_add]
      simp [hlt]
    · intro i y j x hy hx
      have hx2 := flat_get ys hys i j y x hy hx
      rw [← hBc] at hx2
      have hlt : i * sz + j < cs.size := by rw [g2]; exact (List.getElem?_eq_some_iff.1 hx2).1
      have hu : cs[i * sz + j]? = some (cs.getD (i * sz + j) undef) := by simp [hlt]
      exact (clean_rv (g4 _ _ _ hu hx2) (hcl x (List.mem_of_getElem? hx2))).mono endC_ge (fun _ _ h => h) (fun _ _ h => h)

theorem fin1_rv (h : RepG N w0 C0 E s a w C ρ τ) {v : Value} {x r : AV} (hv : RV C ρ τ v x) (hf : fin1 s x r) : RV (endC C ρ s w) noρ noτ v r := by
  cases hf with
  | one _ _ hf => exact fin0_rv h hv hf
  | agg l m hl hf =>
    obtain ⟨cs, rfl, h1, h2, h3⟩ := rv_agg hv
    refine .agg _ _ (by omega) (fun i u y hu hy => ?_) h3
    have hi : i < l.length := by rw [hl]; exact (List.getElem?_eq_some_iff.1 hy).1
    exact fin0_rv h (h2 i u l[i] hu (by simp [hi])) (hf i l[i] y (by simp [hi]) hy)

theorem fin_rv (h : RepG N w0 C0 E s a w C ρ τ) {v : Value} {x r : AV} (hv : RV C ρ τ v x) (hf : fin s x r) : RV (endC C ρ s w) noρ noτ v r := by
  cases hf with
  | one _ _ hf => exact fin1_rv h hv hf
  | tup l m hl hf =>
    obtain ⟨cs, rfl, h1, h2⟩ := rv_tup hv
    refine .tup _ _ (by omega) (fun i u y hu hy => ?_)
    have hi : i < l.length := by rw [hl]; exact (List.getElem?_eq_some_iff.1 hy).1
    exact fin1_rv h (h2 i u l[i] hu (by simp [hi])) (hf i l[i] y (by simp [hi]) hy)

theorem s0_rep {args : List AV} {vs : Array Value} {w : World} (hC : CW C w) (hl : vs.size = args.length) (hv : ∀ (i : Nat) (v : Value) (x : AV), vs[i]? = some v → args[i]? = some x → RV C noρ noτ v x) (hN : args.length ≤ N) :
    RepG N w C EX.none (s0 args) { tmps := vs ++ Array.replicate (N - vs.size) undef, defers := [] } w C noρ noτ :=
  { df := rfl
    sz := by simp; omega
    tm := by
      intro t
      simp only [s0]
      by_cases ht : t < args.length
      · have h1 : t < vs.size := by omega
        rw [Array.getD_eq_getD_getElem?, Array.getElem?_append_left h1]
        simp only [List.getD, List.getElem?_eq_getElem ht, Option.getD_some, Array.getElem?_eq_getElem h1]
        exact hv t _ _ (by simp [h1]) (by simp [ht])
      · rw [List.getD, List.getElem?_eq_none (by omega)]
        exact .any _
    cw := hC
    c0 := fun _ _ _ h => h
    c1 := fun _ _ _ _ h => .inl h
    bx := fun k B h => by simp [s0] at h
    bj := fun k k' B B' b h => by simp [s0] at h
    tk := fun k v n h => by cases h
    tj := fun k k' v v' n n' b h => by cases h
    fρ := fun k b h => by cases h
    fτ := fun k b h => by cases h
    fo := fun k b h => by cases h
    fr := ⟨rfl, rfl, rfl, Nat.le_refl _, fun _ _ _ => rfl⟩ }

theorem con_of {D : List Ap → Array Oper → Bool} (hD : DOK P D) {X : Hints} {f : FuncId} {fn : Func} {c : Code} {rs : List ResultVar} {args : List AV} {r : AV} (hf : P.funcs[f]? = some fn) (hname : (fn.name == "runtime.NumGoroutine") = false) (hb : fn.body = some c)
    (hrs : fn.results.toList = rs) (hN : (dstOK fn.ntmps c && draws D X c && decide (args.length ≤ fn.ntmps)) = true) (h : acode P X c (retQ P rs r) (s0 args)) : Con P f args 0 r := by
  refine ⟨enters_of hf hname hb, ?_⟩
  intro C w vs hC hl hv
  rw [Bool.and_eq_true] at hN
  refine calls_of_wp hf hb (acode_sound (N := fn.ntmps) (w0 := w) (C0 := C) (E := EX.none) hD c _ _ _ _ _ hN.1 ?_ h ⟨C, noρ, noτ, s0_rep hC hl hv (of_decide_eq_true hN.2)⟩)
  intro e s' a' w' hq hr
  obtain ⟨C', ρ', τ', hr⟩ := hr
  have main : (∃ xs, resAV P s' rs = some xs ∧ fin s' (one xs) r) → a'.defers = [] ∧ ∃ v, (results fn a'.tmps).run P w' = .ok v w' ∧
      ∃ v1 C' τ', Ending.returned v = .returned v1 ∧ Below w.heap.size w w' ∧ (∀ b o v, C b o = some v → C' b o = some v) ∧ (∀ b o v, C' b o = some v → C b o = some v ∨ w.heap.size ≤ b) ∧
      CW C' w' ∧ RV C' noρ τ' v1 r ∧ Toks C' w' τ' 0 w.heap.size := by
    rintro ⟨xs, hxs, hfin⟩
    obtain ⟨v, hrun, hv⟩ := results_run (P := P) (fn := fn) hr (by rw [hrs]; exact hxs)
    refine ⟨hr.df, v, hrun, v, endC C' ρ' s' w', noτ, rfl, ⟨hr.fr.os, hr.fr.tape, hr.fr.output, hr.fr.size, fun k hk => hr.fr.block k hk id⟩, fun b o v h => endC_ge _ _ _ (hr.c0 _ _ _ h), ?_, ?_, fin_rv hr hv hfin, toks_none⟩
    · intro b o v h
      rcases endC_cases h with h | ⟨⟨k, B, hB, hρ⟩, _⟩
      · rcases Nat.lt_or_ge b w.heap.size with hlt | hge
        · exact (hr.c1 _ _ _ hlt h).imp_right fun h => h.elim
        · exact .inr hge
      · obtain ⟨b', hρ', _, hb'⟩ := hr.bx k B hB
        rw [hρ] at hρ'
        cases hρ'
        exact .inr (hb'.resolve_right id)
    · intro b o v h
      rcases endC_cases h with h | ⟨⟨k, B, hB, hρ⟩, hc⟩
      · exact hr.cw _ _ _ h
      · refine ⟨hc, ?_⟩
        obtain ⟨cs, ty, g1, g2, g3, g4⟩ := box_cells hr hB hρ
        simp only [World.cell?, g1] at hc
        exact g3 o v hc
  cases e with
  | ret => exact main hq
  | normal => exact main hq
  | _ => exact hq.elim

/-! ### Functions that turn their receiver -/
def s1 (args pre : List AV) (x : AV) : St :=
  { t := fun u => if u = 0 then .box (0, 0, 0) 0 else args.getD (u - 1) .any
    b := fun k => if k = (0, 0, 0) then some ⟨pre ++ [x], false⟩ else none
    d := fun _ => false
    g := fun u => if u = 0 then 1 else 0 }

def retE (P : Program) (rs : List ResultVar) (r : AV) (pre : List AV) (x : AV) : Exit → St → Prop
  | .ret, s | .normal, s => (∃ xs, resAV P s rs = some xs ∧ (r = .any ∨ (cleanV (fgtV (one xs)) = true ∧ r = fgtV (one xs)))) ∧
      ∃ y, s.b (0, 0, 0) = some ⟨pre ++ [y], false⟩ ∧ pre.all clean = true ∧ lastOK s y = true ∧ x = canonX y
  | _, _ => False

theorem s1_rep {args pre : List AV} {x : AV} {b : Nat} {τ : TMap} {vs : Array Value} {w : World} (hC : CW C w) (hB : BoxC C τ w b pre x) (hT : Tok1 C w τ (fun b' => b' ≠ b)) (hl : vs.size = args.length)
    (hv : ∀ (i : Nat) (v : Value) (x : AV), vs[i]? = some v → args[i]? = some x → RV C noρ noτ v x) (hN : args.length + 1 ≤ N) :
    RepG N w C ⟨fun i => i = b ∨ tb τ i, fun k => if k = (0, 0, 0) then some b else none⟩ (s1 args pre x)
      { tmps := (#[Value.pointer (some ⟨b, 0, none⟩)] ++ vs) ++ Array.replicate (N - (#[Value.pointer (some ⟨b, 0, none⟩)] ++ vs).size) undef, defers := [] } w C (fun k => if k = (0, 0, 0) then some b else none) τ := by
  have hk0 : ∀ k B, (s1 args pre x).b k = some B → k = (0, 0, 0) ∧ B = ⟨pre ++ [x], false⟩ := by
    intro k B h
    simp only [s1] at h
    split at h
    · cases h; exact ⟨by assumption, rfl⟩
    · cases h
  have hρ0 : ∀ (k : Key) (b' : Nat), (if k = (0, 0, 0) then some b else none) = some b' → k = (0, 0, 0) ∧ b' = b := by
    intro k b' h
    split at h
    · cases h; exact ⟨by assumption, rfl⟩
    · cases h
  exact
  { df := rfl
    sz := by simp; omega
    tm := by
      intro t
      cases t with
      | zero => simpa [s1, Array.getElem?_append] using RV.box (0, 0, 0) b 0 (if_pos rfl)
      | succ t =>
        simp only [s1, Nat.add_one_ne_zero, if_false, Nat.add_sub_cancel]
        by_cases ht : t < args.length
        · have h1 : t < vs.size := by omega
          have e : (#[Value.pointer (some ⟨b, 0, none⟩)] ++ vs ++ Array.replicate (N - (#[Value.pointer (some ⟨b, 0, none⟩)] ++ vs).size) undef).getD (t + 1) undef = vs[t] := by
            rw [Array.getD_eq_getD_getElem?, Array.getElem?_append_left (by simp; omega), Array.getElem?_append_right (by simp)]
            simp [h1]
          rw [e]
          simp only [List.getD, List.getElem?_eq_getElem ht, Option.getD_some]
          exact (hv t _ _ (by simp [h1]) (by simp [ht])).lift _ _
        · rw [List.getD, List.getElem?_eq_none (by omega)]
          exact .any _
    cw := hC
    c0 := fun _ _ _ h => h
    c1 := fun _ _ _ _ h => .inl h
    bx := by
      intro k B h
      obtain ⟨rfl, rfl⟩ := hk0 k B h
      obtain ⟨⟨cs, ty, g1, g2, g3, g4, g5⟩, g6⟩ := hB
      refine ⟨b, if_pos rfl, ⟨⟨cs, ty, g1, by simpa using g2, g3, ?_, fun hz => by cases hz⟩, fun _ => g6⟩, .inr (.inl rfl)⟩
      intro i u y hu hy
      rcases Nat.lt_or_ge i pre.length with hi | hi
      · rw [List.getElem?_append_left hi] at hy
        exact (g4 i u y hu hy).lift _ _
      · simp only [List.getElem?_append_right hi] at hy
        have : i = pre.length := by
          have := (List.getElem?_eq_some_iff.1 hy).1
          simp at this; omega
        subst this
        simp at hy
        subst hy
        exact (g5 u hu).mono (fun _ _ _ h => h) (fun _ _ h => by cases h) (fun _ _ h => h)
    bj := fun k k' B B' b' h h' _ _ => (hk0 k B h).1.trans (hk0 k' B' h').1.symm
    tk := by
      intro k v n hk _
      obtain ⟨A, n', c, rfl, gg⟩ := hT.w k v n hk
      refine ⟨A, n', c, rfl, ?_⟩
      rcases gg with gg | ⟨b', cs, ty, hA, q1, q2, q3, q4, q5, q6⟩
      · exact .inl gg
      · by_cases hc0 : c = 0
        · exact .inl hc0
        refine .inr ⟨b', cs, ty, hA, q1, q2, q3, q4, q5, .inr (.inr ?_), fun k2 B2 _ hh => q6 (hρ0 _ _ hh).2⟩
        have := hT.k _ _ hk
        subst this
        exact ⟨_, _, hk, by subst hA; simp [blk, hc0]⟩
    tj := fun k k' v v' n n' b' h h' _ _ _ _ => (hT.k _ _ h).trans (hT.k _ _ h').symm
    fρ := by
      intro k b' h
      obtain ⟨rfl, _⟩ := hρ0 _ _ h
      simp [s1]
    fτ := by
      intro k y h
      have := hT.k _ _ h
      subst this
      simp [s1]
    fo := fun k b' h => h
    fr := ⟨rfl, rfl, rfl, Nat.le_refl _, fun _ _ _ => rfl⟩ }

theorem econ_of {D : List Ap → Array Oper → Bool} (hD : DOK P D) {X : Hints} {f : FuncId} {fn : Func} {c : Code} {rs : List ResultVar} {args pre pre' : List AV} {x x' r : AV} (hf : P.funcs[f]? = some fn) (hname : (fn.name == "runtime.NumGoroutine") = false) (hb : fn.body = some c)
    (hrs : fn.results.toList = rs) (hN : (dstOK fn.ntmps c && draws D X c && decide (args.length + 1 ≤ fn.ntmps)) = true) (h : acode P X c (retE P rs r pre' x') (s1 args pre x)) : ECon P f args pre x r pre' x' := by
  refine ⟨enters_of hf hname hb, ?_⟩
  intro C w b τ vs hC hB hT hl hv
  rw [Bool.and_eq_true] at hN
  have hb0 : b < w.heap.size := by
    obtain ⟨⟨cs, ty, g1, _⟩, _⟩ := hB
    exact heap_lt g1
  refine calls_of_wp hf hb (acode_sound (N := fn.ntmps) (w0 := w) (C0 := C) (E := ⟨fun i => i = b ∨ tb τ i, fun k => if k = (0, 0, 0) then some b else none⟩) hD c _ _ _ _ _ hN.1 ?_ h ⟨C, _, τ, s1_rep hC hB hT hl hv (of_decide_eq_true hN.2)⟩)
  intro e s' a' w' hq hr
  obtain ⟨C', ρ', τ', hr⟩ := hr
  have main : ((∃ xs, resAV P s' rs = some xs ∧ (r = .any ∨ (cleanV (fgtV (one xs)) = true ∧ r = fgtV (one xs)))) ∧
      ∃ y, s'.b (0, 0, 0) = some ⟨pre' ++ [y], false⟩ ∧ pre'.all clean = true ∧ lastOK s' y = true ∧ x' = canonX y) → a'.defers = [] ∧ ∃ v, (results fn a'.tmps).run P w' = .ok v w' ∧
      ∃ v1 C' τ', Ending.returned v = .returned v1 ∧ Fr w (fun i => i = b ∨ tb τ i) w' ∧ (∀ b o v, C b o = some v → C' b o = some v) ∧
      (∀ b' o v, C' b' o = some v → C b' o = some v ∨ w.heap.size ≤ b' ∨ tb τ b') ∧ CW C' w' ∧ BoxC C' τ' w' b pre' x' ∧ Tok1 C' w' τ' (fun b' => b' ≠ b ∧ (w.heap.size ≤ b' ∨ tb τ b')) ∧ RV C' noρ noτ v1 r := by
    rintro ⟨⟨xs, hxs, hfin⟩, y, hy, hpre, hyo, rfl⟩
    obtain ⟨v, hrun, hv⟩ := results_run (P := P) (fn := fn) hr (by rw [hrs]; exact hxs)
    have hρ : ρ' (0, 0, 0) = some b := hr.fo (0, 0, 0) b (show (if ((0, 0, 0) : Key) = (0, 0, 0) then some b else none) = some b from if_pos rfl)
    obtain ⟨b', hρ', ⟨⟨cs, ty, g1, g2, g3, g4, _⟩, g6⟩, g7⟩ := hr.bx _ _ hy
    rw [hρ] at hρ'
    cases hρ'
    have hlt : pre'.length < cs.size := by rw [g2]; simp
    have hvy : RV C' ρ' τ' cs[pre'.length] y := g4 pre'.length _ y (by simp [hlt]) (by simp)
    let τ1 : TMap := fun k' => if k' = (0, 0, 0) then tkVal τ' cs[pre'.length] y else none
    have hτ1 : τ1 (0, 0, 0) = tkVal τ' cs[pre'.length] y := if_pos rfl
    have hτk : ∀ k v m, τ1 k = some (v, m) → k = (0, 0, 0) ∧ ((∃ A, v = .slice A 0 0) ∨ ∃ k', lastKey y = some k' ∧ τ' k' = some (v, m)) := by
      intro k v m hk
      by_cases hh : k = (0, 0, 0)
      · subst hh
        rw [hτ1] at hk
        exact ⟨rfl, tkVal_cases hvy hk⟩
      · simp only [τ1, if_neg hh] at hk; cases hk
    have hlive : ∀ k', lastKey y = some k' → s'.d k' = false := by
      intro k' hk'
      cases y with
      | list sz ys tk =>
        cases tk with
        | own k2 => simp [lastKey, tokKey] at hk'; subst hk'; simpa [lastOK] using hyo
        | _ => simp [lastKey, tokKey] at hk'
      | _ => simp [lastKey] at hk'
    refine ⟨hr.df, v, hrun, v, C', τ1, rfl, hr.fr, fun b o v h => hr.c0 _ _ _ h, ?_, hr.cw, ⟨⟨cs, ty, g1, by simpa using g2, g3, ?_, ?_⟩, g6 rfl⟩, ⟨fun k x hk => (hτk k x.1 x.2 hk).1, ?_⟩, ?_⟩
    · intro b' o v h
      rcases Nat.lt_or_ge b' w.heap.size with hlt | hge
      · rcases hr.c1 _ _ _ hlt h with hh | hh
        · exact .inl hh
        · rcases hh with hh | hh
          · subst hh
            rw [g6 rfl o] at h; cases h
          · exact .inr (.inr hh)
      · exact .inr (.inl hge)
    · intro i v z hv hz
      have hi := (List.getElem?_eq_some_iff.1 hz).1
      exact clean_rv (g4 i v z hv (by rw [List.getElem?_append_left hi]; exact hz)) (List.all_eq_true.1 hpre z (List.mem_of_getElem? hz))
    · intro v hv
      have hv' : v = cs[pre'.length] := by simp [hlt] at hv; exact hv.symm
      subst hv'
      exact canon_rv hvy hyo τ1 hτ1
    · intro k v m hk
      rcases (hτk _ _ _ hk).2 with ⟨A, rfl⟩ | ⟨k', h1, h2⟩
      · exact ⟨A, 0, 0, rfl, .inl rfl⟩
      obtain ⟨A, n, c, rfl, gg⟩ := hr.tk k' v m h2 (hlive _ h1)
      refine ⟨A, n, c, rfl, ?_⟩
      rcases gg with gg | ⟨b', cs', ty', hA, q1, q2, q3, q4, q5, q6, q7⟩
      · exact .inl gg
      · have hbb : b' ≠ b := fun hh => q7 _ _ hy (hh ▸ hρ)
        refine .inr ⟨b', cs', ty', hA, q1, q2, q3, q4, q5, hbb, ?_⟩
        rcases q6 with q6 | q6 | q6
        · exact .inl q6
        · exact absurd q6 hbb
        · exact .inr q6
    · rcases hfin with rfl | ⟨h1, rfl⟩
      · exact .any _
      · exact cleanV_rv (fgtV_rv hv) h1
  cases e with
  | ret => exact main hq
  | normal => exact main hq
  | _ => exact hq.elim

end Go.Sy
