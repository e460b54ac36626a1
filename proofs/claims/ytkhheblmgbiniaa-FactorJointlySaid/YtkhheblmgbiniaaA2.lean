/- How a machine state that bears abstract values goes on doing so when the world grows, or one of its own blocks is written. -/
import Derived.Test.YtkhheblmgbiniaaA1
namespace Go.Sy
open Go Go.RowKit

def St.set (s : St) (d : Nat) (x : AV) : St := { s with t := upd s.t d x }

variable {N : Nat} {w0 : World} {C0 : CMap} {E : EX} {s : St} {a : Act} {w : World} {C : CMap} {ρ : RMap} {τ : TMap}

theorem RepG.set (h : RepG N w0 C0 E s a w C ρ τ) (d : Nat) (hd : d < N) {v : Value} {x : AV} (hv : RV C ρ τ v x) : RepG N w0 C0 E (s.set d x) (a.put (some d) v) w C ρ τ :=
  { h with
    sz := by simp [Act.put, h.sz]
    tm := by
      intro t
      have hs := h.sz
      simp only [Act.put, Array.getD_eq_getD_getElem?, Array.getElem?_setIfInBounds]
      simp only [St.set, upd_at]
      by_cases e : d = t
      · subst e
        rw [if_pos rfl, if_pos (by omega)]
        simpa using hv
      · rw [if_neg e, if_neg (fun e' => e e'.symm)]
        have := h.tm t
        simpa only [Array.getD_eq_getD_getElem?] using this }

theorem cell_lt {w : World} {b o : Nat} {v : Value} (h : w.cell? ⟨b, o, none⟩ = some v) : b < w.heap.size := World.block_lt_of_cell? w ⟨b, o, none⟩ h
theorem heap_lt {w : World} {b : Nat} {x : Obj} (h : w.heap[b]? = some x) : b < w.heap.size := (Array.getElem?_eq_some_iff.1 h).1

theorem Fr.trans {w1 : World} (h : Fr w0 E.f w) (hb : Below w.heap.size w w1) : Fr w0 E.f w1 :=
  ⟨hb.os.trans h.os, hb.tape.trans h.tape, hb.output.trans h.output, Nat.le_trans h.size hb.size, fun i hi hE => (hb.block i (Nat.lt_of_lt_of_le hi h.size)).trans (h.block i hi hE)⟩

theorem RepG.grow (h : RepG N w0 C0 E s a w C ρ τ) {w1 : World} (hb : Below w.heap.size w w1) {C1 : CMap} (hC : ∀ b o v, C b o = some v → C1 b o = some v)
    (hn : ∀ b o v, C1 b o = some v → C b o = some v ∨ w.heap.size ≤ b) (hcw : ∀ b o v, w.heap.size ≤ b → C1 b o = some v → w1.cell? ⟨b, o, none⟩ = some v ∧ v.oneCell' = true) :
    RepG N w0 C0 E s a w1 C1 ρ τ := by
  have mono : ∀ {v : Value} {x : AV}, RV C ρ τ v x → RV C1 ρ τ v x := fun hv => hv.mono hC (fun _ _ h => h) (fun _ _ h => h)
  have old : ∀ {b : Nat} {x : Obj}, w.heap[b]? = some x → w1.heap[b]? = some x := fun hx => (hb.block _ (heap_lt hx)).trans hx
  have nocell : ∀ {b : Nat} {x : Obj}, w.heap[b]? = some x → ∀ o, C b o = none → C1 b o = none := by
    intro b x hx o ho
    cases hc : C1 b o with
    | none => rfl
    | some v =>
      rcases hn _ _ _ hc with h1 | h1
      · rw [ho] at h1; cases h1
      · have := heap_lt hx; omega
  exact {
    df := h.df
    sz := h.sz
    tm := fun t => mono (h.tm t)
    cw := by
      intro b o v hv
      rcases hn _ _ _ hv with h1 | h1
      · obtain ⟨h2, h3⟩ := h.cw _ _ _ h1
        exact ⟨(World.cell?_of_block (w := w) (a := ⟨b, o, none⟩) (hb.block b (cell_lt h2))).trans h2, h3⟩
      · exact hcw _ _ _ h1 hv
    c0 := fun b o v hv => hC _ _ _ (h.c0 _ _ _ hv)
    c1 := by
      intro b o v hlt hv
      rcases hn _ _ _ hv with h1 | h1
      · exact h.c1 _ _ _ hlt h1
      · have := h.fr.size; omega
    bx := by
      intro k B hk
      obtain ⟨b, hρ, ⟨⟨cs, ty, h1, h2, h3, h4, h5⟩, h6⟩, h7⟩ := h.bx k B hk
      exact ⟨b, hρ, ⟨⟨cs, ty, old h1, h2, h3, fun i v x hv hx => mono (h4 i v x hv hx), fun hz i v hv => hC _ _ _ (h5 hz i v hv)⟩, fun hz o => nocell h1 o (h6 hz o)⟩, h7⟩
    bj := h.bj
    tk := by
      intro k v n hk hd
      obtain ⟨A, n', c, rfl, h1⟩ := h.tk k v n hk hd
      refine ⟨A, n', c, rfl, ?_⟩
      rcases h1 with h1 | ⟨b, cs, ty, hA, h2, h3, h4, h5, h6, h7⟩
      · exact .inl h1
      · exact .inr ⟨b, cs, ty, hA, old h2, h3, h4, h5, fun o ho => nocell h2 o (h6 o ho), h7⟩
    tj := h.tj
    fρ := h.fρ
    fτ := h.fτ
    fo := h.fo
    fr := h.fr.trans hb }

/-- Nothing but draws, or blocks that nobody reads. -/
theorem RepG.same (h : RepG N w0 C0 E s a w C ρ τ) {w1 : World} (hb : Below w.heap.size w w1) : RepG N w0 C0 E s a w1 C ρ τ :=
  h.grow hb (fun _ _ _ h => h) (fun _ _ _ h => .inl h) (fun b o v hl hv => by have := cell_lt (h.cw b o v hv).1; omega)

theorem blk_cap {A : Option Addr} {n c b : Nat} (h : blk (.slice A n c) = some b) : c ≠ 0 ∧ ∃ ad, A = some ad ∧ ad.block = b := by
  cases A with
  | none => simp [blk] at h
  | some ad =>
    simp only [blk] at h
    split at h
    · cases h
    · cases h; exact ⟨by assumption, ad, rfl, rfl⟩

theorem RepG.addbox (h : RepG N w0 C0 E s a w C ρ τ) (k : Key) (hk : s.g k.1 ≤ k.2.1) {b : Nat} {cs : Array Value} {ty : TypeId} (l : List AV)
    (hblk : w.heap[b]? = some (.cells cs ty (0, 0))) (hl : cs.size = l.length) (h1 : ∀ (i : Nat) (v : Value), cs[i]? = some v → v.oneCell' = true)
    (hv : ∀ (i : Nat) (v : Value) (x : AV), cs[i]? = some v → l[i]? = some x → RV C ρ τ v x) (hC : ∀ o, C b o = none) (hb0 : w0.heap.size ≤ b)
    (hnb : ∀ k' B, s.b k' = some B → ρ k' ≠ some b) (hnt : ∀ k v n, τ k = some (v, n) → s.d k = false → blk v ≠ some b) :
    RepG N w0 C0 E { s with b := upd s.b k (some ⟨l, false⟩), g := upd s.g k.1 (k.2.1 + 1) } a w C (upd ρ k (some b)) τ := by
  have hρk : ρ k = none := by
    cases e : ρ k with
    | none => rfl
    | some x => have := h.fρ _ _ e; omega
  have up : ∀ k' b', ρ k' = some b' → upd ρ k (some b) k' = some b' := by
    intro k' b' e
    rw [upd_at]
    split
    · rename_i hkk; subst hkk; rw [hρk] at e; cases e
    · exact e
  have mono : ∀ {v : Value} {x : AV}, RV C ρ τ v x → RV C (upd ρ k (some b)) τ v x := fun hv => hv.mono (fun _ _ _ h => h) up (fun _ _ h => h)
  have gup : ∀ (k' : Key), k'.2.1 < s.g k'.1 → k'.2.1 < upd s.g k.1 (k.2.1 + 1) k'.1 := by
    intro k' hlt
    rw [upd_at]
    split
    · rename_i e; rw [e] at hlt; omega
    · exact hlt
  exact { h with
    tm := fun t => mono (h.tm t)
    bx := by
      intro k' B hB
      simp only [upd_at] at hB
      by_cases e : k' = k
      · subst e
        rw [if_pos rfl] at hB
        cases hB
        exact ⟨b, by simp [upd], ⟨⟨cs, ty, hblk, hl, h1, fun i v x hc hx => mono (hv i v x hc hx), fun hz => by cases hz⟩, fun _ => hC⟩, .inl hb0⟩
      · rw [if_neg e] at hB
        obtain ⟨b', hρ, ⟨⟨cs, ty, g1, g2, g3, g4, g5⟩, g6⟩, g7⟩ := h.bx k' B hB
        exact ⟨b', up _ _ hρ, ⟨⟨cs, ty, g1, g2, g3, fun i v x hc hx => mono (g4 i v x hc hx), g5⟩, g6⟩, g7⟩
    bj := by
      intro k1 k2 B1 B2 b' e1 e2 r1 r2
      simp only [upd_at] at e1 e2 r1 r2
      by_cases c1 : k1 = k
      · by_cases c2 : k2 = k
        · rw [c1, c2]
        · rw [if_pos c1] at r1; rw [if_neg c2] at r2 e2; cases r1
          exact absurd r2 (hnb _ _ e2)
      · by_cases c2 : k2 = k
        · rw [if_pos c2] at r2; rw [if_neg c1] at r1 e1; cases r2
          exact absurd r1 (hnb _ _ e1)
        · rw [if_neg c1] at r1 e1; rw [if_neg c2] at r2 e2
          exact h.bj _ _ _ _ _ e1 e2 r1 r2
    tk := by
      intro k' v n hk' hd
      obtain ⟨A, n', c, rfl, g1⟩ := h.tk k' v n hk' hd
      refine ⟨A, n', c, rfl, ?_⟩
      rcases g1 with g1 | ⟨b', cs, ty, hA, g2, g3, g4, g5, g6, g7, g8⟩
      · exact .inl g1
      · by_cases hc : c = 0
        · exact .inl hc
        · refine .inr ⟨b', cs, ty, hA, g2, g3, g4, g5, g6, g7, ?_⟩
          intro k2 B hB hr
          simp only [upd_at] at hB hr
          by_cases e : k2 = k
          · rw [if_pos e] at hr; cases hr
            exact hnt _ _ _ hk' hd (by subst hA; simp [blk, hc])
          · rw [if_neg e] at hB hr; exact g8 _ _ hB hr
    fρ := by
      intro k' b' e
      simp only [upd_at] at e
      by_cases c : k' = k
      · subst c; simp [upd]
      · rw [if_neg c] at e; exact gup _ (h.fρ _ _ e)
    fo := fun k' b' e => up _ _ (h.fo _ _ e)
    fτ := fun k' x e => gup _ (h.fτ _ _ e) }

theorem RepG.addtok (h : RepG N w0 C0 E s a w C ρ τ) (k : Key) (hk : s.g k.1 ≤ k.2.1) {v : Value} {n : Nat}
    (ht : TokW C w v n (fun b => (w0.heap.size ≤ b ∨ E b) ∧ ∀ k' B, s.b k' = some B → ρ k' ≠ some b))
    (hnt : ∀ k' v' n' b, τ k' = some (v', n') → s.d k' = false → blk v = some b → blk v' ≠ some b) :
    RepG N w0 C0 E { s with d := upd s.d k false, g := upd s.g k.1 (k.2.1 + 1) } a w C ρ (upd τ k (some (v, n))) := by
  have hτk : τ k = none := by
    cases e : τ k with
    | none => rfl
    | some x => have := h.fτ _ _ e; omega
  have up : ∀ k' x, τ k' = some x → upd τ k (some (v, n)) k' = some x := by
    intro k' x e
    rw [upd_at]
    split
    · rename_i hkk; subst hkk; rw [hτk] at e; cases e
    · exact e
  have mono : ∀ {v' : Value} {x : AV}, RV C ρ τ v' x → RV C ρ (upd τ k (some (v, n))) v' x := fun hv => hv.mono (fun _ _ _ h => h) (fun _ _ h => h) up
  have gup : ∀ (k' : Key), k'.2.1 < s.g k'.1 → k'.2.1 < upd s.g k.1 (k.2.1 + 1) k'.1 := by
    intro k' hlt
    rw [upd_at]
    split
    · rename_i e; rw [e] at hlt; omega
    · exact hlt
  exact { h with
    tm := fun t => mono (h.tm t)
    bx := by
      intro k' B hB
      obtain ⟨b', hρ, ⟨⟨cs, ty, g1, g2, g3, g4, g5⟩, g6⟩, g7⟩ := h.bx k' B hB
      exact ⟨b', hρ, ⟨⟨cs, ty, g1, g2, g3, fun i v x hc hx => mono (g4 i v x hc hx), g5⟩, g6⟩, g7⟩
    tk := by
      intro k' v' n' hk' hd
      simp only [upd_at] at hk' hd
      by_cases c : k' = k
      · rw [if_pos c] at hk'; cases hk'; exact ht
      · rw [if_neg c] at hk' hd; exact h.tk _ _ _ hk' hd
    tj := by
      intro k1 k2 v1 v2 n1 n2 b e1 e2 d1 d2 r1 r2
      simp only [upd_at] at e1 e2 d1 d2
      by_cases c1 : k1 = k
      · by_cases c2 : k2 = k
        · rw [c1, c2]
        · rw [if_pos c1] at e1; rw [if_neg c2] at e2 d2; cases e1
          exact absurd r2 (hnt _ _ _ _ e2 d2 r1)
      · by_cases c2 : k2 = k
        · rw [if_pos c2] at e2; rw [if_neg c1] at e1 d1; cases e2
          exact absurd r1 (hnt _ _ _ _ e1 d1 r2)
        · rw [if_neg c1] at e1 d1; rw [if_neg c2] at e2 d2
          exact h.tj _ _ _ _ _ _ _ e1 e2 d1 d2 r1 r2
    fρ := fun k' x e => gup _ (h.fρ _ _ e)
    fτ := by
      intro k' x e
      simp only [upd_at] at e
      by_cases c : k' = k
      · subst c; simp [upd]
      · rw [if_neg c] at e; exact gup _ (h.fτ _ _ e) }

theorem RepG.kill (h : RepG N w0 C0 E s a w C ρ τ) (k : Key) : RepG N w0 C0 E { s with d := upd s.d k true } a w C ρ τ :=
  have low : ∀ k', upd s.d k true k' = false → s.d k' = false := by
    intro k' e
    rw [upd_at] at e
    split at e
    · cases e
    · exact e
  { h with
    tk := fun k' v n e d => h.tk k' v n e (low _ d)
    tj := fun k1 k2 v1 v2 n1 n2 b e1 e2 d1 d2 => h.tj k1 k2 v1 v2 n1 n2 b e1 e2 (low _ d1) (low _ d2) }

theorem Fr.setRow (h : Fr w0 E.f w) {b : Nat} (cs : Array Value) (hb : w0.heap.size ≤ b ∨ E b) : Fr w0 E.f (w.setRow b cs) :=
  ⟨h.os, h.tape, h.output, by simpa [World.setRow] using h.size, fun i hi hE => by
    rw [setRow_other w b i cs (fun e => by subst e; exact hb.elim (fun hb => absurd hi (by omega)) hE)]
    exact h.block i hi hE⟩

theorem RepG.store (h : RepG N w0 C0 E s a w C ρ τ) {k : Key} {l l1 : List AV} (hk : s.b k = some ⟨l, false⟩) {b : Nat} (hρ : ρ k = some b) {cs cs1 : Array Value} {ty : TypeId}
    (hblk : w.heap[b]? = some (.cells cs ty (0, 0))) (hl : cs1.size = l1.length) (h1 : ∀ (i : Nat) (v : Value), cs1[i]? = some v → v.oneCell' = true)
    (hv : ∀ (i : Nat) (v : Value) (x : AV), cs1[i]? = some v → l1[i]? = some x → RV C ρ τ v x) :
    RepG N w0 C0 E { s with b := upd s.b k (some ⟨l1, false⟩) } a (w.setRow b cs1) C ρ τ := by
  obtain ⟨b0, hρ0, ⟨_, hC⟩, hE⟩ := h.bx k _ hk
  rw [hρ] at hρ0; cases hρ0
  have hC := hC rfl
  have other : ∀ {b' : Nat}, b' ≠ b → (w.setRow b cs1).heap[b']? = w.heap[b']? := fun hne => setRow_other w b _ cs1 hne
  exact { h with
    cw := by
      intro b' o v hv'
      obtain ⟨g1, g2⟩ := h.cw b' o v hv'
      refine ⟨?_, g2⟩
      have hne : b' ≠ b := by rintro rfl; rw [hC] at hv'; cases hv'
      exact (World.cell?_of_block (w := w) (a := ⟨b', o, none⟩) (other hne)).trans g1
    bx := by
      intro k' B hB
      simp only [upd_at] at hB
      by_cases c : k' = k
      · subst c
        rw [if_pos rfl] at hB; cases hB
        exact ⟨b, hρ, ⟨⟨cs1, ty, setRow_heap w b cs cs1 ty (0, 0) hblk, hl, h1, hv, fun hz => by cases hz⟩, fun _ => hC⟩, hE⟩
      · rw [if_neg c] at hB
        obtain ⟨b', hρ', ⟨⟨cs, ty, g1, g2, g3, g4, g5⟩, g6⟩, g7⟩ := h.bx k' B hB
        have hne : b' ≠ b := by rintro rfl; exact c (h.bj _ _ _ _ _ hB hk hρ' hρ)
        exact ⟨b', hρ', ⟨⟨cs, ty, (other hne).trans g1, g2, g3, g4, g5⟩, g6⟩, g7⟩
    bj := by
      intro k1 k2 B1 B2 b' e1 e2 r1 r2
      simp only [upd_at] at e1 e2
      have f1 : ∃ B, s.b k1 = some B := by
        by_cases c : k1 = k
        · subst c; exact ⟨_, hk⟩
        · rw [if_neg c] at e1; exact ⟨_, e1⟩
      have f2 : ∃ B, s.b k2 = some B := by
        by_cases c : k2 = k
        · subst c; exact ⟨_, hk⟩
        · rw [if_neg c] at e2; exact ⟨_, e2⟩
      obtain ⟨_, f1⟩ := f1
      obtain ⟨_, f2⟩ := f2
      exact h.bj _ _ _ _ _ f1 f2 r1 r2
    tk := by
      intro k' v n e d
      obtain ⟨A, n', c, rfl, g1⟩ := h.tk k' v n e d
      refine ⟨A, n', c, rfl, ?_⟩
      rcases g1 with g1 | ⟨b', cs', ty', hA, g2, g3, g4, g5, g6, g7, g8⟩
      · exact .inl g1
      · have hne : b' ≠ b := by rintro rfl; exact g8 _ _ hk hρ
        refine .inr ⟨b', cs', ty', hA, (other hne).trans g2, g3, g4, g5, g6, g7, ?_⟩
        intro k2 B hB hr
        simp only [upd_at] at hB
        by_cases c : k2 = k
        · subst c; exact g8 _ _ hk hr
        · rw [if_neg c] at hB; exact g8 _ _ hB hr
    fr := h.fr.setRow cs1 hE }

end Go.Sy
