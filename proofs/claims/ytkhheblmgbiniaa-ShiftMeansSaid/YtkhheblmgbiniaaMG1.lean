/- The abstract values of a symbolic walk, and what it means that a machine state bears them. -/
import Derived.WalkKit
namespace Go.Sy
open Go

abbrev Key := Nat × Nat × Nat

inductive Tok where
  | no
  | nil
  | own (k : Key)

inductive AV where
  | any
  | v (v : Value)
  | agg (l : List AV)
  | tup (l : List AV)
  | list (sz : Nat) (xs : List (List AV)) (tk : Tok)
  | box (k : Key) (off : Nat)
  | ptr (l : List AV)
  | sl (k : Key) (n sz : Nat)
  | clo (f : FuncId) (caps : List AV)

abbrev CMap := Nat → Nat → Option Value
abbrev RMap := Key → Option Nat
abbrev TMap := Key → Option (Value × Nat)

def TokV (τ : TMap) (v : Value) (sz : Nat) : Tok → Prop
  | .no => True
  | .nil => ∃ A, v = .slice A 0 0
  | .own k => τ k = some (v, sz)

abbrev noρ : RMap := fun _ => none
abbrev noτ : TMap := fun _ => none

/-- A value bears an abstract value: C: the cells that never turn any more; ρ: the call's own boxes; τ: the slices that it may append to. -/
inductive RV (C : CMap) : RMap → TMap → Value → AV → Prop
  | any {ρ : RMap} {τ : TMap} (v : Value) : RV C ρ τ v .any
  | v {ρ : RMap} {τ : TMap} (v : Value) (h : v.oneCell' = true) : RV C ρ τ v (.v v)
  | agg {ρ : RMap} {τ : TMap} (cs : Array Value) (l : List AV) (hl : cs.size = l.length)
      (h : ∀ (i : Nat) (v : Value) (a : AV), cs[i]? = some v → l[i]? = some a → RV C ρ τ v a) (h1 : ∀ (i : Nat) (v : Value), cs[i]? = some v → v.oneCell' = true) : RV C ρ τ (.agg cs) (.agg l)
  | tup {ρ : RMap} {τ : TMap} (cs : Array Value) (l : List AV) (hl : cs.size = l.length)
      (h : ∀ (i : Nat) (v : Value) (a : AV), cs[i]? = some v → l[i]? = some a → RV C ρ τ v a) : RV C ρ τ (.tuple cs) (.tup l)
  | list {ρ : RMap} {τ : TMap} (sz : Nat) (xs : List (List AV)) (tk : Tok) (A : Option Addr) (n c : Nat) (cv : Nat → Nat → Value)
      (hn : xs.length = n) (hc : n ≤ c) (hm : c ≤ maxLen)
      (hcell : ∀ (i : Nat) (x : List AV), xs[i]? = some x → x.length = sz ∧ ∃ b o, A = some ⟨b, o, none⟩ ∧ ∀ j, j < sz → C b (o + i * sz + j) = some (cv i j))
      (hrv : ∀ (i : Nat) (x : List AV) (j : Nat) (a : AV), xs[i]? = some x → x[j]? = some a → RV C noρ noτ (cv i j) a)
      (htk : TokV τ (.slice A n c) sz tk) : RV C ρ τ (.slice A n c) (.list sz xs tk)
  | box {ρ : RMap} {τ : TMap} (k : Key) (b off : Nat) (h : ρ k = some b) : RV C ρ τ (.pointer (some ⟨b, off, none⟩)) (.box k off)
  | ptr {ρ : RMap} {τ : TMap} (b o : Nat) (l : List AV) (cv : Nat → Value) (h : ∀ j, j < l.length → C b (o + j) = some (cv j))
      (hr : ∀ (j : Nat) (a : AV), l[j]? = some a → RV C noρ noτ (cv j) a) : RV C ρ τ (.pointer (some ⟨b, o, none⟩)) (.ptr l)
  | sl {ρ : RMap} {τ : TMap} (k : Key) (b n c sz : Nat) (h : ρ k = some b) (hc : n ≤ c) (hm : c ≤ maxLen) : RV C ρ τ (.slice (some ⟨b, 0, none⟩) n c) (.sl k n sz)
  | clo {ρ : RMap} {τ : TMap} (f : FuncId) (cs : Array Value) (l : List AV) (hl : cs.size = l.length)
      (h : ∀ (i : Nat) (v : Value) (a : AV), cs[i]? = some v → l[i]? = some a → RV C noρ noτ v a) : RV C ρ τ (.func (.func f) #[] cs) (.clo f l)

theorem TokV.mono {τ τ' : TMap} (h : ∀ k x, τ k = some x → τ' k = some x) {v : Value} {sz : Nat} {tk : Tok} (ht : TokV τ v sz tk) : TokV τ' v sz tk := by
  cases tk with
  | no => trivial
  | nil => exact ht
  | own k => exact h _ _ ht

theorem RV.mono {C C' : CMap} {ρ ρ' : RMap} {τ τ' : TMap} (hC : ∀ b o v, C b o = some v → C' b o = some v) (hρ : ∀ k b, ρ k = some b → ρ' k = some b)
    (hτ : ∀ k x, τ k = some x → τ' k = some x) {v : Value} {a : AV} (h : RV C ρ τ v a) : RV C' ρ' τ' v a := by
  induction h generalizing ρ' τ' with
  | any v => exact .any v
  | v v h => exact .v v h
  | agg cs l hl _ h1 ih => exact .agg cs l hl (fun i v a h1 h2 => ih i v a h1 h2 hρ hτ) h1
  | tup cs l hl _ ih => exact .tup cs l hl (fun i v a h1 h2 => ih i v a h1 h2 hρ hτ)
  | list sz xs tk A n c cv hn hc hm hcell _ htk ih =>
    refine .list sz xs tk A n c cv hn hc hm (fun i x hx => ?_) (fun i x j a hx ha => ih i x j a hx ha (fun _ _ h => h) (fun _ _ h => h)) (htk.mono hτ)
    obtain ⟨h1, b, o, hA, hj⟩ := hcell i x hx
    exact ⟨h1, b, o, hA, fun j hj' => hC _ _ _ (hj j hj')⟩
  | box k b off h => exact .box k b off (hρ _ _ h)
  | ptr b o l cv h _ ih => exact .ptr b o l cv (fun j hj => hC _ _ _ (h j hj)) (fun j a ha => ih j a ha (fun _ _ h => h) (fun _ _ h => h))
  | sl k b n c sz h hc hm => exact .sl k b n c sz (hρ _ _ h) hc hm
  | clo f cs l hl _ ih => exact .clo f cs l hl (fun i v a h1 h2 => ih i v a h1 h2 (fun _ _ h => h) (fun _ _ h => h))

theorem RV.lift {C : CMap} {v : Value} {a : AV} (h : RV C noρ noτ v a) (ρ : RMap) (τ : TMap) : RV C ρ τ v a :=
  h.mono (fun _ _ _ h => h) (fun _ _ h => by cases h) (fun _ _ h => by cases h)

/-- A box: a block of the call's own; 'fz': it will not be written any more. -/
structure Box where
  c : List AV
  fz : Bool

structure St where
  t : Nat → AV
  b : Key → Option Box
  d : Key → Bool
  g : Nat → Nat

def upd {α β : Type} [DecidableEq α] (f : α → β) (a : α) (x : β) : α → β := fun y => if y = a then x else f y

theorem upd_same {α β : Type} [DecidableEq α] (f : α → β) (a : α) (x : β) : upd f a x a = x := by simp [upd]
theorem upd_ne {α β : Type} [DecidableEq α] (f : α → β) {a y : α} (x : β) (h : y ≠ a) : upd f a x y = f y := by simp [upd, h]
theorem upd_at {α β : Type} [DecidableEq α] (f : α → β) (a y : α) (x : β) : upd f a x y = if y = a then x else f y := rfl

/-- Below the first world's blocks nothing has turned but the blocks that E names. -/
structure Fr (w0 : World) (E : Nat → Prop) (w : World) : Prop where
  os : w.os = w0.os
  tape : w.tape = w0.tape
  output : w.output = w0.output
  size : w0.heap.size ≤ w.heap.size
  block : ∀ i, i < w0.heap.size → ¬ E i → w.heap[i]? = w0.heap[i]?

/-- A box's block in the world. -/
structure BoxW (C : CMap) (ρ : RMap) (τ : TMap) (w : World) (b : Nat) (B : Box) : Prop where
  ex : ∃ (cs : Array Value) (ty : TypeId), w.heap[b]? = some (.cells cs ty (0, 0)) ∧ cs.size = B.c.length ∧ (∀ (i : Nat) (v : Value), cs[i]? = some v → v.oneCell' = true) ∧
    (∀ (i : Nat) (v : Value) (x : AV), cs[i]? = some v → B.c[i]? = some x → RV C ρ τ v x) ∧ (B.fz = true → ∀ (i : Nat) (v : Value), cs[i]? = some v → C b i = some v)
  fr : B.fz = false → ∀ o, C b o = none

/-- A live token: the slice's owner may append in place. -/
def TokW (C : CMap) (w : World) (v : Value) (sz : Nat) (G : Nat → Prop) : Prop :=
  ∃ A n c, v = .slice A n c ∧ (c = 0 ∨ ∃ (b : Nat) (cs : Array Value) (ty : TypeId), A = some ⟨b, 0, none⟩ ∧ w.heap[b]? = some (.cells cs ty (0, 0)) ∧ cs.size = c * sz ∧ n ≤ c ∧ c ≤ maxLen ∧
    (∀ o, n * sz ≤ o → C b o = none) ∧ G b)

def blk : Value → Option Nat
  | .slice (some a) _ c => if c = 0 then none else some a.block
  | _ => none

/-- Which blocks of the first world's may turn, and which of them are boxes that the caller named. -/
structure EX where
  f : Nat → Prop
  r : RMap
instance : CoeFun EX (fun _ => Nat → Prop) := ⟨EX.f⟩
def EX.none : EX := ⟨fun _ => False, noρ⟩

structure RepG (N : Nat) (w0 : World) (C0 : CMap) (E : EX) (s : St) (a : Act) (w : World) (C : CMap) (ρ : RMap) (τ : TMap) : Prop where
  df : a.defers = []
  sz : a.tmps.size = N
  tm : ∀ (t : Nat), RV C ρ τ (a.tmps.getD t undef) (s.t t)
  cw : ∀ b o v, C b o = some v → w.cell? ⟨b, o, none⟩ = some v ∧ v.oneCell' = true
  c0 : ∀ b o v, C0 b o = some v → C b o = some v
  c1 : ∀ b o v, b < w0.heap.size → C b o = some v → C0 b o = some v ∨ E b
  bx : ∀ k B, s.b k = some B → ∃ b, ρ k = some b ∧ BoxW C ρ τ w b B ∧ (w0.heap.size ≤ b ∨ E b)
  bj : ∀ k k' B B' b, s.b k = some B → s.b k' = some B' → ρ k = some b → ρ k' = some b → k = k'
  tk : ∀ k v n, τ k = some (v, n) → s.d k = false → TokW C w v n (fun b => (w0.heap.size ≤ b ∨ E b) ∧ ∀ k' B, s.b k' = some B → ρ k' ≠ some b)
  tj : ∀ k k' v v' n n' b, τ k = some (v, n) → τ k' = some (v', n') → s.d k = false → s.d k' = false → blk v = some b → blk v' = some b → k = k'
  fρ : ∀ k b, ρ k = some b → k.2.1 < s.g k.1
  fτ : ∀ k x, τ k = some x → k.2.1 < s.g k.1
  fo : ∀ k b, E.r k = some b → ρ k = some b
  fr : Fr w0 E.f w

def Rep (N : Nat) (w0 : World) (C0 : CMap) (E : EX) (s : St) (a : Act) (w : World) : Prop := ∃ C ρ τ, RepG N w0 C0 E s a w C ρ τ

end Go.Sy

/- How a machine state that bears abstract values goes on doing so when the world grows, or one of its own blocks is written. -/
namespace Go.Sy
open Go Go.RowKit

def St.set (s : St) (d : Nat) (x : AV) : St := { s with t := upd s.t d x }

variable {N : Nat} {w0 : World} {C0 : CMap} {E : EX} {s : St} {a : Act} {w : World} {C : CMap} {ρ : RMap} {τ : TMap}

theorem RepG.set (h : RepG N w0 C0 E s a w C ρ τ) (d : Nat) (hd : d < N) {v : Value} {x : AV} (hv : RV C ρ τ v x) : RepG N w0 C0 E (s.set d x) (a.put (some d) v) w C ρ τ :=
  { h with
    sz := by simp [Act.put, h.sz]
    tm := by
      intro t
      have hs := h.sz
      simp only [Act.put, Array.getD_eq_getD_getElem?, Array.getElem?_setIfInBounds]
      simp only [St.set, upd_at]
      by_cases e : d = t
      · subst e
        rw [if_pos rfl, if_pos (by omega)]
        simpa using hv
      · rw [if_neg e, if_neg (fun e' => e e'.symm)]
        have := h.tm t
        simpa only [Array.getD_eq_getD_getElem?] using this }

theorem cell_lt {w : World} {b o : Nat} {v : Value} (h : w.cell? ⟨b, o, none⟩ = some v) : b < w.heap.size := World.block_lt_of_cell? w ⟨b, o, none⟩ h
theorem heap_lt {w : World} {b : Nat} {x : Obj} (h : w.heap[b]? = some x) : b < w.heap.size := (Array.getElem?_eq_some_iff.1 h).1

theorem Fr.trans {w1 : World} (h : Fr w0 E.f w) (hb : Below w.heap.size w w1) : Fr w0 E.f w1 :=
  ⟨hb.os.trans h.os, hb.tape.trans h.tape, hb.output.trans h.output, Nat.le_trans h.size hb.size, fun i hi hE => (hb.block i (Nat.lt_of_lt_of_le hi h.size)).trans (h.block i hi hE)⟩

theorem RepG.grow (h : RepG N w0 C0 E s a w C ρ τ) {w1 : World} (hb : Below w.heap.size w w1) {C1 : CMap} (hC : ∀ b o v, C b o = some v → C1 b o = some v)
    (hn : ∀ b o v, C1 b o = some v → C b o = some v ∨ w.heap.size ≤ b) (hcw : ∀ b o v, w.heap.size ≤ b → C1 b o = some v → w1.cell? ⟨b, o, none⟩ = some v ∧ v.oneCell' = true) :
    RepG N w0 C0 E s a w1 C1 ρ τ := by
  have mono : ∀ {v : Value} {x : AV}, RV C ρ τ v x → RV C1 ρ τ v x := fun hv => hv.mono hC (fun _ _ h => h) (fun _ _ h => h)
  have old : ∀ {b : Nat} {x : Obj}, w.heap[b]? = some x → w1.heap[b]? = some x := fun hx => (hb.block _ (heap_lt hx)).trans hx
  have nocell : ∀ {b : Nat} {x : Obj}, w.heap[b]? = some x → ∀ o, C b o = none → C1 b o = none := by
    intro b x hx o ho
    cases hc : C1 b o with
    | none => rfl
    | some v =>
      rcases hn _ _ _ hc with h1 | h1
      · rw [ho] at h1; cases h1
      · have := heap_lt hx; omega
  exact {
    df := h.df
    sz := h.sz
    tm := fun t => mono (h.tm t)
    cw := by
      intro b o v hv
      rcases hn _ _ _ hv with h1 | h1
      · obtain ⟨h2, h3⟩ := h.cw _ _ _ h1
        exact ⟨(World.cell?_of_block (w := w) (a := ⟨b, o, none⟩) (hb.block b (cell_lt h2))).trans h2, h3⟩
      · exact hcw _ _ _ h1 hv
    c0 := fun b o v hv => hC _ _ _ (h.c0 _ _ _ hv)
    c1 := by
      intro b o v hlt hv
      rcases hn _ _ _ hv with h1 | h1
      · exact h.c1 _ _ _ hlt h1
      · have := h.fr.size; omega
    bx := by
      intro k B hk
      obtain ⟨b, hρ, ⟨⟨cs, ty, h1, h2, h3, h4, h5⟩, h6⟩, h7⟩ := h.bx k B hk
      exact ⟨b, hρ, ⟨⟨cs, ty, old h1, h2, h3, fun i v x hv hx => mono (h4 i v x hv hx), fun hz i v hv => hC _ _ _ (h5 hz i v hv)⟩, fun hz o => nocell h1 o (h6 hz o)⟩, h7⟩
    bj := h.bj
    tk := by
      intro k v n hk hd
      obtain ⟨A, n', c, rfl, h1⟩ := h.tk k v n hk hd
      refine ⟨A, n', c, rfl, ?_⟩
      rcases h1 with h1 | ⟨b, cs, ty, hA, h2, h3, h4, h5, h6, h7⟩
      · exact .inl h1
      · exact .inr ⟨b, cs, ty, hA, old h2, h3, h4, h5, fun o ho => nocell h2 o (h6 o ho), h7⟩
    tj := h.tj
    fρ := h.fρ
    fτ := h.fτ
    fo := h.fo
    fr := h.fr.trans hb }

/-- Nothing but draws, or blocks that nobody reads. -/
theorem RepG.same (h : RepG N w0 C0 E s a w C ρ τ) {w1 : World} (hb : Below w.heap.size w w1) : RepG N w0 C0 E s a w1 C ρ τ :=
  h.grow hb (fun _ _ _ h => h) (fun _ _ _ h => .inl h) (fun b o v hl hv => by have := cell_lt (h.cw b o v hv).1; omega)

theorem blk_cap {A : Option Addr} {n c b : Nat} (h : blk (.slice A n c) = some b) : c ≠ 0 ∧ ∃ ad, A = some ad ∧ ad.block = b := by
  cases A with
  | none => simp [blk] at h
  | some ad =>
    simp only [blk] at h
    split at h
    · cases h
    · cases h; exact ⟨by assumption, ad, rfl, rfl⟩

theorem RepG.addbox (h : RepG N w0 C0 E s a w C ρ τ) (k : Key) (hk : s.g k.1 ≤ k.2.1) {b : Nat} {cs : Array Value} {ty : TypeId} (l : List AV)
    (hblk : w.heap[b]? = some (.cells cs ty (0, 0))) (hl : cs.size = l.length) (h1 : ∀ (i : Nat) (v : Value), cs[i]? = some v → v.oneCell' = true)
    (hv : ∀ (i : Nat) (v : Value) (x : AV), cs[i]? = some v → l[i]? = some x → RV C ρ τ v x) (hC : ∀ o, C b o = none) (hb0 : w0.heap.size ≤ b)
    (hnb : ∀ k' B, s.b k' = some B → ρ k' ≠ some b) (hnt : ∀ k v n, τ k = some (v, n) → s.d k = false → blk v ≠ some b) :
    RepG N w0 C0 E { s with b := upd s.b k (some ⟨l, false⟩), g := upd s.g k.1 (k.2.1 + 1) } a w C (upd ρ k (some b)) τ := by
  have hρk : ρ k = none := by
    cases e : ρ k with
    | none => rfl
    | some x => have := h.fρ _ _ e; omega
  have up : ∀ k' b', ρ k' = some b' → upd ρ k (some b) k' = some b' := by
    intro k' b' e
    rw [upd_at]
    split
    · rename_i hkk; subst hkk; rw [hρk] at e; cases e
    · exact e
  have mono : ∀ {v : Value} {x : AV}, RV C ρ τ v x → RV C (upd ρ k (some b)) τ v x := fun hv => hv.mono (fun _ _ _ h => h) up (fun _ _ h => h)
  have gup : ∀ (k' : Key), k'.2.1 < s.g k'.1 → k'.2.1 < upd s.g k.1 (k.2.1 + 1) k'.1 := by
    intro k' hlt
    rw [upd_at]
    split
    · rename_i e; rw [e] at hlt; omega
    · exact hlt
  exact { h with
    tm := fun t => mono (h.tm t)
    bx := by
      intro k' B hB
      simp only [upd_at] at hB
      by_cases e : k' = k
      · subst e
        rw [if_pos rfl] at hB
        cases hB
        exact ⟨b, by simp [upd], ⟨⟨cs, ty, hblk, hl, h1, fun i v x hc hx => mono (hv i v x hc hx), fun hz => by cases hz⟩, fun _ => hC⟩, .inl hb0⟩
      · rw [if_neg e] at hB
        obtain ⟨b', hρ, ⟨⟨cs, ty, g1, g2, g3, g4, g5⟩, g6⟩, g7⟩ := h.bx k' B hB
        exact ⟨b', up _ _ hρ, ⟨⟨cs, ty, g1, g2, g3, fun i v x hc hx => mono (g4 i v x hc hx), g5⟩, g6⟩, g7⟩
    bj := by
      intro k1 k2 B1 B2 b' e1 e2 r1 r2
      simp only [upd_at] at e1 e2 r1 r2
      by_cases c1 : k1 = k
      · by_cases c2 : k2 = k
        · rw [c1, c2]
        · rw [if_pos c1] at r1; rw [if_neg c2] at r2 e2; cases r1
          exact absurd r2 (hnb _ _ e2)
      · by_cases c2 : k2 = k
        · rw [if_pos c2] at r2; rw [if_neg c1] at r1 e1; cases r2
          exact absurd r1 (hnb _ _ e1)
        · rw [if_neg c1] at r1 e1; rw [if_neg c2] at r2 e2
          exact h.bj _ _ _ _ _ e1 e2 r1 r2
    tk := by
      intro k' v n hk' hd
      obtain ⟨A, n', c, rfl, g1⟩ := h.tk k' v n hk' hd
      refine ⟨A, n', c, rfl, ?_⟩
      rcases g1 with g1 | ⟨b', cs, ty, hA, g2, g3, g4, g5, g6, g7, g8⟩
      · exact .inl g1
      · by_cases hc : c = 0
        · exact .inl hc
        · refine .inr ⟨b', cs, ty, hA, g2, g3, g4, g5, g6, g7, ?_⟩
          intro k2 B hB hr
          simp only [upd_at] at hB hr
          by_cases e : k2 = k
          · rw [if_pos e] at hr; cases hr
            exact hnt _ _ _ hk' hd (by subst hA; simp [blk, hc])
          · rw [if_neg e] at hB hr; exact g8 _ _ hB hr
    fρ := by
      intro k' b' e
      simp only [upd_at] at e
      by_cases c : k' = k
      · subst c; simp [upd]
      · rw [if_neg c] at e; exact gup _ (h.fρ _ _ e)
    fo := fun k' b' e => up _ _ (h.fo _ _ e)
    fτ := fun k' x e => gup _ (h.fτ _ _ e) }

theorem RepG.addtok (h : RepG N w0 C0 E s a w C ρ τ) (k : Key) (hk : s.g k.1 ≤ k.2.1) {v : Value} {n : Nat}
    (ht : TokW C w v n (fun b => (w0.heap.size ≤ b ∨ E b) ∧ ∀ k' B, s.b k' = some B → ρ k' ≠ some b))
    (hnt : ∀ k' v' n' b, τ k' = some (v', n') → s.d k' = false → blk v = some b → blk v' ≠ some b) :
    RepG N w0 C0 E { s with d := upd s.d k false, g := upd s.g k.1 (k.2.1 + 1) } a w C ρ (upd τ k (some (v, n))) := by
  have hτk : τ k = none := by
    cases e : τ k with
    | none => rfl
    | some x => have := h.fτ _ _ e; omega
  have up : ∀ k' x, τ k' = some x → upd τ k (some (v, n)) k' = some x := by
    intro k' x e
    rw [upd_at]
    split
    · rename_i hkk; subst hkk; rw [hτk] at e; cases e
    · exact e
  have mono : ∀ {v' : Value} {x : AV}, RV C ρ τ v' x → RV C ρ (upd τ k (some (v, n))) v' x := fun hv => hv.mono (fun _ _ _ h => h) (fun _ _ h => h) up
  have gup : ∀ (k' : Key), k'.2.1 < s.g k'.1 → k'.2.1 < upd s.g k.1 (k.2.1 + 1) k'.1 := by
    intro k' hlt
    rw [upd_at]
    split
    · rename_i e; rw [e] at hlt; omega
    · exact hlt
  exact { h with
    tm := fun t => mono (h.tm t)
    bx := by
      intro k' B hB
      obtain ⟨b', hρ, ⟨⟨cs, ty, g1, g2, g3, g4, g5⟩, g6⟩, g7⟩ := h.bx k' B hB
      exact ⟨b', hρ, ⟨⟨cs, ty, g1, g2, g3, fun i v x hc hx => mono (g4 i v x hc hx), g5⟩, g6⟩, g7⟩
    tk := by
      intro k' v' n' hk' hd
      simp only [upd_at] at hk' hd
      by_cases c : k' = k
      · rw [if_pos c] at hk'; cases hk'; exact ht
      · rw [if_neg c] at hk' hd; exact h.tk _ _ _ hk' hd
    tj := by
      intro k1 k2 v1 v2 n1 n2 b e1 e2 d1 d2 r1 r2
      simp only [upd_at] at e1 e2 d1 d2
      by_cases c1 : k1 = k
      · by_cases c2 : k2 = k
        · rw [c1, c2]
        · rw [if_pos c1] at e1; rw [if_neg c2] at e2 d2; cases e1
          exact absurd r2 (hnt _ _ _ _ e2 d2 r1)
      · by_cases c2 : k2 = k
        · rw [if_pos c2] at e2; rw [if_neg c1] at e1 d1; cases e2
          exact absurd r1 (hnt _ _ _ _ e1 d1 r2)
        · rw [if_neg c1] at e1 d1; rw [if_neg c2] at e2 d2
          exact h.tj _ _ _ _ _ _ _ e1 e2 d1 d2 r1 r2
    fρ := fun k' x e => gup _ (h.fρ _ _ e)
    fτ := by
      intro k' x e
      simp only [upd_at] at e
      by_cases c : k' = k
      · subst c; simp [upd]
      · rw [if_neg c] at e; exact gup _ (h.fτ _ _ e) }

theorem RepG.kill (h : RepG N w0 C0 E s a w C ρ τ) (k : Key) : RepG N w0 C0 E { s with d := upd s.d k true } a w C ρ τ :=
  have low : ∀ k', upd s.d k true k' = false → s.d k' = false := by
    intro k' e
    rw [upd_at] at e
    split at e
    · cases e
    · exact e
  { h with
    tk := fun k' v n e d => h.tk k' v n e (low _ d)
    tj := fun k1 k2 v1 v2 n1 n2 b e1 e2 d1 d2 => h.tj k1 k2 v1 v2 n1 n2 b e1 e2 (low _ d1) (low _ d2) }

theorem Fr.setRow (h : Fr w0 E.f w) {b : Nat} (cs : Array Value) (hb : w0.heap.size ≤ b ∨ E b) : Fr w0 E.f (w.setRow b cs) :=
  ⟨h.os, h.tape, h.output, by simpa [World.setRow] using h.size, fun i hi hE => by
    rw [setRow_other w b i cs (fun e => by subst e; exact hb.elim (fun hb => absurd hi (by omega)) hE)]
    exact h.block i hi hE⟩

theorem RepG.store (h : RepG N w0 C0 E s a w C ρ τ) {k : Key} {l l1 : List AV} (hk : s.b k = some ⟨l, false⟩) {b : Nat} (hρ : ρ k = some b) {cs cs1 : Array Value} {ty : TypeId}
    (hblk : w.heap[b]? = some (.cells cs ty (0, 0))) (hl : cs1.size = l1.length) (h1 : ∀ (i : Nat) (v : Value), cs1[i]? = some v → v.oneCell' = true)
    (hv : ∀ (i : Nat) (v : Value) (x : AV), cs1[i]? = some v → l1[i]? = some x → RV C ρ τ v x) :
    RepG N w0 C0 E { s with b := upd s.b k (some ⟨l1, false⟩) } a (w.setRow b cs1) C ρ τ := by
  obtain ⟨b0, hρ0, ⟨_, hC⟩, hE⟩ := h.bx k _ hk
  rw [hρ] at hρ0; cases hρ0
  have hC := hC rfl
  have other : ∀ {b' : Nat}, b' ≠ b → (w.setRow b cs1).heap[b']? = w.heap[b']? := fun hne => setRow_other w b _ cs1 hne
  exact { h with
    cw := by
      intro b' o v hv'
      obtain ⟨g1, g2⟩ := h.cw b' o v hv'
      refine ⟨?_, g2⟩
      have hne : b' ≠ b := by rintro rfl; rw [hC] at hv'; cases hv'
      exact (World.cell?_of_block (w := w) (a := ⟨b', o, none⟩) (other hne)).trans g1
    bx := by
      intro k' B hB
      simp only [upd_at] at hB
      by_cases c : k' = k
      · subst c
        rw [if_pos rfl] at hB; cases hB
        exact ⟨b, hρ, ⟨⟨cs1, ty, setRow_heap w b cs cs1 ty (0, 0) hblk, hl, h1, hv, fun hz => by cases hz⟩, fun _ => hC⟩, hE⟩
      · rw [if_neg c] at hB
        obtain ⟨b', hρ', ⟨⟨cs, ty, g1, g2, g3, g4, g5⟩, g6⟩, g7⟩ := h.bx k' B hB
        have hne : b' ≠ b := by rintro rfl; exact c (h.bj _ _ _ _ _ hB hk hρ' hρ)
        exact ⟨b', hρ', ⟨⟨cs, ty, (other hne).trans g1, g2, g3, g4, g5⟩, g6⟩, g7⟩
    bj := by
      intro k1 k2 B1 B2 b' e1 e2 r1 r2
      simp only [upd_at] at e1 e2
      have f1 : ∃ B, s.b k1 = some B := by
        by_cases c : k1 = k
        · subst c; exact ⟨_, hk⟩
        · rw [if_neg c] at e1; exact ⟨_, e1⟩
      have f2 : ∃ B, s.b k2 = some B := by
        by_cases c : k2 = k
        · subst c; exact ⟨_, hk⟩
        · rw [if_neg c] at e2; exact ⟨_, e2⟩
      obtain ⟨_, f1⟩ := f1
      obtain ⟨_, f2⟩ := f2
      exact h.bj _ _ _ _ _ f1 f2 r1 r2
    tk := by
      intro k' v n e d
      obtain ⟨A, n', c, rfl, g1⟩ := h.tk k' v n e d
      refine ⟨A, n', c, rfl, ?_⟩
      rcases g1 with g1 | ⟨b', cs', ty', hA, g2, g3, g4, g5, g6, g7, g8⟩
      · exact .inl g1
      · have hne : b' ≠ b := by rintro rfl; exact g8 _ _ hk hρ
        refine .inr ⟨b', cs', ty', hA, (other hne).trans g2, g3, g4, g5, g6, g7, ?_⟩
        intro k2 B hB hr
        simp only [upd_at] at hB
        by_cases c : k2 = k
        · subst c; exact g8 _ _ hk hr
        · rw [if_neg c] at hB; exact g8 _ _ hB hr
    fr := h.fr.setRow cs1 hE }

end Go.Sy

/- What an operation does to abstract values. -/
namespace Go.Sy
open Go Go.RowKit

/-! ### Types -/
def esz (P : Program) (t : TypeId) : Nat := match P.underlying t with | some (.slice e) => P.cellsOf e | _ => 0
def ebytes (P : Program) (t : TypeId) : Nat := match P.underlying t with | some (.slice e) => P.bytesOf e | _ => 0
def aggT (P : Program) (t : TypeId) : Option Bool := match P.underlying t with | some (.struct _) | some (.array _ _) => some true | some _ => some false | none => none
def slT (P : Program) (t : TypeId) : Bool := match P.underlying t with | some (.slice e) => (P.info? e).isSome && decide (0 < P.cellsOf e) | _ => false
def elT (P : Program) (t : TypeId) : TypeId := match P.underlying t with | some (.slice e) => e | _ => 0
def okT (P : Program) (t : TypeId) : Bool := (P.info? t).isSome
def foff (P : Program) (t : TypeId) (f : Nat) : Option Nat := match P.underlying t with
  | some (.struct fs) => match fs[f]? with
    | some fd => if (P.info? fd.type).isSome ∧ P.cellsOf fd.type ≠ 0 then some fd.offset else none
    | none => none
  | _ => none
def cellTys (P : Program) : Nat → TypeId → List TypeId
  | 0, _ => []
  | n + 1, t => match P.underlying t with
    | some (.struct fs) => fs.toList.flatMap fun f => cellTys P n f.type
    | some (.array k e) => (List.replicate k (cellTys P n e)).flatten
    | _ => [t]

def cst (P : Program) (t : TypeId) : Value → AV
  | .slice none 0 0 => .list (esz P t) [] .nil
  | .func (.func f) fs cs => if fs.isEmpty && cs.isEmpty then .clo f [] else .any
  | v => if v.oneCell' then .v v else .any

def zvals (P : Program) (t : TypeId) : Option (List Value) :=
  match (P.info? t).bind (·.zero) with
  | some z => if z.cells.toList.all (·.oneCell') then some z.cells.toList else none
  | none => none
def zav (P : Program) (t : TypeId) : Option (List AV) := (zvals P t).map fun vs => vs.mapIdx fun i v => cst P ((cellTys P 8 t).getD i 0) v

def cells? : AV → Option (List AV)
  | .agg l => some l
  | .tup _ | .any => none
  | a => some [a]

def rdAV (P : Program) (t : TypeId) (l : List AV) : Option AV :=
  match aggT P t with
  | some true => if P.cellsOf t ≤ l.length then some (.agg (l.take (P.cellsOf t))) else none
  | some false => l.head?
  | none => none

def fgt : AV → AV
  | .list sz xs _ => .list sz xs .no
  | a => a

/-- No key of the call's own in it. -/
def clean : AV → Bool
  | .box _ _ | .sl _ _ _ | .tup _ | .agg _ | .any => false
  | .list _ _ .no => true
  | .list _ _ _ => false
  | _ => true

def St.o (P : Program) (s : St) (t : TypeId) : Operand → AV
  | .tmp x => s.t x
  | .const v => cst P t v
  | .func f => .clo f []
  | .global _ => .any

structure Eff where
  v : AV
  nb : Option (List AV) := none
  nt : Nat := 0
  kl : Option Key := none
  st : List (Key × List AV) := []

def crt (d g n : Nat) (f : Key → Bool) : Key → Bool := fun k => if k.1 = d ∧ k.2.1 = g ∧ k.2.2 < n then false else f k
def sto (f : Key → Option Box) : List (Key × List AV) → Key → Option Box
  | [] => f
  | (k, l) :: r => sto (upd f k (some ⟨l, false⟩)) r

def St.app (s : St) (d : Option Nat) (e : Eff) : St :=
  match d with
  | none => { s with b := sto s.b e.st }
  | some d =>
    { t := upd s.t d e.v
      b := match e.nb with | none => sto s.b e.st | some l => upd (sto s.b e.st) (d, s.g d, 0) (some ⟨l, false⟩)
      d := crt d (s.g d) e.nt (match e.kl with | none => s.d | some k => upd s.d k true)
      g := if e.nb.isSome || decide (0 < e.nt) then upd s.g d (s.g d + 1) else s.g }

/-! ### Build -/
def places (P : Program) (t : TypeId) : Option (List (Nat × Nat)) := match P.underlying t with
  | some (.struct fs) => fs.toList.mapM fun f => (P.info? f.type).map fun i => (f.offset, i.size)
  | _ => none
def ptype (P : Program) (t : TypeId) (i : Nat) : TypeId := match P.underlying t with
  | some (.struct fs) => match fs[i]? with | some f => f.type | none => 0
  | some (.slice e) => e
  | _ => 0
def fillAV (pl : Nat → Option (Nat × Nat)) (l : List AV) : List (Nat × AV) → Option (List AV)
  | [] => some l
  | (i, x) :: r => match pl i, cells? x with
    | some (off, n), some c => if c.length = n ∧ off + n ≤ l.length then fillAV pl (l.take off ++ c ++ l.drop (off + n)) r else none
    | _, _ => none

def partsAV (n : Nat) : Nat → List (Nat × AV) → Option (List (List AV))
  | _, [] => some []
  | k, (i, x) :: r => match cells? x with
    | some c => if i = k ∧ c.length = n ∧ (c.all fun x => clean (fgt x)) = true then (partsAV n (k + 1) r).map ((c.map fgt) :: ·) else none
    | none => none

/-! ### Numbers -/
/-- A struct of whole numbers alone, one cell each, in order. -/
def intStruct (P : Program) (t : TypeId) : Bool := match P.underlying t with
  | some (.struct fs) => !P.stoodInHeld t && !P.eqGuardType P.depth t && P.cellsOf t == fs.size &&
      fs.toList.zipIdx.all fun (f, i) => decide (f.name ≠ "_") && f.offset == i && (match P.underlying f.type with | some (.int .i64) => true | _ => false)
  | _ => false
def eqInts : List AV → List AV → Option Bool
  | [], [] => some true
  | .v (.int .i64 a) :: x, .v (.int .i64 b) :: y => (eqInts x y).map fun r => a == b && r
  | _, _ => none
def binAV (P : Program) (op : BinOp) (t : TypeId) : AV → AV → Option AV
  | .v (.int k a), .v (.int k' b) =>
    if k = k' then
      match op with
      | .add => some (.v (.int k (k.wrap (a + b))))
      | .sub => some (.v (.int k (k.wrap (a - b))))
      | .mul => some (.v (.int k (k.wrap (a * b))))
      | .quo => if b = 0 then none else some (.v (.int k (k.wrap (a.tdiv b))))
      | .rem => if b = 0 then none else some (.v (.int k (a.tmod b)))
      | .and => some (.v (.int k (k.wrap (BitVec.ofInt k.bits a &&& BitVec.ofInt k.bits b).toNat)))
      | .shr => if b < 0 then none else some (.v (.int k (a.fdiv (2 ^ min b.toNat k.bits))))
      | .eql => some (.v (.bool (a == b)))
      | .neq => some (.v (.bool (a != b)))
      | .lss => some (.v (.bool (decide (a < b))))
      | .leq => some (.v (.bool (decide (a ≤ b))))
      | .gtr => some (.v (.bool (decide (a > b))))
      | .geq => some (.v (.bool (decide (a ≥ b))))
      | _ => none
    else (match op with | .shr => if b < 0 then none else some (.v (.int k (a.fdiv (2 ^ min b.toNat k.bits)))) | _ => none)
  | .agg x, .agg y => if intStruct P t && decide (x.length = P.cellsOf t) && decide (y.length = P.cellsOf t) then
      (match op with | .eql => (eqInts x y).map fun b => .v (.bool b) | .neq => (eqInts x y).map fun b => .v (.bool (!b)) | _ => none) else none
  | .v (.bool a), .v (.bool b) =>
    match P.underlying t, op with
    | some .bool, .eql => some (.v (.bool (a == b)))
    | some .bool, .neq => some (.v (.bool (a != b)))
    | _, _ => none
  | _, _ => none

def idxAV (P : Program) (t : TypeId) : AV → AV → Option AV
  | .list sz xs _, .v (.int _ n) => if slT P t ∧ sz = esz P t ∧ 0 ≤ n ∧ n < xs.length then (xs[n.toNat]?).map .ptr else none
  | .sl k len sz, .v (.int _ n) => if slT P t ∧ sz = esz P t ∧ 0 ≤ n ∧ n < len then some (.box k (n.toNat * esz P t)) else none
  | .ptr l, .v (.int _ n) => match P.underlying t with
    | some (.array m e) => if (P.info? e).isSome ∧ 0 ≤ n ∧ n < m then some (.ptr (l.drop (n.toNat * P.cellsOf e))) else none
    | _ => none
  | _, _ => none

def tokOK (s : St) : Tok → Bool
  | .no => false
  | .nil => true
  | .own k => !s.d k
def tokKey : Tok → Option Key
  | .own k => some k
  | _ => none

def capAV (s : St) : List AV → Option (List AV)
  | [] => some []
  | .box k 0 :: r => match s.b k with | some ⟨l, true⟩ => if (l.all clean) = true then (capAV s r).map (.ptr l :: ·) else none | _ => none
  | .ptr l :: r => (capAV s r).map (.ptr l :: ·)
  | _ => none

/-- The functional operations: all but calls. -/
def ev (P : Program) (s : St) (o : Oper) : Option Eff :=
  let d := o.dst.getD 0
  let key : Key := (d, s.g d, 0)
  match o.op with
  | .move x | .assign x => some { v := s.o P o.type x }
  | .pick c a b => match s.o P 0 c with
    | .v (.bool c) => some { v := if c = true then s.o P o.type a else s.o P o.type b }
    | _ => none
  | .alloc t => (zav P t).map fun l => { v := .box key 0, nb := some l }
  | .box t x => (cells? (s.o P t x)).map fun l => { v := .box key 0, nb := some l }
  | .build t ps => match places P t, zav P t with
    | some pl, some z => (fillAV (pl.toArray[·]?) z (ps.toList.map fun p => (p.1, s.o P (ptype P t p.1) p.2))).map fun l => { v := .agg l }
    | _, _ => none
  | .buildSlice t n ps => if slT P t ∧ n = ps.size ∧ n * esz P t ≤ 2 ^ 24 ∧ (zvals P (elT P t)).map (·.length) = some (esz P t) then
      (partsAV (esz P t) 0 (ps.toList.map fun p => (p.1, s.o P (ptype P t p.1) p.2))).map fun l => { v := .list (esz P t) l (.own key), nt := 1 } else none
  | .load t x => match s.o P 0 x with
    | .box k off => match s.b k with
      | some B => if off < B.c.length then (rdAV P t (B.c.drop off)).map fun v => { v } else none
      | none => none
    | .ptr l => (rdAV P t l).map fun v => { v }
    | _ => none
  | .store t a x => match s.o P 0 a, cells? (s.o P t x) with
    | .box k off, some c => match s.b k with
      | some ⟨l, false⟩ => if okT P t ∧ c.length = P.cellsOf t ∧ off + c.length ≤ l.length then some { v := .any, st := [(k, l.take off ++ c ++ l.drop (off + c.length))] } else none
      | _ => none
    | _, _ => none
  | .nilCheck x => match s.o P 0 x with
    | .box k o => some { v := .box k o }
    | .ptr l => some { v := .ptr l }
    | .clo f l => some { v := .clo f l }
    | _ => none
  | .binOp op t x y _ => (binAV P op t (s.o P t x) (s.o P t y)).map fun v => { v }
  | .unOp op _ x => match op, s.o P 0 x with
    | .not, .v (.bool b) => some { v := .v (.bool (!b)) }
    | .neg, .v (.int k n) => some { v := .v (.int k (k.wrap (0 - n))) }
    | _, _ => none
  | .convert src dst x => match P.underlying src, P.underlying dst, s.o P src x with
    | some _, some (.int k), .v (.int _ n) => some { v := .v (.int k (k.wrap n)) }
    | _, _, _ => none
  | .fieldAddr t x f => match s.o P 0 x, foff P t f with
    | .box k off, some o => some { v := .box k (off + o) }
    | .ptr l, some o => some { v := .ptr (l.drop o) }
    | _, _ => none
  | .indexAddr t x i => (idxAV P t (s.o P t x) (s.o P 0 i)).map fun v => { v }
  | .extract x i => match s.o P 0 x with
    | .tup l => (l[i]?).map fun v => { v }
    | _ => none
  | .makeFunc (.func f) first caps => if first.isEmpty then (capAV s (caps.toList.map (s.o P 0))).map fun l => { v := .clo f l } else none
  | .makeSlice t x y => match s.o P 0 x, s.o P 0 y with
    | .v (.int .i64 n), .v (.int .i64 m) => if slT P t ∧ n = m ∧ 0 ≤ n ∧ n * ebytes P t ≤ 140737488355328 ∧ n ≤ 9223372036854775807 then
        match zav P (elT P t) with
        | some z => if z.length = esz P t then some { v := .sl key n.toNat (esz P t), nb := some (List.replicate n.toNat z).flatten } else none
        | none => none
      else none
    | _, _ => none
  | .slice t x none (some h) none => match s.o P t x, s.o P 0 h with
    | .list sz xs _, .v (.int _ n) => if slT P t ∧ sz = esz P t ∧ 0 ≤ n ∧ n ≤ xs.length then some { v := .list sz (xs.take n.toNat) .no } else none
    | _, _ => none
  | .call { callee := .builtin .len, args, argTypes } => match args.toList, argTypes.toList with
    | [x], [t] => if slT P t then (match s.o P t x with
      | .list _ xs _ => some { v := .v (.int .i64 xs.length) }
      | .sl _ n _ => some { v := .v (.int .i64 n) }
      | _ => none) else none
    | _, _ => none
  | .call { callee := .builtin .append, args, argTypes } => match args.toList, argTypes.toList with
    | [x, y], [t, t'] => match s.o P t x, s.o P t' y with
      | .list sz xs tk, .list sz' ys _ => if o.dst.isSome ∧ slT P t ∧ t = t' ∧ sz = esz P t ∧ sz' = sz ∧ tokOK s tk ∧ (xs.length + ys.length) * ebytes P t ≤ 140737488355328
          ∧ (zvals P (elT P t)).map (·.length) = some (esz P t) ∧ xs.length + ys.length ≤ 9223372036854775807 then
          some { v := .list sz (xs ++ ys) (.own key), nt := 1, kl := tokKey tk } else none
      | _, _ => none
    | _, _ => none
  | .call { callee := .builtin .max, args, .. } => match args.toList with
    | [x, y] => match s.o P 0 x, s.o P 0 y with
      | .v (.int k a), .v (.int _ b) => some { v := .v (.int k (if b > a then b else a)) }
      | _, _ => none
    | _ => none
  | .call { callee := .builtin .min, args, .. } => match args.toList with
    | [x, y] => match s.o P 0 x, s.o P 0 y with
      | .v (.int k a), .v (.int _ b) => some { v := .v (.int k (if b < a then b else a)) }
      | _, _ => none
    | _ => none
  | _ => none

end Go.Sy

/- Each operation does to the machine what 'ev' says it does to abstract values: helpers. -/
namespace Go.Sy
open Go Go.RowKit

variable {N : Nat} {w0 : World} {C0 : CMap} {E : EX} {s : St} {a : Act} {w : World} {C : CMap} {ρ : RMap} {τ : TMap} {P : Program}

def Done (N : Nat) (w0 : World) (C0 : CMap) (E : EX) (P : Program) (o : Oper) (a : Act) (w : World) (s' : St) : Prop :=
  ∃ v w', ((execOp a.eval o).run P w = .ok (.value v) w' ∨ ((execOp a.eval o).run P w = .ok .skip w' ∧ v = undef)) ∧ Rep N w0 C0 E s' (a.put o.dst v) w'

theorem crt_zero (d g : Nat) (f : Key → Bool) : crt d g 0 f = f := by funext k; simp [crt]

theorem app_val (s : St) (d : Option Nat) (x : AV) : s.app d { v := x } = (match d with | none => s | some d => s.set d x) := by
  cases d <;> simp [St.app, St.set, sto, crt_zero]

theorem done_val {o : Oper} {v : Value} {x : AV} (h : RepG N w0 C0 E s a w C ρ τ) (hN : ∀ d, o.dst = some d → d < N) (hr : (execOp a.eval o).run P w = .ok (.value v) w)
    (hv : RV C ρ τ v x) : Done N w0 C0 E P o a w (s.app o.dst { v := x }) := by
  refine ⟨v, w, .inl hr, C, ρ, τ, ?_⟩
  rw [app_val]
  cases hd : o.dst with
  | none => exact h
  | some d => exact h.set d (hN d hd) hv

theorem cst_rv (t : TypeId) (v : Value) : RV C ρ τ v (cst P t v) := by
  unfold cst
  split
  · exact .list _ _ _ none 0 0 (fun _ _ => undef) rfl (Nat.le_refl _) (by simp [maxLen]) (fun i x hx => by simp at hx) (fun i x j a hx => by simp at hx) ⟨none, rfl⟩
  · split
    · rename_i fs cs hc
      simp only [Bool.and_eq_true, Array.isEmpty_iff] at hc
      obtain ⟨rfl, rfl⟩ := hc
      exact .clo _ _ _ rfl (fun i v a hv => by simp at hv)
    · exact .any _
  · split
    · exact .v _ (by assumption)
    · exact .any _

theorem opnd (h : RepG N w0 C0 E s a w C ρ τ) (t : TypeId) (x : Operand) : RV C ρ τ (a.eval x) (s.o P t x) := by
  cases x with
  | tmp x => exact h.tm x
  | const v => exact cst_rv t v
  | func f => exact .clo f #[] [] rfl (fun i v a hv => by simp at hv)
  | global g => exact .any _

theorem rv_v {v u : Value} (h : RV C ρ τ v (.v u)) : v = u ∧ u.oneCell' = true := by cases h; exact ⟨rfl, by assumption⟩

theorem rv_list {v : Value} {sz : Nat} {xs : List (List AV)} {tk : Tok} (h : RV C ρ τ v (.list sz xs tk)) : ∃ (A : Option Addr) (c : Nat) (cv : Nat → Nat → Value), v = .slice A xs.length c ∧ xs.length ≤ c ∧ c ≤ maxLen ∧
    (∀ (i : Nat) (x : List AV), xs[i]? = some x → x.length = sz ∧ ∃ b o, A = some ⟨b, o, none⟩ ∧ ∀ j, j < sz → C b (o + i * sz + j) = some (cv i j)) ∧
    (∀ (i : Nat) (x : List AV) (j : Nat) (y : AV), xs[i]? = some x → x[j]? = some y → RV C noρ noτ (cv i j) y) ∧ TokV τ v sz tk := by
  generalize hy : AV.list sz xs tk = y at h
  cases h <;> cases hy
  rename_i A n c cv hc hm hn hrv hcell htk
  subst hn
  exact ⟨A, c, cv, rfl, hc, hm, hcell, hrv, htk⟩
theorem rv_box {v : Value} {k : Key} {off : Nat} (h : RV C ρ τ v (.box k off)) : ∃ b, v = .pointer (some ⟨b, off, none⟩) ∧ ρ k = some b := by
  cases h; exact ⟨_, rfl, by assumption⟩
theorem rv_ptr {v : Value} {l : List AV} (h : RV C ρ τ v (.ptr l)) : ∃ (b o : Nat) (cv : Nat → Value), v = .pointer (some ⟨b, o, none⟩) ∧ (∀ j, j < l.length → C b (o + j) = some (cv j)) ∧ (∀ (j : Nat) (y : AV), l[j]? = some y → RV C noρ noτ (cv j) y) := by
  cases h; exact ⟨_, _, _, rfl, by assumption, by assumption⟩
theorem rv_sl {v : Value} {k : Key} {n sz : Nat} (h : RV C ρ τ v (.sl k n sz)) : ∃ b c, v = .slice (some ⟨b, 0, none⟩) n c ∧ ρ k = some b ∧ n ≤ c ∧ c ≤ maxLen := by
  cases h; exact ⟨_, _, rfl, by assumption, by assumption, by assumption⟩
theorem rv_agg {v : Value} {l : List AV} (h : RV C ρ τ v (.agg l)) : ∃ cs, v = .agg cs ∧ cs.size = l.length ∧ (∀ (i : Nat) (u : Value) (y : AV), cs[i]? = some u → l[i]? = some y → RV C ρ τ u y) ∧ (∀ (i : Nat) (u : Value), cs[i]? = some u → u.oneCell' = true) := by
  cases h; exact ⟨_, rfl, by assumption, by assumption, by assumption⟩

def atom : AV → Bool
  | .agg _ | .tup _ | .any => false
  | _ => true
theorem oneCell_atom {v : Value} {x : AV} (h : RV C ρ τ v x) (hx : atom x = true) : v.oneCell' = true := by
  cases h <;> first | (simp [atom] at hx; done) | assumption | rfl

theorem cells_one {v : Value} (h : v.oneCell' = true) : v.cells = #[v] := by cases v <;> first | rfl | simp [Value.oneCell'] at h

theorem cells_rv {v : Value} {x : AV} {l : List AV} (h : RV C ρ τ v x) (hc : cells? x = some l) :
    v.cells.size = l.length ∧ (∀ (i : Nat) (u : Value) (y : AV), v.cells[i]? = some u → l[i]? = some y → RV C ρ τ u y) ∧ (∀ (i : Nat) (u : Value), v.cells[i]? = some u → u.oneCell' = true) := by
  have one : atom x = true → l = [x] → v.cells.size = l.length ∧ (∀ (i : Nat) (u : Value) (y : AV), v.cells[i]? = some u → l[i]? = some y → RV C ρ τ u y) ∧ (∀ (i : Nat) (u : Value), v.cells[i]? = some u → u.oneCell' = true) := by
    intro hx hl
    have h1 := oneCell_atom h hx
    subst hl
    rw [cells_one h1]
    refine ⟨by simp, fun i u y hu hy => ?_, fun i u hu => ?_⟩
    · cases i with
      | zero => simp at hu hy; subst hu hy; exact h
      | succ i => simp at hu
    · cases i with
      | zero => simp at hu; subst hu; exact h1
      | succ i => simp at hu
  cases x with
  | any => simp [cells?] at hc
  | tup l => simp [cells?] at hc
  | agg l' =>
    simp only [cells?, Option.some.injEq] at hc
    subst hc
    cases h with
    | agg cs l hl h h1 => exact ⟨hl, h, h1⟩
  | v u => exact one rfl (by simpa [cells?] using hc.symm)
  | list sz xs tk => exact one rfl (by simpa [cells?] using hc.symm)
  | box k off => exact one rfl (by simpa [cells?] using hc.symm)
  | ptr l => exact one rfl (by simpa [cells?] using hc.symm)
  | sl k n sz => exact one rfl (by simpa [cells?] using hc.symm)
  | clo f l => exact one rfl (by simpa [cells?] using hc.symm)

theorem fgt_rv {v : Value} {x : AV} (h : RV C ρ τ v x) : RV C ρ τ v (fgt x) := by
  cases h with
  | list sz xs tk A n c cv hn hc hm hcell hrv htk => exact .list sz xs .no A n c cv hn hc hm hcell hrv trivial
  | any v => exact .any v
  | v v h => exact .v v h
  | agg cs l hl h h1 => exact .agg cs l hl h h1
  | tup cs l hl h => exact .tup cs l hl h
  | box k b off h => exact .box k b off h
  | ptr b o l cv h hr => exact .ptr b o l cv h hr
  | sl k b n c sz h hc hm => exact .sl k b n c sz h hc hm
  | clo f cs l hl h => exact .clo f cs l hl h

theorem clean_rv {v : Value} {x : AV} (h : RV C ρ τ v x) (hc : clean x = true) : RV C noρ noτ v x := by
  cases h with
  | list sz xs tk A n c cv hn hc' hm hcell hrv htk =>
    cases tk with
    | no => exact .list sz xs .no A n c cv hn hc' hm hcell hrv trivial
    | nil => simp [clean] at hc
    | own k => simp [clean] at hc
  | any v => simp [clean] at hc
  | v v h => exact .v v h
  | agg cs l hl h h1 => simp [clean] at hc
  | tup cs l hl h => simp [clean] at hc
  | box k b off h => simp [clean] at hc
  | ptr b o l cv h hr => exact .ptr b o l cv h hr
  | sl k b n c sz h hc' hm => simp [clean] at hc
  | clo f cs l hl h => exact .clo f cs l hl h

theorem info_of_underlying {t : TypeId} {d : TypeDesc} (h : P.underlying t = some d) : ∃ i, P.info? t = some i := by
  unfold Program.underlying at h
  cases e : P.info? t with
  | none => rw [e] at h; cases h
  | some i => exact ⟨i, rfl⟩

theorem run_size {t : TypeId} (h : (P.info? t).isSome) (w : World) : (sizeOf t).run P w = .ok (P.cellsOf t) w := by
  obtain ⟨i, hi⟩ := Option.isSome_iff_exists.1 h
  simp [sizeOf, typeInfo, hi, Program.cellsOf]

/-! ### Loads -/
theorem run_load_of {t : TypeId} {b o : Nat} {l : List AV} {v : AV} (f : Nat → Value) (hrd : rdAV P t l = some v) (hc : ∀ j, j < l.length → w.cell? ⟨b, o + j, none⟩ = some (f j))
    (hv : ∀ (j : Nat) (x : AV), l[j]? = some x → RV C ρ τ (f j) x) (h1 : ∀ j, j < l.length → (f j).oneCell' = true) :
    ∃ u, (loadVar t ⟨b, o, none⟩).run P w = .ok u w ∧ RV C ρ τ u v := by
  unfold rdAV aggT at hrd
  cases hu : P.underlying t with
  | none => rw [hu] at hrd; simp at hrd
  | some d =>
    rw [hu] at hrd
    have hi := info_of_underlying hu
    have hs := run_size (P := P) (t := t) (by obtain ⟨i, hi⟩ := hi; simp [hi]) w
    have agg : (match d with | .struct _ | .array _ _ => true | _ => false) = true → (if P.cellsOf t ≤ l.length then some (AV.agg (l.take (P.cellsOf t))) else none) = some v →
        ∃ u, (loadVar t ⟨b, o, none⟩).run P w = .ok u w ∧ RV C ρ τ u v := by
      intro hd hv'
      split at hv'
      case isFalse => cases hv'
      case isTrue hle =>
        cases hv'
        have hl := run_loadCells (P := P) w ⟨b, o, none⟩ (P.cellsOf t) f (fun j hj => by rw [Addr.add_lit]; exact hc j (by omega))
        refine ⟨.agg ((List.range (P.cellsOf t)).map f).toArray, ?_, .agg _ _ (by simp; omega) ?_ ?_⟩
        · have hag : (isAgg t).run P w = .ok true w := by
            cases d <;> simp at hd <;> simp [isAgg, run_underlying hu]
          simp [loadVar, hag, hs, hl]
        · intro i u x hu' hx
          have hx' : l[i]? = some x := by
            rw [List.getElem?_take] at hx
            split at hx
            · exact hx
            · cases hx
          have hi' : i < P.cellsOf t := by
            rw [List.getElem?_take] at hx
            split at hx
            · assumption
            · cases hx
          simp [hi'] at hu'
          subst hu'
          exact hv i x hx'
        · intro i u hu'
          by_cases hi' : i < P.cellsOf t
          · simp [hi'] at hu'
            subst hu'
            exact h1 _ (by omega)
          · simp [hi'] at hu'
    have one : (match d with | .struct _ | .array _ _ => true | _ => false) = false → l.head? = some v → ∃ u, (loadVar t ⟨b, o, none⟩).run P w = .ok u w ∧ RV C ρ τ u v := by
      intro hd hh
      have h0 : l[0]? = some v := by rw [← List.head?_eq_getElem?]; exact hh
      have hlt : 0 < l.length := by cases l <;> simp at hh ⊢
      have hag : (isAgg t).run P w = .ok false w := by
        cases d <;> simp at hd <;> simp [isAgg, run_underlying hu]
      have hcell := hc 0 hlt
      simp only [Nat.add_zero] at hcell
      exact ⟨f 0, by simp [loadVar, hag, run_load, hcell], hv 0 v h0⟩
    cases d <;> first | exact agg rfl (by simpa using hrd) | exact one rfl (by simpa using hrd)

theorem box_cells {k : Key} {B : Box} (h : RepG N w0 C0 E s a w C ρ τ) (hB : s.b k = some B) {b : Nat} (hρ : ρ k = some b) :
    ∃ cs ty, w.heap[b]? = some (.cells cs ty (0, 0)) ∧ cs.size = B.c.length ∧ (∀ (i : Nat) (v : Value), cs[i]? = some v → v.oneCell' = true) ∧
      (∀ (i : Nat) (v : Value) (x : AV), cs[i]? = some v → B.c[i]? = some x → RV C ρ τ v x) := by
  obtain ⟨b', hρ', ⟨⟨cs, ty, h1, h2, h3, h4, _⟩, _⟩, _⟩ := h.bx k B hB
  rw [hρ] at hρ'
  cases hρ'
  exact ⟨cs, ty, h1, h2, h3, h4⟩

end Go.Sy

/- Operations that only make a value. -/
namespace Go.Sy
open Go Go.RowKit

variable {N : Nat} {w0 : World} {C0 : CMap} {E : EX} {s : St} {a : Act} {w : World} {C : CMap} {ρ : RMap} {τ : TMap} {P : Program} {o : Oper} {e : Eff}

theorem ev_move {x : Operand} (h : RepG N w0 C0 E s a w C ρ τ) (hN : ∀ d, o.dst = some d → d < N) (ho : o.op = .move x) (he : ev P s o = some e) : Done N w0 C0 E P o a w (s.app o.dst e) := by
  simp only [ev, ho, Option.some.injEq] at he
  subst he
  exact done_val h hN (by simp [execOp, ho]) (opnd h _ _)

theorem ev_assign {x : Operand} (h : RepG N w0 C0 E s a w C ρ τ) (hN : ∀ d, o.dst = some d → d < N) (ho : o.op = .assign x) (he : ev P s o = some e) : Done N w0 C0 E P o a w (s.app o.dst e) := by
  simp only [ev, ho, Option.some.injEq] at he
  subst he
  exact done_val h hN (by simp [execOp, ho]) (opnd h _ _)

theorem ev_pick {c x y : Operand} (h : RepG N w0 C0 E s a w C ρ τ) (hN : ∀ d, o.dst = some d → d < N) (ho : o.op = .pick c x y) (he : ev P s o = some e) : Done N w0 C0 E P o a w (s.app o.dst e) := by
  simp only [ev, ho] at he
  have hc := opnd (P := P) h 0 c
  split at he
  · rename_i b hb
    cases he
    rw [hb] at hc
    have := (rv_v hc).1
    refine done_val h hN (v := if b = true then a.eval x else a.eval y) (by simp [execOp, ho, this, asBool]) ?_
    split
    · exact opnd h _ _
    · exact opnd h _ _
  · cases he

theorem ev_extract {x : Operand} {i : Nat} (h : RepG N w0 C0 E s a w C ρ τ) (hN : ∀ d, o.dst = some d → d < N) (ho : o.op = .extract x i) (he : ev P s o = some e) : Done N w0 C0 E P o a w (s.app o.dst e) := by
  simp only [ev, ho] at he
  have hc := opnd (P := P) h 0 x
  split at he
  · rename_i l hl
    rw [hl] at hc
    obtain ⟨v, hv, rfl⟩ := Option.map_eq_some_iff.1 he
    cases hx : a.eval x with
    | tuple cs =>
      rw [hx] at hc
      cases hc with
      | tup _ _ hsz hh =>
        have hi : i < cs.size := by rw [hsz]; exact (List.getElem?_eq_some_iff.1 hv).1
        exact done_val h hN (v := cs[i]) (by simp [execOp, ho, hx, Instr.extract, hi]) (hh i _ _ (by simp [hi]) hv)
    | _ => rw [hx] at hc; cases hc
  · cases he

theorem ev_nilCheck {x : Operand} (h : RepG N w0 C0 E s a w C ρ τ) (hN : ∀ d, o.dst = some d → d < N) (ho : o.op = .nilCheck x) (he : ev P s o = some e) : Done N w0 C0 E P o a w (s.app o.dst e) := by
  simp only [ev, ho] at he
  have hc := opnd (P := P) h 0 x
  split at he
  · rename_i k off hl
    cases he
    rw [hl] at hc
    cases hx : a.eval x <;> rw [hx] at hc <;> cases hc
    rename_i hk
    exact done_val h hN (by simp [execOp, ho, hx]) (.box _ _ _ hk)
  · rename_i l hl
    cases he
    rw [hl] at hc
    cases hx : a.eval x <;> rw [hx] at hc <;> cases hc
    rename_i cv h1 h2
    exact done_val h hN (by simp [execOp, ho, hx]) (.ptr _ _ _ cv h1 h2)
  · rename_i f l hl
    cases he
    rw [hl] at hc
    cases hx : a.eval x <;> rw [hx] at hc <;> cases hc
    rename_i h1 h2
    exact done_val h hN (by simp [execOp, ho, hx]) (.clo _ _ _ h1 h2)
  · cases he

theorem ev_unOp {op : UnOp} {t : TypeId} {x : Operand} (h : RepG N w0 C0 E s a w C ρ τ) (hN : ∀ d, o.dst = some d → d < N) (ho : o.op = .unOp op t x) (he : ev P s o = some e) : Done N w0 C0 E P o a w (s.app o.dst e) := by
  simp only [ev, ho] at he
  have hc := opnd (P := P) h 0 x
  split at he
  · rename_i b hb
    cases he
    rw [hb] at hc
    have := (rv_v hc).1
    exact done_val h hN (v := .bool !b) (by simp [execOp, ho, this, Op.unary]) (.v _ rfl)
  · rename_i k n hb
    cases he
    rw [hb] at hc
    have := (rv_v hc).1
    exact done_val h hN (v := .int k (k.wrap (0 - n))) (by simp [execOp, ho, this, Op.unary, Op.intArith]) (.v _ rfl)
  · cases he

theorem ev_convert {t u : TypeId} {x : Operand} (h : RepG N w0 C0 E s a w C ρ τ) (hN : ∀ d, o.dst = some d → d < N) (ho : o.op = .convert t u x) (he : ev P s o = some e) : Done N w0 C0 E P o a w (s.app o.dst e) := by
  simp only [ev, ho] at he
  have hc := opnd (P := P) h t x
  split at he
  · rename_i d k k' n h1 h2 hb
    cases he
    rw [hb] at hc
    have := (rv_v hc).1
    exact done_val h hN (v := .int k (k.wrap n)) (by simp [execOp, ho, this, convert, run_underlying h1, run_underlying h2, Conv.intToInt]) (.v _ rfl)
  · cases he

theorem drop_ptr {b o' : Nat} {l : List AV} (k : Nat) (h : RV C ρ τ (.pointer (some ⟨b, o', none⟩)) (.ptr l)) : RV C ρ τ (.pointer (some ⟨b, o' + k, none⟩)) (.ptr (l.drop k)) := by
  cases h with
  | ptr _ _ _ cv h1 h2 =>
    refine .ptr _ _ _ (fun j => cv (k + j)) (fun j hj => ?_) (fun j y hy => ?_)
    · rw [show o' + k + j = o' + (k + j) by omega]
      exact h1 _ (by simp at hj; omega)
    · exact h2 _ _ (by simpa using hy)

theorem ev_fieldAddr {t : TypeId} {x : Operand} {f : Nat} (h : RepG N w0 C0 E s a w C ρ τ) (hN : ∀ d, o.dst = some d → d < N) (ho : o.op = .fieldAddr t x f) (he : ev P s o = some e) : Done N w0 C0 E P o a w (s.app o.dst e) := by
  simp only [ev, ho] at he
  have hc := opnd (P := P) h 0 x
  have run : ∀ {off : Nat} {b o' : Nat}, foff P t f = some off → a.eval x = .pointer (some ⟨b, o', none⟩) → (execOp a.eval o).run P w = .ok (.value (.pointer (some ⟨b, o' + off, none⟩))) w := by
    intro off b o' hf hx
    unfold foff at hf
    split at hf
    case h_1 fs hu =>
      split at hf
      case h_1 fd hfd =>
        split at hf
        case isTrue hsz =>
          cases hf
          simp [execOp, ho, hx, Instr.fieldAt, run_underlying hu, hfd, Instr.sureAddr, fieldPlace, run_size hsz.1, hsz.2]
          rw [Addr.add_lit]
        case isFalse => cases hf
      case h_2 => cases hf
    case h_2 => cases hf
  split at he
  · rename_i k off o' hl hf
    cases he
    rw [hl] at hc
    cases hx : a.eval x <;> rw [hx] at hc <;> cases hc
    rename_i b hk
    exact done_val h hN (run hf hx) (.box _ _ _ hk)
  · rename_i l o' hl hf
    cases he
    rw [hl] at hc
    cases hx : a.eval x <;> rw [hx] at hc <;> (have hc' := hc; cases hc)
    exact done_val h hN (run hf hx) (drop_ptr _ hc')
  · cases he

theorem ev_len {args : Array Operand} {ts : Array TypeId} (h : RepG N w0 C0 E s a w C ρ τ) (hN : ∀ d, o.dst = some d → d < N) (ho : o.op = .call { callee := .builtin .len, args := args, argTypes := ts }) (he : ev P s o = some e) : Done N w0 C0 E P o a w (s.app o.dst e) := by
  simp only [ev, ho] at he
  split at he
  case h_2 => cases he
  rename_i x t hx ht
  have hargs : args = #[x] := by apply Array.ext'; simpa using hx
  have hts : ts = #[t] := by apply Array.ext'; simpa using ht
  subst hargs hts
  split at he
  case isFalse => cases he
  rename_i hsl
  have hu : ∃ el, P.underlying t = some (.slice el) := by
    unfold slT at hsl
    split at hsl
    · exact ⟨_, by assumption⟩
    · cases hsl
  obtain ⟨el, hu⟩ := hu
  have hc := opnd (P := P) h t x
  have run : ∀ {A : Option Addr} {n c : Nat}, a.eval x = .slice A n c → (execOp a.eval o).run P w = .ok (.value (.int .i64 n)) w := by
    intro A n c hx
    simp [execOp, ho, resolve, invoke, builtin, hx, Builtin.len_, run_underlying hu, goInt]
  split at he
  · rename_i sz xs tk hl
    cases he
    rw [hl] at hc
    obtain ⟨A, c, cv, hx, _⟩ := rv_list hc
    exact done_val h hN (run hx) (.v _ rfl)
  · rename_i k n sz hl
    cases he
    rw [hl] at hc
    obtain ⟨b, c, hx, _⟩ := rv_sl hc
    exact done_val h hN (run hx) (.v _ rfl)
  · cases he

theorem ev_maxmin {b : Builtin} (hb : b = .max ∨ b = .min) {args : Array Operand} {ts : Array TypeId} (h : RepG N w0 C0 E s a w C ρ τ) (hN : ∀ d, o.dst = some d → d < N) (ho : o.op = .call { callee := .builtin b, args := args, argTypes := ts }) (he : ev P s o = some e) : Done N w0 C0 E P o a w (s.app o.dst e) := by
  rcases hb with rfl | rfl
  all_goals
    simp only [ev, ho] at he
    split at he
    case h_2 => cases he
    rename_i x y hx
    have hargs : args = #[x, y] := by apply Array.ext'; simpa using hx
    subst hargs
    split at he
    case h_2 => cases he
    rename_i k m k' n h1 h2
    cases he
    have c1 := opnd (P := P) h 0 x
    have c2 := opnd (P := P) h 0 y
    rw [h1] at c1
    rw [h2] at c2
    have e1 := (rv_v c1).1
    have e2 := (rv_v c2).1
    refine done_val h hN (v := _) ?_ (.v _ rfl)
    simp [execOp, ho, resolve, invoke, builtin, e1, e2, Builtin.max_, Builtin.min_, Builtin.max2, Builtin.min2]

theorem ev_slice {t : TypeId} {x hi : Operand} (h : RepG N w0 C0 E s a w C ρ τ) (hN : ∀ d, o.dst = some d → d < N) (ho : o.op = .slice t x none (some hi) none) (he : ev P s o = some e) : Done N w0 C0 E P o a w (s.app o.dst e) := by
  simp only [ev, ho] at he
  split at he
  case h_2 => cases he
  rename_i sz xs tk k n h1 h2
  split at he
  case isFalse => cases he
  rename_i hcond
  obtain ⟨hsl, hsz, hn0, hn1⟩ := hcond
  cases he
  have c1 := opnd (P := P) h t x
  have c2 := opnd (P := P) h 0 hi
  rw [h1] at c1
  rw [h2] at c2
  have e2 := (rv_v c2).1
  unfold slT at hsl
  split at hsl
  case h_2 => cases hsl
  rename_i el hu
  simp only [Bool.and_eq_true, decide_eq_true_eq] at hsl
  obtain ⟨A, c, cv, hx, hmc, hcm, hcell, hrv, htk⟩ := rv_list c1
  have hle : (n ≤ (c : Int)) := by omega
  refine done_val h hN (v := .slice A n.toNat c) ?_ (.list _ _ .no _ _ _ cv (by simp; omega) (by omega) hcm ?_ ?_ trivial)
  · have hz : (sizeOf el).run P w = .ok (P.cellsOf el) w := run_size hsl.1 w
    simp [execOp, ho, hx, e2, Instr.sliceAt, run_underlying hu, Instr.slice, Instr.sliceBounds, Instr.sliceBound, asIntOf, hn0, hle, hz]
    intro hc0
    cases A with
    | none => rfl
    | some ad => simp [Addr.add]
  · intro i y hy
    rw [List.getElem?_take] at hy
    split at hy
    · exact hcell i y hy
    · cases hy
  · intro i y j z hy hz
    rw [List.getElem?_take] at hy
    split at hy
    · exact hrv i y j z hy hz
    · cases hy

end Go.Sy

/- Operations that read: an index, a comparison, a load; a closure's making. -/
namespace Go.Sy
open Go Go.RowKit

variable {N : Nat} {w0 : World} {C0 : CMap} {E : EX} {s : St} {a : Act} {w : World} {C : CMap} {ρ : RMap} {τ : TMap} {P : Program} {o : Oper} {e : Eff}

theorem slT_elim {t : TypeId} (h : slT P t = true) : ∃ el, P.underlying t = some (.slice el) ∧ (P.info? el).isSome ∧ 0 < P.cellsOf el ∧ esz P t = P.cellsOf el ∧ ebytes P t = P.bytesOf el := by
  unfold slT at h
  split at h
  · rename_i el hu
    simp only [Bool.and_eq_true, decide_eq_true_eq] at h
    exact ⟨el, hu, h.1, h.2, by simp [esz, hu], by simp [ebytes, hu]⟩
  · cases h

theorem ev_indexAddr {t : TypeId} {x i : Operand} (h : RepG N w0 C0 E s a w C ρ τ) (hN : ∀ d, o.dst = some d → d < N) (ho : o.op = .indexAddr t x i) (he : ev P s o = some e) : Done N w0 C0 E P o a w (s.app o.dst e) := by
  simp only [ev, ho] at he
  obtain ⟨r, hr, rfl⟩ := Option.map_eq_some_iff.1 he
  have c1 := opnd (P := P) h t x
  have c2 := opnd (P := P) h 0 i
  unfold idxAV at hr
  split at hr
  · rename_i sz xs tk k n h1 h2
    rw [h1] at c1; rw [h2] at c2
    have e2 := (rv_v c2).1
    split at hr
    case isFalse => cases hr
    rename_i hcond
    obtain ⟨hsl, hsz, hn0, hn1⟩ := hcond
    obtain ⟨el, hu, hi, hpos, hez, _⟩ := slT_elim hsl
    obtain ⟨y, hy, rfl⟩ := Option.map_eq_some_iff.1 hr
    obtain ⟨A, c, cv, hx, hmc, hcm, hcell, hrv, htk⟩ := rv_list c1
    obtain ⟨hyl, b, o', hA, hcells⟩ := hcell _ _ hy
    subst hA
    refine done_val h hN (v := .pointer (some ⟨b, o' + n.toNat * sz, none⟩)) ?_ (.ptr _ _ _ (cv n.toNat) (fun j hj => hcells j (by omega)) (fun j z hz => hrv _ _ _ _ hy hz))
    have hz : (sizeOf el).run P w = .ok (P.cellsOf el) w := run_size hi w
    simp [execOp, ho, hx, e2, Instr.indexAt, run_underlying hu, asIntOf, hn0, hn1, hz, hsz, hez]
    rw [Addr.add_lit]
  · rename_i k len sz kk n h1 h2
    rw [h1] at c1; rw [h2] at c2
    have e2 := (rv_v c2).1
    split at hr
    case isFalse => cases hr
    rename_i hcond
    obtain ⟨hsl, _, hn0, hn1⟩ := hcond
    obtain ⟨el, hu, hi, hpos, hez, _⟩ := slT_elim hsl
    cases hr
    obtain ⟨b, c, hx, hρ, hlc, hcm⟩ := rv_sl c1
    refine done_val h hN (v := .pointer (some ⟨b, n.toNat * esz P t, none⟩)) ?_ (.box _ _ _ hρ)
    have hz : (sizeOf el).run P w = .ok (P.cellsOf el) w := run_size hi w
    simp [execOp, ho, hx, e2, Instr.indexAt, run_underlying hu, asIntOf, hn0, hn1, hz, hez]
    rw [Addr.add_lit, Nat.zero_add]
  · rename_i l kk n h1 h2
    rw [h1] at c1; rw [h2] at c2
    have e2 := (rv_v c2).1
    split at hr
    case h_2 => cases hr
    rename_i m el hu
    split at hr
    case isFalse => cases hr
    rename_i hcond
    obtain ⟨hi, hn0, hn1⟩ := hcond
    cases hr
    obtain ⟨b, o', cv, hx, _, _⟩ := rv_ptr c1
    refine done_val h hN (v := .pointer (some ⟨b, o' + n.toNat * P.cellsOf el, none⟩)) ?_ (drop_ptr _ (by rw [← hx]; exact c1))
    have hz : (sizeOf el).run P w = .ok (P.cellsOf el) w := run_size hi w
    simp [execOp, ho, hx, e2, Instr.indexAt, run_underlying hu, asIntOf, hn0, hn1, hz, Instr.sureAddr]
    rw [Addr.add_lit]
  · cases hr

/-! ### Comparisons -/
theorem eqInts_run {d : Nat} {X Y : Array Value} : ∀ (fs : List Field) (k : Nat) (x y : List AV) (r : Bool),
    (fs.zipIdx k).all (fun (f, i) => decide (f.name ≠ "_") && f.offset == i && (match P.underlying f.type with | some (.int .i64) => true | _ => false)) = true →
    (∀ (i : Nat) (v : AV), x[i]? = some v → ∃ u, X[k + i]? = some u ∧ RV C ρ τ u v) → (∀ (i : Nat) (v : AV), y[i]? = some v → ∃ u, Y[k + i]? = some u ∧ RV C ρ τ u v) → x.length = fs.length → y.length = fs.length →
    eqInts x y = some r → (Op.eqFields (d + 1) X Y fs).run P w = .ok r w
  | [], k, x, y, r, _, _, _, hl, hl', he => by
    have : x = [] := List.eq_nil_of_length_eq_zero hl
    have h2 : y = [] := List.eq_nil_of_length_eq_zero hl'
    subst this h2
    simp only [eqInts, Option.some.injEq] at he
    subst he
    simp [Op.eqFields]
  | f :: fs, k, x, y, r, hall, hX, hY, hl, hl', he => by
    unfold eqInts at he
    split at he
    · simp at hl
    · rename_i a x' b y'
      obtain ⟨r', hr', rfl⟩ := Option.map_eq_some_iff.1 he
      simp only [List.zipIdx_cons, List.all_cons, Bool.and_eq_true, decide_eq_true_eq, beq_iff_eq] at hall
      obtain ⟨⟨⟨hname, hoff⟩, hty⟩, hrest⟩ := hall
      have hu : P.underlying f.type = some (.int .i64) := by
        split at hty
        · assumption
        · cases hty
      obtain ⟨u1, g1, g2⟩ := hX 0 _ rfl
      obtain ⟨u2, g3, g4⟩ := hY 0 _ rfl
      have e1 := (rv_v g2).1
      have e2 := (rv_v g4).1
      subst e1 e2
      have ih := eqInts_run (d := d) fs (k + 1) x' y' r' hrest (fun i v hv => by have := hX (i + 1) v (by simpa using hv); rwa [show k + (i + 1) = k + 1 + i by omega] at this)
        (fun i v hv => by have := hY (i + 1) v (by simpa using hv); rwa [show k + (i + 1) = k + 1 + i by omega] at this) (by simpa using hl) (by simpa using hl') hr'
      have hag : (isAgg f.type).run P w = .ok false w := by simp [isAgg, run_underlying hu]
      simp only [Nat.add_zero] at g1 g3
      have p1 : (part f.type X f.offset).run P w = .ok (.int .i64 a) w := by simp [part, hag, hoff, g1]
      have p2 : (part f.type Y f.offset).run P w = .ok (.int .i64 b) w := by simp [part, hag, hoff, g3]
      have q : (Op.equalIn (d + 1) f.type (.int .i64 a) (.int .i64 b)).run P w = .ok (a == b) w := run_equalIn_int w d f.type .i64 .i64 a b hu
      simp only [Op.eqFields, hname, ne_eq, not_false_eq_true, if_true, Sem.run_bind, p1, p2, q, Result.andThen_ok]
      cases hab : (a == b)
      · simp
      · simp [ih]
    · cases he

theorem binAV_rv {op : BinOp} {t : TypeId} {u v : Value} {x y r : AV} (hx : RV C ρ τ u x) (hy : RV C ρ τ v y) (hr : binAV P op t x y = some r) (X Y : Operand) :
    ∃ z, (do eqGuard op t X Y u v; binOp op t u v : Sem Value).run P w = .ok z w ∧ RV C ρ τ z r := by
  unfold binAV at hr
  split at hr
  · rename_i k a k' b
    have e1 := (rv_v hx).1
    have e2 := (rv_v hy).1
    subst e1 e2
    have hg : (eqGuard op t X Y (.int k a) (.int k' b)).run P w = .ok () w := by cases op <;> simp [eqGuard]
    split at hr
    · rename_i hk
      subst hk
      cases op <;> simp only [Option.some.injEq, reduceCtorEq] at hr
      case add => subst hr; exact ⟨_, by simp [hg, binOp, Op.intArith], .v _ rfl⟩
      case sub => subst hr; exact ⟨_, by simp [hg, binOp, Op.intArith], .v _ rfl⟩
      case mul => subst hr; exact ⟨_, by simp [hg, binOp, Op.intArith], .v _ rfl⟩
      case quo =>
        split at hr
        · cases hr
        · rename_i hb; cases hr; exact ⟨_, by simp [hg, binOp, Op.intDiv, hb], .v _ rfl⟩
      case rem =>
        split at hr
        · cases hr
        · rename_i hb; cases hr; exact ⟨_, by simp [hg, binOp, Op.intDiv, hb], .v _ rfl⟩
      case and => subst hr; exact ⟨_, by simp [hg, binOp, Op.intBits], .v _ rfl⟩
      case shr =>
        split at hr
        · cases hr
        · rename_i hb; cases hr; exact ⟨_, by simp [hg, binOp, Op.shift, hb], .v _ rfl⟩
      all_goals (subst hr; exact ⟨_, by simp [hg, binOp, Op.intCmp], .v _ rfl⟩)
    · rename_i hk
      cases op <;> simp only [reduceCtorEq] at hr
      case shr =>
        split at hr
        · cases hr
        · rename_i hb; cases hr; exact ⟨_, by simp [hg, binOp, Op.shift, hb], .v _ rfl⟩
  · rename_i x y
    split at hr
    case isFalse => cases hr
    rename_i hcond
    simp only [Bool.and_eq_true, decide_eq_true_eq] at hcond
    obtain ⟨⟨hint, hlx⟩, hly⟩ := hcond
    unfold intStruct at hint
    split at hint
    case h_2 => cases hint
    rename_i fs hu
    simp only [Bool.and_eq_true, Bool.not_eq_true', beq_iff_eq] at hint
    obtain ⟨⟨⟨hst, hgd⟩, hsz⟩, hall⟩ := hint
    obtain ⟨X', rfl, hX1, hX2, _⟩ := rv_agg hx
    obtain ⟨Y', rfl, hY1, hY2, _⟩ := rv_agg hy
    have hf : P.underlying t = some (.struct (P.fieldsOf t)) := by simp [Program.fieldsOf, hu]
    have hfs : P.fieldsOf t = fs := by simp [Program.fieldsOf, hu]
    have main : ∀ r', eqInts x y = some r' → (Op.equalIn 10000 t (.agg X') (.agg Y')).run P w = .ok r' w := by
      intro r' hr'
      rw [run_equalIn_agg w 9999 t X' Y' hf hst, hfs]
      refine eqInts_run (d := 9998) (C := C) (ρ := ρ) (τ := τ) fs.toList 0 x y r' hall (fun i v hv => ?_) (fun i v hv => ?_) (by simp; omega) (by simp; omega) hr'
      · have hi : i < X'.size := by rw [hX1]; exact (List.getElem?_eq_some_iff.1 hv).1
        exact ⟨X'[i], by simp [hi], hX2 i _ _ (by simp [hi]) hv⟩
      · have hi : i < Y'.size := by rw [hY1]; exact (List.getElem?_eq_some_iff.1 hv).1
        exact ⟨Y'[i], by simp [hi], hY2 i _ _ (by simp [hi]) hv⟩
    have hg : (eqGuard op t X Y (.agg X') (.agg Y')).run P w = .ok () w := run_eqGuard_agg w op t X Y X' Y' hgd
    cases op <;> simp only [reduceCtorEq] at hr
    case eql =>
      obtain ⟨r', hr', rfl⟩ := Option.map_eq_some_iff.1 hr
      exact ⟨.bool r', by simp only [Sem.run_bind, hg, Result.andThen_ok, run_eql_struct, main r' hr'], .v _ rfl⟩
    case neq =>
      obtain ⟨r', hr', rfl⟩ := Option.map_eq_some_iff.1 hr
      exact ⟨.bool !r', by simp only [Sem.run_bind, hg, Result.andThen_ok, run_neq_struct, main r' hr'], .v _ rfl⟩
  · rename_i a b
    have e1 := (rv_v hx).1
    have e2 := (rv_v hy).1
    subst e1 e2
    have hg : (eqGuard op t X Y (.bool a) (.bool b)).run P w = .ok () w := by cases op <;> simp [eqGuard]
    split at hr
    · rename_i hu; cases hr; exact ⟨_, by simp [hg, binOp, run_equal_bool w t a b hu], .v _ rfl⟩
    · rename_i hu; cases hr; exact ⟨_, by simp [hg, binOp, run_equal_bool w t a b hu]; cases a <;> cases b <;> rfl, .v _ rfl⟩
    · cases hr
  · cases hr

theorem ev_binOp {op : BinOp} {t u : TypeId} {x y : Operand} (h : RepG N w0 C0 E s a w C ρ τ) (hN : ∀ d, o.dst = some d → d < N) (ho : o.op = .binOp op t x y u) (he : ev P s o = some e) : Done N w0 C0 E P o a w (s.app o.dst e) := by
  simp only [ev, ho] at he
  obtain ⟨r, hr, rfl⟩ := Option.map_eq_some_iff.1 he
  obtain ⟨z, hz, hrv⟩ := binAV_rv (w := w) (opnd (P := P) h t x) (opnd (P := P) h t y) hr x y
  refine done_val h hN (v := z) ?_ hrv
  have : execOp a.eval o = (do pure (Next.value (← (do eqGuard op t x y (a.eval x) (a.eval y); binOp op t (a.eval x) (a.eval y) : Sem Value)))) := by simp [execOp, ho]
  rw [this, Sem.run_bind, hz]
  simp

/-! ### Loads -/
theorem ev_load {t : TypeId} {x : Operand} (h : RepG N w0 C0 E s a w C ρ τ) (hN : ∀ d, o.dst = some d → d < N) (ho : o.op = .load t x) (he : ev P s o = some e) : Done N w0 C0 E P o a w (s.app o.dst e) := by
  simp only [ev, ho] at he
  have c1 := opnd (P := P) h 0 x
  have fin : ∀ {b o' : Nat} {u : Value} {r : AV}, a.eval x = .pointer (some ⟨b, o', none⟩) → (loadVar t ⟨b, o', none⟩).run P w = .ok u w → RV C ρ τ u r → Done N w0 C0 E P o a w (s.app o.dst { v := r }) := by
    intro b o' u r hx hl hr
    refine done_val h hN (v := u) ?_ hr
    simp [execOp, ho, hx, Instr.loadAt, Instr.sureAddr, hl]
  split at he
  · rename_i k off hk
    rw [hk] at c1
    split at he
    case h_2 => cases he
    rename_i B hB
    split at he
    case isFalse => cases he
    rename_i hoff
    obtain ⟨r, hr, rfl⟩ := Option.map_eq_some_iff.1 he
    obtain ⟨b, hx, hρ⟩ := rv_box c1
    obtain ⟨cs, ty, g1, g2, g3, g4⟩ := box_cells h hB hρ
    have hcs : ∀ j, j < (B.c.drop off).length → cs[off + j]? = some (cs.getD (off + j) undef) := by
      intro j hj
      have : off + j < cs.size := by simp at hj; omega
      simp [this]
    obtain ⟨u, hu, hru⟩ := run_load_of (P := P) (C := C) (ρ := ρ) (τ := τ) (w := w) (b := b) (o := off) (fun j => cs.getD (off + j) undef) hr
      (fun j hj => by simp only [World.cell?, g1]; exact hcs j hj)
      (fun j y hy => g4 (off + j) _ _ (hcs j (List.getElem?_eq_some_iff.1 hy).1) (by simpa using hy)) (fun j hj => g3 _ _ (hcs j hj))
    exact fin hx hu hru
  · rename_i l hk
    rw [hk] at c1
    obtain ⟨r, hr, rfl⟩ := Option.map_eq_some_iff.1 he
    obtain ⟨b, o', cv, hx, hc, hv⟩ := rv_ptr c1
    obtain ⟨u, hu, hru⟩ := run_load_of (P := P) (C := C) (ρ := ρ) (τ := τ) (w := w) (b := b) (o := o') cv hr (fun j hj => (h.cw _ _ _ (hc j hj)).1) (fun j y hy => (hv j y hy).lift ρ τ) (fun j hj => (h.cw _ _ _ (hc j hj)).2)
    exact fin hx hu hru
  · cases he

theorem capAV_rv (h : RepG N w0 C0 E s a w C ρ τ) : ∀ (xs : List Operand) (l : List AV), capAV s (xs.map (s.o P 0)) = some l → ∀ (i : Nat) (y : AV), l[i]? = some y → ∃ x, xs[i]? = some x ∧ RV C noρ noτ (a.eval x) y
  | [], l, he => by simp only [List.map_nil, capAV, Option.some.injEq] at he; subst he; intro i y hy; simp at hy
  | x :: xs, l, he => by
    simp only [List.map_cons] at he
    have c1 := opnd (P := P) h 0 x
    have fin : ∀ {l1 l2 : List AV}, RV C noρ noτ (a.eval x) (.ptr l1) → capAV s (xs.map (s.o P 0)) = some l2 → ∀ (i : Nat) (y : AV), (AV.ptr l1 :: l2)[i]? = some y → ∃ x', (x :: xs)[i]? = some x' ∧ RV C noρ noτ (a.eval x') y := by
      intro l1 l2 hr h2 i y hy
      cases i with
      | zero => simp at hy; subst hy; exact ⟨x, rfl, hr⟩
      | succ i => simpa using capAV_rv h xs l2 h2 i y (by simpa using hy)
    unfold capAV at he
    split at he
    · simp at *
    · rename_i k r heq
      rw [List.cons.injEq] at heq
      obtain ⟨hk, rfl⟩ := heq
      rw [hk] at c1
      split at he
      case h_2 => cases he
      rename_i lb hB
      split at he
      case isFalse => cases he
      rename_i hcl
      obtain ⟨l2, h2, rfl⟩ := Option.map_eq_some_iff.1 he
      refine fin ?_ h2
      obtain ⟨b, hx, hρ⟩ := rv_box c1
      rw [hx]
      obtain ⟨b', hρ', ⟨⟨cs, ty, g1, g2, g3, g4, g5⟩, _⟩, _⟩ := h.bx k _ hB
      rw [hρ] at hρ'; cases hρ'
      have hcs : ∀ j, j < lb.length → cs[j]? = some (cs.getD j undef) := by
        intro j hj
        have : j < cs.size := by simp only at g2; omega
        simp [this]
      refine .ptr _ _ _ (fun j => cs.getD j undef) (fun j hj => by rw [Nat.zero_add]; exact g5 rfl j _ (hcs j hj)) (fun j y hy => clean_rv (g4 j _ _ (hcs j (List.getElem?_eq_some_iff.1 hy).1) hy) (List.all_eq_true.1 hcl y (List.mem_of_getElem? hy)))
    · rename_i lb r heq
      rw [List.cons.injEq] at heq
      obtain ⟨hk, rfl⟩ := heq
      rw [hk] at c1
      obtain ⟨l2, h2, rfl⟩ := Option.map_eq_some_iff.1 he
      exact fin (clean_rv c1 rfl) h2
    · cases he

theorem capAV_length {s : St} : ∀ (xs l : List AV), capAV s xs = some l → l.length = xs.length
  | [], l, he => by simp only [capAV, Option.some.injEq] at he; subst he; rfl
  | x :: xs, l, he => by
    unfold capAV at he
    split at he
    · simp at *
    · rename_i k r heq
      rw [List.cons.injEq] at heq
      obtain ⟨_, rfl⟩ := heq
      split at he
      case h_2 => cases he
      split at he
      case isFalse => cases he
      obtain ⟨l2, h2, rfl⟩ := Option.map_eq_some_iff.1 he
      simp [capAV_length _ _ h2]
    · rename_i lb r heq
      rw [List.cons.injEq] at heq
      obtain ⟨_, rfl⟩ := heq
      obtain ⟨l2, h2, rfl⟩ := Option.map_eq_some_iff.1 he
      simp [capAV_length _ _ h2]
    · cases he

theorem ev_makeFunc {f : FuncId} {first caps : Array Operand} (h : RepG N w0 C0 E s a w C ρ τ) (hN : ∀ d, o.dst = some d → d < N) (ho : o.op = .makeFunc (.func f) first caps) (he : ev P s o = some e) : Done N w0 C0 E P o a w (s.app o.dst e) := by
  simp only [ev, ho] at he
  split at he
  case isFalse => cases he
  rename_i hf
  have hf : first = #[] := by simpa [Array.isEmpty_iff] using hf
  subst hf
  obtain ⟨l, hl, rfl⟩ := Option.map_eq_some_iff.1 he
  refine done_val h hN (v := .func (.func f) #[] (caps.map a.eval)) (by simp [execOp, ho, Instr.makeFunc]) (.clo _ _ _ ?_ ?_)
  · have := capAV_length _ _ hl
    simp at this ⊢
    omega
  · intro i v y hv hy
    obtain ⟨x, hx, hr⟩ := capAV_rv h _ _ hl i y hy
    simp at hv hx
    rw [hx] at hv
    simp at hv
    subst hv
    exact hr

end Go.Sy

/- Operations that make or write memory. -/
namespace Go.Sy
open Go Go.RowKit

variable {N : Nat} {w0 : World} {C0 : CMap} {E : EX} {s : St} {a : Act} {w : World} {C : CMap} {ρ : RMap} {τ : TMap} {P : Program} {o : Oper} {e : Eff}

/-- A new block, by itself. -/
theorem below_new (w : World) (x : Obj) : Below w.heap.size w (w.alloc x) := (Below.refl _ w).alloc (Nat.le_refl _) x

theorem newC (h : RepG N w0 C0 E s a w C ρ τ) (o : Nat) : C w.heap.size o = none := by
  cases hc : C w.heap.size o with
  | none => rfl
  | some v => have := cell_lt (h.cw _ _ _ hc).1; omega
theorem newB (h : RepG N w0 C0 E s a w C ρ τ) (k : Key) (B : Box) (hB : s.b k = some B) : ρ k ≠ some w.heap.size := by
  obtain ⟨b, hρ, ⟨⟨cs, ty, g1, _⟩, _⟩, _⟩ := h.bx k B hB
  intro e
  rw [hρ] at e
  cases e
  have := heap_lt g1
  omega
theorem newT (h : RepG N w0 C0 E s a w C ρ τ) (k : Key) (v : Value) (n : Nat) (hk : τ k = some (v, n)) (hd : s.d k = false) : blk v ≠ some w.heap.size := by
  obtain ⟨A, n', c, rfl, h1⟩ := h.tk k v n hk hd
  intro e
  obtain ⟨hc, ad, rfl, hb⟩ := blk_cap e
  rcases h1 with h1 | ⟨b, cs, ty, hA, g2, _⟩
  · exact hc h1
  · cases hA
    have := heap_lt g2
    simp only at hb
    omega

/-- A block of the call's own that a box takes. -/
theorem RepG.alloc (h : RepG N w0 C0 E s a w C ρ τ) (d g : Nat) (hg : g = s.g d) {cs : Array Value} {ty : TypeId} (l : List AV) (hl : cs.size = l.length)
    (h1 : ∀ (i : Nat) (v : Value), cs[i]? = some v → v.oneCell' = true) (hv : ∀ (i : Nat) (v : Value) (x : AV), cs[i]? = some v → l[i]? = some x → RV C ρ τ v x) :
    RepG N w0 C0 E { s with b := upd s.b (d, g, 0) (some ⟨l, false⟩), g := upd s.g d (g + 1) } a (w.alloc (.cells cs ty)) C (upd ρ (d, g, 0) (some w.heap.size)) τ := by
  subst hg
  have hg := h.same (below_new w (.cells cs ty))
  exact hg.addbox (d, s.g d, 0) (Nat.le_refl _) (b := w.heap.size) l (heap_alloc_new w _) hl h1 hv (fun o => newC h o) h.fr.size (fun k B hB => newB h k B hB) (fun k v n hk hd => newT h k v n hk hd)

theorem app_box (s : St) (d : Nat) (k : Key) (off : Nat) (l : List AV) : s.app (some d) { v := .box k off, nb := some l } =
    St.set { s with b := upd s.b (d, s.g d, 0) (some ⟨l, false⟩), g := upd s.g d (s.g d + 1) } d (.box k off) := by
  simp [St.app, St.set, sto, crt_zero]

/-- What a new box ends in. -/
theorem done_box {l : List AV} {cs : Array Value} {ty : TypeId} (h : RepG N w0 C0 E s a w C ρ τ) (hN : ∀ d, o.dst = some d → d < N)
    (hr : (execOp a.eval o).run P w = .ok (.value (.pointer (some ⟨w.heap.size, 0, none⟩))) (w.alloc (.cells cs ty))) (hl : cs.size = l.length)
    (h1 : ∀ (i : Nat) (v : Value), cs[i]? = some v → v.oneCell' = true) (hv : ∀ (i : Nat) (v : Value) (x : AV), cs[i]? = some v → l[i]? = some x → RV C ρ τ v x) :
    Done N w0 C0 E P o a w (s.app o.dst { v := .box (o.dst.getD 0, s.g (o.dst.getD 0), 0) 0, nb := some l }) := by
  cases hd : o.dst with
  | none =>
    refine ⟨_, _, .inl hr, C, ρ, τ, ?_⟩
    rw [hd]
    simp only [St.app, sto]
    exact h.same (below_new w _)
  | some d =>
    refine ⟨_, _, .inl hr, C, upd ρ (d, s.g d, 0) (some w.heap.size), τ, ?_⟩
    rw [hd]
    simp only [Option.getD_some]
    rw [app_box]
    exact (h.alloc d (s.g d) rfl l hl h1 hv).set d (hN d hd) (.box _ _ _ (by simp [upd]))

theorem app_nb (s : St) (d : Nat) (x : AV) (l : List AV) : s.app (some d) { v := x, nb := some l } =
    St.set { s with b := upd s.b (d, s.g d, 0) (some ⟨l, false⟩), g := upd s.g d (s.g d + 1) } d x := by
  simp [St.app, St.set, sto, crt_zero]

theorem done_nb {l : List AV} {cs : Array Value} {ty : TypeId} {v : Value} {x : AV} (h : RepG N w0 C0 E s a w C ρ τ) (hN : ∀ d, o.dst = some d → d < N)
    (hr : (execOp a.eval o).run P w = .ok (.value v) (w.alloc (.cells cs ty))) (hl : cs.size = l.length)
    (h1 : ∀ (i : Nat) (v : Value), cs[i]? = some v → v.oneCell' = true) (hv : ∀ (i : Nat) (v : Value) (x : AV), cs[i]? = some v → l[i]? = some x → RV C ρ τ v x)
    (hx : ∀ ρ' : RMap, ρ' (o.dst.getD 0, s.g (o.dst.getD 0), 0) = some w.heap.size → RV C ρ' τ v x) :
    Done N w0 C0 E P o a w (s.app o.dst { v := x, nb := some l }) := by
  cases hd : o.dst with
  | none =>
    refine ⟨_, _, .inl hr, C, ρ, τ, ?_⟩
    rw [hd]
    simp only [St.app, sto]
    exact h.same (below_new w _)
  | some d =>
    rw [hd] at hx
    refine ⟨_, _, .inl hr, C, upd ρ (d, s.g d, 0) (some w.heap.size), τ, ?_⟩
    rw [hd, app_nb]
    exact (h.alloc d (s.g d) rfl l hl h1 hv).set d (hN d hd) (hx _ (by simp [upd]))

theorem zav_elim {t : TypeId} {l : List AV} (h : zav P t = some l) : ∃ i z, P.info? t = some i ∧ i.zero = some z ∧ z.cells.size = l.length ∧
    (∀ (i : Nat) (v : Value), z.cells[i]? = some v → v.oneCell' = true) ∧ (∀ (C : CMap) (ρ : RMap) (τ : TMap) (i : Nat) (v : Value) (x : AV), z.cells[i]? = some v → l[i]? = some x → RV C ρ τ v x) := by
  unfold zav zvals at h
  obtain ⟨vs, hvs, rfl⟩ := Option.map_eq_some_iff.1 h
  cases hi : P.info? t with
  | none => rw [hi] at hvs; simp at hvs
  | some i =>
    rw [hi] at hvs
    cases hz : i.zero with
    | none => simp [hz] at hvs
    | some z =>
      simp [hz] at hvs
      obtain ⟨hall, rfl⟩ := hvs
      refine ⟨i, z, rfl, hz, by simp, fun j v hv => ?_, fun C ρ τ j v x hv hx => ?_⟩
      · obtain ⟨hj, rfl⟩ := Array.getElem?_eq_some_iff.1 hv
        exact hall _ hj
      · simp [List.getElem?_mapIdx] at hx
        obtain ⟨u, hu, rfl⟩ := hx
        rw [hv] at hu
        cases hu
        exact cst_rv _ _

theorem ev_alloc {t : TypeId} (h : RepG N w0 C0 E s a w C ρ τ) (hN : ∀ d, o.dst = some d → d < N) (ho : o.op = .alloc t) (he : ev P s o = some e) : Done N w0 C0 E P o a w (s.app o.dst e) := by
  simp only [ev, ho] at he
  obtain ⟨l, hl, rfl⟩ := Option.map_eq_some_iff.1 he
  obtain ⟨i, z, hi, hz, h1, h2, h3⟩ := zav_elim hl
  refine done_box h hN (cs := z.cells) (ty := t) ?_ h1 h2 (h3 C ρ τ)
  simp [execOp, ho, Instr.alloc, zeroValue, typeInfo, hi, hz, newVar, newRow]

theorem ev_box {t : TypeId} {x : Operand} (h : RepG N w0 C0 E s a w C ρ τ) (hN : ∀ d, o.dst = some d → d < N) (ho : o.op = .box t x) (he : ev P s o = some e) : Done N w0 C0 E P o a w (s.app o.dst e) := by
  simp only [ev, ho] at he
  obtain ⟨l, hl, rfl⟩ := Option.map_eq_some_iff.1 he
  obtain ⟨h1, h2, h3⟩ := cells_rv (opnd (P := P) h t x) hl
  refine done_box h hN (cs := (a.eval x).cells) (ty := t) ?_ h1 h3 h2
  simp [execOp, ho, Instr.box, newVar, newRow]

/-! ### Stores -/
theorem splice_at {α : Type} (l c : List α) (off i : Nat) (h : off + c.length ≤ l.length) : (l.take off ++ c ++ l.drop (off + c.length))[i]? = if off ≤ i ∧ i < off + c.length then c[i - off]? else l[i]? := by
  by_cases h1 : i < off
  · rw [if_neg (by omega), List.append_assoc, List.getElem?_append_left (by simp; omega), List.getElem?_take, if_pos h1]
  · by_cases h2 : i < off + c.length
    · rw [if_pos (by omega), List.getElem?_append_left (by simp; omega), List.getElem?_append_right (by simp; omega)]
      congr 1
      simp; omega
    · rw [if_neg (by omega), List.getElem?_append_right (by simp; omega), List.getElem?_drop]
      congr 1
      simp; omega

theorem ev_store {t : TypeId} {x y : Operand} (h : RepG N w0 C0 E s a w C ρ τ) (hN : ∀ d, o.dst = some d → d < N) (ho : o.op = .store t x y) (he : ev P s o = some e) : Done N w0 C0 E P o a w (s.app o.dst e) := by
  simp only [ev, ho] at he
  split at he
  case h_2 => cases he
  rename_i k off c hk hc
  split at he
  case h_2 => cases he
  rename_i l hB
  split at he
  case isFalse => cases he
  rename_i hcond
  obtain ⟨hok, hlen, hoff⟩ := hcond
  cases he
  have c1 := opnd (P := P) h 0 x
  rw [hk] at c1
  obtain ⟨b, hx, hρ⟩ := rv_box c1
  obtain ⟨g1, g2, g3⟩ := cells_rv (opnd (P := P) h t y) hc
  obtain ⟨cs, ty, f1, f2, f3, f4⟩ := box_cells h hB hρ
  simp only at f2 f4
  have hst := run_storeCells_at P b off ty (a.eval y).cells.toList 0 cs w f1 (by simp; omega) (fun v hv => by
    obtain ⟨i, hi, rfl⟩ := List.mem_iff_getElem.1 hv
    exact g3 i _ (by simp at hi; simp))
  have hrun : (execOp a.eval o).run P w = .ok .skip (w.setRow b (cs.toList.take (off + 0) ++ (a.eval y).cells.toList ++ cs.toList.drop (off + 0 + (a.eval y).cells.toList.length)).toArray) := by
    have hz := run_size (P := P) (t := t) hok w
    have e1 : (a.eval y).cells.size = P.cellsOf t := by omega
    simp [execOp, ho, hx, Instr.storeAt, Instr.sureAddr, storeVar, hz, e1] at hst ⊢
    rw [hst]
    simp
  have key : RepG N w0 C0 E { s with b := upd s.b k (some ⟨l.take off ++ c ++ l.drop (off + c.length), false⟩) } a
      (w.setRow b (cs.toList.take (off + 0) ++ (a.eval y).cells.toList ++ cs.toList.drop (off + 0 + (a.eval y).cells.toList.length)).toArray) C ρ τ := by
    refine h.store hB hρ f1 ?_ ?_ ?_
    · simp only [List.size_toArray, List.length_append, List.length_take, List.length_drop, Array.length_toList]
      omega
    · intro i v hv
      simp only [List.getElem?_toArray, Nat.add_zero] at hv
      rw [splice_at _ _ _ _ (by simp; omega)] at hv
      split at hv
      · exact g3 _ _ (by simpa using hv)
      · exact f3 _ _ (by simpa using hv)
    · intro i v z hv hz
      simp only [List.getElem?_toArray, Nat.add_zero] at hv
      rw [splice_at _ _ _ _ (by simp; omega)] at hv
      rw [splice_at _ _ _ _ hoff] at hz
      simp only [Array.length_toList, g1] at hv
      split at hv
      · rename_i hcond
        rw [if_pos hcond] at hz
        exact g2 _ _ _ (by simpa using hv) hz
      · rename_i hcond
        rw [if_neg hcond] at hz
        exact f4 _ _ _ (by simpa using hv) hz
  refine ⟨undef, _, .inr ⟨hrun, rfl⟩, C, ρ, τ, ?_⟩
  cases hd : o.dst with
  | none => simpa [St.app, sto, Act.put] using key
  | some d =>
    have := key.set d (hN d hd) (.any undef)
    simpa [St.app, sto, crt_zero, St.set] using this

end Go.Sy

/- Structs and slices put together; append. -/
namespace Go.Sy
open Go Go.RowKit

variable {N : Nat} {w0 : World} {C0 : CMap} {E : EX} {s : St} {a : Act} {w : World} {C : CMap} {ρ : RMap} {τ : TMap} {P : Program} {o : Oper} {e : Eff}

theorem fold_set_list (off : Nat) : ∀ (v : List Value) (k : Nat) (cells : Array Value), (((v.zipIdx k).foldl (fun cs (x : Value × Nat) => cs.setIfInBounds (off + x.2) x.1) cells).size = cells.size) ∧
    ∀ i, ((v.zipIdx k).foldl (fun cs (x : Value × Nat) => cs.setIfInBounds (off + x.2) x.1) cells)[i]? = if off + k ≤ i ∧ i < off + k + v.length ∧ i < cells.size then v[i - (off + k)]? else cells[i]?
  | [], k, cells => ⟨rfl, fun i => by
      rw [if_neg (by simp only [List.length_nil]; omega)]
      rfl⟩
  | x :: v, k, cells => by
    obtain ⟨h1, h2⟩ := fold_set_list off v (k + 1) (cells.setIfInBounds (off + k) x)
    simp only [List.zipIdx_cons, List.foldl_cons]
    refine ⟨by rw [h1]; simp, fun i => ?_⟩
    rw [h2]
    simp only [Array.size_setIfInBounds, Array.getElem?_setIfInBounds, List.length_cons]
    by_cases c0 : off + k = i
    · subst c0
      rw [if_neg (by omega)]
      by_cases c1 : off + k < cells.size
      · rw [if_pos rfl, if_pos c1, if_pos (by omega)]
        simp
      · rw [if_pos rfl, if_neg c1, if_neg (by omega)]
        simp; omega
    · rw [if_neg c0]
      by_cases c1 : off + (k + 1) ≤ i ∧ i < off + (k + 1) + v.length ∧ i < cells.size
      · rw [if_pos c1, if_pos (by omega)]
        rw [show i - (off + k) = (i - (off + (k + 1))) + 1 by omega]
        simp
      · rw [if_neg c1, if_neg (by omega)]

theorem fold_set (v : Array Value) (off : Nat) (cells : Array Value) : ((v.zipIdx.foldl (fun cs (c, j) => cs.setIfInBounds (off + j) c) cells).size = cells.size) ∧
    ∀ i, (v.zipIdx.foldl (fun cs (c, j) => cs.setIfInBounds (off + j) c) cells)[i]? = if off ≤ i ∧ i < off + v.size ∧ i < cells.size then v[i - off]? else cells[i]? := by
  have h := fold_set_list off v.toList 0 cells
  have e : v.zipIdx.foldl (fun cs (c, j) => cs.setIfInBounds (off + j) c) cells = (v.toList.zipIdx 0).foldl (fun cs (x : Value × Nat) => cs.setIfInBounds (off + x.2) x.1) cells := by
    rw [← Array.foldl_toList, Array.toList_zipIdx]
  rw [e]
  refine ⟨h.1, fun i => ?_⟩
  rw [h.2 i]
  simp

/-- Cells that bear abstract values. -/
def CV (C : CMap) (ρ : RMap) (τ : TMap) (cs : Array Value) (l : List AV) : Prop :=
  cs.size = l.length ∧ (∀ (i : Nat) (v : Value), cs[i]? = some v → v.oneCell' = true) ∧ (∀ (i : Nat) (v : Value) (x : AV), cs[i]? = some v → l[i]? = some x → RV C ρ τ v x)

theorem fill_cv {pl : Nat → Option (Nat × Nat)} : ∀ (ps : List (Nat × Value)) (qs : List (Nat × AV)) (cs : Array Value) (l l' : List AV), ps.length = qs.length →
    (∀ (i : Nat) (p : Nat × Value) (q : Nat × AV), ps[i]? = some p → qs[i]? = some q → p.1 = q.1 ∧ RV C ρ τ p.2 q.2) → CV C ρ τ cs l → fillAV pl l qs = some l' →
    ∃ cs', Instr.fill pl cs ps = some cs' ∧ CV C ρ τ cs' l'
  | [], [], cs, l, l', _, _, h, he => by
    simp only [fillAV, Option.some.injEq] at he
    subst he
    exact ⟨cs, rfl, h⟩
  | [], _ :: _, _, _, _, hl, _, _, _ => by simp at hl
  | _ :: _, [], _, _, _, hl, _, _, _ => by simp at hl
  | (i, v) :: ps, (j, x) :: qs, cs, l, l', hl, hpq, ⟨h1, h2, h3⟩, he => by
    obtain ⟨e1, e2⟩ := hpq 0 (i, v) (j, x) rfl rfl
    simp only at e1 e2
    subst e1
    unfold fillAV at he
    split at he
    case h_2 => cases he
    rename_i off n c hpl hc
    split at he
    case isFalse => cases he
    rename_i hcond
    obtain ⟨hcl, hoff⟩ := hcond
    obtain ⟨g1, g2, g3⟩ := cells_rv e2 hc
    obtain ⟨f1, f2⟩ := fold_set v.cells off cs
    have hsz : v.cells.size = n := by omega
    have hle : ¬ (cs.size < off + n) := by omega
    have ih := fill_cv (pl := pl) ps qs (v.cells.zipIdx.foldl (fun cs (c, j) => cs.setIfInBounds (off + j) c) cs) (l.take off ++ c ++ l.drop (off + n)) l' (by simpa using hl)
      (fun i p q hp hq => hpq (i + 1) p q (by simpa using hp) (by simpa using hq)) ?_ he
    · obtain ⟨cs', q1, q2⟩ := ih
      refine ⟨cs', ?_, q2⟩
      simp only [Instr.fill, hpl, hsz, ne_eq, not_true_eq_false, decide_false, Bool.false_or, gt_iff_lt, hle, Bool.false_eq_true, if_false]
      exact q1
    · refine ⟨?_, ?_, ?_⟩
      · rw [f1]
        simp
        omega
      · intro k u hu
        rw [f2] at hu
        split at hu
        · exact g3 _ _ hu
        · exact h2 _ _ hu
      · intro k u y hu hy
        rw [f2] at hu
        rw [show off + n = off + c.length by omega, splice_at _ _ _ _ (by omega)] at hy
        split at hu
        · rename_i hk
          rw [if_pos (by omega)] at hy
          exact g2 _ _ _ hu hy
        · rename_i hk
          by_cases hk2 : off ≤ k ∧ k < off + c.length
          · omega
          · rw [if_neg hk2] at hy
            exact h3 _ _ _ hu hy

theorem parts_rv (h : RepG N w0 C0 E s a w C ρ τ) (ty : Nat → TypeId) (ps : List (Nat × Operand)) (i : Nat) (p : Nat × Value) (q : Nat × AV)
    (hp : (ps.map fun p => (p.1, a.eval p.2))[i]? = some p) (hq : (ps.map fun p => (p.1, s.o P (ty p.1) p.2))[i]? = some q) : p.1 = q.1 ∧ RV C ρ τ p.2 q.2 := by
  simp only [List.getElem?_map] at hp hq
  obtain ⟨r, hr, rfl⟩ := Option.map_eq_some_iff.1 hp
  rw [hr] at hq
  simp at hq
  subst hq
  exact ⟨rfl, opnd h _ _⟩

theorem ev_build {t : TypeId} {ps : Array (Nat × Operand)} (h : RepG N w0 C0 E s a w C ρ τ) (hN : ∀ d, o.dst = some d → d < N) (ho : o.op = .build t ps) (he : ev P s o = some e) : Done N w0 C0 E P o a w (s.app o.dst e) := by
  simp only [ev, ho] at he
  split at he
  case h_2 => cases he
  rename_i pl z hpl hz
  obtain ⟨l, hl, rfl⟩ := Option.map_eq_some_iff.1 he
  obtain ⟨i, zv, hi, hzv, z1, z2, z3⟩ := zav_elim hz
  obtain ⟨cs, f1, f2⟩ := fill_cv (C := C) (ρ := ρ) (τ := τ) (ps.toList.map fun p => (p.1, a.eval p.2)) _ zv.cells z l (by simp) (fun i p q hp hq => parts_rv h (ptype P t) ps.toList i p q hp hq) ⟨z1, z2, z3 C ρ τ⟩ hl
  have hb : P.built t (ps.map fun (i, x) => (i, a.eval x)).toList = some cs := by
    unfold places at hpl
    split at hpl
    case h_2 => cases hpl
    rename_i fs hu
    have e1 : (ps.map fun (i, x) => (i, a.eval x)).toList = ps.toList.map fun p => (p.1, a.eval p.2) := by simp
    rw [e1]
    unfold Program.built
    rw [hi, hu]
    simp only [hzv, hpl]
    exact f1
  refine done_val h hN (v := .agg cs) ?_ (.agg _ _ f2.1 f2.2.2 f2.2.1)
  simp [execOp, ho, run_build w t _ cs hb]

end Go.Sy

/- Slices that the call owns: made, and appended to. -/
namespace Go.Sy
open Go Go.RowKit

variable {N : Nat} {w0 : World} {C0 : CMap} {E : EX} {s : St} {a : Act} {w : World} {C : CMap} {ρ : RMap} {τ : TMap} {P : Program} {o : Oper} {e : Eff}

theorem crt_one (d g : Nat) (f : Key → Bool) : crt d g 1 f = upd f (d, g, 0) false := by
  funext k
  obtain ⟨x, y, z⟩ := k
  simp only [crt, upd, Prod.mk.injEq]
  by_cases h : x = d ∧ y = g ∧ z < 1
  · rw [if_pos h, if_pos ⟨h.1, h.2.1, by omega⟩]
  · rw [if_neg h, if_neg (fun h' => h ⟨h'.1, h'.2.1, by omega⟩)]

theorem app_tok (s : St) (d : Nat) (v : AV) (kl : Option Key) : s.app (some d) { v := v, nt := 1, kl := kl } =
    St.set { s with d := upd (match kl with | none => s.d | some k => upd s.d k true) (d, s.g d, 0) false, g := upd s.g d (s.g d + 1) } d v := by
  cases kl <;> simp [St.app, St.set, sto, crt_one]

theorem div_lt {j n sz : Nat} (h : j < n * sz) : j / sz < n := Nat.div_lt_of_lt_mul (by rwa [Nat.mul_comm])
theorem two_idx {n sz i j : Nat} (hi : i < n) (hj : j < sz) : i * sz + j < n * sz :=
  calc i * sz + j < i * sz + sz := by omega
    _ = (i + 1) * sz := by rw [Nat.add_mul, Nat.one_mul]
    _ ≤ n * sz := Nat.mul_le_mul_right _ hi
theorem idx_div {sz i j : Nat} (hj : j < sz) : (i * sz + j) / sz = i := by
  rw [Nat.mul_comm, Nat.mul_add_div (by omega), Nat.div_eq_of_lt hj, Nat.add_zero]
theorem idx_mod {sz i j : Nat} (hj : j < sz) : (i * sz + j) % sz = j := by
  rw [Nat.mul_comm, Nat.mul_add_mod, Nat.mod_eq_of_lt hj]
theorem div_idx (j sz : Nat) : j / sz * sz + j % sz = j := by rw [Nat.mul_comm]; exact Nat.div_add_mod j sz

theorem RepG.newrow (h : RepG N w0 C0 E s a w C ρ τ) (d : Nat) {cs : Array Value} (ty : TypeId) {sz n c : Nat} {xs : List (List AV)} (hcs : cs.size = c * sz) (hn : xs.length = n) (hnc : n ≤ c) (hcm : c ≤ maxLen)
    (hx : ∀ (i : Nat) (x : List AV), xs[i]? = some x → x.length = sz) (hrv : ∀ (i : Nat) (x : List AV) (j : Nat) (y : AV), xs[i]? = some x → x[j]? = some y → ∃ u, cs[i * sz + j]? = some u ∧ RV C noρ noτ u y)
    (h1 : ∀ (i : Nat) (u : Value), i < n * sz → cs[i]? = some u → u.oneCell' = true) :
    ∃ C' τ', RepG N w0 C0 E { s with d := upd s.d (d, s.g d, 0) false, g := upd s.g d (s.g d + 1) } a (w.alloc (.cells cs ty)) C' ρ τ' ∧
      RV C' ρ τ' (.slice (some ⟨w.heap.size, 0, none⟩) n c) (.list sz xs (.own (d, s.g d, 0))) := by
  have hns : n * sz ≤ c * sz := Nat.mul_le_mul_right _ hnc
  have c1eq : ∀ b o v, (if b = w.heap.size ∧ o < n * sz then cs[o]? else C b o) = some v → (b = w.heap.size ∧ o < n * sz ∧ cs[o]? = some v) ∨ C b o = some v := by
    intro b o v hv
    split at hv
    · exact .inl ⟨by omega, by omega, hv⟩
    · exact .inr hv
  have hmono : ∀ b o v, C b o = some v → (if b = w.heap.size ∧ o < n * sz then cs[o]? else C b o) = some v := by
    intro b o v hv
    rw [if_neg]
    · exact hv
    · rintro ⟨rfl, _⟩
      rw [newC h] at hv
      cases hv
  have g1 : RepG N w0 C0 E s a (w.alloc (.cells cs ty)) (fun b o => if b = w.heap.size ∧ o < n * sz then cs[o]? else C b o) ρ τ := by
    refine h.grow (below_new w _) hmono ?_ ?_
    · intro b o v hv
      rcases c1eq _ _ _ hv with hv | hv
      · exact .inr (by omega)
      · exact .inl hv
    · intro b o v hb hv
      rcases c1eq _ _ _ hv with ⟨rfl, ho, hv⟩ | hv
      · refine ⟨?_, h1 _ _ ho hv⟩
        simp only [World.cell?, heap_alloc_new]
        exact hv
      · have := cell_lt (h.cw _ _ _ hv).1
        omega
  have hlive : ∀ k' v' n' b, τ k' = some (v', n') → s.d k' = false → blk (.slice (some ⟨w.heap.size, 0, none⟩) n c) = some b → blk v' ≠ some b := by
    intro k' v' n' b hk' hd hb
    obtain ⟨_, ad, had, hb'⟩ := blk_cap hb
    cases had
    subst hb'
    exact newT h k' v' n' hk' hd
  have g2 := g1.addtok (d, s.g d, 0) (Nat.le_refl _) (v := .slice (some ⟨w.heap.size, 0, none⟩) n c) (n := sz)
    ⟨_, _, _, rfl, .inr ⟨w.heap.size, cs, ty, rfl, heap_alloc_new w _, hcs, hnc, hcm, fun o ho => by
      show (if w.heap.size = w.heap.size ∧ o < n * sz then cs[o]? else C w.heap.size o) = none
      rw [if_neg (by omega)]; exact newC h o, .inl h.fr.size, fun k' B hB => newB h k' B hB⟩⟩ hlive
  refine ⟨_, _, g2, .list sz xs _ _ n c (fun i j => cs.getD (i * sz + j) undef) hn hnc hcm ?_ ?_ (by simp [TokV, upd])⟩
  · intro i x hxi
    have hi : i < n := by rw [← hn]; exact (List.getElem?_eq_some_iff.1 hxi).1
    refine ⟨hx i x hxi, w.heap.size, 0, rfl, fun j hj => ?_⟩
    have hlt := two_idx hi hj
    have hlt2 : i * sz + j < cs.size := by omega
    show (if w.heap.size = w.heap.size ∧ 0 + i * sz + j < n * sz then cs[0 + i * sz + j]? else C w.heap.size (0 + i * sz + j)) = _
    rw [Nat.zero_add, if_pos ⟨rfl, hlt⟩]
    simp [hlt2]
  · intro i x j y hxi hxj
    obtain ⟨u, hu, hr⟩ := hrv i x j y hxi hxj
    have : cs.getD (i * sz + j) undef = u := by simp [Array.getD_eq_getD_getElem?, hu]
    rw [this]
    exact hr.mono hmono (fun _ _ h => h) (fun _ _ h => h)

/-! ### A literal slice -/
theorem fill_parts {sz : Nat} : ∀ (ps : List (Nat × Value)) (qs : List (Nat × AV)) (k : Nat) (cs : Array Value) (l : List (List AV)), ps.length = qs.length →
    (∀ (i : Nat) (p : Nat × Value) (q : Nat × AV), ps[i]? = some p → qs[i]? = some q → p.1 = q.1 ∧ RV C ρ τ p.2 q.2) → (k + ps.length) * sz ≤ cs.size → partsAV sz k qs = some l →
    ∃ cs', Instr.fill (fun i => some (i * sz, sz)) cs ps = some cs' ∧ cs'.size = cs.size ∧ l.length = ps.length ∧ (∀ i, i < k * sz → cs'[i]? = cs[i]?) ∧
      (∀ (m : Nat) (x : List AV), l[m]? = some x → x.length = sz ∧ (∀ (j : Nat) (y : AV), x[j]? = some y → ∃ u, cs'[(k + m) * sz + j]? = some u ∧ RV C noρ noτ u y ∧ u.oneCell' = true))
  | [], [], k, cs, l, _, _, _, he => by
    simp only [partsAV, Option.some.injEq] at he
    subst he
    exact ⟨cs, rfl, rfl, rfl, fun _ _ => rfl, fun m x hx => by simp at hx⟩
  | [], _ :: _, _, _, _, hl, _, _, _ => by simp at hl
  | _ :: _, [], _, _, _, hl, _, _, _ => by simp at hl
  | (i, v) :: ps, (i', x) :: qs, k, cs, l, hl, hpq, hfit, he => by
    obtain ⟨e1, e2⟩ := hpq 0 (i, v) (i', x) rfl rfl
    simp only at e1 e2
    subst e1
    unfold partsAV at he
    split at he
    case h_2 => cases he
    rename_i c hc
    split at he
    case isFalse => cases he
    rename_i hcond
    obtain ⟨hik, hcl, hcln⟩ := hcond
    subst hik
    obtain ⟨l2, hl2, rfl⟩ := Option.map_eq_some_iff.1 he
    obtain ⟨g1, g2, g3⟩ := cells_rv e2 hc
    obtain ⟨f1, f2⟩ := fold_set v.cells (i * sz) cs
    have hsz : v.cells.size = sz := by omega
    simp only [List.length_cons] at hfit hl
    have hfit1 : (i + 1) * sz ≤ cs.size := Nat.le_trans (Nat.mul_le_mul_right _ (by omega)) hfit
    have hs1 : (i + 1) * sz = i * sz + sz := by rw [Nat.add_mul, Nat.one_mul]
    have hle : ¬ (cs.size < i * sz + sz) := by omega
    obtain ⟨cs', q1, q2, q3, q4, q5⟩ := fill_parts (sz := sz) ps qs (i + 1) (v.cells.zipIdx.foldl (fun cs (c, j) => cs.setIfInBounds (i * sz + j) c) cs) l2 (by omega)
      (fun m p q hp hq => hpq (m + 1) p q (by simpa using hp) (by simpa using hq)) (by rw [f1]; rw [show i + 1 + ps.length = i + (ps.length + 1) by omega]; exact hfit) hl2
    refine ⟨cs', ?_, by rw [q2, f1], by simp [q3], ?_, ?_⟩
    · simp only [Instr.fill, hsz, ne_eq, not_true_eq_false, decide_false, Bool.false_or, gt_iff_lt, hle, Bool.false_eq_true, if_false]
      exact q1
    · intro m hm
      rw [q4 m (by omega), f2 m, if_neg (by omega)]
    · intro m y hy
      cases m with
      | zero =>
        simp only [List.getElem?_cons_zero, Option.some.injEq] at hy
        subst hy
        refine ⟨by simp [hcl], fun j z hz => ?_⟩
        simp only [List.getElem?_map] at hz
        obtain ⟨z', hz', rfl⟩ := Option.map_eq_some_iff.1 hz
        have hj : j < sz := by rw [← hcl]; exact (List.getElem?_eq_some_iff.1 hz').1
        have hj2 : j < v.cells.size := by omega
        refine ⟨v.cells[j], ?_, clean_rv (fgt_rv (g2 j _ _ (by simp [hj2]) hz')) (List.all_eq_true.1 hcln z' (List.mem_of_getElem? hz')), g3 j _ (by simp [hj2])⟩
        rw [Nat.add_zero, q4 _ (by omega), f2, if_pos (by omega)]
        rw [show i * sz + j - i * sz = j by omega]
        simp [hj2]
      | succ m =>
        simp only [List.getElem?_cons_succ] at hy
        obtain ⟨r1, r2⟩ := q5 m y hy
        refine ⟨r1, fun j z hz => ?_⟩
        have := r2 j z hz
        rwa [show i + 1 + m = i + (m + 1) by omega] at this

theorem zvals_elim {t : TypeId} {n : Nat} (h : (zvals P t).map (·.length) = some n) : ∃ i z, P.info? t = some i ∧ i.zero = some z ∧ z.cells.size = n := by
  obtain ⟨vs, hvs, rfl⟩ := Option.map_eq_some_iff.1 h
  unfold zvals at hvs
  cases hi : P.info? t with
  | none => rw [hi] at hvs; simp at hvs
  | some i =>
    rw [hi] at hvs
    cases hz : i.zero with
    | none => simp [hz] at hvs
    | some z =>
      simp [hz] at hvs
      obtain ⟨_, rfl⟩ := hvs
      exact ⟨i, z, rfl, hz, by simp⟩

theorem ev_buildSlice {t : TypeId} {n : Nat} {ps : Array (Nat × Operand)} (h : RepG N w0 C0 E s a w C ρ τ) (hN : ∀ d, o.dst = some d → d < N) (ho : o.op = .buildSlice t n ps) (he : ev P s o = some e) : Done N w0 C0 E P o a w (s.app o.dst e) := by
  simp only [ev, ho] at he
  split at he
  case isFalse => cases he
  rename_i hcond
  obtain ⟨hsl, hn, hbig, hz⟩ := hcond
  obtain ⟨l, hl, rfl⟩ := Option.map_eq_some_iff.1 he
  obtain ⟨el, hu, hi, hpos, hez, _⟩ := slT_elim hsl
  simp only [elT, hu] at hz
  obtain ⟨ie, z, hie, hzz, hzs⟩ := zvals_elim hz
  generalize esz P t = sz at *
  have hse : (sizeOf el).run P w = .ok sz w := by rw [run_size hi w, hez]
  generalize hT : (Array.range (n * sz)).map (fun i => z.cells[i % z.cells.size]!) = T
  have hTs : T.size = n * sz := by rw [← hT]; simp
  obtain ⟨cs, f1, f2, f3, _, f5⟩ := fill_parts (C := C) (ρ := ρ) (τ := τ) (sz := sz) (ps.toList.map fun p => (p.1, a.eval p.2)) _ 0 T l (by simp) (fun i p q hp hq => parts_rv h (ptype P t) ps.toList i p q hp hq)
    (by simp only [List.length_map, Array.length_toList, Nat.zero_add]; rw [hTs, ← hn]; exact Nat.le_refl _) hl
  have hrun : (execOp a.eval o).run P w = .ok (.value (.slice (some ⟨w.heap.size, 0, none⟩) n n)) (w.alloc (.cells cs el)) := by
    have e1 : (ps.map fun (i, x) => (i, a.eval x)).toList = ps.toList.map fun p => (p.1, a.eval p.2) := by simp
    have hbig' : ¬ (16777216 < n * sz) := by omega
    by_cases h0 : n * sz = 0
    · have hT0 : T = #[] := by apply Array.eq_empty_of_size_eq_zero; omega
      rw [hT0] at f1
      have e0 : (Array.map (fun _ => (default : Value)) (Array.range 0)) = #[] := by simp
      simp [execOp, ho, Instr.buildSlice, run_underlying hu, hse, h0, newRow]
      rw [e0, f1]
      simp
    · have hT' : (Array.range (n * sz)).map (fun i => z.cells[i % z.cells.size]!) = T := hT
      simp [execOp, ho, Instr.buildSlice, run_underlying hu, hse, hbig', h0, zeroValue, typeInfo, hie, hzz, newRow] at hT' ⊢
      rw [hT', f1]
      simp
  have hln : l.length = n := by rw [f3]; simp [hn]
  have hmax : n ≤ maxLen := by
    have : n ≤ n * sz := Nat.le_mul_of_pos_right _ (by omega)
    simp only [maxLen]; omega
  have key := h.newrow (o.dst.getD 0) el (cs := cs) (sz := sz) (n := n) (c := n) (xs := l) (by omega) hln (Nat.le_refl _) hmax (fun i x hx => (f5 i x hx).1)
    (fun i x j y hx hy => by obtain ⟨u, hu, hr, _⟩ := (f5 i x hx).2 j y hy; rw [Nat.zero_add] at hu; exact ⟨u, hu, hr⟩)
    (fun i u hi hu => by
      have h1 : i / sz < l.length := by rw [hln]; exact div_lt hi
      have h2 : i % sz < sz := Nat.mod_lt _ (by omega)
      obtain ⟨q1, q2⟩ := f5 (i / sz) l[i / sz] (by simp [h1])
      obtain ⟨u', hu', _, hu1⟩ := q2 (i % sz) (l[i / sz][i % sz]'(by omega)) (by simp)
      rw [Nat.zero_add, div_idx, hu] at hu'
      cases hu'
      exact hu1)
  obtain ⟨C', τ', k1, k2⟩ := key
  cases hd : o.dst with
  | none =>
    refine ⟨_, _, .inl hrun, C, ρ, τ, ?_⟩
    rw [hd]
    simp only [St.app, sto]
    exact h.same (below_new w _)
  | some d =>
    rw [hd] at k1 k2
    refine ⟨_, _, .inl hrun, C', ρ, τ', ?_⟩
    rw [hd, app_tok]
    exact k1.set d (hN d hd) k2

/-! ### make -/
theorem flatten_get {z : List AV} {n q : Nat} : ∀ (y : AV), (List.replicate n z).flatten[q]? = some y → z[q % z.length]? = some y := by
  induction n generalizing q with
  | zero => intro y hy; simp at hy
  | succ n ih =>
    intro y hy
    rw [List.replicate_succ, List.flatten_cons] at hy
    by_cases hq : q < z.length
    · rw [List.getElem?_append_left hq] at hy
      rwa [Nat.mod_eq_of_lt hq]
    · rw [List.getElem?_append_right (by omega)] at hy
      have := ih y hy
      rwa [← Nat.mod_eq_sub_mod (by omega)] at this

theorem ev_makeSlice {t : TypeId} {x y : Operand} (h : RepG N w0 C0 E s a w C ρ τ) (hN : ∀ d, o.dst = some d → d < N) (ho : o.op = .makeSlice t x y) (he : ev P s o = some e) : Done N w0 C0 E P o a w (s.app o.dst e) := by
  simp only [ev, ho] at he
  split at he
  case h_2 => cases he
  rename_i n m h1 h2
  split at he
  case isFalse => cases he
  rename_i hcond
  obtain ⟨hsl, hnm, hn0, hby, hmx⟩ := hcond
  subst hnm
  split at he
  case h_2 => cases he
  rename_i z hz
  split at he
  case isFalse => cases he
  rename_i hzl
  cases he
  have c1 := opnd (P := P) h 0 x
  have c2 := opnd (P := P) h 0 y
  rw [h1] at c1
  rw [h2] at c2
  have e1 := (rv_v c1).1
  have e2 := (rv_v c2).1
  obtain ⟨el, hu, hi, hpos, hez, heb⟩ := slT_elim hsl
  simp only [elT, hu] at hz
  obtain ⟨ie, zv, hie, hzv, hzs, hz1, hz2⟩ := zav_elim hz
  have hbe : ie.bytes = P.bytesOf el := by simp [Program.bytesOf, hie]
  have hse : ie.size = P.cellsOf el := by simp [Program.cellsOf, hie]
  have hmk := run_make (P := P) w t el ie zv hu hie hzv .i64 .i64 n n hn0 (Int.le_refl _) (by rw [hbe, ← heb, Int.mul_comm]; omega) hmx
  have hrun : (execOp a.eval o).run P w = .ok (.value (.slice (some ⟨w.heap.size, 0, none⟩) n.toNat n.toNat)) (w.alloc (.cells (madeCells zv.cells (n.toNat * ie.size)) el)) := by
    simp [execOp, ho, e1, e2, hmk]
  have hzz : zv.cells.size = ie.size := by omega
  have hcs : (madeCells zv.cells (n.toNat * ie.size)).size = (List.replicate n.toNat z).flatten.length := by
    rw [size_madeCells, ← hzz, hzs]
    simp [List.length_flatten]
  have hget : ∀ (i : Nat) (v : Value), (madeCells zv.cells (n.toNat * ie.size))[i]? = some v → zv.cells[i % zv.cells.size]? = some v := by
    intro i v hv
    have hi : i < n.toNat * ie.size := by have := (Array.getElem?_eq_some_iff.1 hv).1; rwa [size_madeCells] at this
    have hm : i % zv.cells.size < zv.cells.size := Nat.mod_lt _ (by omega)
    simp [madeCells, hi, hm] at hv
    simp [hm, hv]
  have hpost := done_nb (x := .sl (o.dst.getD 0, s.g (o.dst.getD 0), 0) n.toNat (esz P t)) h hN hrun hcs (fun i v hv => hz1 _ _ (hget i v hv))
    (fun i v y hv hy => hz2 C ρ τ _ _ _ (hget i v hv) (by rw [hzs]; exact flatten_get y hy)) (fun ρ' hρ' => .sl _ _ _ _ _ hρ' (Nat.le_refl _) (by simp only [maxLen]; omega))
  exact hpost

end Go.Sy

/- append. -/
namespace Go.Sy
open Go Go.RowKit

variable {N : Nat} {w0 : World} {C0 : CMap} {E : EX} {s : St} {a : Act} {w : World} {C : CMap} {ρ : RMap} {τ : TMap} {P : Program} {o : Oper} {e : Eff}

/-- In place: behind the block's first cells. -/
theorem RepG.inplace (h : RepG N w0 C0 E s a w C ρ τ) {k : Key} {b n c sz : Nat} {cs : Array Value} {ty : TypeId} (hk : τ k = some (.slice (some ⟨b, 0, none⟩) n c, sz)) (hd : s.d k = false) (hc : c ≠ 0)
    (hblk : w.heap[b]? = some (.cells cs ty (0, 0))) (hlow : ∀ o, n * sz ≤ o → C b o = none) (hG : (w0.heap.size ≤ b ∨ E b) ∧ ∀ k' B, s.b k' = some B → ρ k' ≠ some b)
    (news : List Value) (h1 : ∀ u ∈ news, u.oneCell' = true) (hfit : n * sz + news.length ≤ cs.size) :
    RepG N w0 C0 E { s with d := upd s.d k true } a (w.setRow b (cs.toList.take (n * sz) ++ news ++ cs.toList.drop (n * sz + news.length)).toArray)
      (fun b' o => if b' = b ∧ n * sz ≤ o ∧ o < n * sz + news.length then news[o - n * sz]? else C b' o) ρ τ := by
  have other : ∀ {b' : Nat}, b' ≠ b → (w.setRow b (cs.toList.take (n * sz) ++ news ++ cs.toList.drop (n * sz + news.length)).toArray).heap[b']? = w.heap[b']? := fun hne => setRow_other w b _ _ hne
  have hmono : ∀ b' o v, C b' o = some v → (if b' = b ∧ n * sz ≤ o ∧ o < n * sz + news.length then news[o - n * sz]? else C b' o) = some v := by
    intro b' o v hv
    rw [if_neg]
    · exact hv
    · rintro ⟨rfl, ho, _⟩
      rw [hlow o ho] at hv
      cases hv
  have mono : ∀ {v : Value} {x : AV}, RV C ρ τ v x → RV (fun b' o => if b' = b ∧ n * sz ≤ o ∧ o < n * sz + news.length then news[o - n * sz]? else C b' o) ρ τ v x := fun hv => hv.mono hmono (fun _ _ h => h) (fun _ _ h => h)
  have none_of : ∀ {b' : Nat}, b' ≠ b → ∀ o, C b' o = none → (if b' = b ∧ n * sz ≤ o ∧ o < n * sz + news.length then news[o - n * sz]? else C b' o) = none := by
    intro b' hne o ho
    rw [if_neg (fun h => hne h.1), ho]
  have low : ∀ k', upd s.d k true k' = false → s.d k' = false ∧ k' ≠ k := by
    intro k' e
    rw [upd_at] at e
    split at e
    · cases e
    · exact ⟨e, by assumption⟩
  have bne : ∀ {k' : Key} {A : Option Addr} {n' c' : Nat} {m : Nat}, τ k' = some (.slice A n' c', m) → upd s.d k true k' = false → c' ≠ 0 → ∀ b', A = some ⟨b', 0, none⟩ → b' ≠ b := by
    intro k' A n' c' m hk' hd' hc' b' hA
    obtain ⟨hd', hne⟩ := low _ hd'
    rintro rfl
    exact hne (h.tj k' k _ _ _ _ b' hk' hk hd' hd (by subst hA; simp [blk, hc']) (by simp [blk, hc]))
  exact {
    df := h.df
    sz := h.sz
    tm := fun t => mono (h.tm t)
    cw := by
      intro b' o v hv
      split at hv
      · rename_i hcond
        obtain ⟨rfl, ho1, ho2⟩ := hcond
        refine ⟨?_, h1 v (List.mem_of_getElem? hv)⟩
        simp only [World.cell?, setRow_heap w b' cs _ ty (0, 0) hblk, Option.isSome_none, Bool.false_eq_true, if_false, List.getElem?_toArray]
        rw [splice_at _ _ _ _ (by simpa using hfit), if_pos ⟨ho1, ho2⟩]
        exact hv
      · rename_i hcond
        obtain ⟨g1, g2⟩ := h.cw _ _ _ hv
        refine ⟨?_, g2⟩
        by_cases hb : b' = b
        · subst hb
          have ho : o < n * sz := by
            rcases Nat.lt_or_ge o (n * sz) with ho | ho
            · exact ho
            · rw [hlow o ho] at hv; cases hv
          simp only [World.cell?, hblk, Option.isSome_none, Bool.false_eq_true, if_false] at g1
          simp only [World.cell?, setRow_heap w b' cs _ ty (0, 0) hblk, Option.isSome_none, Bool.false_eq_true, if_false, List.getElem?_toArray]
          rw [splice_at _ _ _ _ (by simpa using hfit), if_neg (by omega)]
          simpa using g1
        · exact (World.cell?_of_block (w := w) (a := ⟨b', o, none⟩) (other hb)).trans g1
    c0 := fun b o v hv => hmono _ _ _ (h.c0 _ _ _ hv)
    c1 := by
      intro b' o v hlt hv
      split at hv
      · rename_i hcond
        obtain ⟨rfl, _⟩ := hcond
        rcases hG.1 with hG | hG
        · omega
        · exact .inr hG
      · exact h.c1 _ _ _ hlt hv
    bx := by
      intro k' B hB
      obtain ⟨b', hρ, ⟨⟨cs', ty', g1, g2, g3, g4, g5⟩, g6⟩, g7⟩ := h.bx k' B hB
      have hne : b' ≠ b := by rintro rfl; exact hG.2 _ _ hB hρ
      exact ⟨b', hρ, ⟨⟨cs', ty', (other hne).trans g1, g2, g3, fun i v x hv hx => mono (g4 i v x hv hx), fun hz i v hv => hmono _ _ _ (g5 hz i v hv)⟩, fun hz o => none_of hne o (g6 hz o)⟩, g7⟩
    bj := h.bj
    tk := by
      intro k' v m hk' hd'
      obtain ⟨A, n', c', rfl, g1⟩ := h.tk k' v m hk' (low _ hd').1
      refine ⟨A, n', c', rfl, ?_⟩
      rcases g1 with g1 | ⟨b', cs', ty', hA, g2, g3, g4, g5, g6, g7⟩
      · exact .inl g1
      · by_cases hc' : c' = 0
        · exact .inl hc'
        · have hne : b' ≠ b := bne hk' hd' hc' b' hA
          exact .inr ⟨b', cs', ty', hA, (other hne).trans g2, g3, g4, g5, fun o ho => none_of hne o (g6 o ho), g7⟩
    tj := fun k1 k2 v1 v2 n1 n2 b e1 e2 d1 d2 => h.tj k1 k2 v1 v2 n1 n2 b e1 e2 (low _ d1).1 (low _ d2).1
    fρ := h.fρ
    fτ := h.fτ
    fo := h.fo
    fr := h.fr.setRow _ hG.1 }

/-- The same with the block's element type let be. -/
theorem run_append_room' (w : World) (t ty e te : TypeId) (i : TypeInfo) (ht : P.underlying t = some (.slice e)) (hi : P.info? e = some i)
    (g sLen sCap : Nat) (cur : Array Value) (hg : w.heap[g]? = some (.cells cur te (0, 0)))
    (a : Addr) (m c : Nat) (news : List Value) (hl : news.length = m * i.size) (hnews : ∀ (j : Nat) (u : Value), news[j]? = some u → w.cell? (a.add j) = some u) (h1 : ∀ u ∈ news, u.oneCell' = true)
    (hroom : sLen + m ≤ sCap) (hfit : sLen * i.size + news.length ≤ cur.size) :
    (Builtin.append_ #[t, t] ty #[.slice (some ⟨g, 0, none⟩) sLen sCap, .slice (some a) m c]).run P w =
      .ok (.slice (some ⟨g, 0, none⟩) (sLen + m) sCap) (w.setRow g (cur.toList.take (sLen * i.size) ++ news ++ cur.toList.drop (sLen * i.size + news.length)).toArray) := by
  have hf := run_firstCells_some (P := P) w i.size m a m c news hl hnews
  have hst := run_storeCells_at P g (sLen * i.size) te news 0 cur w hg (by simpa using hfit) h1
  simp only [Nat.add_zero] at hst
  simp [Builtin.append_, run_underlying ht, sizeOf, typeInfo, hi, Builtin.lenOf, hroom, hf, Addr.add_lit, hst]

/-- The cells of a list's elements, one behind the other. -/
def flatCells (n sz : Nat) (cv : Nat → Nat → Value) : List Value := (List.range (n * sz)).map fun q => cv (q / sz) (q % sz)
theorem flatCells_length (n sz : Nat) (cv : Nat → Nat → Value) : (flatCells n sz cv).length = n * sz := by simp [flatCells]
theorem flatCells_get {n sz : Nat} {cv : Nat → Nat → Value} {i j : Nat} (hi : i < n) (hj : j < sz) : (flatCells n sz cv)[i * sz + j]? = some (cv i j) := by
  have := two_idx hi hj
  simp [flatCells, this, idx_div hj, idx_mod hj]
theorem flatCells_some {n sz : Nat} {cv : Nat → Nat → Value} {q : Nat} {u : Value} (h : (flatCells n sz cv)[q]? = some u) : q < n * sz ∧ u = cv (q / sz) (q % sz) := by
  have hq : q < n * sz := by have := (List.getElem?_eq_some_iff.1 h).1; simpa [flatCells] using this
  simp [flatCells, hq] at h
  exact ⟨hq, h.symm⟩

/-- A list's cells in the world. -/
theorem list_cells (h : RepG N w0 C0 E s a w C ρ τ) {sz : Nat} (hsz : 0 < sz) {xs : List (List AV)} {A : Option Addr} {cv : Nat → Nat → Value}
    (hcell : ∀ (i : Nat) (x : List AV), xs[i]? = some x → x.length = sz ∧ ∃ b o, A = some ⟨b, o, none⟩ ∧ ∀ j, j < sz → C b (o + i * sz + j) = some (cv i j)) :
    (∀ ad, A = some ad → ∀ (q : Nat) (u : Value), (flatCells xs.length sz cv)[q]? = some u → w.cell? (ad.add q) = some u) ∧ (∀ u ∈ flatCells xs.length sz cv, u.oneCell' = true) ∧ (xs.length ≠ 0 → ∃ b o, A = some ⟨b, o, none⟩) := by
  refine ⟨?_, ?_, ?_⟩
  · rintro ad rfl q u hu
    obtain ⟨hq, rfl⟩ := flatCells_some hu
    have hi := div_lt hq
    obtain ⟨_, b, o, hA, hj⟩ := hcell (q / sz) xs[q / sz] (by simp [hi])
    cases hA
    have := (h.cw _ _ _ (hj (q % sz) (Nat.mod_lt _ hsz))).1
    rw [Addr.add_lit]
    rwa [Nat.add_assoc, div_idx] at this
  · intro u hu
    obtain ⟨q, hq⟩ := List.mem_iff_getElem?.1 hu
    obtain ⟨hq', rfl⟩ := flatCells_some hq
    have hi := div_lt hq'
    obtain ⟨_, b, o, hA, hj⟩ := hcell (q / sz) xs[q / sz] (by simp [hi])
    exact (h.cw _ _ _ (hj (q % sz) (Nat.mod_lt _ hsz))).2
  · intro hne
    obtain ⟨_, b, o, hA, _⟩ := hcell 0 (xs[0]'(by omega)) (by simp)
    exact ⟨b, o, hA⟩

end Go.Sy

/- append, joined. -/
namespace Go.Sy
open Go Go.RowKit

variable {N : Nat} {w0 : World} {C0 : CMap} {E : EX} {s : St} {a : Act} {w : World} {C : CMap} {ρ : RMap} {τ : TMap} {P : Program} {o : Oper} {e : Eff}

def killO (f : Key → Bool) : Option Key → Key → Bool
  | none => f
  | some k => upd f k true

theorem RepG.killO (h : RepG N w0 C0 E s a w C ρ τ) (kl : Option Key) : RepG N w0 C0 E { s with d := killO s.d kl } a w C ρ τ := by
  cases kl with
  | none => exact h
  | some k => exact h.kill k

theorem app_tok' (s : St) (d : Nat) (v : AV) (kl : Option Key) : s.app (some d) { v := v, nt := 1, kl := kl } =
    St.set { s with d := upd (killO s.d kl) (d, s.g d, 0) false, g := upd s.g d (s.g d + 1) } d v := by
  cases kl <;> simp [St.app, St.set, sto, crt_one, Sy.killO]

theorem killO_ne {f : Key → Bool} {kl : Option Key} {k : Key} (h : killO f kl k = false) : f k = false ∧ kl ≠ some k := by
  cases kl with
  | none => exact ⟨h, by simp⟩
  | some k' =>
    simp only [killO, upd_at] at h
    split at h
    · cases h
    · rename_i hne
      exact ⟨h, fun e => hne (by cases e; rfl)⟩

/-- What a token says of its value, live or nil. -/
theorem tok_info (h : RepG N w0 C0 E s a w C ρ τ) {v : Value} {sz : Nat} {tk : Tok} (ht : TokV τ v sz tk) (hok : tokOK s tk = true) :
    TokW C w v sz (fun b => (w0.heap.size ≤ b ∨ E b) ∧ ∀ k' B, s.b k' = some B → ρ k' ≠ some b) ∧
    (∀ k' v' n' b, τ k' = some (v', n') → killO s.d (tokKey tk) k' = false → blk v = some b → blk v' ≠ some b) := by
  cases tk with
  | no => simp [tokOK] at hok
  | nil =>
    obtain ⟨A, rfl⟩ := ht
    refine ⟨⟨A, 0, 0, rfl, .inl rfl⟩, ?_⟩
    intro k' v' n' b _ _ hb
    exact absurd rfl (blk_cap hb).1
  | own k =>
    simp only [tokOK, Bool.not_eq_true'] at hok
    refine ⟨h.tk k v sz ht hok, ?_⟩
    intro k' v' n' b hk' hd hb hb'
    obtain ⟨hd, hne⟩ := killO_ne hd
    exact hne (by simp only [tokKey]; rw [h.tj k k' _ _ _ _ b ht hk' hok hd hb hb'])

theorem done_tok {sz : Nat} {xs : List (List AV)} {kl : Option Key} {v : Value} {w' : World} {d : Nat} (hd : o.dst = some d) (hN : ∀ d, o.dst = some d → d < N)
    (hr : (execOp a.eval o).run P w = .ok (.value v) w')
    (key : ∃ C' ρ' τ', RepG N w0 C0 E { s with d := upd (killO s.d kl) (d, s.g d, 0) false, g := upd s.g d (s.g d + 1) } a w' C' ρ' τ' ∧ RV C' ρ' τ' v (.list sz xs (.own (d, s.g d, 0)))) :
    Done N w0 C0 E P o a w (s.app o.dst { v := .list sz xs (.own (d, s.g d, 0)), nt := 1, kl := kl }) := by
  obtain ⟨C', ρ', τ', k1, k2⟩ := key
  refine ⟨_, _, .inl hr, C', ρ', τ', ?_⟩
  rw [hd, app_tok']
  exact k1.set d (hN d hd) k2

theorem app_get {xs ys : List (List AV)} {i : Nat} {x : List AV} (h : (xs ++ ys)[i]? = some x) : (i < xs.length ∧ xs[i]? = some x) ∨ (xs.length ≤ i ∧ ys[i - xs.length]? = some x) := by
  rcases Nat.lt_or_ge i xs.length with hi | hi
  · rw [List.getElem?_append_left hi] at h; exact .inl ⟨hi, h⟩
  · rw [List.getElem?_append_right hi] at h; exact .inr ⟨hi, h⟩

theorem ev_append {args : Array Operand} {ts : Array TypeId} (h : RepG N w0 C0 E s a w C ρ τ) (hN : ∀ d, o.dst = some d → d < N) (ho : o.op = .call { callee := .builtin .append, args := args, argTypes := ts }) (he : ev P s o = some e) : Done N w0 C0 E P o a w (s.app o.dst e) := by
  simp only [ev, ho] at he
  split at he
  case h_2 => cases he
  rename_i x y t t' hx ht
  have hargs : args = #[x, y] := by apply Array.ext'; simpa using hx
  have hts : ts = #[t, t'] := by apply Array.ext'; simpa using ht
  subst hargs hts
  clear hx ht
  split at he
  case h_2 => cases he
  rename_i sz xs tk sz' ys tk' hlx hly
  split at he
  case isFalse => cases he
  rename_i hcond
  obtain ⟨hds, hsl, htt, hsz, hsz', htok, hbytes, hz, hmx⟩ := hcond
  cases he
  obtain ⟨d, hd⟩ := Option.isSome_iff_exists.1 hds
  rw [show o.dst.getD 0 = d by rw [hd]; rfl]
  subst htt hsz'
  have c1 := opnd (P := P) h t x
  have c2 := opnd (P := P) h t y
  rw [hlx] at c1
  rw [hly] at c2
  obtain ⟨el, hu, hi, hpos, hez, heb⟩ := slT_elim hsl
  simp only [elT, hu] at hz
  obtain ⟨ie, z, hie, hzz, hzs⟩ := zvals_elim hz
  rw [← hsz] at hez hzs
  have hpos' : 0 < sz' := by omega
  have hisz : ie.size = sz' := by rw [hez]; simp [Program.cellsOf, hie]
  have hiby : ie.bytes = ebytes P t := by rw [heb]; simp [Program.bytesOf, hie]
  obtain ⟨A, c, cv1, hx, hnc, hcm, hcell1, hrv1, htk1⟩ := rv_list c1
  obtain ⟨B, c2', cv2, hy, hnc2, hcm2, hcell2, hrv2, htk2⟩ := rv_list c2
  rw [hx] at htk1
  obtain ⟨l1, l2, l3⟩ := list_cells h hpos' hcell1
  obtain ⟨m1, m2, m3⟩ := list_cells h hpos' hcell2
  obtain ⟨tw, tn⟩ := tok_info h htk1 htok
  have hexec : ∀ {v : Value} {w' : World}, (Builtin.append_ #[t, t] o.type #[.slice A xs.length c, .slice B ys.length c2']).run P w = .ok v w' → (execOp a.eval o).run P w = .ok (.value v) w' := by
    intro v w' hr
    simp only [execOp, ho, resolve, invoke, builtin, Sem.run_bind, Sem.run_pure, Result.andThen_ok, List.map_toArray, List.map_cons, List.map_nil, hx, hy, hr]
  have hk := h.killO (tokKey tk)
  by_cases hm : ys.length = 0
  · -- nothing is appended
    have hys : ys = [] := List.eq_nil_of_length_eq_zero hm
    subst hys
    have hr : (Builtin.append_ #[t, t] o.type #[.slice A xs.length c, .slice B 0 c2']).run P w = .ok (.slice A xs.length c) w := by
      cases A <;> cases B <;> simp [Builtin.append_, run_underlying hu, sizeOf, typeInfo, hie, Builtin.lenOf, Builtin.firstCells, loadCells, loadCellsFrom, hnc, storeCells]
    refine done_tok hd hN (hexec hr) ?_
    refine ⟨C, ρ, _, hk.addtok (d, s.g d, 0) (Nat.le_refl _) (v := .slice A xs.length c) (n := sz') tw tn, ?_⟩
    rw [List.append_nil]
    refine .list _ _ _ _ _ _ cv1 rfl hnc hcm hcell1 hrv1 (by simp [TokV, upd])
  · obtain ⟨b2, o2, hB⟩ := m3 hm
    subst hB
    have hnews := m1 _ rfl
    have hnl : (flatCells ys.length sz' cv2).length = ys.length * ie.size := by rw [flatCells_length, hisz]
    by_cases hroom : xs.length + ys.length ≤ c
    · -- in place
      cases tk with
      | no => simp [tokOK] at htok
      | nil =>
        obtain ⟨A', hA'⟩ := htk1
        simp only [Value.slice.injEq] at hA'
        omega
      | own k =>
        simp only [tokOK, Bool.not_eq_true'] at htok
        obtain ⟨A', n', c', hv', htw⟩ := tw
        cases hv'
        rcases htw with htw | ⟨b, cs, ty, hA, g2, g3, g4, g5, g6, g7⟩
        · omega
        · subst hA
          have hfit : xs.length * sz' + (flatCells ys.length sz' cv2).length ≤ cs.size := by
            rw [flatCells_length, g3, ← Nat.add_mul]
            exact Nat.mul_le_mul_right _ hroom
          have hr := run_append_room' (P := P) w t o.type el ty ie hu hie b xs.length c cs g2 ⟨b2, o2, none⟩ ys.length c2' _ hnl hnews m2 hroom (by rw [hisz]; exact hfit)
          rw [hisz] at hr
          refine done_tok hd hN (hexec hr) ?_
          have k1 := h.inplace htk1 htok (by omega) g2 g6 g7 _ m2 hfit
          have k2 := k1.addtok (d, s.g d, 0) (Nat.le_refl _) (v := .slice (some ⟨b, 0, none⟩) (xs.length + ys.length) c) (n := sz')
            ⟨_, _, _, rfl, .inr ⟨b, _, ty, rfl, setRow_heap w b cs _ ty (0, 0) g2, by
              simp only [List.size_toArray, List.length_append, List.length_take, List.length_drop, Array.length_toList]
              omega, hroom, g5, fun q hq => by
                dsimp only
                rw [flatCells_length]
                rw [if_neg (by rw [Nat.add_mul] at hq; omega)]
                exact g6 q (Nat.le_trans (Nat.mul_le_mul_right _ (by omega)) hq), g7⟩⟩
            (fun k' v' n' b' hk' hd' hb' => tn k' v' n' b' hk' hd' (by simpa [blk] using hb'))
          refine ⟨_, _, _, k2, .list _ _ _ _ _ _ (fun i j => if i < xs.length then cv1 i j else cv2 (i - xs.length) j) (by simp) hroom hcm ?_ ?_ (by simp [TokV, upd])⟩
          · intro i x hxi
            rcases app_get hxi with ⟨hi, hxi⟩ | ⟨hi, hxi⟩
            · obtain ⟨q1, b', o', hbo, q2⟩ := hcell1 i x hxi
              cases hbo
              refine ⟨q1, b, 0, rfl, fun j hj => ?_⟩
              rw [if_pos hi]
              have := two_idx hi hj
              rw [if_neg (by omega)]
              exact q2 j hj
            · obtain ⟨q1, b', o', hbo, q2⟩ := hcell2 _ x hxi
              refine ⟨q1, b, 0, rfl, fun j hj => ?_⟩
              rw [if_neg (show ¬ i < xs.length by omega)]
              have hlt : i - xs.length < ys.length := (List.getElem?_eq_some_iff.1 hxi).1
              have e1 : 0 + i * sz' + j = xs.length * sz' + ((i - xs.length) * sz' + j) := by
                rw [← Nat.add_assoc, ← Nat.add_mul, show xs.length + (i - xs.length) = i by omega, Nat.zero_add]
              have e2 := two_idx hlt hj
              rw [e1, flatCells_length, if_pos ⟨rfl, by omega, by omega⟩, show xs.length * sz' + ((i - xs.length) * sz' + j) - xs.length * sz' = (i - xs.length) * sz' + j by omega]
              exact flatCells_get hlt hj
          · intro i x j y hxi hxj
            have cm : ∀ b' o v, C b' o = some v → (if b' = b ∧ xs.length * sz' ≤ o ∧ o < xs.length * sz' + (flatCells ys.length sz' cv2).length then (flatCells ys.length sz' cv2)[o - xs.length * sz']? else C b' o) = some v := by
              intro b' o v hv
              rw [if_neg]
              · exact hv
              · rintro ⟨rfl, ho, _⟩
                rw [g6 o ho] at hv
                cases hv
            rcases app_get hxi with ⟨hi, hxi⟩ | ⟨hi, hxi⟩
            · rw [if_pos hi]
              exact (hrv1 i x j y hxi hxj).mono cm (fun _ _ h => h) (fun _ _ h => h)
            · rw [if_neg (by omega)]
              exact (hrv2 _ x j y hxi hxj).mono cm (fun _ _ h => h) (fun _ _ h => h)
    · -- a new block
      have hol : (flatCells xs.length sz' cv1).length = xs.length * ie.size := by rw [flatCells_length, hisz]
      have hge := grownCap_ge w (xs.length + ys.length) c el
      have hcap : grownCap w (xs.length + ys.length) c el ≤ maxLen := grownCap_le_maxLen w (xs.length + ys.length) c el (by simp only [maxLen]; omega)
      have hr : (Builtin.append_ #[t, t] o.type #[.slice A xs.length c, .slice (some ⟨b2, o2, none⟩) ys.length c2']).run P w =
          .ok (.slice (some ⟨w.heap.size, 0, none⟩) (xs.length + ys.length) (grownCap w (xs.length + ys.length) c el))
            (w.drew.alloc (.cells ((flatCells xs.length sz' cv1).toArray ++ (flatCells ys.length sz' cv2).toArray ++ Builtin.zeroCells z.cells (grownCap w (xs.length + ys.length) c el - (xs.length + ys.length))) el)) := by
        cases A with
        | some ad =>
          exact run_append_grow (P := P) w t o.type el ie z hu hie hzz ad xs.length c _ hol (l1 _ rfl) ⟨b2, o2, none⟩ ys.length c2' _ hnl hnews (by omega) (by omega) (growslice_fits (by omega) (by rw [hiby]; exact hbytes))
        | none =>
          have h0 : xs.length = 0 := by
            rcases Nat.eq_zero_or_pos xs.length with h0 | h0
            · exact h0
            · obtain ⟨b, o', hbo⟩ := l3 (by omega); cases hbo
          have hc0 : c = 0 := by
            cases tk with
            | no => simp [tokOK] at htok
            | nil => obtain ⟨A', hA'⟩ := htk1; simp only [Value.slice.injEq] at hA'; exact hA'.2.2
            | own k =>
              obtain ⟨A', n', c', hv', htw⟩ := tw
              cases hv'
              rcases htw with htw | ⟨b, cs, ty, hA, _⟩
              · exact htw
              · cases hA
          have hx0 : xs = [] := List.eq_nil_of_length_eq_zero h0
          subst hx0 hc0
          have := run_append_nil (P := P) w t o.type el ie z hu hie hzz ⟨b2, o2, none⟩ ys.length c2' _ hnl hnews (by omega) (by omega) (by rw [hiby]; simp only [List.length_nil, Nat.zero_add] at hbytes; omega)
          simpa [flatCells] using this
      refine done_tok hd hN (hexec hr) ?_
      have kd := hk.same (w1 := w.drew) (Below.refl _ w).drew
      have key := kd.newrow d el (cs := (flatCells xs.length sz' cv1).toArray ++ (flatCells ys.length sz' cv2).toArray ++ Builtin.zeroCells z.cells (grownCap w (xs.length + ys.length) c el - (xs.length + ys.length))) (sz := sz') (n := xs.length + ys.length)
        (c := grownCap w (xs.length + ys.length) c el) (xs := xs ++ ys) ?_ (by simp) hge hcap ?_ ?_ ?_
      · obtain ⟨C', τ', k1, k2⟩ := key
        exact ⟨C', ρ, τ', k1, k2⟩
      · simp only [Array.size_append, List.size_toArray, flatCells_length, size_zeroCells, hzs, ← Nat.add_mul]
        congr 1
        omega
      · intro i x hxi
        rcases app_get hxi with ⟨hi, hxi⟩ | ⟨hi, hxi⟩
        · exact (hcell1 i x hxi).1
        · exact (hcell2 _ x hxi).1
      · intro i x j y hxi hxj
        rcases app_get hxi with ⟨hi, hxi⟩ | ⟨hi, hxi⟩
        · have hj : j < sz' := by rw [← (hcell1 i x hxi).1]; exact (List.getElem?_eq_some_iff.1 hxj).1
          have := two_idx hi hj
          refine ⟨cv1 i j, ?_, hrv1 i x j y hxi hxj⟩
          rw [Array.append_assoc, Array.getElem?_append_left (by simp [flatCells_length]; exact this), List.getElem?_toArray]
          exact flatCells_get hi hj
        · have hj : j < sz' := by rw [← (hcell2 _ x hxi).1]; exact (List.getElem?_eq_some_iff.1 hxj).1
          have hlt : i - xs.length < ys.length := (List.getElem?_eq_some_iff.1 hxi).1
          have := two_idx hlt hj
          have e1 : i * sz' + j = xs.length * sz' + ((i - xs.length) * sz' + j) := by
            rw [← Nat.add_assoc, ← Nat.add_mul, show xs.length + (i - xs.length) = i by omega]
          refine ⟨cv2 (i - xs.length) j, ?_, hrv2 _ x j y hxi hxj⟩
          rw [Array.append_assoc, Array.getElem?_append_right (by simp [flatCells_length]; omega), Array.getElem?_append_left (by simp [flatCells_length]; omega), List.getElem?_toArray]
          simp only [List.size_toArray, flatCells_length]
          rw [show i * sz' + j - xs.length * sz' = (i - xs.length) * sz' + j by omega]
          exact flatCells_get hlt hj
      · intro i u hi hu
        rw [Nat.add_mul] at hi
        by_cases hi1 : i < xs.length * sz'
        · rw [Array.append_assoc, Array.getElem?_append_left (by simp [flatCells_length]; exact hi1), List.getElem?_toArray] at hu
          exact l2 u (List.mem_of_getElem? hu)
        · rw [Array.append_assoc, Array.getElem?_append_right (by simp [flatCells_length]; omega), Array.getElem?_append_left (by simp [flatCells_length]; omega), List.getElem?_toArray] at hu
          exact m2 u (List.mem_of_getElem? hu)

end Go.Sy

/- One step of a region, calls too. -/
namespace Go.Sy
open Go Go.RowKit

variable {N : Nat} {w0 : World} {C0 : CMap} {E : EX} {s : St} {a : Act} {w : World} {C : CMap} {ρ : RMap} {τ : TMap} {P : Program} {o : Oper} {e : Eff}

theorem ev_sound (h : RepG N w0 C0 E s a w C ρ τ) (hN : ∀ d, o.dst = some d → d < N) (he : ev P s o = some e) : Done N w0 C0 E P o a w (s.app o.dst e) := by
  cases ho : o.op with
  | move x => exact ev_move h hN ho he
  | assign x => exact ev_assign h hN ho he
  | pick c x y => exact ev_pick h hN ho he
  | alloc t => exact ev_alloc h hN ho he
  | box t x => exact ev_box h hN ho he
  | build t ps => exact ev_build h hN ho he
  | buildSlice t n ps => exact ev_buildSlice h hN ho he
  | load t x => exact ev_load h hN ho he
  | store t x y => exact ev_store h hN ho he
  | nilCheck x => exact ev_nilCheck h hN ho he
  | binOp op t x y u => exact ev_binOp h hN ho he
  | unOp op t x => exact ev_unOp h hN ho he
  | convert t u x => exact ev_convert h hN ho he
  | fieldAddr t x f => exact ev_fieldAddr h hN ho he
  | indexAddr t x i => exact ev_indexAddr h hN ho he
  | extract x i => exact ev_extract h hN ho he
  | makeSlice t x y => exact ev_makeSlice h hN ho he
  | makeFunc fn first caps =>
    cases fn with
    | func f => exact ev_makeFunc h hN ho he
    | _ => simp [ev, ho] at he
  | slice t x lo hi mx =>
    cases lo with
    | some _ => simp [ev, ho] at he
    | none =>
      cases hi with
      | none => simp [ev, ho] at he
      | some hi =>
        cases mx with
        | some _ => simp [ev, ho] at he
        | none => exact ev_slice h hN ho he
  | call c =>
    obtain ⟨callee, args, ts⟩ := c
    cases callee with
    | value f => simp [ev, ho] at he
    | invoke r m => simp [ev, ho] at he
    | builtin b =>
      cases b with
      | len => exact ev_len h hN ho he
      | append => exact ev_append h hN ho he
      | max => exact ev_maxmin (.inl rfl) h hN ho he
      | min => exact ev_maxmin (.inr rfl) h hN ho he
      | _ => simp [ev, ho] at he
  | _ => simp [ev, ho] at he

/-! ### Contracts -/
def CW (C : CMap) (w : World) : Prop := ∀ b o v, C b o = some v → w.cell? ⟨b, o, none⟩ = some v ∧ v.oneCell' = true
def Enters (P : Program) (f : FuncId) : Prop := ∀ (args : Array Value) (w : World), (callFunc f args).run P w = .ok (.enter f args) w
theorem enters_of {f : FuncId} {fn : Func} {c : Code} (hf : P.funcs[f]? = some fn) (hname : (fn.name == "runtime.NumGoroutine") = false) (hb : fn.body = some c) : Enters P f := by
  intro args w
  have h1 : fn.name ≠ "runtime.NumGoroutine" := by simpa using hname
  simp [callFunc, hf, h1, hb]

/-- The tokens that a call hands back: (0, 0, i). -/
structure Toks (C : CMap) (w : World) (τ : TMap) (n B : Nat) : Prop where
  k : ∀ k x, τ k = some x → k.1 = 0 ∧ k.2.1 = 0 ∧ k.2.2 < n
  w : ∀ k v m, τ k = some (v, m) → TokW C w v m (fun b => B ≤ b)
  j : ∀ k k' v v' m m' b, τ k = some (v, m) → τ k' = some (v', m') → blk v = some b → blk v' = some b → k = k'

/-- A function that turns nothing that was there. n: how many slices of its own it hands back. -/
structure Con (P : Program) (f : FuncId) (args : List AV) (n : Nat) (r : AV) : Prop where
  enters : Enters P f
  calls : ∀ (C : CMap) (w : World) (vs : Array Value), CW C w → vs.size = args.length → (∀ (i : Nat) (v : Value) (x : AV), vs[i]? = some v → args[i]? = some x → RV C noρ noτ v x) →
    Calls P f vs w fun e w' => ∃ v C' τ', e = .returned v ∧ Below w.heap.size w w' ∧ (∀ b o v, C b o = some v → C' b o = some v) ∧ (∀ b o v, C' b o = some v → C b o = some v ∨ w.heap.size ≤ b) ∧
      CW C' w' ∧ RV C' noρ τ' v r ∧ Toks C' w' τ' n w.heap.size

/-- A function that turns nothing that was there, and hands back a slice of a block of its own that may still be written. -/
structure BCon (P : Program) (f : FuncId) (args : List AV) (n : Nat) (l : List AV) : Prop where
  enters : Enters P f
  calls : ∀ (C : CMap) (w : World) (vs : Array Value), CW C w → vs.size = args.length → (∀ (i : Nat) (v : Value) (x : AV), vs[i]? = some v → args[i]? = some x → RV C noρ noτ v x) →
    Calls P f vs w fun e w' => ∃ (b c : Nat) (C' : CMap) (cs : Array Value) (ty : TypeId), e = .returned (.slice (some ⟨b, 0, none⟩) n c) ∧ n ≤ c ∧ c ≤ maxLen ∧ Below w.heap.size w w' ∧ (∀ b o v, C b o = some v → C' b o = some v) ∧
      (∀ b o v, C' b o = some v → C b o = some v ∨ w.heap.size ≤ b) ∧ CW C' w' ∧ w.heap.size ≤ b ∧ w'.heap[b]? = some (.cells cs ty (0, 0)) ∧ cs.size = l.length ∧ (∀ (i : Nat) (v : Value), cs[i]? = some v → v.oneCell' = true) ∧
      (∀ (i : Nat) (v : Value) (x : AV), cs[i]? = some v → l[i]? = some x → RV C' noρ noτ v x) ∧ ∀ o, C' b o = none

def fgtV : AV → AV
  | .agg l => .agg (l.map fgt)
  | a => fgt a
def cleanV : AV → Bool
  | .agg l => l.all clean
  | a => clean a
def renT (d g : Nat) : Tok → Tok
  | .own k => .own (d, g, k.2.2)
  | t => t
def ren0 (d g : Nat) : AV → AV
  | .list sz xs tk => .list sz xs (renT d g tk)
  | .agg _ | .tup _ => .any
  | a => a
def ren1 (d g : Nat) : AV → AV
  | .agg l => .agg (l.map (ren0 d g))
  | .tup _ => .any
  | a => ren0 d g a
def ren (d g : Nat) : AV → AV
  | .tup l => .tup (l.map (ren1 d g))
  | a => ren1 d g a

def argsAV (P : Program) (s : St) (args : List Operand) (ts : List TypeId) : List AV := List.zipWith (fun x t => fgtV (s.o P t x)) args ts

def CallEv (P : Program) (s : St) (o : Oper) (e : Eff) : Prop := match o.op with
  | .call { callee := .value g, args, argTypes } => ∃ f caps, s.o P 0 g = .clo f caps ∧ args.size ≤ argTypes.size ∧ (argsAV P s args.toList argTypes.toList).all cleanV = true ∧
      ((∃ n r, Con P f (argsAV P s args.toList argTypes.toList ++ caps) n r ∧ e = { v := ren (o.dst.getD 0) (s.g (o.dst.getD 0)) r, nt := n }) ∨
        ∃ m n l, BCon P f (argsAV P s args.toList argTypes.toList ++ caps) n l ∧ e = { v := .sl (o.dst.getD 0, s.g (o.dst.getD 0), 0) n m, nb := some l })
  | _ => False

def Ev (P : Program) (s : St) (o : Oper) (e : Eff) : Prop := ev P s o = some e ∨ CallEv P s o e

theorem fgtV_rv {v : Value} {x : AV} (h : RV C ρ τ v x) : RV C ρ τ v (fgtV x) := by
  cases hx : x with
  | agg l =>
    rw [hx] at h
    obtain ⟨cs, rfl, h1, h2, h3⟩ := rv_agg h
    refine .agg _ _ (by simpa using h1) (fun i v y hv hy => ?_) h3
    simp only [List.getElem?_map] at hy
    obtain ⟨z, hz, rfl⟩ := Option.map_eq_some_iff.1 hy
    exact fgt_rv (h2 i v z hv hz)
  | _ => rw [hx] at h; exact fgt_rv h

theorem cleanV_rv {v : Value} {x : AV} (h : RV C ρ τ v x) (hc : cleanV x = true) : RV C noρ noτ v x := by
  cases hx : x with
  | agg l =>
    rw [hx] at h hc
    obtain ⟨cs, rfl, h1, h2, h3⟩ := rv_agg h
    exact .agg _ _ h1 (fun i v y hv hy => clean_rv (h2 i v y hv hy) (List.all_eq_true.1 hc y (List.mem_of_getElem? hy))) h3
  | _ => rw [hx] at h hc; exact clean_rv h hc

theorem ren0_rv {τ' : TMap} {d g : Nat} {v : Value} {x : AV} (hτ : ∀ k y, τ k = some y → τ' (d, g, k.2.2) = some y) (h : RV C noρ τ v x) : RV C ρ τ' v (ren0 d g x) := by
  cases h with
  | list sz xs tk A n c cv hn hc hm hcell hrv htk =>
    refine .list sz xs _ A n c cv hn hc hm hcell hrv ?_
    cases tk with
    | no => trivial
    | nil => exact htk
    | own k => exact hτ _ _ htk
  | any v => exact .any v
  | v v h => exact .v v h
  | agg cs l hl h h1 => exact .any _
  | tup cs l hl h => exact .any _
  | box k b off h => cases h
  | ptr b o l cv h hr => exact .ptr b o l cv h hr
  | sl k b n c sz h hc hm => cases h
  | clo f cs l hl h => exact .clo f cs l hl h

theorem ren1_rv {τ' : TMap} {d g : Nat} {v : Value} {x : AV} (hτ : ∀ k y, τ k = some y → τ' (d, g, k.2.2) = some y) (h : RV C noρ τ v x) : RV C ρ τ' v (ren1 d g x) := by
  cases hx : x with
  | agg l =>
    rw [hx] at h
    obtain ⟨cs, rfl, h1, h2, h3⟩ := rv_agg h
    refine .agg _ _ (by simpa using h1) (fun i v y hv hy => ?_) h3
    simp only [List.getElem?_map] at hy
    obtain ⟨z, hz, rfl⟩ := Option.map_eq_some_iff.1 hy
    exact ren0_rv hτ (h2 i v z hv hz)
  | tup l => exact .any _
  | _ => rw [hx] at h; exact ren0_rv hτ h

theorem rv_tup {v : Value} {l : List AV} (h : RV C ρ τ v (.tup l)) : ∃ cs, v = .tuple cs ∧ cs.size = l.length ∧ (∀ (i : Nat) (u : Value) (y : AV), cs[i]? = some u → l[i]? = some y → RV C ρ τ u y) := by
  cases h; exact ⟨_, rfl, by assumption, by assumption⟩

theorem ren_rv {τ' : TMap} {d g : Nat} {v : Value} {x : AV} (hτ : ∀ k y, τ k = some y → τ' (d, g, k.2.2) = some y) (h : RV C noρ τ v x) : RV C ρ τ' v (ren d g x) := by
  cases hx : x with
  | tup l =>
    rw [hx] at h
    obtain ⟨cs, rfl, h1, h2⟩ := rv_tup h
    refine .tup _ _ (by simpa using h1) (fun i v y hv hy => ?_)
    simp only [List.getElem?_map] at hy
    obtain ⟨z, hz, rfl⟩ := Option.map_eq_some_iff.1 hy
    exact ren1_rv hτ (h2 i v z hv hz)
  | _ => rw [hx] at h; exact ren1_rv hτ h

/-- The state takes a call's tokens over. -/
theorem RepG.toks (h : RepG N w0 C0 E s a w C ρ τ) (d : Nat) {τ1 : TMap} {n B : Nat} (ht : Toks C w τ1 n B) (hB0 : w0.heap.size ≤ B) (hB : ∀ k Bx, s.b k = some Bx → ∀ b, ρ k = some b → b < B)
    (hT : ∀ k v m, τ k = some (v, m) → s.d k = false → ∀ b, blk v = some b → b < B) :
    ∃ τ', RepG N w0 C0 E { s with d := crt d (s.g d) n s.d, g := if 0 < n then upd s.g d (s.g d + 1) else s.g } a w C ρ τ' ∧ (∀ k y, τ1 k = some y → τ' (d, s.g d, k.2.2) = some y) ∧ (∀ k y, τ k = some y → τ' k = some y) := by
  by_cases hn : n = 0
  · subst hn
    refine ⟨τ, by simpa [crt_zero] using h, ?_, fun _ _ h => h⟩
    intro k y hk
    have := (ht.k k y hk).2.2
    omega
  · have hpos : 0 < n := by omega
    simp only [hpos, if_true]
    let f : Key → Option (Value × Nat) := fun k => if k.1 = d ∧ k.2.1 = s.g d then τ1 (0, 0, k.2.2) else τ k
    have fnew : ∀ k, (k.1 = d ∧ k.2.1 = s.g d) → f k = τ1 (0, 0, k.2.2) := fun k hk => if_pos hk
    have fold' : ∀ k, ¬ (k.1 = d ∧ k.2.1 = s.g d) → f k = τ k := fun k hk => if_neg hk
    have up : ∀ k y, τ k = some y → f k = some y := by
      intro k y hk
      rw [fold' k]
      · exact hk
      · rintro ⟨h1, h2⟩
        have := h.fτ _ _ hk
        rw [h1, h2] at this
        omega
    have mono : ∀ {v' : Value} {x : AV}, RV C ρ τ v' x → RV C ρ f v' x := fun hv => hv.mono (fun _ _ _ h => h) (fun _ _ h => h) up
    have gup : ∀ (k' : Key), k'.2.1 < s.g k'.1 → k'.2.1 < upd s.g d (s.g d + 1) k'.1 := by
      intro k' hlt
      rw [upd_at]
      split
      · rename_i e; rw [e] at hlt; omega
      · exact hlt
    have live : ∀ k, crt d (s.g d) n s.d k = false → ¬ (k.1 = d ∧ k.2.1 = s.g d) → s.d k = false := by
      intro k hk hne
      simp only [crt] at hk
      rw [if_neg (fun hh => hne ⟨hh.1, hh.2.1⟩)] at hk
      exact hk
    refine ⟨f, ?_, ?_, up⟩
    · exact { h with
        tm := fun t => mono (h.tm t)
        bx := by
          intro k' B hB
          obtain ⟨b', hρ, ⟨⟨cs, ty, g1, g2, g3, g4, g5⟩, g6⟩, g7⟩ := h.bx k' B hB
          exact ⟨b', hρ, ⟨⟨cs, ty, g1, g2, g3, fun i v x hc hx => mono (g4 i v x hc hx), g5⟩, g6⟩, g7⟩
        tk := by
          intro k' v m hk' hd
          by_cases hc : k'.1 = d ∧ k'.2.1 = s.g d
          · rw [fnew _ hc] at hk'
            obtain ⟨A, n', c, rfl, g1⟩ := ht.w _ _ _ hk'
            refine ⟨A, n', c, rfl, ?_⟩
            rcases g1 with g1 | ⟨b, cs, ty, hA, g2, g3, g4, g5, g6, g7⟩
            · exact .inl g1
            · refine .inr ⟨b, cs, ty, hA, g2, g3, g4, g5, g6, .inl (by omega), ?_⟩
              intro k2 Bx hBx hr
              have := hB k2 Bx hBx b hr
              omega
          · rw [fold' _ hc] at hk'
            exact h.tk _ _ _ hk' (live _ hd hc)
        tj := by
          intro k1 k2 v1 v2 n1 n2 b e1 e2 d1 d2 r1 r2
          have tb : ∀ {k : Key} {v : Value} {m : Nat}, τ1 (0, 0, k.2.2) = some (v, m) → blk v = some b → B ≤ b := by
            intro k v m hk hr
            obtain ⟨A, n', c, rfl, g1⟩ := ht.w _ _ _ hk
            obtain ⟨hc, ad, rfl, hb⟩ := blk_cap hr
            rcases g1 with g1 | ⟨b', cs, ty, hA, _, _, _, _, _, g7⟩
            · exact absurd g1 hc
            · cases hA; subst hb; exact g7
          by_cases c1 : k1.1 = d ∧ k1.2.1 = s.g d
          · by_cases c2 : k2.1 = d ∧ k2.2.1 = s.g d
            · rw [fnew _ c1] at e1
              rw [fnew _ c2] at e2
              have := ht.j _ _ _ _ _ _ _ e1 e2 r1 r2
              simp only [Prod.mk.injEq, true_and] at this
              exact Prod.ext (by rw [c1.1, c2.1]) (Prod.ext (by rw [c1.2, c2.2]) this)
            · rw [fnew _ c1] at e1
              rw [fold' _ c2] at e2
              have h1 := tb e1 r1
              have h2 := hT _ _ _ e2 (live _ d2 c2) _ r2
              omega
          · by_cases c2 : k2.1 = d ∧ k2.2.1 = s.g d
            · rw [fold' _ c1] at e1
              rw [fnew _ c2] at e2
              have h1 := tb e2 r2
              have h2 := hT _ _ _ e1 (live _ d1 c1) _ r1
              omega
            · rw [fold' _ c1] at e1
              rw [fold' _ c2] at e2
              exact h.tj _ _ _ _ _ _ _ e1 e2 (live _ d1 c1) (live _ d2 c2) r1 r2
        fρ := fun k' x e => gup _ (h.fρ _ _ e)
        fτ := by
          intro k' x e
          by_cases c : k'.1 = d ∧ k'.2.1 = s.g d
          · rw [c.1, c.2]; simp [upd]
          · rw [fold' _ c] at e; exact gup _ (h.fτ _ _ e) }
    · intro k y hk
      have h1 := ht.k k y hk
      have : f (d, s.g d, k.2.2) = τ1 (0, 0, k.2.2) := fnew _ ⟨rfl, rfl⟩
      rw [this, ← hk]
      congr 1
      exact Prod.ext h1.1.symm (Prod.ext h1.2.1.symm rfl)

theorem app_call (s : St) (d : Nat) (x : AV) (n : Nat) : s.app (some d) { v := x, nt := n } = St.set { s with d := crt d (s.g d) n s.d, g := if 0 < n then upd s.g d (s.g d + 1) else s.g } d x := by
  simp [St.app, St.set, sto]

/-- One operation. -/
theorem step_sound {Q : Exit → Act → World → Prop} {K : Act → World → Prop} (h : Rep N w0 C0 E s a w) (hN : ∀ d, o.dst = some d → d < N) (he : Ev P s o e)
    (hK : ∀ a' w', Rep N w0 C0 E (s.app o.dst e) a' w' → K a' w') : o.wp P a w K Q := by
  obtain ⟨C, ρ, τ, h⟩ := h
  rcases he with he | he
  · obtain ⟨v, w', hr, hrep⟩ := ev_sound h hN he
    unfold Oper.wp
    rcases hr with hr | ⟨hr, rfl⟩
    · rw [hr]; exact hK _ _ hrep
    · rw [hr]; exact hK _ _ hrep
  · unfold CallEv at he
    split at he
    case h_2 => exact he.elim
    rename_i g args ts ho
    obtain ⟨f, caps, hg, hts, hcl, hor⟩ := he
    have hent : Enters P f := by
      rcases hor with ⟨_, _, hcon, _⟩ | ⟨_, _, _, hcon, _⟩
      · exact hcon.enters
      · exact hcon.enters
    have hgv := opnd (P := P) h 0 g
    rw [hg] at hgv
    have hfn : ∃ cs, a.eval g = .func (.func f) #[] cs ∧ cs.size = caps.length ∧ (∀ (i : Nat) (v : Value) (x : AV), cs[i]? = some v → caps[i]? = some x → RV C noρ noτ v x) := by
      generalize a.eval g = v at hgv
      cases hgv
      exact ⟨_, rfl, by assumption, by assumption⟩
    obtain ⟨cs, hfv, hcs1, hcs2⟩ := hfn
    have hrun : (execOp a.eval o).run P w = .ok (.enter f (args.map a.eval ++ cs)) w := by
      simp [execOp, ho, resolve, hfv, Deferred.ofValue, invoke, hent _ _]
    unfold Oper.wp
    rw [hrun]
    simp only [Oper.upon]
    have hlen : (argsAV P s args.toList ts.toList).length = args.size := by
      simp only [argsAV, List.length_zipWith, Array.length_toList]; omega
    have hrv : ∀ (i : Nat) (v : Value) (x : AV), (args.map a.eval ++ cs)[i]? = some v → (argsAV P s args.toList ts.toList ++ caps)[i]? = some x → RV C noρ noτ v x := by
      intro i v x hv hx
      by_cases hi : i < args.size
      · rw [Array.getElem?_append_left (by simpa using hi)] at hv
        rw [List.getElem?_append_left (by omega)] at hx
        simp only [Array.getElem?_map] at hv
        obtain ⟨y, hy, rfl⟩ := Option.map_eq_some_iff.1 hv
        have hmem := List.mem_of_getElem? hx
        have hcx := List.all_eq_true.1 hcl x hmem
        simp only [argsAV, List.getElem?_zipWith] at hx
        split at hx
        · rename_i y' t' hy' ht'
          cases hx
          simp only [Array.getElem?_toList] at hy'
          rw [hy] at hy'
          cases hy'
          exact cleanV_rv (fgtV_rv (opnd h t' y)) hcx
        · cases hx
      · rw [Array.getElem?_append_right (by simp; omega)] at hv
        rw [List.getElem?_append_right (by omega)] at hx
        simp only [Array.size_map, hlen] at hv hx
        exact hcs2 _ _ _ hv hx
    have old : (∀ k Bx, s.b k = some Bx → ∀ b, ρ k = some b → b < w.heap.size) ∧ ∀ k v m, τ k = some (v, m) → s.d k = false → ∀ b, blk v = some b → b < w.heap.size := by
      refine ⟨fun k Bx hB b hρ => ?_, fun k v m hk hd b hb => ?_⟩
      · obtain ⟨b', hρ', ⟨⟨cs, ty, g1, _⟩, _⟩, _⟩ := h.bx k Bx hB
        rw [hρ] at hρ'; cases hρ'
        exact heap_lt g1
      · obtain ⟨A, n', c, rfl, g1⟩ := h.tk k v m hk hd
        obtain ⟨hc, ad, rfl, hb2⟩ := blk_cap hb
        rcases g1 with g1 | ⟨b', cs, ty, hA, g2, _⟩
        · exact absurd g1 hc
        · cases hA; subst hb2; exact heap_lt g2
    rcases hor with ⟨n, r, hcon, rfl⟩ | ⟨m, n, l, hcon, rfl⟩
    · refine (hcon.calls C w (args.map a.eval ++ cs) h.cw (by simp [hlen, hcs1]) hrv).mono ?_
      rintro e' w' ⟨v, C', τ', rfl, hb, hC1, hC2, hcw, hr, ht⟩
      have h1 := h.grow hb hC1 hC2 (fun b o v _ hv => hcw b o v hv)
      apply hK
      cases hd : o.dst with
      | none => exact ⟨_, _, _, h1⟩
      | some d =>
        obtain ⟨τ2, h2, h3, h4⟩ := h1.toks d ht h.fr.size (fun k Bx hB b hρ => by
            obtain ⟨b', hρ', ⟨⟨cs, ty, g1, _⟩, _⟩, _⟩ := h.bx k Bx hB
            rw [hρ] at hρ'; cases hρ'
            exact heap_lt g1) (fun k v m hk hd b hb => by
            obtain ⟨A, n', c, rfl, g1⟩ := h.tk k v m hk hd
            obtain ⟨hc, ad, rfl, hb2⟩ := blk_cap hb
            rcases g1 with g1 | ⟨b', cs, ty, hA, g2, _⟩
            · exact absurd g1 hc
            · cases hA; subst hb2; exact heap_lt g2)
        rw [app_call]
        exact ⟨_, _, _, h2.set d (hN d hd) (ren_rv h3 hr)⟩
    · refine (hcon.calls C w (args.map a.eval ++ cs) h.cw (by simp [hlen, hcs1]) hrv).mono ?_
      rintro e' w' ⟨b, c, C', cs', ty, rfl, hn, hc, hb, hC1, hC2, hcw, hbs, q1, q2, q3, q4, q5⟩
      have h1 := h.grow hb hC1 hC2 (fun b o v _ hv => hcw b o v hv)
      apply hK
      have hsz := h.fr.size
      cases hd : o.dst with
      | none =>
        simp only [St.app, sto]
        exact ⟨_, _, _, h1⟩
      | some d =>
        rw [app_nb]
        have h2 := h1.addbox (d, s.g d, 0) (Nat.le_refl _) (b := b) (cs := cs') (ty := ty) l q1 q2 q3 (fun i v x hv hx => (q4 i v x hv hx).lift _ _) q5 (by omega)
          (fun k' B hB hρ => by have := old.1 k' B hB b hρ; omega) (fun k' v n hk hd hv => by have := old.2 k' v n hk hd b hv; omega)
        exact ⟨_, _, _, h2.set d (hN d hd) (.sl _ b n c m (by simp [upd]) hn hc)⟩

end Go.Sy

/- Calls that turn what their first argument points at. -/
namespace Go.Sy
open Go Go.RowKit

variable {N : Nat} {w0 : World} {C0 : CMap} {E : EX} {s : St} {a : Act} {w : World} {C : CMap} {ρ : RMap} {τ : TMap} {P : Program} {o : Oper} {e : Eff}

/-- A list that is nil has an owner too: there is nothing to own. -/
def canonT : Tok → Tok
  | .no => .no
  | _ => .own (0, 0, 0)
/-- What the token of a box's last cell stands for. -/
def tkVal (τ : TMap) (v : Value) : AV → Option (Value × Nat)
  | .list sz _ .nil => some (v, sz)
  | .list _ _ (.own k) => τ k
  | _ => none
def canonX : AV → AV
  | .list sz xs tk => .list sz xs (canonT tk)
  | a => a
def lastKey : AV → Option Key
  | .list _ _ tk => tokKey tk
  | _ => none
def lastOK (s : St) : AV → Bool
  | .list _ _ (.own k) => !s.d k
  | .list _ _ _ => true
  | a => clean a

/-- A block of a token. -/
def tb (τ : TMap) (i : Nat) : Prop := ∃ v m, τ (0, 0, 0) = some (v, m) ∧ blk v = some i

structure Tok1 (C : CMap) (w : World) (τ : TMap) (G : Nat → Prop) : Prop where
  k : ∀ k x, τ k = some x → k = (0, 0, 0)
  w : ∀ k v m, τ k = some (v, m) → TokW C w v m G

/-- A box's cells: the last one may bear a token. -/
structure BoxC (C : CMap) (τ : TMap) (w : World) (b : Nat) (pre : List AV) (x : AV) : Prop where
  ex : ∃ (cs : Array Value) (ty : TypeId), w.heap[b]? = some (.cells cs ty (0, 0)) ∧ cs.size = pre.length + 1 ∧ (∀ (i : Nat) (v : Value), cs[i]? = some v → v.oneCell' = true) ∧
    (∀ (i : Nat) (v : Value) (y : AV), cs[i]? = some v → pre[i]? = some y → RV C noρ noτ v y) ∧ (∀ v, cs[pre.length]? = some v → RV C noρ τ v x)
  fr : ∀ o, C b o = none

/-- A function that turns the box that its first argument points at, and the list that the box's last cell may be the owner of. -/
structure ECon (P : Program) (f : FuncId) (args : List AV) (pre : List AV) (x : AV) (r : AV) (pre' : List AV) (x' : AV) : Prop where
  enters : Enters P f
  calls : ∀ (C : CMap) (w : World) (b : Nat) (τ : TMap) (vs : Array Value), CW C w → BoxC C τ w b pre x → Tok1 C w τ (fun b' => b' ≠ b) → vs.size = args.length →
    (∀ (i : Nat) (v : Value) (x : AV), vs[i]? = some v → args[i]? = some x → RV C noρ noτ v x) →
    Calls P f (#[.pointer (some ⟨b, 0, none⟩)] ++ vs) w fun e w' => ∃ v C' τ', e = .returned v ∧ Fr w (fun i => i = b ∨ tb τ i) w' ∧ (∀ b o v, C b o = some v → C' b o = some v) ∧
      (∀ b' o v, C' b' o = some v → C b' o = some v ∨ w.heap.size ≤ b' ∨ tb τ b') ∧ CW C' w' ∧ BoxC C' τ' w' b pre' x' ∧ Tok1 C' w' τ' (fun b' => b' ≠ b ∧ (w.heap.size ≤ b' ∨ tb τ b')) ∧ RV C' noρ noτ v r

/-- What such a call leaves. -/
def St.ecall (s : St) (d : Option Nat) (k : Key) (v : AV) (c : List AV) (kl : Option Key) : St :=
  { t := match d with | none => s.t | some d => upd s.t d v
    b := upd s.b k (some ⟨c, false⟩)
    d := upd (killO s.d kl) (k.1, s.g k.1, 0) false
    g := upd s.g k.1 (s.g k.1 + 1) }

theorem canon_rv {v : Value} {x : AV} (h : RV C ρ τ v x) (hx : lastOK s x = true) (τ0 : TMap) (h0 : τ0 (0, 0, 0) = tkVal τ v x) : RV C noρ τ0 v (canonX x) := by
  cases hh : x with
  | list sz xs tk =>
    rw [hh] at h h0
    obtain ⟨A, c, cv, rfl, h1, h2, h3, h4, h5⟩ := rv_list h
    refine .list sz xs _ A _ c cv rfl h1 h2 h3 h4 ?_
    cases tk with
    | no => trivial
    | nil => exact h0
    | own k => exact h0.trans h5
  | _ =>
    rw [hh] at h hx
    exact (clean_rv h (by simpa [lastOK] using hx)).mono (fun _ _ _ h => h) (fun _ _ h => h) (fun _ _ h => by cases h)

theorem tkVal_cases {τ : TMap} {v u : Value} {m : Nat} {x : AV} (h : RV C ρ τ v x) (he : tkVal τ v x = some (u, m)) : (∃ A, u = .slice A 0 0) ∨ ∃ k, lastKey x = some k ∧ τ k = some (u, m) := by
  cases x with
  | list sz xs tk =>
    cases tk with
    | no => cases he
    | nil =>
      simp only [tkVal, Option.some.injEq, Prod.mk.injEq] at he
      obtain ⟨A, c, cv, _, _, _, _, _, h5⟩ := rv_list h
      obtain ⟨A', h5⟩ := h5
      exact .inl ⟨A', he.1 ▸ h5⟩
    | own k => exact .inr ⟨k, rfl, he⟩
  | _ => cases he

/-- A box is laid aside. -/
theorem RepG.turn (h : RepG N w0 C0 E s a w C ρ τ) {k : Key} {B : Box} {b : Nat} (hB : s.b k = some B) (hρ : ρ k = some b) (kl : Option Key) (hkl : ∀ k', kl = some k' → s.d k' = false)
    {w1 : World} {C1 : CMap} (hC : ∀ b o v, C b o = some v → C1 b o = some v) {T : Nat → Prop} (hT : ∀ i, T i → ∃ k' v m, kl = some k' ∧ τ k' = some (v, m) ∧ blk v = some i)
    (hF : Fr w (fun i => i = b ∨ T i) w1) (hn : ∀ b' o v, C1 b' o = some v → C b' o = some v ∨ w.heap.size ≤ b' ∨ T b') (hcw : CW C1 w1) :
    RepG N w0 C0 E { s with d := Sy.killO s.d kl, b := upd s.b k none } a w1 C1 ρ τ := by
  have mono : ∀ {v : Value} {x : AV}, RV C ρ τ v x → RV C1 ρ τ v x := fun hv => hv.mono hC (fun _ _ h => h) (fun _ _ h => h)
  obtain ⟨b0, hρ0, hBW, hE⟩ := h.bx k B hB
  rw [hρ] at hρ0
  cases hρ0
  have tG : ∀ i, T i → (w0.heap.size ≤ i ∨ E i) ∧ (∀ k' B, s.b k' = some B → ρ k' ≠ some i) ∧ i < w.heap.size := by
    intro i hi
    obtain ⟨k', v, m, h1, h2, h3⟩ := hT i hi
    obtain ⟨A, n, c, rfl, g⟩ := h.tk k' v m h2 (hkl k' h1)
    obtain ⟨hc, ad, rfl, hb⟩ := blk_cap h3
    rcases g with g | ⟨b', cs, ty, hA, g1, _, _, _, _, g6⟩
    · exact absurd g hc
    · cases hA; subst hb; exact ⟨g6.1, g6.2, heap_lt g1⟩
  have bsz : b < w.heap.size := by
    obtain ⟨⟨cs, ty, g1, _⟩, _⟩ := hBW
    exact heap_lt g1
  have old : ∀ {i : Nat} {x : Obj}, i ≠ b → ¬ T i → w.heap[i]? = some x → w1.heap[i]? = some x := by
    intro i x h1 h2 hx
    rw [hF.block i (heap_lt hx) (fun hh => hh.elim h1 h2)]
    exact hx
  have ob : ∀ k' B', (upd s.b k none : Key → Option Box) k' = some B' → k' ≠ k ∧ s.b k' = some B' := by
    intro k' B' hh
    rw [upd_at] at hh
    split at hh
    · cases hh
    · exact ⟨by assumption, hh⟩
  have cold : ∀ {i o : Nat}, i < w.heap.size → ¬ T i → C i o = none → C1 i o = none := by
    intro i o h1 h2 h3
    cases hc : C1 i o with
    | none => rfl
    | some v =>
      rcases hn _ _ _ hc with hh | hh | hh
      · rw [h3] at hh; cases hh
      · omega
      · exact absurd hh h2
  refine
    { df := h.df, sz := h.sz, tm := fun t => mono (h.tm t), cw := hcw, c0 := fun _ _ _ hh => hC _ _ _ (h.c0 _ _ _ hh), c1 := ?_, bx := ?_, bj := ?_, tk := ?_, tj := ?_, fρ := h.fρ, fτ := h.fτ, fo := h.fo, fr := ?_ }
  · intro b' o v hb' hv
    rcases hn _ _ _ hv with hh | hh | hh
    · exact h.c1 _ _ _ hb' hh
    · have := h.fr.size; omega
    · rcases (tG _ hh).1 with g | g
      · omega
      · exact .inr g
  · intro k' B' hB'
    obtain ⟨hne, hB'⟩ := ob _ _ hB'
    obtain ⟨b', hρ', ⟨⟨cs, ty, g1, g2, g3, g4, g5⟩, g6⟩, g7⟩ := h.bx k' B' hB'
    have hbb : b' ≠ b := fun hh => hne (h.bj k' k B' B b' hB' hB hρ' (hh ▸ hρ))
    have hTb : ¬ T b' := fun hh => (tG _ hh).2.1 k' B' hB' hρ'
    exact ⟨b', hρ', ⟨⟨cs, ty, old hbb hTb g1, g2, g3, fun i v x hc hx => mono (g4 i v x hc hx), fun hz i v hc => hC _ _ _ (g5 hz i v hc)⟩, fun hz o => cold (heap_lt g1) hTb (g6 hz o)⟩, g7⟩
  · intro k1 k2 B1 B2 b' h1 h2
    exact h.bj k1 k2 B1 B2 b' (ob _ _ h1).2 (ob _ _ h2).2
  · intro k' v m hk' hd
    obtain ⟨hd, hne⟩ := killO_ne hd
    obtain ⟨A, n, c, rfl, g⟩ := h.tk k' v m hk' hd
    refine ⟨A, n, c, rfl, ?_⟩
    rcases g with g | ⟨b', cs, ty, hA, g1, g2, g3, g4, g5, g6, g7⟩
    · exact .inl g
    · by_cases hc0 : c = 0
      · exact .inl hc0
      subst hA
      have hbb : b' ≠ b := fun hh => g7 k B hB (hh ▸ hρ)
      have hTb : ¬ T b' := by
        intro hh
        obtain ⟨k2, v2, m2, e1, e2, e3⟩ := hT _ hh
        have := h.tj k' k2 _ _ _ _ b' hk' e2 hd (hkl _ e1) (by simp [blk, hc0]) e3
        subst this
        exact hne e1
      refine .inr ⟨b', cs, ty, rfl, old hbb hTb g1, g2, g3, g4, fun o ho => cold (heap_lt g1) hTb (g5 o ho), g6, fun k2 B2 hB2 => g7 k2 B2 (ob _ _ hB2).2⟩
  · intro k1 k2 v1 v2 n1 n2 b' e1 e2 d1 d2
    exact h.tj k1 k2 v1 v2 n1 n2 b' e1 e2 (killO_ne d1).1 (killO_ne d2).1
  · refine ⟨hF.os.trans h.fr.os, hF.tape.trans h.fr.tape, hF.output.trans h.fr.output, Nat.le_trans h.fr.size hF.size, fun i hi hEi => ?_⟩
    rw [hF.block i (Nat.lt_of_lt_of_le hi h.fr.size), h.fr.block i hi hEi]
    rintro (rfl | hh)
    · rcases hE with g | g
      · omega
      · exact hEi g
    · rcases (tG _ hh).1 with g | g
      · omega
      · exact hEi g

/-- A box is laid back. -/
theorem RepG.putbox (h : RepG N w0 C0 E s a w C ρ τ) {k : Key} {b : Nat} {l : List AV} (hρ : ρ k = some b) (hE : w0.heap.size ≤ b ∨ E b) {cs : Array Value} {ty : TypeId}
    (hblk : w.heap[b]? = some (.cells cs ty (0, 0))) (hl : cs.size = l.length) (h1 : ∀ (i : Nat) (v : Value), cs[i]? = some v → v.oneCell' = true)
    (hv : ∀ (i : Nat) (v : Value) (x : AV), cs[i]? = some v → l[i]? = some x → RV C ρ τ v x) (hC : ∀ o, C b o = none)
    (hnb : ∀ k' B, k' ≠ k → s.b k' = some B → ρ k' ≠ some b) (hnt : ∀ k v n, τ k = some (v, n) → s.d k = false → blk v ≠ some b) :
    RepG N w0 C0 E { s with b := upd s.b k (some ⟨l, false⟩) } a w C ρ τ :=
  { h with
    bx := by
      intro k' B hB
      simp only [upd_at] at hB
      split at hB
      · rename_i hk; subst hk; cases hB
        exact ⟨b, hρ, ⟨⟨cs, ty, hblk, hl, h1, hv, fun hz => by cases hz⟩, fun _ => hC⟩, hE⟩
      · exact h.bx k' B hB
    bj := by
      intro k1 k2 B1 B2 b' h1 h2 e1 e2
      simp only [upd_at] at h1 h2
      split at h1 <;> split at h2
      · rename_i a1 a2; rw [a1, a2]
      · rename_i a1 a2; subst a1; rw [hρ] at e1; cases e1; exact absurd e2 (hnb _ _ a2 h2)
      · rename_i a1 a2; subst a2; rw [hρ] at e2; cases e2; exact absurd e1 (hnb _ _ a1 h1)
      · exact h.bj _ _ _ _ _ h1 h2 e1 e2
    tk := by
      intro k' v n hk hd
      obtain ⟨A, n', c, rfl, g⟩ := h.tk k' v n hk hd
      refine ⟨A, n', c, rfl, ?_⟩
      rcases g with g | ⟨b', cs', ty', hA, g1, g2, g3, g4, g5, g6, g7⟩
      · exact .inl g
      · by_cases hc0 : c = 0
        · exact .inl hc0
        refine .inr ⟨b', cs', ty', hA, g1, g2, g3, g4, g5, g6, fun k2 B2 hB2 => ?_⟩
        simp only [upd_at] at hB2
        split at hB2
        · rename_i hk2; subst hk2; rw [hρ]
          intro hh; cases hh
          exact hnt _ _ _ hk hd (by subst hA; simp [blk, hc0])
        · exact g7 k2 B2 hB2 }

theorem RepG.bump (h : RepG N w0 C0 E s a w C ρ τ) (k : Key) (hk : s.g k.1 ≤ k.2.1) : RepG N w0 C0 E { s with d := upd s.d k false, g := upd s.g k.1 (k.2.1 + 1) } a w C ρ τ := by
  have hτk : τ k = none := by
    cases hh : τ k with
    | none => rfl
    | some y => have := h.fτ _ _ hh; omega
  have up : ∀ k' : Key, k'.2.1 < s.g k'.1 → k'.2.1 < upd s.g k.1 (k.2.1 + 1) k'.1 := by
    intro k' hlt
    rw [upd_at]
    split
    · rename_i e; rw [e] at hlt; omega
    · exact hlt
  have low : ∀ k' x, τ k' = some x → upd s.d k false k' = false → s.d k' = false := by
    intro k' x hx e
    rw [upd_at] at e
    split at e
    · rename_i ek; subst ek; rw [hτk] at hx; cases hx
    · exact e
  exact { h with
    tk := fun k' v n hk' hd => h.tk k' v n hk' (low _ _ hk' hd)
    tj := fun k1 k2 v1 v2 n1 n2 b e1 e2 d1 d2 => h.tj k1 k2 v1 v2 n1 n2 b e1 e2 (low _ _ e1 d1) (low _ _ e2 d2)
    fρ := fun k' b e => up _ (h.fρ _ _ e)
    fτ := fun k' b e => up _ (h.fτ _ _ e) }

def isPtrT (P : Program) (t : TypeId) : Bool := match P.underlying t with | some (.pointer _) => true | _ => false

/-- The call as an operation. -/
def EEvK (P : Program) (s : St) (o : Oper) (k : Key) (v : AV) (c : List AV) (kl : Option Key) : Prop := match o.op with
  | .call { callee := .value g, args, argTypes } => ∃ f x0 xs t0 ts pre x pre' x', s.o P 0 g = .clo f [] ∧ args.toList = x0 :: xs ∧ argTypes.toList = t0 :: ts ∧ xs.length ≤ ts.length ∧ isPtrT P t0 = true ∧
      s.o P t0 x0 = .box k 0 ∧ s.b k = some ⟨pre ++ [x], false⟩ ∧ pre.all clean = true ∧ lastOK s x = true ∧ (argsAV P s xs ts).all cleanV = true ∧ ECon P f (argsAV P s xs ts) pre (canonX x) v pre' x' ∧
      c = pre' ++ [ren0 k.1 (s.g k.1) x'] ∧ kl = lastKey x
  | _ => False

theorem ecall_set (s : St) (d : Nat) (k : Key) (v : AV) (c : List AV) (kl : Option Key) : s.ecall (some d) k v c kl = (s.ecall none k v c kl).set d v := rfl

theorem estep_sound {k : Key} {r : AV} {c : List AV} {kl : Option Key} {Q : Exit → Act → World → Prop} {K : Act → World → Prop} (h : Rep N w0 C0 E s a w) (hN : ∀ d, o.dst = some d → d < N) (he : EEvK P s o k r c kl)
    (hK : ∀ a' w', Rep N w0 C0 E (s.ecall o.dst k r c kl) a' w' → K a' w') : o.wp P a w K Q := by
  obtain ⟨C, ρ, τ, h⟩ := h
  unfold EEvK at he
  split at he
  case h_2 => exact he.elim
  rename_i g args tys ho
  obtain ⟨f, x0, xs, t0, ts, pre, x, pre', x', hg, hargs, htys, hlen, _, hbx, hB, hpre, hx, hcl, hcon, rfl, rfl⟩ := he
  have hgv := opnd (P := P) h 0 g
  rw [hg] at hgv
  have hfn : a.eval g = .func (.func f) #[] #[] := by
    generalize a.eval g = v at hgv
    cases hgv with
    | clo _ cs _ hl _ =>
      have : cs = #[] := by simpa using hl
      rw [this]
  have hrun : (execOp a.eval o).run P w = .ok (.enter f (args.map a.eval)) w := by
    simp [execOp, ho, resolve, hfn, Deferred.ofValue, invoke, hcon.enters _ _]
  unfold Oper.wp
  rw [hrun]
  simp only [Oper.upon]
  have hbv := opnd (P := P) h t0 x0
  rw [hbx] at hbv
  obtain ⟨b, hv0, hρ⟩ := rv_box hbv
  have hmap : args.map a.eval = #[.pointer (some ⟨b, 0, none⟩)] ++ (xs.map a.eval).toArray := by
    apply Array.ext'
    simp [hargs, hv0]
  obtain ⟨b', hρ', ⟨⟨cs, ty, g1, g2, g3, g4, _⟩, g6⟩, g7⟩ := h.bx k _ hB
  rw [hρ] at hρ'
  cases hρ'
  have hlt : pre.length < cs.size := by rw [g2]; simp
  have hvx : RV C ρ τ cs[pre.length] x := g4 pre.length _ x (by simp [hlt]) (by simp)
  let τ0 : TMap := fun k' => if k' = (0, 0, 0) then tkVal τ cs[pre.length] x else none
  have hτ0 : τ0 (0, 0, 0) = tkVal τ cs[pre.length] x := if_pos rfl
  have hlive : ∀ k', lastKey x = some k' → s.d k' = false := by
    intro k' hk'
    cases x with
    | list sz ys tk =>
      cases tk with
      | own k2 => simp [lastKey, tokKey] at hk'; subst hk'; simpa [lastOK] using hx
      | _ => simp [lastKey, tokKey] at hk'
    | _ => simp [lastKey] at hk'
  have htb : ∀ i, tb τ0 i → ∃ k' v m, lastKey x = some k' ∧ τ k' = some (v, m) ∧ blk v = some i := by
    rintro i ⟨v, m, h1, h2⟩
    rw [hτ0] at h1
    rcases tkVal_cases hvx h1 with ⟨A, rfl⟩ | ⟨k', h3, h4⟩
    · cases A <;> simp [blk] at h2
    · exact ⟨k', v, m, h3, h4, h2⟩
  rw [hmap]
  refine (hcon.calls C w b τ0 _ h.cw ⟨⟨cs, ty, g1, by simpa using g2, g3, ?_, ?_⟩, g6 rfl⟩ ⟨?_, ?_⟩ ?_ ?_).mono ?_
  · intro i v y hv hy
    have hi := (List.getElem?_eq_some_iff.1 hy).1
    exact clean_rv (g4 i v y hv (by rw [List.getElem?_append_left hi]; exact hy)) (List.all_eq_true.1 hpre y (List.mem_of_getElem? hy))
  · intro v hv
    have hv' : v = cs[pre.length] := by simp [hlt] at hv; exact hv.symm
    subst hv'
    exact canon_rv hvx hx τ0 hτ0
  · intro k' y hk'
    by_cases hh : k' = (0, 0, 0)
    · exact hh
    · simp only [τ0, if_neg hh] at hk'; cases hk'
  · intro k' v m hk'
    by_cases hh : k' = (0, 0, 0)
    · subst hh
      rw [hτ0] at hk'
      rcases tkVal_cases hvx hk' with ⟨A, rfl⟩ | ⟨k2, h3, h4⟩
      · exact ⟨A, 0, 0, rfl, .inl rfl⟩
      obtain ⟨A, n, c, rfl, g⟩ := h.tk k2 v m h4 (hlive _ h3)
      refine ⟨A, n, c, rfl, ?_⟩
      rcases g with g | ⟨b', cs, ty, hA, g1, g2, g3, g4, g5, g6, g7⟩
      · exact .inl g
      · exact .inr ⟨b', cs, ty, hA, g1, g2, g3, g4, g5, fun hh => g7 k _ hB (hh ▸ hρ)⟩
    · simp only [τ0, if_neg hh] at hk'; cases hk'
  · simp only [argsAV, List.length_zipWith, List.size_toArray, List.length_map]; omega
  · intro i v y hv hy
    have hmem := List.mem_of_getElem? hy
    have hcx := List.all_eq_true.1 hcl y hmem
    simp only [argsAV, List.getElem?_zipWith] at hy
    split at hy
    · rename_i y' t' hy' ht'
      cases hy
      simp only [List.getElem?_toArray, List.getElem?_map, hy', Option.map_some, Option.some.injEq] at hv
      subst hv
      exact cleanV_rv (fgtV_rv (opnd h t' y')) hcx
    · cases hy
  · rintro e' w' ⟨v, C', τ', rfl, hF, hC1, hC2, hcw, ⟨⟨cs', ty', q1, q2, q3, q4, q5⟩, q6⟩, ht, hr⟩
    have h1 := h.turn hB hρ (lastKey x) hlive hC1 htb hF hC2 hcw
    have bsz : b < w.heap.size := heap_lt g1
    have tB : ∀ i, tb τ0 i → (w0.heap.size ≤ i ∨ E i) ∧ (∀ k' B, s.b k' = some B → ρ k' ≠ some i) ∧ (∀ k' v' m' , τ k' = some (v', m') → killO s.d (lastKey x) k' = false → blk v' ≠ some i) := by
      intro i hi
      obtain ⟨k', v, m, e1, e2, e3⟩ := htb i hi
      obtain ⟨A, n, c, rfl, gg⟩ := h.tk k' v m e2 (hlive _ e1)
      obtain ⟨hc, ad, rfl, hb⟩ := blk_cap e3
      rcases gg with gg | ⟨b', cs, ty, hA, _, _, _, _, _, gg6⟩
      · exact absurd gg hc
      · cases hA
        subst hb
        refine ⟨gg6.1, gg6.2, ?_⟩
        intro k2 v2 m2 f1 f2 f3
        obtain ⟨f2, f4⟩ := killO_ne f2
        have := h.tj k' k2 _ _ _ _ _ e2 f1 (hlive _ e1) f2 e3 f3
        subst this
        exact f4 e1
    have boxlt : ∀ k' B i, s.b k' = some B → ρ k' = some i → i < w.heap.size := by
      intro k' B i e1 e2
      obtain ⟨b', hρ', ⟨⟨cs, ty, gg1, _⟩, _⟩, _⟩ := h.bx k' B e1
      rw [e2] at hρ'; cases hρ'
      exact heap_lt gg1
    have toklt : ∀ k' v' m' i, τ k' = some (v', m') → s.d k' = false → blk v' = some i → i < w.heap.size := by
      intro k' v' m' i e1 e2 e3
      obtain ⟨A, n', c, rfl, gg⟩ := h.tk k' v' m' e1 e2
      obtain ⟨hc, ad, rfl, hb2⟩ := blk_cap e3
      rcases gg with gg | ⟨b', cs, ty, hA, gg2, _⟩
      · exact absurd gg hc
      · cases hA; subst hb2; exact heap_lt gg2
    have obx : ∀ k' B', (upd s.b k none : Key → Option Box) k' = some B' → k' ≠ k ∧ s.b k' = some B' := by
      intro k' B' hh
      rw [upd_at] at hh
      split at hh
      · cases hh
      · exact ⟨by assumption, hh⟩
    -- the token
    have h2 : ∃ τ2, RepG N w0 C0 E { s with d := upd (killO s.d (lastKey x)) (k.1, s.g k.1, 0) false, b := upd s.b k none, g := upd s.g k.1 (s.g k.1 + 1) } a w' C' ρ τ2 ∧
        (∀ k' y, τ' k' = some y → τ2 (k.1, s.g k.1, k'.2.2) = some y) ∧ (∀ k' y, τ2 k' = some y → τ k' = some y ∨ τ' (0, 0, 0) = some y) ∧ (∀ k' y, τ2 k' = some y → killO s.d (lastKey x) k' = true → k' = (k.1, s.g k.1, 0) ∨ killO s.d (lastKey x) k' = true) := by
      cases hτ : τ' (0, 0, 0) with
      | none =>
        refine ⟨τ, h1.bump (k.1, s.g k.1, 0) (Nat.le_refl _), ?_, fun _ _ h => .inl h, fun _ _ _ h => .inr h⟩
        intro k' y hk'
        have := ht.k _ _ hk'
        subst this
        rw [hτ] at hk'; cases hk'
      | some y =>
        obtain ⟨u, m⟩ := y
        obtain ⟨A, n, c, rfl, gg⟩ := ht.w _ _ _ hτ
        refine ⟨upd τ (k.1, s.g k.1, 0) (some (.slice A n c, m)), h1.addtok (k.1, s.g k.1, 0) (Nat.le_refl _) ⟨A, n, c, rfl, ?_⟩ ?_, ?_, ?_, fun _ _ _ h => .inr h⟩
        · rcases gg with gg | ⟨b', cs, ty, hA, gg1, gg2, gg3, gg4, gg5, gg6, gg7⟩
          · exact .inl gg
          · refine .inr ⟨b', cs, ty, hA, gg1, gg2, gg3, gg4, gg5, ?_⟩
            rcases gg7 with gg7 | gg7
            · have := h.fr.size
              refine ⟨.inl (by omega), fun k2 B2 e1 e2 => ?_⟩
              have := boxlt _ _ _ (obx _ _ e1).2 e2
              omega
            · exact ⟨(tB _ gg7).1, fun k2 B2 e1 => (tB _ gg7).2.1 _ _ (obx _ _ e1).2⟩
        · intro k2 v2 m2 i e1 e2 e3
          obtain ⟨hc, ad, rfl, hb2⟩ := blk_cap e3
          rcases gg with gg | ⟨b', cs, ty, hA, _, _, _, _, _, gg6, gg7⟩
          · exact absurd gg hc
          · cases hA
            subst hb2
            rcases gg7 with gg7 | gg7
            · intro e4
              have := toklt _ _ _ _ e1 (killO_ne e2).1 e4
              simp at this
              omega
            · exact (tB _ gg7).2.2 _ _ _ e1 e2
        · intro k' y hk'
          have := ht.k _ _ hk'
          subst this
          rw [hτ] at hk'; cases hk'
          simp [upd]
        · intro k' y hk'
          rw [upd_at] at hk'
          split at hk'
          · exact .inr hk'
          · exact .inl hk'
    obtain ⟨τ2, h2, h3, h4, _⟩ := h2
    have hrx : ∀ u, cs'[pre'.length]? = some u → RV C' ρ τ2 u (ren0 k.1 (s.g k.1) x') := fun u hu => ren0_rv h3 (q5 u hu)
    have h5 := h2.putbox (k := k) (b := b) (l := pre' ++ [ren0 k.1 (s.g k.1) x']) hρ g7 q1 (by simpa using q2) q3 (by
        intro i u y hu hy
        rcases Nat.lt_or_ge i pre'.length with hi | hi
        · rw [List.getElem?_append_left hi] at hy
          exact (q4 i u y hu hy).lift _ _
        · rw [List.getElem?_append_right hi] at hy
          have : i = pre'.length := by
            have := (List.getElem?_eq_some_iff.1 hy).1
            simp at this; omega
          subst this
          simp at hy
          subst hy
          exact hrx u hu) q6 (by
        intro k' B hne e1 e2
        exact hne (h.bj k' k B _ b (obx _ _ e1).2 hB e2 hρ)) (by
        intro k' u m e1 e2 e3
        by_cases hkk : k' = (k.1, s.g k.1, 0)
        · subst hkk
          rcases h4 _ _ e1 with e4 | e4
          · have := h.fτ _ _ e4
            simp at this
          · obtain ⟨A, n, c, rfl, gg⟩ := ht.w _ _ _ e4
            obtain ⟨hc, ad, rfl, hb2⟩ := blk_cap e3
            rcases gg with gg | ⟨b', cs, ty, hA, _, _, _, _, _, gg6, gg7⟩
            · exact hc gg
            · cases hA
              exact gg6 hb2
        · have h6 := h2.tk k' u m e1 e2
          obtain ⟨A, n, c, rfl, gg⟩ := h6
          obtain ⟨hc, ad, rfl, hb2⟩ := blk_cap e3
          have e2' : killO s.d (lastKey x) k' = false := by simpa [upd, hkk] using e2
          rcases h4 _ _ e1 with e4 | e4
          · obtain ⟨A2, n2, c2, e5, gg⟩ := h.tk _ _ _ e4 (killO_ne e2').1
            cases e5
            rcases gg with gg | ⟨b', cs, ty, hA, _, _, _, _, _, gg6, gg7⟩
            · exact hc gg
            · cases hA
              exact gg7 k _ hB (by rw [hρ, ← hb2])
          · obtain ⟨A2, n2, c2, e5, gg⟩ := ht.w _ _ _ e4
            cases e5
            rcases gg with gg | ⟨b', cs, ty, hA, _, _, _, _, _, gg6, gg7⟩
            · exact hc gg
            · cases hA
              exact gg6 hb2)
    have h7 : upd (upd s.b k none) k (some ⟨pre' ++ [ren0 k.1 (s.g k.1) x'], false⟩) = upd s.b k (some ⟨pre' ++ [ren0 k.1 (s.g k.1) x'], false⟩) := by
      funext k'
      simp only [upd_at]
      split <;> rfl
    have h8 : RepG N w0 C0 E (s.ecall none k r (pre' ++ [ren0 k.1 (s.g k.1) x']) (lastKey x)) a w' C' ρ τ2 := by
      simp only [h7] at h5
      exact h5
    apply hK
    cases hd : o.dst with
    | none => exact ⟨_, _, _, h8⟩
    | some d =>
      rw [ecall_set]
      exact ⟨_, _, _, h8.set d (hN d hd) (hr.lift _ _)⟩

end Go.Sy

/- Regions, code, functions. -/
namespace Go.Sy
open Go Go.RowKit

variable {N : Nat} {w0 : World} {C0 : CMap} {E : EX} {s : St} {a : Act} {w : World} {C : CMap} {ρ : RMap} {τ : TMap} {P : Program} {o : Oper} {e : Eff}

/-- Is the operation wanted? -/
def wantA (ops : Array Oper) (s : St) (o : Oper) : Option Bool :=
  match o.guard with
  | none => some true
  | some (j, want) => match (ops[j]?).bind (·.dst) with
    | some d => match s.t d with
      | .v (.bool b) => some (b == want)
      | .tup [] => some false
      | _ => none
    | none => none

def St.skip (s : St) : Option Nat → St
  | none => s
  | some d => s.set d (.tup [])

/-- One operation, told what follows. -/
def stepF (P : Program) (s : St) (o : Oper) (K : Eff → Prop) : Prop := match o.op with
  | .call { callee := .value g, args, argTypes } => match s.o P 0 g with
    | .clo f caps => args.size ≤ argTypes.size ∧ (argsAV P s args.toList argTypes.toList).all cleanV = true ∧
        ((∃ n r, Con P f (argsAV P s args.toList argTypes.toList ++ caps) n r ∧ K { v := ren (o.dst.getD 0) (s.g (o.dst.getD 0)) r, nt := n }) ∨
          ∃ m n l, BCon P f (argsAV P s args.toList argTypes.toList ++ caps) n l ∧ K { v := .sl (o.dst.getD 0, s.g (o.dst.getD 0), 0) n m, nb := some l })
    | _ => False
  | _ => match ev P s o with
    | some e => K e
    | none => False

theorem stepF_elim {P : Program} {s : St} {o : Oper} {K : Eff → Prop} (h : stepF P s o K) : ∃ e, Ev P s o e ∧ K e := by
  unfold stepF at h
  split at h
  · rename_i g args ts ho
    split at h
    · rename_i f caps hg
      obtain ⟨h1, h2, ⟨n, r, h3, h4⟩ | ⟨m, n, l, h3, h4⟩⟩ := h
      · refine ⟨_, .inr ?_, h4⟩
        unfold CallEv
        rw [ho]
        exact ⟨f, caps, hg, h1, h2, .inl ⟨n, r, h3, rfl⟩⟩
      · refine ⟨_, .inr ?_, h4⟩
        unfold CallEv
        rw [ho]
        exact ⟨f, caps, hg, h1, h2, .inr ⟨m, n, l, h3, rfl⟩⟩
    · exact h.elim
  · split at h
    · rename_i e he
      exact ⟨e, .inl he, h⟩
    · exact h.elim

/-- The box that a call turns. -/
def box0 : AV → Option Key
  | .box k 0 => some k
  | _ => none
def boxArg (P : Program) (s : St) (o : Oper) : Option Key := match o.op with
  | .call { callee := .value _, args, argTypes } => (match args.toList, argTypes.toList with
    | x0 :: _, t0 :: _ => if isPtrT P t0 = true then box0 (s.o P t0 x0) else none
    | _, _ => none)
  | _ => none
def estepF (P : Program) (s : St) (o : Oper) (k : Key) (K : St → Prop) : Prop := ∃ v c kl, EEvK P s o k v c kl ∧ K (s.ecall o.dst k v c kl)
def stepG (P : Program) (s : St) (o : Oper) (K : St → Prop) : Prop := match boxArg P s o with
  | none => stepF P s o fun e => K (s.app o.dst e)
  | some k => estepF P s o k K

inductive Stp where
  | ef (e : Eff)
  | ec (k : Key) (v : AV) (c : List AV) (kl : Option Key) (g : Nat)
def EvG (P : Program) (s : St) (o : Oper) : Stp → Prop
  | .ef e => Ev P s o e
  | .ec k v c kl g => EEvK P s o k v c kl ∧ g = s.g k.1
def St.stp (s : St) (d : Option Nat) : Stp → St
  | .ef e => s.app d e
  | .ec k v c kl _ => s.ecall d k v c kl

theorem stepG_elim {P : Program} {s : St} {o : Oper} {K : St → Prop} (h : stepG P s o K) : ∃ p, EvG P s o p ∧ K (s.stp o.dst p) := by
  unfold stepG at h
  split at h
  · obtain ⟨e, h1, h2⟩ := stepF_elim h
    exact ⟨.ef e, h1, h2⟩
  · obtain ⟨v, c, kl, h1, h2⟩ := h
    exact ⟨.ec _ v c kl _, ⟨h1, rfl⟩, h2⟩

theorem stp_sound {p : Stp} {Q : Exit → Act → World → Prop} {K : Act → World → Prop} (h : Rep N w0 C0 E s a w) (hN : ∀ d, o.dst = some d → d < N) (he : EvG P s o p)
    (hK : ∀ a' w', Rep N w0 C0 E (s.stp o.dst p) a' w' → K a' w') : o.wp P a w K Q := by
  cases p with
  | ef e => exact step_sound h hN he hK
  | ec k v c kl g => exact estep_sound h hN he.1 hK

def aops (P : Program) (ops : Array Oper) : List Oper → St → (St → Prop) → Prop
  | [], s, K => K s
  | o :: r, s, K => match wantA ops s o with
    | none => False
    | some c => (c = true → stepG P s o fun s' => aops P ops r s' K) ∧ (c = false → aops P ops r (s.skip o.dst) K)

theorem wantA_sound {ops : Array Oper} {c : Bool} (h : RepG N w0 C0 E s a w C ρ τ) (hc : wantA ops s o = some c) : Region.wanted o (yielded ops a.tmps) = c := by
  unfold wantA at hc
  unfold Region.wanted
  split at hc
  · rename_i hg
    rw [hg]
    simpa using hc
  · rename_i j want hg
    rw [hg]
    split at hc
    · rename_i d hd
      split at hc
      · rename_i b hb
        cases hc
        have := h.tm d
        rw [hb] at this
        have := (rv_v this).1
        have hx : a.tmps[d]? = some (.bool b) := by
          rw [Array.getD_eq_getD_getElem?] at this
          cases hq : a.tmps[d]? with
          | none => rw [hq] at this; simp [undef] at this
          | some v => rw [hq] at this; simp at this; rw [this]
        simp [yielded, hd, hx]
      · rename_i hb
        cases hc
        have := h.tm d
        rw [hb] at this
        obtain ⟨cs, hcs, h1, _⟩ := rv_tup this
        rw [Array.getD_eq_getD_getElem?] at hcs
        have : ∀ b, a.tmps[d]? ≠ some (.bool b) := by
          intro b hb2
          rw [hb2] at hcs
          exact Value.noConfusion hcs
        have hy : yielded ops a.tmps j = none := by
          have hbd : ((ops[j]?).bind (·.dst)).bind (a.tmps[·]?) = a.tmps[d]? := by rw [hd]; rfl
          unfold yielded
          rw [hbd]
          cases hq : a.tmps[d]? with
          | none => rfl
          | some q =>
            cases q with
            | bool b => exact absurd hq (this b)
            | _ => rfl
        simp only [hy]
        rfl
      · cases hc
    · cases hc

theorem skip_sound (h : Rep N w0 C0 E s a w) (hN : ∀ d, o.dst = some d → d < N) : Rep N w0 C0 E (s.skip o.dst) (a.put o.dst undef) w := by
  obtain ⟨C, ρ, τ, h⟩ := h
  cases hd : o.dst with
  | none => exact ⟨C, ρ, τ, h⟩
  | some d => exact ⟨C, ρ, τ, h.set d (hN d hd) (.tup #[] [] rfl (fun i v a h => by simp at h))⟩

theorem aops_sound {ops : Array Oper} {Q : Exit → Act → World → Prop} {K : St → Prop} (hQ : ∀ s' a' w', K s' → Rep N w0 C0 E s' a' w' → Q .normal a' w') :
    ∀ (l : List Oper) (s : St) (a : Act) (w : World), (∀ o ∈ l, ∀ d, o.dst = some d → d < N) → aops P ops l s K → Rep N w0 C0 E s a w → wpList P ops Q l a w
  | [], s, a, w, _, h, hr => hQ s a w h hr
  | o :: r, s, a, w, hN, h, hr => by
    unfold aops at h
    split at h
    · exact h.elim
    · rename_i c hc
      obtain ⟨C, ρ, τ, hr'⟩ := id hr
      have hw := wantA_sound hr' hc
      have hNo := hN o (List.mem_cons_self ..)
      unfold wpList
      cases c with
      | true =>
        rw [if_pos hw]
        obtain ⟨e, he, h2⟩ := stepG_elim (h.1 rfl)
        exact .inl (stp_sound hr hNo he fun a' w' hr' => aops_sound hQ r _ a' w' (fun o ho => hN o (List.mem_cons_of_mem _ ho)) h2 hr')
      | false =>
        rw [if_neg (by simp [hw])]
        exact aops_sound hQ r _ _ w (fun o ho => hN o (List.mem_cons_of_mem _ ho)) (h.2 rfl) (skip_sound hr hNo)

/-! ### Code -/
def dstOK (N : Nat) : Code → Bool
  | .region _ ops _ => ops.all fun o => match o.dst with | some d => decide (d < N) | none => true
  | .seq x y => dstOK N x && dstOK N y
  | .cond _ x y => dstOK N x && dstOK N y
  | .block _ c | .loop c | .scope c => dstOK N c
  | .skip | .exit _ | .ret => true
  | _ => false

/-- What must be told apart in a region that draws its order, for each call that turns a box: the pointers that are no pointers to it, the slots that did not make it. -/
abbrev Ap := Nat × List Nat × List Nat
def ap0 (k : Key) : AV → Bool
  | .box k' _ => decide (k' ≠ k)
  | _ => true
def ap2 (s : St) (ys ds : List Nat) : AV → Bool
  | .box k _ => (ys.all fun y => ap0 k (s.t y)) && ds.all (fun d => decide (k.1 ≠ d))
  | _ => false
def ap1 (s : St) : Ap → Bool
  | (x, ys, ds) => ap2 s ys ds (s.t x)
/-- The hints on regions: the slots whose boxes will not be written any more, and what to tell apart. -/
abbrev Hints := List (Nat × List Nat × List Ap)
def hFz : Hints → Nat → List Nat
  | [], _ => []
  | (i, f, _) :: r, id => if id = i then f else hFz r id
def hAp : Hints → Nat → List Ap
  | [], _ => []
  | (i, _, a) :: r, id => if id = i then a else hAp r id
def St.frz (s : St) (u : Nat) : St := match s.t u with
  | .box k _ => match s.b k with
    | some B => if B.c.all clean = true then { s with b := upd s.b k (some ⟨B.c, true⟩) } else s
    | none => s
  | .sl k n sz => match s.b k with
    | some B => if B.c.all clean = true ∧ n = B.c.length ∧ sz = 1 then { s with t := upd s.t u (.list 1 (B.c.map fun y => [y]) .no), b := upd s.b k (some ⟨B.c, true⟩) } else s
    | none => s
  | _ => s

/-- The code's reckoning. -/
def acode (P : Program) (X : Hints) : Code → (Exit → St → Prop) → St → Prop
  | .skip, Q, s => Q .normal s
  | .region id ops _, Q, s => aops P ops ops.toList ((hFz X id).foldl St.frz s) (fun s' => (hAp X id).all (ap1 s') = true ∧ Q .normal s')
  | .seq x y, Q, s => acode P X x (fun e s' => match e with | .normal => acode P X y Q s' | e => Q e s') s
  | .cond c x y, Q, s => match s.o P 0 c with
    | .v (.bool b) => (b = true → acode P X x Q s) ∧ (b = false → acode P X y Q s)
    | _ => False
  | .block id c, Q, s => acode P X c (fun e s' => match e with | .exit id' => if id' = id then Q .normal s' else Q (.exit id') s' | e => Q e s') s
  | .loop c, Q, s => ∃ I : Nat → St → Prop, (∃ n, I n s) ∧ ∀ n s, I n s → acode P X c (fun e s' => match e with | .normal => ∃ m, m < n ∧ I m s' | e => Q e s') s
  | .scope c, Q, s => acode P X c (fun e s' => match e with | .goto _ => False | e => Q e s') s
  | .exit id, Q, s => Q (.exit id) s
  | .ret, Q, s => Q .ret s
  | _, _, _ => False

/-- What a test of regions must be worth. -/
def DOK (P : Program) (D : List Ap → Array Oper → Bool) : Prop := ∀ (N : Nat) (w0 : World) (C0 : CMap) (E : EX) (l : List Ap) (ops : Array Oper) (id : Nat) (s : St) (a : Act) (w : World) (K : St → Prop) (Q : Exit → Act → World → Prop),
  D l ops = true → (∀ o ∈ ops.toList, ∀ d, o.dst = some d → d < N) → aops P ops ops.toList s (fun s' => l.all (ap1 s') = true ∧ K s') → Rep N w0 C0 E s a w → (∀ s' a' w', K s' → Rep N w0 C0 E s' a' w' → Q .normal a' w') → (Code.region id ops true).wp P Q a w
/-- All the code's regions that draw their order pass the test. -/
def draws (D : List Ap → Array Oper → Bool) (X : Hints) : Code → Bool
  | .region id ops draw => !draw || D (hAp X id) ops
  | .seq x y => draws D X x && draws D X y
  | .cond _ x y => draws D X x && draws D X y
  | .block _ c | .loop c | .scope c => draws D X c
  | _ => true

theorem RepG.frz1 (h : RepG N w0 C0 E s a w C ρ τ) {k : Key} {B : Box} (hB : s.b k = some B) (hc : B.c.all clean = true) : ∃ C', RepG N w0 C0 E { s with b := upd s.b k (some ⟨B.c, true⟩) } a w C' ρ τ := by
  obtain ⟨b, hρ, ⟨⟨cs, ty, g1, g2, g3, g4, g5⟩, g6⟩, g7⟩ := h.bx k B hB
  by_cases hz : B.fz = true
  · refine ⟨C, ?_⟩
    have : (⟨B.c, true⟩ : Box) = B := by cases B; simp at hz; rw [hz]
    rw [this]
    have e : upd s.b k (some B) = s.b := by
      funext k'
      rw [upd_at]
      split
      · rename_i hk; rw [hk, hB]
      · rfl
    rw [e]
    exact h
  have hz' : B.fz = false := by simpa using hz
  let C' : CMap := fun b' o => if b' = b then cs[o]? else C b' o
  have Cnew : ∀ o, C' b o = cs[o]? := fun o => if_pos rfl
  have Cold : ∀ b' o, b' ≠ b → C' b' o = C b' o := fun b' o hne => if_neg hne
  have up : ∀ b' o v, C b' o = some v → C' b' o = some v := by
    intro b' o v hv
    by_cases hb : b' = b
    · subst hb; rw [g6 hz' o] at hv; cases hv
    · rw [Cold _ _ hb]; exact hv
  have mono : ∀ {v : Value} {x : AV}, RV C ρ τ v x → RV C' ρ τ v x := fun hv => hv.mono up (fun _ _ h => h) (fun _ _ h => h)
  refine ⟨C', { df := h.df, sz := h.sz, tm := fun t => mono (h.tm t), cw := ?_, c0 := fun b o v hv => up _ _ _ (h.c0 b o v hv), c1 := ?_, bx := ?_, bj := ?_, tk := ?_, tj := h.tj, fρ := h.fρ, fτ := h.fτ, fo := h.fo, fr := h.fr }⟩
  · intro b' o v hv
    by_cases hb : b' = b
    · subst hb
      rw [Cnew] at hv
      exact ⟨by simp only [World.cell?, g1]; exact hv, g3 o v hv⟩
    · rw [Cold _ _ hb] at hv; exact h.cw _ _ _ hv
  · intro b' o v hlt hv
    by_cases hb : b' = b
    · subst hb
      rcases g7 with g7 | g7
      · omega
      · exact .inr g7
    · rw [Cold _ _ hb] at hv; exact h.c1 _ _ _ hlt hv
  · intro k' B' hB'
    simp only [upd_at] at hB'
    split at hB'
    · rename_i hk
      subst hk
      cases hB'
      exact ⟨b, hρ, ⟨⟨cs, ty, g1, g2, g3, fun i v x hv hx => mono (g4 i v x hv hx), fun _ i v hv => by rw [Cnew]; exact hv⟩, fun hh => by cases hh⟩, g7⟩
    · rename_i hk
      obtain ⟨b', hρ', ⟨⟨cs', ty', q1, q2, q3, q4, q5⟩, q6⟩, q7⟩ := h.bx k' B' hB'
      have hbb : b' ≠ b := fun hh => hk (h.bj k' k B' B b' hB' hB hρ' (hh ▸ hρ))
      exact ⟨b', hρ', ⟨⟨cs', ty', q1, q2, q3, fun i v x hv hx => mono (q4 i v x hv hx), fun hz i v hv => up _ _ _ (q5 hz i v hv)⟩, fun hz o => by rw [Cold _ _ hbb]; exact q6 hz o⟩, q7⟩
  · intro k1 k2 B1 B2 b' h1 h2 e1 e2
    have old : ∀ k' B', (upd s.b k (some ⟨B.c, true⟩) : Key → Option Box) k' = some B' → ∃ B2, s.b k' = some B2 := by
      intro k' B' hh
      rw [upd_at] at hh
      split at hh
      · rename_i hk; exact ⟨B, by rw [hk, hB]⟩
      · exact ⟨B', hh⟩
    obtain ⟨B1', h1⟩ := old _ _ h1
    obtain ⟨B2', h2⟩ := old _ _ h2
    exact h.bj _ _ _ _ _ h1 h2 e1 e2
  · intro k' v n hk' hd
    obtain ⟨A, n', c, rfl, gg⟩ := h.tk k' v n hk' hd
    refine ⟨A, n', c, rfl, ?_⟩
    rcases gg with gg | ⟨b', cs', ty', hA, q1, q2, q3, q4, q5, q6, q7⟩
    · exact .inl gg
    · have hbb : b' ≠ b := fun hh => q7 k B hB (hh ▸ hρ)
      refine .inr ⟨b', cs', ty', hA, q1, q2, q3, q4, fun o ho => by rw [Cold _ _ hbb]; exact q5 o ho, q6, fun k2 B2 hB2 => ?_⟩
      simp only [upd_at] at hB2
      split at hB2
      · rename_i hk2; rw [hk2]; exact q7 k B hB
      · exact q7 k2 B2 hB2

theorem Rep.frz (h : Rep N w0 C0 E s a w) (u : Nat) : Rep N w0 C0 E (s.frz u) a w := by
  obtain ⟨C, ρ, τ, h⟩ := id h
  unfold St.frz
  split
  · split
    · rename_i hB
      split
      · rename_i hc
        obtain ⟨C', h'⟩ := h.frz1 hB hc
        exact ⟨C', ρ, τ, h'⟩
      · exact ⟨C, ρ, τ, h⟩
    · exact ⟨C, ρ, τ, h⟩
  · rename_i k n sz hu
    split
    · rename_i B hB
      split
      · rename_i hc
        obtain ⟨hc, hn, rfl⟩ := hc
        obtain ⟨C', h'⟩ := h.frz1 hB hc
        refine ⟨C', ρ, τ, { h' with tm := fun t => ?_ }⟩
        show RV C' ρ τ (a.tmps.getD t undef) (upd s.t u (.list 1 (B.c.map fun y => [y]) .no) t)
        rw [upd_at]
        split
        · rename_i ht
          subst ht
          have hv := h'.tm t
          have hv : RV C' ρ τ (a.tmps.getD t undef) (s.t t) := hv
          rw [hu] at hv
          obtain ⟨b, c, e, hρ, h1, h2⟩ := rv_sl hv
          rw [e]
          obtain ⟨b', hρ', ⟨⟨cs, ty, g1, g2, g3, g4, g5⟩, _⟩, _⟩ := h'.bx k ⟨B.c, true⟩ (by simp [upd])
          rw [hρ] at hρ'
          cases hρ'
          refine .list 1 _ .no _ _ c (fun i _ => cs.getD i undef) (by rw [List.length_map, hn]) h1 h2 (fun i x hx => ?_) (fun i x j y hx hy => ?_) trivial
          · rw [List.getElem?_map] at hx
            obtain ⟨z, hz, rfl⟩ := Option.map_eq_some_iff.1 hx
            have hi := (List.getElem?_eq_some_iff.1 hz).1
            refine ⟨rfl, b, 0, rfl, fun j hj => ?_⟩
            have e : 0 + i * 1 + j = i := by omega
            have g2 : cs.size = B.c.length := g2
            rw [e]
            exact g5 rfl i _ (by simp [show i < cs.size by omega])
          · rw [List.getElem?_map] at hx
            obtain ⟨z, hz, rfl⟩ := Option.map_eq_some_iff.1 hx
            have hi := (List.getElem?_eq_some_iff.1 hz).1
            cases j with
            | zero =>
              have hy : z = y := by simpa using hy
              subst hy
              have g2 : cs.size = B.c.length := g2
              exact clean_rv (g4 i _ z (by simp [show i < cs.size by omega]) hz) (List.all_eq_true.1 hc z (List.mem_of_getElem? hz))
            | succ j => simp at hy
        · exact h'.tm t
      · exact ⟨C, ρ, τ, h⟩
    · exact ⟨C, ρ, τ, h⟩
  · exact ⟨C, ρ, τ, h⟩

theorem Rep.frzs : ∀ (l : List Nat) (s : St), Rep N w0 C0 E s a w → Rep N w0 C0 E (l.foldl St.frz s) a w
  | [], _, h => h
  | u :: l, s, h => Rep.frzs l (s.frz u) (h.frz u)

theorem acode_sound {D : List Ap → Array Oper → Bool} {X : Hints} (hD : DOK P D) : ∀ (c : Code) (QA : Exit → St → Prop) (Q : Exit → Act → World → Prop) (s : St) (a : Act) (w : World), (dstOK N c && draws D X c) = true →
    (∀ e s' a' w', QA e s' → Rep N w0 C0 E s' a' w' → Q e a' w') → acode P X c QA s → Rep N w0 C0 E s a w → c.wp P Q a w := by
  intro c
  induction c with
  | skip => intro QA Q s a w _ hQ h hr; exact wp_skip (hQ _ _ _ _ h hr)
  | region id ops draw =>
    intro QA Q s a w hN hQ h hr
    simp only [acode] at h
    simp only [dstOK, draws, Bool.and_eq_true] at hN
    have hN' : ∀ o ∈ ops.toList, ∀ d, o.dst = some d → d < N := by
      intro o ho d hd
      have hN := hN.1
      simp only [Array.all_eq_true] at hN
      obtain ⟨i, hi, rfl⟩ := List.mem_iff_getElem.1 ho
      have := hN i (by simpa using hi)
      simp only [Array.getElem_toList] at hd
      rw [hd] at this
      simpa using this
    cases draw with
    | false => exact wp_region_list (aops_sound (fun s' a' w' hk hr => hQ _ _ _ _ hk.2 hr) _ _ a w hN' h (Rep.frzs _ _ hr))
    | true => exact hD N w0 C0 E _ ops id _ a w _ Q (by simpa using hN.2) hN' h (Rep.frzs _ _ hr) (fun s' a' w' hk hr => hQ _ _ _ _ hk hr)
  | seq x y ihx ihy =>
    intro QA Q s a w hN hQ h hr
    simp only [dstOK, draws, Bool.and_eq_true] at hN
    simp only [acode] at h
    refine wp_seq (ihx _ _ s a w (by simp [hN]) ?_ h hr)
    intro e s' a' w' hq hr'
    cases e with
    | normal => exact ihy _ _ _ _ _ (by simp [hN]) hQ hq hr'
    | _ => exact hQ _ _ _ _ hq hr'
  | cond c x y ihx ihy =>
    intro QA Q s a w hN hQ h hr
    simp only [dstOK, draws, Bool.and_eq_true] at hN
    simp only [acode] at h
    obtain ⟨C, ρ, τ, hr'⟩ := id hr
    have hc := opnd (P := P) hr' 0 c
    split at h
    · rename_i b hb
      rw [hb] at hc
      have hv := (rv_v hc).1
      cases b with
      | true => exact wp_cond_true hv (ihx _ _ _ _ _ (by simp [hN]) hQ (h.1 rfl) hr)
      | false => exact wp_cond_false hv (ihy _ _ _ _ _ (by simp [hN]) hQ (h.2 rfl) hr)
    · exact h.elim
  | block id c ih =>
    intro QA Q s a w hN hQ h hr
    simp only [acode] at h
    refine wp_block (ih _ _ s a w hN ?_ h hr)
    intro e s' a' w' hq hr'
    cases e with
    | exit id' =>
      simp only [Exit.inBlock]
      simp only at hq
      split
      · rename_i hid; rw [if_pos hid] at hq; exact hQ _ _ _ _ hq hr'
      · rename_i hid; rw [if_neg hid] at hq; exact hQ _ _ _ _ hq hr'
    | _ => exact hQ _ _ _ _ hq hr'
  | loop c ih =>
    intro QA Q s a w hN hQ h hr
    simp only [acode] at h
    obtain ⟨I, ⟨n0, h0⟩, hround⟩ := h
    let R : Nat → Act → World → Prop := fun n a w => ∃ s, I n s ∧ Rep N w0 C0 E s a w
    let μ : Act → World → Nat := fun a w => Classical.epsilon fun n => R n a w ∧ ∀ m, R m a w → n ≤ m
    have least : ∀ a w n, R n a w → R (μ a w) a w ∧ ∀ m, R m a w → μ a w ≤ m := by
      intro a w n hn
      have hex : ∃ n, R n a w ∧ ∀ m, R m a w → n ≤ m := by
        induction n using Nat.strongRecOn with
        | _ n ih2 =>
          by_cases hq : ∃ m, m < n ∧ R m a w
          · obtain ⟨m, hm, hR⟩ := hq
            exact ih2 m hm hR
          · refine ⟨n, hn, fun m hm => ?_⟩
            rcases Nat.lt_or_ge m n with hlt | hge
            · exact absurd ⟨m, hlt, hm⟩ hq
            · exact hge
      exact Classical.epsilon_spec hex
    refine wp_loop (fun a w => ∃ n, R n a w) μ ⟨n0, s, h0, hr⟩ ?_
    rintro a w ⟨n, hn⟩
    obtain ⟨⟨s', hI, hr'⟩, _⟩ := least a w n hn
    refine ih _ _ s' a w hN ?_ (hround _ _ hI) hr'
    intro e s2 a2 w2 hq hr2
    cases e with
    | normal =>
      obtain ⟨m, hm, hI2⟩ := hq
      have hRm : R m a2 w2 := ⟨s2, hI2, hr2⟩
      have := (least a2 w2 m hRm).2 m hRm
      exact ⟨⟨m, hRm⟩, by omega⟩
    | _ => exact hQ _ _ _ _ hq hr2
  | scope c ih =>
    intro QA Q s a w hN hQ h hr
    simp only [acode] at h
    refine wp_scope_straight (ih _ _ s a w hN ?_ h hr)
    intro e s' a' w' hq hr'
    cases e with
    | goto l => exact hq
    | _ => exact hQ _ _ _ _ hq hr'
  | exit id => intro QA Q s a w _ hQ h hr; exact wp_exit (hQ _ _ _ _ h hr)
  | ret => intro QA Q s a w _ hQ h hr; exact wp_ret (hQ _ _ _ _ h hr)
  | rangeFunc f ps x y _ _ => intro QA Q s a w hN; simp [dstOK] at hN
  | label l => intro QA Q s a w hN; simp [dstOK] at hN
  | goto l => intro QA Q s a w hN; simp [dstOK] at hN
  | refuse y => intro QA Q s a w hN; simp [dstOK] at hN

end Go.Sy

/- A function's contract out of its code. -/
namespace Go.Sy
open Go Go.RowKit

variable {N : Nat} {w0 : World} {C0 : CMap} {E : EX} {s : St} {a : Act} {w : World} {C : CMap} {ρ : RMap} {τ : TMap} {P : Program} {o : Oper} {e : Eff}

def resAV1 (P : Program) (s : St) : ResultVar → Option AV
  | .tmp t => some (s.t t)
  | .cell a t => match s.t a with
    | .box k off => match s.b k with
      | some B => if off < B.c.length then rdAV P t (B.c.drop off) else none
      | none => none
    | _ => none
def resAV (P : Program) (s : St) : List ResultVar → Option (List AV)
  | [] => some []
  | r :: rs => match resAV1 P s r, resAV P s rs with
    | some x, some xs => some (x :: xs)
    | _, _ => none

def one : List AV → AV
  | [x] => x
  | l => .tup l

/-- What a value handed back comes to behind the call. -/
def fin0 (s : St) (x r : AV) : Prop := (clean (fgt x) = true ∧ r = fgt x) ∨
  (∃ k n sz ys B, x = .sl k n sz ∧ r = .list sz ys .no ∧ s.b k = some B ∧ B.c = ys.flatten ∧ ys.length = n ∧ (∀ y ∈ ys, y.length = sz) ∧ (∀ x ∈ B.c, clean x = true))
inductive fin1 (s : St) : AV → AV → Prop
  | one (x r : AV) (h : fin0 s x r) : fin1 s x r
  | agg (l m : List AV) (hl : l.length = m.length) (h : ∀ (i : Nat) (x r : AV), l[i]? = some x → m[i]? = some r → fin0 s x r) : fin1 s (.agg l) (.agg m)
inductive fin (s : St) : AV → AV → Prop
  | one (x r : AV) (h : fin1 s x r) : fin s x r
  | tup (l m : List AV) (hl : l.length = m.length) (h : ∀ (i : Nat) (x r : AV), l[i]? = some x → m[i]? = some r → fin1 s x r) : fin s (.tup l) (.tup m)

def retQ (P : Program) (rs : List ResultVar) (r : AV) : Exit → St → Prop
  | .ret, s | .normal, s => ∃ xs, resAV P s rs = some xs ∧ fin s (one xs) r
  | _, _ => False

def s0 (args : List AV) : St := { t := fun u => args.getD u .any, b := fun _ => none, d := fun _ => false, g := fun _ => 0 }

def resRun (a : Act) : ResultVar → Sem Value
  | .tmp t => pure (a.tmps.getD t undef)
  | .cell b t => do loadVar t (← asAddr (a.tmps.getD b undef))

theorem toks_none {C : CMap} {w : World} {B : Nat} : Toks C w noτ 0 B :=
  ⟨fun k x h => (by cases h), fun k v m h => (by cases h), fun k k' v v' m m' b h => (by cases h)⟩

theorem resAV1_run (h : RepG N w0 C0 E s a w C ρ τ) {r : ResultVar} {x : AV} (hx : resAV1 P s r = some x) :
    ∃ v, (resRun a r).run P w = .ok v w ∧ RV C ρ τ v x := by
  cases r with
  | tmp t =>
    simp only [resAV1, Option.some.injEq] at hx
    subst hx
    exact ⟨_, rfl, h.tm t⟩
  | cell b t =>
    simp only [resAV1] at hx
    have hb := h.tm b
    split at hx
    case h_2 => cases hx
    rename_i k off hk
    rw [hk] at hb
    split at hx
    case h_2 => cases hx
    rename_i B hB
    split at hx
    case isFalse => cases hx
    rename_i hoff
    obtain ⟨bb, hv, hρ⟩ := rv_box hb
    obtain ⟨cs, ty, g1, g2, g3, g4⟩ := box_cells h hB hρ
    have hcs : ∀ j, j < (B.c.drop off).length → cs[off + j]? = some (cs.getD (off + j) undef) := by
      intro j hj
      have : off + j < cs.size := by simp at hj; omega
      simp [this]
    obtain ⟨u, hu, hru⟩ := run_load_of (P := P) (C := C) (ρ := ρ) (τ := τ) (w := w) (b := bb) (o := off) (fun j => cs.getD (off + j) undef) hx
      (fun j hj => by simp only [World.cell?, g1]; exact hcs j hj)
      (fun j y hy => g4 (off + j) _ _ (hcs j (List.getElem?_eq_some_iff.1 hy).1) (by simpa using hy)) (fun j hj => g3 _ _ (hcs j hj))
    refine ⟨u, ?_, hru⟩
    simp [resRun, hv, asAddr, hu]

theorem resAV_run (h : RepG N w0 C0 E s a w C ρ τ) : ∀ (rs : List ResultVar) (xs : List AV), resAV P s rs = some xs →
    ∃ vs, (rs.mapM (resRun a)).run P w = .ok vs w ∧ vs.length = xs.length ∧
      (∀ (i : Nat) (v : Value) (x : AV), vs[i]? = some v → xs[i]? = some x → RV C ρ τ v x)
  | [], xs, hx => by
    simp only [resAV, Option.some.injEq] at hx
    subst hx
    exact ⟨[], by simp, rfl, fun i v x hv => by simp at hv⟩
  | r :: rs, xs, hx => by
    unfold resAV at hx
    split at hx
    case h_2 => cases hx
    rename_i x xs' h1 h2
    cases hx
    obtain ⟨v, hv, hr⟩ := resAV1_run h h1
    obtain ⟨vs, hvs, hl, hrs⟩ := resAV_run h rs xs' h2
    refine ⟨v :: vs, ?_, by simp [hl], ?_⟩
    · rw [List.mapM_cons]
      simp only [Sem.run_bind, hv, Result.andThen_ok, hvs, Sem.run_pure]
    · intro i u y hu hy
      cases i with
      | zero => simp at hu hy; subst hu hy; exact hr
      | succ i => exact hrs i u y (by simpa using hu) (by simpa using hy)

theorem results_run (h : RepG N w0 C0 E s a w C ρ τ) {fn : Func} {xs : List AV} (hx : resAV P s fn.results.toList = some xs) :
    ∃ v, (results fn a.tmps).run P w = .ok v w ∧ RV C ρ τ v (one xs) := by
  obtain ⟨vs, hvs, hl, hr⟩ := resAV_run h _ _ hx
  have hm : (fn.results.mapM (resRun a)).run P w = .ok vs.toArray w := by
    rw [Array.mapM_eq_mapM_toList]
    simp only [Sem.run_map, hvs]
    rfl
  have hres : (results fn a.tmps).run P w = .ok (if h : vs.toArray.size = 1 then vs.toArray[0] else .tuple vs.toArray) w := by
    have e : results fn a.tmps = (do let vs ← fn.results.mapM (resRun a); pure (if h : vs.size = 1 then vs[0] else .tuple vs)) := by
      unfold results
      congr 1
    rw [e, Sem.run_bind, hm]
    rfl
  refine ⟨_, hres, ?_⟩
  by_cases h1 : vs.length = 1
  · match vs, xs, hl, hr, h1 with
    | [v], [x], _, hr, _ => exact hr 0 v x rfl rfl
  · have : one xs = .tup xs := by
      match xs, hl with
      | [], _ => rfl
      | [x], hl => exact absurd hl h1
      | _ :: _ :: _, _ => rfl
    rw [this]
    simp only [List.size_toArray, h1, dite_false]
    exact .tup _ _ (by simpa using hl) (fun i v x hv hx => hr i v x (by simpa using hv) hx)

/-- All that never turns any more, once the call is over: its boxes too. -/
noncomputable def endC (C : CMap) (ρ : RMap) (s : St) (w : World) : CMap := fun b o => match C b o with
  | some v => some v
  | none => open Classical in if ∃ k B, s.b k = some B ∧ ρ k = some b then w.cell? ⟨b, o, none⟩ else none

theorem endC_ge (b o : Nat) (v : Value) (h : C b o = some v) : endC C ρ s w b o = some v := by simp [endC, h]
theorem endC_cases {b o : Nat} {v : Value} (h : endC C ρ s w b o = some v) : C b o = some v ∨ (∃ k B, s.b k = some B ∧ ρ k = some b) ∧ w.cell? ⟨b, o, none⟩ = some v := by
  unfold endC at h
  split at h
  · rename_i u hu; exact .inl (hu.trans h)
  · split at h
    · rename_i hk; exact .inr ⟨hk, h⟩
    · cases h
theorem endC_box (h : RepG N w0 C0 E s a w C ρ τ) {k : Key} {B : Box} {b : Nat} (hB : s.b k = some B) (hρ : ρ k = some b) {cs : Array Value} {ty : TypeId} (hh : w.heap[b]? = some (.cells cs ty (0, 0))) {o : Nat} {v : Value} (hv : cs[o]? = some v) :
    endC C ρ s w b o = some v := by
  have hcell : w.cell? ⟨b, o, none⟩ = some v := by simp only [World.cell?, hh]; exact hv
  cases hc : C b o with
  | some u =>
    have := (h.cw _ _ _ hc).1
    rw [hcell] at this
    cases this
    exact endC_ge _ _ _ hc
  | none =>
    simp only [endC, hc]
    rw [if_pos ⟨k, B, hB, hρ⟩]
    exact hcell

theorem flat_get {sz : Nat} : ∀ (ys : List (List AV)), (∀ y ∈ ys, y.length = sz) → ∀ (i j : Nat) (y : List AV) (x : AV), ys[i]? = some y → y[j]? = some x → ys.flatten[i * sz + j]? = some x
  | [], _, i, j, y, x, hy, _ => by simp at hy
  | z :: ys, hl, i, j, y, x, hy, hx => by
    have hz : z.length = sz := hl z (List.mem_cons_self ..)
    rw [List.flatten_cons]
    cases i with
    | zero =>
      simp at hy
      subst hy
      have hj : j < z.length := (List.getElem?_eq_some_iff.1 hx).1
      rw [Nat.zero_mul, Nat.zero_add, List.getElem?_append_left hj]
      exact hx
    | succ i =>
      have e : (i + 1) * sz + j = z.length + (i * sz + j) := by rw [hz, Nat.add_mul]; omega
      rw [e, List.getElem?_append_right (by omega), show z.length + (i * sz + j) - z.length = i * sz + j by omega]
      exact flat_get ys (fun y hy => hl y (List.mem_cons_of_mem _ hy)) i j y x (by simpa using hy) hx

theorem fin0_rv (h : RepG N w0 C0 E s a w C ρ τ) {v : Value} {x r : AV} (hv : RV C ρ τ v x) (hf : fin0 s x r) : RV (endC C ρ s w) noρ noτ v r := by
  rcases hf with ⟨hc, rfl⟩ | ⟨k, n, sz, ys, B, rfl, rfl, hB, hBc, hn, hys, hcl⟩
  · exact (clean_rv (fgt_rv hv) hc).mono endC_ge (fun _ _ h => h) (fun _ _ h => h)
  · obtain ⟨b, c, rfl, hρ, hnc, hcm⟩ := rv_sl hv
    obtain ⟨cs, ty, g1, g2, g3, g4⟩ := box_cells h hB hρ
    refine .list _ _ .no _ n c (fun i j => cs.getD (i * sz + j) undef) hn hnc hcm ?_ ?_ trivial
    · intro i y hy
      refine ⟨hys y (List.mem_of_getElem? hy), b, 0, rfl, fun j hj => ?_⟩
      have hlen : y.length = sz := hys y (List.mem_of_getElem? hy)
      have hx := flat_get ys hys i j y (y[j]'(by omega)) hy (by simp)
      rw [← hBc] at hx
      have hlt : i * sz + j < cs.size := by rw [g2]; exact (List.getElem?_eq_some_iff.1 hx).1
      refine endC_box h hB hρ g1 ?_
      rw [Nat.zero_add]
      simp [hlt]
    · intro i y j x hy hx
      have hx2 := flat_get ys hys i j y x hy hx
      rw [← hBc] at hx2
      have hlt : i * sz + j < cs.size := by rw [g2]; exact (List.getElem?_eq_some_iff.1 hx2).1
      have hu : cs[i * sz + j]? = some (cs.getD (i * sz + j) undef) := by simp [hlt]
      exact (clean_rv (g4 _ _ _ hu hx2) (hcl x (List.mem_of_getElem? hx2))).mono endC_ge (fun _ _ h => h) (fun _ _ h => h)

theorem fin1_rv (h : RepG N w0 C0 E s a w C ρ τ) {v : Value} {x r : AV} (hv : RV C ρ τ v x) (hf : fin1 s x r) : RV (endC C ρ s w) noρ noτ v r := by
  cases hf with
  | one _ _ hf => exact fin0_rv h hv hf
  | agg l m hl hf =>
    obtain ⟨cs, rfl, h1, h2, h3⟩ := rv_agg hv
    refine .agg _ _ (by omega) (fun i u y hu hy => ?_) h3
    have hi : i < l.length := by rw [hl]; exact (List.getElem?_eq_some_iff.1 hy).1
    exact fin0_rv h (h2 i u l[i] hu (by simp [hi])) (hf i l[i] y (by simp [hi]) hy)

theorem fin_rv (h : RepG N w0 C0 E s a w C ρ τ) {v : Value} {x r : AV} (hv : RV C ρ τ v x) (hf : fin s x r) : RV (endC C ρ s w) noρ noτ v r := by
  cases hf with
  | one _ _ hf => exact fin1_rv h hv hf
  | tup l m hl hf =>
    obtain ⟨cs, rfl, h1, h2⟩ := rv_tup hv
    refine .tup _ _ (by omega) (fun i u y hu hy => ?_)
    have hi : i < l.length := by rw [hl]; exact (List.getElem?_eq_some_iff.1 hy).1
    exact fin1_rv h (h2 i u l[i] hu (by simp [hi])) (hf i l[i] y (by simp [hi]) hy)

theorem s0_rep {args : List AV} {vs : Array Value} {w : World} (hC : CW C w) (hl : vs.size = args.length) (hv : ∀ (i : Nat) (v : Value) (x : AV), vs[i]? = some v → args[i]? = some x → RV C noρ noτ v x) (hN : args.length ≤ N) :
    RepG N w C EX.none (s0 args) { tmps := vs ++ Array.replicate (N - vs.size) undef, defers := [] } w C noρ noτ :=
  { df := rfl
    sz := by simp; omega
    tm := by
      intro t
      simp only [s0]
      by_cases ht : t < args.length
      · have h1 : t < vs.size := by omega
        rw [Array.getD_eq_getD_getElem?, Array.getElem?_append_left h1]
        simp only [List.getD, List.getElem?_eq_getElem ht, Option.getD_some, Array.getElem?_eq_getElem h1]
        exact hv t _ _ (by simp [h1]) (by simp [ht])
      · rw [List.getD, List.getElem?_eq_none (by omega)]
        exact .any _
    cw := hC
    c0 := fun _ _ _ h => h
    c1 := fun _ _ _ _ h => .inl h
    bx := fun k B h => by simp [s0] at h
    bj := fun k k' B B' b h => by simp [s0] at h
    tk := fun k v n h => by cases h
    tj := fun k k' v v' n n' b h => by cases h
    fρ := fun k b h => by cases h
    fτ := fun k b h => by cases h
    fo := fun k b h => by cases h
    fr := ⟨rfl, rfl, rfl, Nat.le_refl _, fun _ _ _ => rfl⟩ }

theorem con_of {D : List Ap → Array Oper → Bool} (hD : DOK P D) {X : Hints} {f : FuncId} {fn : Func} {c : Code} {rs : List ResultVar} {args : List AV} {r : AV} (hf : P.funcs[f]? = some fn) (hname : (fn.name == "runtime.NumGoroutine") = false) (hb : fn.body = some c)
    (hrs : fn.results.toList = rs) (hN : (dstOK fn.ntmps c && draws D X c && decide (args.length ≤ fn.ntmps)) = true) (h : acode P X c (retQ P rs r) (s0 args)) : Con P f args 0 r := by
  refine ⟨enters_of hf hname hb, ?_⟩
  intro C w vs hC hl hv
  rw [Bool.and_eq_true] at hN
  refine calls_of_wp hf hb (acode_sound (N := fn.ntmps) (w0 := w) (C0 := C) (E := EX.none) hD c _ _ _ _ _ hN.1 ?_ h ⟨C, noρ, noτ, s0_rep hC hl hv (of_decide_eq_true hN.2)⟩)
  intro e s' a' w' hq hr
  obtain ⟨C', ρ', τ', hr⟩ := hr
  have main : (∃ xs, resAV P s' rs = some xs ∧ fin s' (one xs) r) → a'.defers = [] ∧ ∃ v, (results fn a'.tmps).run P w' = .ok v w' ∧
      ∃ v1 C' τ', Ending.returned v = .returned v1 ∧ Below w.heap.size w w' ∧ (∀ b o v, C b o = some v → C' b o = some v) ∧ (∀ b o v, C' b o = some v → C b o = some v ∨ w.heap.size ≤ b) ∧
      CW C' w' ∧ RV C' noρ τ' v1 r ∧ Toks C' w' τ' 0 w.heap.size := by
    rintro ⟨xs, hxs, hfin⟩
    obtain ⟨v, hrun, hv⟩ := results_run (P := P) (fn := fn) hr (by rw [hrs]; exact hxs)
    refine ⟨hr.df, v, hrun, v, endC C' ρ' s' w', noτ, rfl, ⟨hr.fr.os, hr.fr.tape, hr.fr.output, hr.fr.size, fun k hk => hr.fr.block k hk id⟩, fun b o v h => endC_ge _ _ _ (hr.c0 _ _ _ h), ?_, ?_, fin_rv hr hv hfin, toks_none⟩
    · intro b o v h
      rcases endC_cases h with h | ⟨⟨k, B, hB, hρ⟩, _⟩
      · rcases Nat.lt_or_ge b w.heap.size with hlt | hge
        · exact (hr.c1 _ _ _ hlt h).imp_right fun h => h.elim
        · exact .inr hge
      · obtain ⟨b', hρ', _, hb'⟩ := hr.bx k B hB
        rw [hρ] at hρ'
        cases hρ'
        exact .inr (hb'.resolve_right id)
    · intro b o v h
      rcases endC_cases h with h | ⟨⟨k, B, hB, hρ⟩, hc⟩
      · exact hr.cw _ _ _ h
      · refine ⟨hc, ?_⟩
        obtain ⟨cs, ty, g1, g2, g3, g4⟩ := box_cells hr hB hρ
        simp only [World.cell?, g1] at hc
        exact g3 o v hc
  cases e with
  | ret => exact main hq
  | normal => exact main hq
  | _ => exact hq.elim

/-! ### Functions that turn their receiver -/
def s1 (args pre : List AV) (x : AV) : St :=
  { t := fun u => if u = 0 then .box (0, 0, 0) 0 else args.getD (u - 1) .any
    b := fun k => if k = (0, 0, 0) then some ⟨pre ++ [x], false⟩ else none
    d := fun _ => false
    g := fun u => if u = 0 then 1 else 0 }

def retE (P : Program) (rs : List ResultVar) (r : AV) (pre : List AV) (x : AV) : Exit → St → Prop
  | .ret, s | .normal, s => (∃ xs, resAV P s rs = some xs ∧ (r = .any ∨ (cleanV (fgtV (one xs)) = true ∧ r = fgtV (one xs)))) ∧
      ∃ y, s.b (0, 0, 0) = some ⟨pre ++ [y], false⟩ ∧ pre.all clean = true ∧ lastOK s y = true ∧ x = canonX y
  | _, _ => False

theorem s1_rep {args pre : List AV} {x : AV} {b : Nat} {τ : TMap} {vs : Array Value} {w : World} (hC : CW C w) (hB : BoxC C τ w b pre x) (hT : Tok1 C w τ (fun b' => b' ≠ b)) (hl : vs.size = args.length)
    (hv : ∀ (i : Nat) (v : Value) (x : AV), vs[i]? = some v → args[i]? = some x → RV C noρ noτ v x) (hN : args.length + 1 ≤ N) :
    RepG N w C ⟨fun i => i = b ∨ tb τ i, fun k => if k = (0, 0, 0) then some b else none⟩ (s1 args pre x)
      { tmps := (#[Value.pointer (some ⟨b, 0, none⟩)] ++ vs) ++ Array.replicate (N - (#[Value.pointer (some ⟨b, 0, none⟩)] ++ vs).size) undef, defers := [] } w C (fun k => if k = (0, 0, 0) then some b else none) τ := by
  have hk0 : ∀ k B, (s1 args pre x).b k = some B → k = (0, 0, 0) ∧ B = ⟨pre ++ [x], false⟩ := by
    intro k B h
    simp only [s1] at h
    split at h
    · cases h; exact ⟨by assumption, rfl⟩
    · cases h
  have hρ0 : ∀ (k : Key) (b' : Nat), (if k = (0, 0, 0) then some b else none) = some b' → k = (0, 0, 0) ∧ b' = b := by
    intro k b' h
    split at h
    · cases h; exact ⟨by assumption, rfl⟩
    · cases h
  exact
  { df := rfl
    sz := by simp; omega
    tm := by
      intro t
      cases t with
      | zero => simpa [s1, Array.getElem?_append] using RV.box (0, 0, 0) b 0 (if_pos rfl)
      | succ t =>
        simp only [s1, Nat.add_one_ne_zero, if_false, Nat.add_sub_cancel]
        by_cases ht : t < args.length
        · have h1 : t < vs.size := by omega
          have e : (#[Value.pointer (some ⟨b, 0, none⟩)] ++ vs ++ Array.replicate (N - (#[Value.pointer (some ⟨b, 0, none⟩)] ++ vs).size) undef).getD (t + 1) undef = vs[t] := by
            rw [Array.getD_eq_getD_getElem?, Array.getElem?_append_left (by simp; omega), Array.getElem?_append_right (by simp)]
            simp [h1]
          rw [e]
          simp only [List.getD, List.getElem?_eq_getElem ht, Option.getD_some]
          exact (hv t _ _ (by simp [h1]) (by simp [ht])).lift _ _
        · rw [List.getD, List.getElem?_eq_none (by omega)]
          exact .any _
    cw := hC
    c0 := fun _ _ _ h => h
    c1 := fun _ _ _ _ h => .inl h
    bx := by
      intro k B h
      obtain ⟨rfl, rfl⟩ := hk0 k B h
      obtain ⟨⟨cs, ty, g1, g2, g3, g4, g5⟩, g6⟩ := hB
      refine ⟨b, if_pos rfl, ⟨⟨cs, ty, g1, by simpa using g2, g3, ?_, fun hz => by cases hz⟩, fun _ => g6⟩, .inr (.inl rfl)⟩
      intro i u y hu hy
      rcases Nat.lt_or_ge i pre.length with hi | hi
      · rw [List.getElem?_append_left hi] at hy
        exact (g4 i u y hu hy).lift _ _
      · simp only [List.getElem?_append_right hi] at hy
        have : i = pre.length := by
          have := (List.getElem?_eq_some_iff.1 hy).1
          simp at this; omega
        subst this
        simp at hy
        subst hy
        exact (g5 u hu).mono (fun _ _ _ h => h) (fun _ _ h => by cases h) (fun _ _ h => h)
    bj := fun k k' B B' b' h h' _ _ => (hk0 k B h).1.trans (hk0 k' B' h').1.symm
    tk := by
      intro k v n hk _
      obtain ⟨A, n', c, rfl, gg⟩ := hT.w k v n hk
      refine ⟨A, n', c, rfl, ?_⟩
      rcases gg with gg | ⟨b', cs, ty, hA, q1, q2, q3, q4, q5, q6⟩
      · exact .inl gg
      · by_cases hc0 : c = 0
        · exact .inl hc0
        refine .inr ⟨b', cs, ty, hA, q1, q2, q3, q4, q5, .inr (.inr ?_), fun k2 B2 _ hh => q6 (hρ0 _ _ hh).2⟩
        have := hT.k _ _ hk
        subst this
        exact ⟨_, _, hk, by subst hA; simp [blk, hc0]⟩
    tj := fun k k' v v' n n' b' h h' _ _ _ _ => (hT.k _ _ h).trans (hT.k _ _ h').symm
    fρ := by
      intro k b' h
      obtain ⟨rfl, _⟩ := hρ0 _ _ h
      simp [s1]
    fτ := by
      intro k y h
      have := hT.k _ _ h
      subst this
      simp [s1]
    fo := fun k b' h => h
    fr := ⟨rfl, rfl, rfl, Nat.le_refl _, fun _ _ _ => rfl⟩ }

theorem econ_of {D : List Ap → Array Oper → Bool} (hD : DOK P D) {X : Hints} {f : FuncId} {fn : Func} {c : Code} {rs : List ResultVar} {args pre pre' : List AV} {x x' r : AV} (hf : P.funcs[f]? = some fn) (hname : (fn.name == "runtime.NumGoroutine") = false) (hb : fn.body = some c)
    (hrs : fn.results.toList = rs) (hN : (dstOK fn.ntmps c && draws D X c && decide (args.length + 1 ≤ fn.ntmps)) = true) (h : acode P X c (retE P rs r pre' x') (s1 args pre x)) : ECon P f args pre x r pre' x' := by
  refine ⟨enters_of hf hname hb, ?_⟩
  intro C w b τ vs hC hB hT hl hv
  rw [Bool.and_eq_true] at hN
  have hb0 : b < w.heap.size := by
    obtain ⟨⟨cs, ty, g1, _⟩, _⟩ := hB
    exact heap_lt g1
  refine calls_of_wp hf hb (acode_sound (N := fn.ntmps) (w0 := w) (C0 := C) (E := ⟨fun i => i = b ∨ tb τ i, fun k => if k = (0, 0, 0) then some b else none⟩) hD c _ _ _ _ _ hN.1 ?_ h ⟨C, _, τ, s1_rep hC hB hT hl hv (of_decide_eq_true hN.2)⟩)
  intro e s' a' w' hq hr
  obtain ⟨C', ρ', τ', hr⟩ := hr
  have main : ((∃ xs, resAV P s' rs = some xs ∧ (r = .any ∨ (cleanV (fgtV (one xs)) = true ∧ r = fgtV (one xs)))) ∧
      ∃ y, s'.b (0, 0, 0) = some ⟨pre' ++ [y], false⟩ ∧ pre'.all clean = true ∧ lastOK s' y = true ∧ x' = canonX y) → a'.defers = [] ∧ ∃ v, (results fn a'.tmps).run P w' = .ok v w' ∧
      ∃ v1 C' τ', Ending.returned v = .returned v1 ∧ Fr w (fun i => i = b ∨ tb τ i) w' ∧ (∀ b o v, C b o = some v → C' b o = some v) ∧
      (∀ b' o v, C' b' o = some v → C b' o = some v ∨ w.heap.size ≤ b' ∨ tb τ b') ∧ CW C' w' ∧ BoxC C' τ' w' b pre' x' ∧ Tok1 C' w' τ' (fun b' => b' ≠ b ∧ (w.heap.size ≤ b' ∨ tb τ b')) ∧ RV C' noρ noτ v1 r := by
    rintro ⟨⟨xs, hxs, hfin⟩, y, hy, hpre, hyo, rfl⟩
    obtain ⟨v, hrun, hv⟩ := results_run (P := P) (fn := fn) hr (by rw [hrs]; exact hxs)
    have hρ : ρ' (0, 0, 0) = some b := hr.fo (0, 0, 0) b (show (if ((0, 0, 0) : Key) = (0, 0, 0) then some b else none) = some b from if_pos rfl)
    obtain ⟨b', hρ', ⟨⟨cs, ty, g1, g2, g3, g4, _⟩, g6⟩, g7⟩ := hr.bx _ _ hy
    rw [hρ] at hρ'
    cases hρ'
    have hlt : pre'.length < cs.size := by rw [g2]; simp
    have hvy : RV C' ρ' τ' cs[pre'.length] y := g4 pre'.length _ y (by simp [hlt]) (by simp)
    let τ1 : TMap := fun k' => if k' = (0, 0, 0) then tkVal τ' cs[pre'.length] y else none
    have hτ1 : τ1 (0, 0, 0) = tkVal τ' cs[pre'.length] y := if_pos rfl
    have hτk : ∀ k v m, τ1 k = some (v, m) → k = (0, 0, 0) ∧ ((∃ A, v = .slice A 0 0) ∨ ∃ k', lastKey y = some k' ∧ τ' k' = some (v, m)) := by
      intro k v m hk
      by_cases hh : k = (0, 0, 0)
      · subst hh
        rw [hτ1] at hk
        exact ⟨rfl, tkVal_cases hvy hk⟩
      · simp only [τ1, if_neg hh] at hk; cases hk
    have hlive : ∀ k', lastKey y = some k' → s'.d k' = false := by
      intro k' hk'
      cases y with
      | list sz ys tk =>
        cases tk with
        | own k2 => simp [lastKey, tokKey] at hk'; subst hk'; simpa [lastOK] using hyo
        | _ => simp [lastKey, tokKey] at hk'
      | _ => simp [lastKey] at hk'
    refine ⟨hr.df, v, hrun, v, C', τ1, rfl, hr.fr, fun b o v h => hr.c0 _ _ _ h, ?_, hr.cw, ⟨⟨cs, ty, g1, by simpa using g2, g3, ?_, ?_⟩, g6 rfl⟩, ⟨fun k x hk => (hτk k x.1 x.2 hk).1, ?_⟩, ?_⟩
    · intro b' o v h
      rcases Nat.lt_or_ge b' w.heap.size with hlt | hge
      · rcases hr.c1 _ _ _ hlt h with hh | hh
        · exact .inl hh
        · rcases hh with hh | hh
          · subst hh
            rw [g6 rfl o] at h; cases h
          · exact .inr (.inr hh)
      · exact .inr (.inl hge)
    · intro i v z hv hz
      have hi := (List.getElem?_eq_some_iff.1 hz).1
      exact clean_rv (g4 i v z hv (by rw [List.getElem?_append_left hi]; exact hz)) (List.all_eq_true.1 hpre z (List.mem_of_getElem? hz))
    · intro v hv
      have hv' : v = cs[pre'.length] := by simp [hlt] at hv; exact hv.symm
      subst hv'
      exact canon_rv hvy hyo τ1 hτ1
    · intro k v m hk
      rcases (hτk _ _ _ hk).2 with ⟨A, rfl⟩ | ⟨k', h1, h2⟩
      · exact ⟨A, 0, 0, rfl, .inl rfl⟩
      obtain ⟨A, n, c, rfl, gg⟩ := hr.tk k' v m h2 (hlive _ h1)
      refine ⟨A, n, c, rfl, ?_⟩
      rcases gg with gg | ⟨b', cs', ty', hA, q1, q2, q3, q4, q5, q6, q7⟩
      · exact .inl gg
      · have hbb : b' ≠ b := fun hh => q7 _ _ hy (hh ▸ hρ)
        refine .inr ⟨b', cs', ty', hA, q1, q2, q3, q4, q5, hbb, ?_⟩
        rcases q6 with q6 | q6 | q6
        · exact .inl q6
        · exact absurd q6 hbb
        · exact .inr q6
    · rcases hfin with rfl | ⟨h1, rfl⟩
      · exact .any _
      · exact cleanV_rv (fgtV_rv hv) h1
  cases e with
  | ret => exact main hq
  | normal => exact main hq
  | _ => exact hq.elim

end Go.Sy
