/- The abstract values of a symbolic walk, and what it means that a machine state bears them. -/
import Derived.WalkKit
namespace Go.Sy
open Go

abbrev Key := Nat × Nat × Nat

inductive Tok where
  | no
  | nil
  | own (k : Key)

inductive AV where
  | any
  | v (v : Value)
  | agg (l : List AV)
  | tup (l : List AV)
  | list (sz : Nat) (xs : List (List AV)) (tk : Tok)
  | box (k : Key) (off : Nat)
  | ptr (l : List AV)
  | sl (k : Key) (n sz : Nat)
  | clo (f : FuncId) (caps : List AV)

abbrev CMap := Nat → Nat → Option Value
abbrev RMap := Key → Option Nat
abbrev TMap := Key → Option (Value × Nat)

def TokV (τ : TMap) (v : Value) (sz : Nat) : Tok → Prop
  | .no => True
  | .nil => ∃ A, v = .slice A 0 0
  | .own k => τ k = some (v, sz)

abbrev noρ : RMap := fun _ => none
abbrev noτ : TMap := fun _ => none

/-- A value bears an abstract value: C: the cells that never turn any more; ρ: the call's own boxes; τ: the slices that it may append to. -/
inductive RV (C : CMap) : RMap → TMap → Value → AV → Prop
  | any {ρ : RMap} {τ : TMap} (v : Value) : RV C ρ τ v .any
  | v {ρ : RMap} {τ : TMap} (v : Value) (h : v.oneCell' = true) : RV C ρ τ v (.v v)
  | agg {ρ : RMap} {τ : TMap} (cs : Array Value) (l : List AV) (hl : cs.size = l.length)
      (h : ∀ (i : Nat) (v : Value) (a : AV), cs[i]? = some v → l[i]? = some a → RV C ρ τ v a) (h1 : ∀ (i : Nat) (v : Value), cs[i]? = some v → v.oneCell' = true) : RV C ρ τ (.agg cs) (.agg l)
  | tup {ρ : RMap} {τ : TMap} (cs : Array Value) (l : List AV) (hl : cs.size = l.length)
      (h : ∀ (i : Nat) (v : Value) (a : AV), cs[i]? = some v → l[i]? = some a → RV C ρ τ v a) : RV C ρ τ (.tuple cs) (.tup l)
  | list {ρ : RMap} {τ : TMap} (sz : Nat) (xs : List (List AV)) (tk : Tok) (A : Option Addr) (n c : Nat) (cv : Nat → Nat → Value)
      (hn : xs.length = n) (hc : n ≤ c) (hm : c ≤ maxLen)
      (hcell : ∀ (i : Nat) (x : List AV), xs[i]? = some x → x.length = sz ∧ ∃ b o, A = some ⟨b, o, none⟩ ∧ ∀ j, j < sz → C b (o + i * sz + j) = some (cv i j))
      (hrv : ∀ (i : Nat) (x : List AV) (j : Nat) (a : AV), xs[i]? = some x → x[j]? = some a → RV C noρ noτ (cv i j) a)
      (htk : TokV τ (.slice A n c) sz tk) : RV C ρ τ (.slice A n c) (.list sz xs tk)
  | box {ρ : RMap} {τ : TMap} (k : Key) (b off : Nat) (h : ρ k = some b) : RV C ρ τ (.pointer (some ⟨b, off, none⟩)) (.box k off)
  | ptr {ρ : RMap} {τ : TMap} (b o : Nat) (l : List AV) (cv : Nat → Value) (h : ∀ j, j < l.length → C b (o + j) = some (cv j))
      (hr : ∀ (j : Nat) (a : AV), l[j]? = some a → RV C noρ noτ (cv j) a) : RV C ρ τ (.pointer (some ⟨b, o, none⟩)) (.ptr l)
  | sl {ρ : RMap} {τ : TMap} (k : Key) (b n c sz : Nat) (h : ρ k = some b) (hc : n ≤ c) (hm : c ≤ maxLen) : RV C ρ τ (.slice (some ⟨b, 0, none⟩) n c) (.sl k n sz)
  | clo {ρ : RMap} {τ : TMap} (f : FuncId) (cs : Array Value) (l : List AV) (hl : cs.size = l.length)
      (h : ∀ (i : Nat) (v : Value) (a : AV), cs[i]? = some v → l[i]? = some a → RV C noρ noτ v a) : RV C ρ τ (.func (.func f) #[] cs) (.clo f l)

theorem TokV.mono {τ τ' : TMap} (h : ∀ k x, τ k = some x → τ' k = some x) {v : Value} {sz : Nat} {tk : Tok} (ht : TokV τ v sz tk) : TokV τ' v sz tk := by
  cases tk with
  | no => trivial
  | nil => exact ht
  | own k => exact h _ _ ht

theorem RV.mono {C C' : CMap} {ρ ρ' : RMap} {τ τ' : TMap} (hC : ∀ b o v, C b o = some v → C' b o = some v) (hρ : ∀ k b, ρ k = some b → ρ' k = some b)
    (hτ : ∀ k x, τ k = some x → τ' k = some x) {v : Value} {a : AV} (h : RV C ρ τ v a) : RV C' ρ' τ' v a := by
  induction h generalizing ρ' τ' with
  | any v => exact .any v
  | v v h => exact .v v h
  | agg cs l hl _ h1 ih => exact .agg cs l hl (fun i v a h1 h2 => ih i v a h1 h2 hρ hτ) h1
  | tup cs l hl _ ih => exact .tup cs l hl (fun i v a h1 h2 => ih i v a h1 h2 hρ hτ)
  | list sz xs tk A n c cv hn hc hm hcell _ htk ih =>
    refine .list sz xs tk A n c cv hn hc hm (fun i x hx => ?_) (fun i x j a hx ha => ih i x j a hx ha (fun _ _ h => h) (fun _ _ h => h)) (htk.mono hτ)
    obtain ⟨h1, b, o, hA, hj⟩ := hcell i x hx
    exact ⟨h1, b, o, hA, fun j hj' => hC _ _ _ (hj j hj')⟩
  | box k b off h => exact .box k b off (hρ _ _ h)
  | ptr b o l cv h _ ih => exact .ptr b o l cv (fun j hj => hC _ _ _ (h j hj)) (fun j a ha => ih j a ha (fun _ _ h => h) (fun _ _ h => h))
  | sl k b n c sz h hc hm => exact .sl k b n c sz (hρ _ _ h) hc hm
  | clo f cs l hl _ ih => exact .clo f cs l hl (fun i v a h1 h2 => ih i v a h1 h2 (fun _ _ h => h) (fun _ _ h => h))

theorem RV.lift {C : CMap} {v : Value} {a : AV} (h : RV C noρ noτ v a) (ρ : RMap) (τ : TMap) : RV C ρ τ v a :=
  h.mono (fun _ _ _ h => h) (fun _ _ h => by cases h) (fun _ _ h => by cases h)

/-- A box: a block of the call's own; 'fz': it will not be written any more. -/
structure Box where
  c : List AV
  fz : Bool

structure St where
  t : Nat → AV
  b : Key → Option Box
  d : Key → Bool
  g : Nat → Nat

def upd {α β : Type} [DecidableEq α] (f : α → β) (a : α) (x : β) : α → β := fun y => if y = a then x else f y

theorem upd_same {α β : Type} [DecidableEq α] (f : α → β) (a : α) (x : β) : upd f a x a = x := by simp [upd]
theorem upd_ne {α β : Type} [DecidableEq α] (f : α → β) {a y : α} (x : β) (h : y ≠ a) : upd f a x y = f y := by simp [upd, h]
theorem upd_at {α β : Type} [DecidableEq α] (f : α → β) (a y : α) (x : β) : upd f a x y = if y = a then x else f y := rfl

/-- Below the first world's blocks nothing has turned but the blocks that E names. -/
structure Fr (w0 : World) (E : Nat → Prop) (w : World) : Prop where
  os : w.os = w0.os
  tape : w.tape = w0.tape
  output : w.output = w0.output
  size : w0.heap.size ≤ w.heap.size
  block : ∀ i, i < w0.heap.size → ¬ E i → w.heap[i]? = w0.heap[i]?

/-- A box's block in the world. -/
structure BoxW (C : CMap) (ρ : RMap) (τ : TMap) (w : World) (b : Nat) (B : Box) : Prop where
  ex : ∃ (cs : Array Value) (ty : TypeId), w.heap[b]? = some (.cells cs ty (0, 0)) ∧ cs.size = B.c.length ∧ (∀ (i : Nat) (v : Value), cs[i]? = some v → v.oneCell' = true) ∧
    (∀ (i : Nat) (v : Value) (x : AV), cs[i]? = some v → B.c[i]? = some x → RV C ρ τ v x) ∧ (B.fz = true → ∀ (i : Nat) (v : Value), cs[i]? = some v → C b i = some v)
  fr : B.fz = false → ∀ o, C b o = none

/-- A live token: the slice's owner may append in place. -/
def TokW (C : CMap) (w : World) (v : Value) (sz : Nat) (G : Nat → Prop) : Prop :=
  ∃ A n c, v = .slice A n c ∧ (c = 0 ∨ ∃ (b : Nat) (cs : Array Value) (ty : TypeId), A = some ⟨b, 0, none⟩ ∧ w.heap[b]? = some (.cells cs ty (0, 0)) ∧ cs.size = c * sz ∧ n ≤ c ∧ c ≤ maxLen ∧
    (∀ o, n * sz ≤ o → C b o = none) ∧ G b)

def blk : Value → Option Nat
  | .slice (some a) _ c => if c = 0 then none else some a.block
  | _ => none

/-- Which blocks of the first world's may turn, and which of them are boxes that the caller named. -/
structure EX where
  f : Nat → Prop
  r : RMap
instance : CoeFun EX (fun _ => Nat → Prop) := ⟨EX.f⟩
def EX.none : EX := ⟨fun _ => False, noρ⟩

structure RepG (N : Nat) (w0 : World) (C0 : CMap) (E : EX) (s : St) (a : Act) (w : World) (C : CMap) (ρ : RMap) (τ : TMap) : Prop where
  df : a.defers = []
  sz : a.tmps.size = N
  tm : ∀ (t : Nat), RV C ρ τ (a.tmps.getD t undef) (s.t t)
  cw : ∀ b o v, C b o = some v → w.cell? ⟨b, o, none⟩ = some v ∧ v.oneCell' = true
  c0 : ∀ b o v, C0 b o = some v → C b o = some v
  c1 : ∀ b o v, b < w0.heap.size → C b o = some v → C0 b o = some v ∨ E b
  bx : ∀ k B, s.b k = some B → ∃ b, ρ k = some b ∧ BoxW C ρ τ w b B ∧ (w0.heap.size ≤ b ∨ E b)
  bj : ∀ k k' B B' b, s.b k = some B → s.b k' = some B' → ρ k = some b → ρ k' = some b → k = k'
  tk : ∀ k v n, τ k = some (v, n) → s.d k = false → TokW C w v n (fun b => (w0.heap.size ≤ b ∨ E b) ∧ ∀ k' B, s.b k' = some B → ρ k' ≠ some b)
  tj : ∀ k k' v v' n n' b, τ k = some (v, n) → τ k' = some (v', n') → s.d k = false → s.d k' = false → blk v = some b → blk v' = some b → k = k'
  fρ : ∀ k b, ρ k = some b → k.2.1 < s.g k.1
  fτ : ∀ k x, τ k = some x → k.2.1 < s.g k.1
  fo : ∀ k b, E.r k = some b → ρ k = some b
  fr : Fr w0 E.f w

def Rep (N : Nat) (w0 : World) (C0 : CMap) (E : EX) (s : St) (a : Act) (w : World) : Prop := ∃ C ρ τ, RepG N w0 C0 E s a w C ρ τ

end Go.Sy
