/- A region that draws its order comes to what the text's order comes to. -/
import Derived.Test.YtkhheblmgbiniaaMG1
import Derived.Orders
import Derived.IntWalk
import Derived.WalkSpells
import Derived.Test.YtkhheblmgbiniaaProg
import Derived.Test.YtkhheblmgbiniaaRows
import Derived.ProofKit
namespace Go.Sy
open Go Go.RowKit

variable {N : Nat} {w0 : World} {C0 : CMap} {E : EX} {s : St} {a : Act} {w : World} {C : CMap} {ρ : RMap} {τ : TMap} {P : Program} {o : Oper} {e : Eff} {ops : Array Oper}

/-! ### Folds, coordinate by coordinate -/
section folds
variable {V : Type} (f : Nat → St → St) (π : St → V)
def Dich : Prop := ∀ j, (∀ s, π (f j s) = π s) ∨ (∃ v, ∀ s, π (f j s) = v)
def Tch (j : Nat) : Prop := ¬ ∀ s, π (f j s) = π s
variable {f π}
theorem fold_same (hD : Dich f π) : ∀ (l : List Nat) (s s' : St), π s = π s' → π (l.foldl (fun s j => f j s) s) = π (l.foldl (fun s j => f j s) s')
  | [], _, _, h => h
  | j :: l, s, s', h => by
    simp only [List.foldl_cons]
    refine fold_same hD l _ _ ?_
    rcases hD j with hj | ⟨v, hj⟩
    · rw [hj, hj, h]
    · rw [hj, hj]
open Classical in
theorem fold_filter (hD : Dich f π) : ∀ (l : List Nat) (s : St), π (l.foldl (fun s j => f j s) s) = π ((l.filter fun j => decide (Tch f π j)).foldl (fun s j => f j s) s)
  | [], _ => rfl
  | j :: l, s => by
    by_cases hj : Tch f π j
    · rw [List.filter_cons_of_pos (by simpa using hj)]
      simp only [List.foldl_cons]
      exact fold_filter hD l _
    · rw [List.filter_cons_of_neg (by simpa using hj)]
      simp only [List.foldl_cons]
      have hj' : ∀ s, π (f j s) = π s := by unfold Tch at hj; exact Classical.not_not.1 hj
      rw [fold_same hD l _ s (hj' s)]
      exact fold_filter hD l s
end folds

theorem range_filter_lt {n i : Nat} (h : i ≤ n) : (List.range n).filter (fun j => decide (j < i)) = List.range i := by
  induction n with
  | zero => have : i = 0 := by omega
            subst this; rfl
  | succ n ih =>
    rw [List.range_succ, List.filter_append]
    by_cases hi : i ≤ n
    · rw [ih hi]; simp; omega
    · have : i = n + 1 := by omega
      subst this
      rw [List.range_succ]
      have h1 : (List.range n).filter (fun j => decide (j < n + 1)) = List.range n := by
        rw [List.filter_eq_self]
        intro x hx
        simp at hx ⊢
        omega
      rw [h1]
      simp

/-- The state behind the operations of a set. -/
noncomputable def SX (f : Nat → St → St) (n : Nat) (s : St) (X : Nat → Prop) : St := open Classical in ((List.range n).filter fun j => decide (X j)).foldl (fun s j => f j s) s

section sets
variable {V : Type} {f : Nat → St → St} {π : St → V} {n : Nat} {s : St} {X : Nat → Prop}
open Classical in
theorem SX_prefix (hD : Dich f π) {i : Nat} (hi : i ≤ n) (h : ∀ j, j < n → Tch f π j → (X j ↔ j < i)) : π (SX f n s X) = π ((List.range i).foldl (fun s j => f j s) s) := by
  unfold SX
  rw [fold_filter hD, fold_filter hD (List.range i)]
  congr 2
  rw [← range_filter_lt hi, List.filter_filter, List.filter_filter]
  apply List.filter_congr
  intro j hj
  have hj' : j < n := by simpa using hj
  by_cases ht : Tch f π j
  · have := h j hj' ht
    simp [ht, this]
  · simp [ht]

open Classical in
theorem SX_insert (hD : Dich f π) {i : Nat} (hi : i < n) (hX : ¬ X i) (h : Tch f π i → ∀ j, j < n → X j → Tch f π j → j < i) : π (SX f n s (fun j => X j ∨ j = i)) = π (f i (SX f n s X)) := by
  by_cases ht : Tch f π i
  · obtain ⟨v, hv⟩ : ∃ v, ∀ s, π (f i s) = v := (hD i).resolve_left ht
    rw [hv]
    unfold SX
    rw [fold_filter hD, List.filter_filter]
    have e : (List.range n).filter (fun j => decide (Tch f π j) && decide (X j ∨ j = i)) = ((List.range i).filter (fun j => decide (Tch f π j) && decide (X j))) ++ [i] := by
      have hs : List.range n = List.range i ++ i :: List.range' (i + 1) (n - i - 1) := by
        rw [List.range_eq_range', List.range_eq_range']
        have h1 : List.range' 0 n = List.range' 0 i ++ List.range' (0 + i) (n - i) := by
          rw [List.range'_append_1]; congr 1; omega
        rw [h1]
        congr 1
        rw [Nat.zero_add, show n - i = (n - i - 1) + 1 by omega, List.range'_succ]
        congr 2
      rw [hs, List.filter_append, List.filter_cons]
      have h2 : (decide (Tch f π i) && decide (X i ∨ i = i)) = true := by simp [ht]
      rw [if_pos h2]
      have h3 : (List.range' (i + 1) (n - i - 1)).filter (fun j => decide (Tch f π j) && decide (X j ∨ j = i)) = [] := by
        rw [List.filter_eq_nil_iff]
        intro j hj
        simp only [List.mem_range'_1] at hj
        simp only [Bool.and_eq_true, decide_eq_true_eq, not_and]
        intro hjt hjx
        rcases hjx with hjx | rfl
        · have := h ht j (by omega) hjx hjt; omega
        · omega
      rw [h3]
      congr 1
      apply List.filter_congr
      intro j hj
      have hj' : j < i := by simpa using hj
      have : j ≠ i := by omega
      simp [this]
    have key : ∀ l : List Nat, l = ((List.range i).filter (fun j => decide (Tch f π j) && decide (X j))) ++ [i] → π (l.foldl (fun s j => f j s) s) = v := by
      intro l hl
      rw [hl, List.foldl_append]
      exact hv _
    refine key _ (Eq.trans ?_ e)
    apply List.filter_congr
    intro a _
    by_cases ha : X a ∨ a = i <;> simp [ha]
  · have ht' : ∀ s, π (f i s) = π s := by unfold Tch at ht; exact Classical.not_not.1 ht
    rw [ht']
    unfold SX
    rw [fold_filter hD, fold_filter hD ((List.range n).filter fun j => decide (X j)), List.filter_filter, List.filter_filter]
    congr 2
    apply List.filter_congr
    intro j _
    by_cases hji : j = i
    · subst hji; simp [ht]
    · simp [hji]
end sets

/-! ### Recorded steps -/
def actS (γ : Nat → Nat) (d : Option Nat) (oe : Option Stp) (s : St) : St :=
  match oe with
  | none => s.skip d
  | some (.ec k v c kl g) =>
    { t := match d with | none => s.t | some d => upd s.t d v
      b := upd s.b k (some ⟨c, false⟩)
      d := upd (killO s.d kl) (k.1, g, 0) false
      g := upd s.g k.1 (g + 1) }
  | some (.ef e) => match d with
    | none => { s with b := sto s.b e.st }
    | some d =>
      { t := upd s.t d e.v
        b := match e.nb with | none => sto s.b e.st | some l => upd (sto s.b e.st) (d, γ d, 0) (some ⟨l, false⟩)
        d := crt d (γ d) e.nt (match e.kl with | none => s.d | some k => upd s.d k true)
        g := if e.nb.isSome || decide (0 < e.nt) then upd s.g d (γ d + 1) else s.g }

def nx (s : St) (d : Option Nat) : Option Stp → St
  | none => s.skip d
  | some p => s.stp d p

theorem actS_nx {γ : Nat → Nat} {s : St} {d : Option Nat} {oe : Option Stp} (h : ∀ d', d = some d' → s.g d' = γ d') (h2 : ∀ k v c kl g, oe = some (.ec k v c kl g) → g = s.g k.1) : actS γ d oe s = nx s d oe := by
  cases oe with
  | none => rfl
  | some p =>
    cases p with
    | ec k v c kl g =>
      have := h2 k v c kl g rfl
      subst this
      rfl
    | ef e =>
      cases d with
      | none => rfl
      | some d =>
        simp only [actS, nx, St.stp, St.app, h d rfl]
        cases e.nb <;> cases e.kl <;> rfl

theorem sto_dich (k : Key) : ∀ (l : List (Key × List AV)), (∀ f : Key → Option Box, sto f l k = f k) ∨ ((k ∈ l.map Prod.fst) ∧ ∃ v, ∀ f : Key → Option Box, sto f l k = v)
  | [] => .inl fun _ => rfl
  | (k', c) :: l => by
    rcases sto_dich k l with h | ⟨h0, v, h⟩
    · by_cases hk : k = k'
      · subst hk
        exact .inr ⟨by simp, some ⟨c, false⟩, fun f => by simp only [sto]; rw [h]; simp [upd]⟩
      · exact .inl fun f => by simp only [sto]; rw [h]; simp [upd, hk]
    · exact .inr ⟨by simp at h0 ⊢; exact .inr h0, v, fun f => by simp only [sto]; rw [h]⟩

theorem act_t {γ : Nat → Nat} (d : Option Nat) (oe : Option Stp) (u : Nat) : (∀ s, (actS γ d oe s).t u = s.t u) ∨ (d = some u ∧ ∃ v, ∀ s, (actS γ d oe s).t u = v) := by
  cases d with
  | none => cases oe with
    | none => exact .inl fun _ => rfl
    | some p => cases p <;> exact .inl fun _ => rfl
  | some d =>
    by_cases h : u = d
    · subst h
      cases oe with
      | none => exact .inr ⟨rfl, .tup [], fun s => by simp [actS, St.skip, St.set, upd]⟩
      | some p => cases p with
        | ef e => exact .inr ⟨rfl, e.v, fun s => by simp [actS, upd]⟩
        | ec k v c kl g => exact .inr ⟨rfl, v, fun s => by simp [actS, upd]⟩
    · cases oe with
      | none => exact .inl fun s => by simp [actS, St.skip, St.set, upd, h]
      | some p => cases p with
        | ef e => exact .inl fun s => by simp [actS, upd, h]
        | ec k v c kl g => exact .inl fun s => by simp [actS, upd, h]

/-- A step turns a call's box. -/
def isEc (oe : Option Stp) (k : Key) (kl : Option Key) (g : Nat) : Prop := ∃ v c, oe = some (.ec k v c kl g)

theorem act_g {γ : Nat → Nat} (d : Option Nat) (oe : Option Stp) (u : Nat) : (∀ s, (actS γ d oe s).g u = s.g u) ∨
    (((d = some u ∧ (∃ e, oe = some (.ef e)) ∧ ∀ s, (actS γ d oe s).g u = γ u + 1) ∨ ∃ k kl g, isEc oe k kl g ∧ k.1 = u ∧ ∀ s, (actS γ d oe s).g u = g + 1)) := by
  cases oe with
  | none => cases d <;> exact .inl fun _ => rfl
  | some p =>
    cases p with
    | ec k v c kl g =>
      by_cases h : u = k.1
      · exact .inr (.inr ⟨k, kl, g, ⟨v, c, rfl⟩, h.symm, fun s => by simp [actS, upd, h]⟩)
      · exact .inl fun s => by simp [actS, upd, h]
    | ef e =>
      cases d with
      | none => exact .inl fun _ => rfl
      | some d =>
        by_cases hc : (e.nb.isSome || decide (0 < e.nt)) = true
        · by_cases h : u = d
          · subst h; exact .inr (.inl ⟨rfl, ⟨e, rfl⟩, fun s => by simp [actS, hc, upd]⟩)
          · exact .inl fun s => by simp [actS, hc, upd, h]
        · exact .inl fun s => by simp [actS, hc]

theorem act_b {γ : Nat → Nat} (d : Option Nat) (oe : Option Stp) (k : Key) : (∀ s, (actS γ d oe s).b k = s.b k) ∨
    (((∃ e, oe = some (.ef e) ∧ k ∈ e.st.map Prod.fst) ∨ (d = some k.1 ∧ k.2.1 = γ k.1 ∧ ∃ e, oe = some (.ef e) ∧ (e.nb.isSome || decide (0 < e.nt)) = true) ∨ ∃ kl g, isEc oe k kl g) ∧ ∃ v, ∀ s, (actS γ d oe s).b k = v) := by
  cases oe with
  | none => cases d <;> exact .inl fun _ => rfl
  | some p =>
    cases p with
    | ec k' v c kl g =>
      by_cases h : k = k'
      · subst h; exact .inr ⟨.inr (.inr ⟨kl, g, v, c, rfl⟩), _, fun s => by simp [actS, upd]; rfl⟩
      · exact .inl fun s => by simp [actS, upd, h]
    | ef e =>
      cases d with
      | none =>
        rcases sto_dich k e.st with h | ⟨h0, v, h⟩
        · exact .inl fun s => h s.b
        · exact .inr ⟨.inl ⟨e, rfl, h0⟩, v, fun s => h s.b⟩
      | some d =>
        cases hn : e.nb with
        | none =>
          rcases sto_dich k e.st with h | ⟨h0, v, h⟩
          · exact .inl fun s => by simp only [actS, hn]; exact h s.b
          · exact .inr ⟨.inl ⟨e, rfl, h0⟩, v, fun s => by simp only [actS, hn]; exact h s.b⟩
        | some l =>
          by_cases hk : k = (d, γ d, 0)
          · subst hk
            exact .inr ⟨.inr (.inl ⟨rfl, rfl, e, rfl, by simp [hn]⟩), some ⟨l, false⟩, fun s => by simp [actS, hn, upd]⟩
          · rcases sto_dich k e.st with h | ⟨h0, v, h⟩
            · exact .inl fun s => by simp only [actS, hn, upd_ne _ _ hk]; exact h s.b
            · exact .inr ⟨.inl ⟨e, rfl, h0⟩, v, fun s => by simp only [actS, hn, upd_ne _ _ hk]; exact h s.b⟩

theorem act_d {γ : Nat → Nat} (d : Option Nat) (oe : Option Stp) (k : Key) : (∀ s, (actS γ d oe s).d k = s.d k) ∨
    (((d = some k.1 ∧ k.2.1 = γ k.1 ∧ ∃ e, oe = some (.ef e) ∧ (e.nb.isSome || decide (0 < e.nt)) = true) ∨ (∃ e, oe = some (.ef e) ∧ e.kl = some k) ∨ ∃ k0 kl g, isEc oe k0 kl g ∧ (kl = some k ∨ k = (k0.1, g, 0))) ∧ ∃ v, ∀ s, (actS γ d oe s).d k = v) := by
  cases oe with
  | none => cases d <;> exact .inl fun _ => rfl
  | some p =>
    cases p with
    | ec k0 v c kl g =>
      by_cases h : k = (k0.1, g, 0)
      · exact .inr ⟨.inr (.inr ⟨k0, kl, g, ⟨v, c, rfl⟩, .inr h⟩), false, fun s => by simp [actS, upd, h]⟩
      · cases kl with
        | none => exact .inl fun s => by simp [actS, upd, h, killO]
        | some k' =>
          by_cases hk : k = k'
          · exact .inr ⟨.inr (.inr ⟨k0, _, g, ⟨v, c, rfl⟩, .inl (by rw [hk])⟩), true, fun s => by simp only [actS, upd_ne _ _ h, killO]; simp [upd, hk]⟩
          · exact .inl fun s => by simp only [actS, upd_ne _ _ h, killO]; simp [upd, hk]
    | ef e =>
      cases d with
      | none => exact .inl fun _ => rfl
      | some d =>
        by_cases hc : k.1 = d ∧ k.2.1 = γ d ∧ k.2.2 < e.nt
        · refine .inr ⟨.inl ⟨by rw [hc.1], by rw [hc.1]; exact hc.2.1, e, rfl, by simp; omega⟩, false, fun s => ?_⟩
          simp only [actS, crt, if_pos hc]
        · cases hk : e.kl with
          | none => exact .inl fun s => by simp only [actS, crt, if_neg hc, hk]
          | some k' =>
            by_cases hkk : k = k'
            · subst hkk
              exact .inr ⟨.inr (.inl ⟨e, rfl, hk⟩), true, fun s => by simp only [actS, crt, if_neg hc, hk]; simp [upd]⟩
            · exact .inl fun s => by simp only [actS, crt, if_neg hc, hk]; simp [upd, hkk]

end Go.Sy

/- What an operation's reckoning hangs on. -/
namespace Go.Sy
open Go Go.RowKit

variable {N : Nat} {w0 : World} {C0 : CMap} {E : EX} {s s' : St} {a : Act} {w : World} {C : CMap} {ρ : RMap} {τ : TMap} {P : Program} {o : Oper} {e : Eff} {ops : Array Oper}

def isSt (o : Oper) : Bool := match o.op with | .store .. => true | _ => false
def accB (o : Oper) : Bool := match o.op with | .store .. | .load .. | .makeFunc .. => true | _ => false
def isApp (o : Oper) : Bool := match o.op with | .call { callee := .builtin .append, .. } => true | _ => false

def tmpOf : Operand → Option Nat
  | .tmp x => some x
  | _ => none
/-- The slots that lead to what the operation reads or writes. -/
def addrs (o : Oper) : List Nat := match o.op with
  | .load _ x | .store _ x _ => (tmpOf x).toList
  | .makeFunc _ f cs => (f ++ cs).toList.filterMap tmpOf
  | _ => []
def recv (o : Oper) : Option Operand := match o.op with
  | .call { args, .. } => args.toList.head?
  | _ => none

/-- Two states that an operation cannot tell apart. -/
structure Alike (P : Program) (o : Oper) (s s' : St) : Prop where
  t : ∀ x ∈ o.op.operands, ∀ t, s.o P t x = s'.o P t x
  g : isSt o = false → s.g (o.dst.getD 0) = s'.g (o.dst.getD 0)
  b : ∀ y ∈ addrs o, ∀ k off, s.t y = .box k off → s.b k = s'.b k
  d : isApp o = true → ∀ y, recv o = some (.tmp y) → ∀ sz xs k, s.t y = .list sz xs (.own k) → s.d k = s'.d k

theorem o_box {x : Operand} {t : TypeId} {k : Key} {off : Nat} (h : s.o P t x = .box k off) : ∃ y, x = .tmp y ∧ s.t y = .box k off := by
  cases x with
  | tmp y => exact ⟨y, rfl, h⟩
  | const v =>
    simp only [St.o] at h
    unfold cst at h
    split at h
    · cases h
    · split at h <;> cases h
    · split at h <;> cases h
  | global g => cases h
  | func f => cases h
theorem o_own {x : Operand} {t : TypeId} {sz : Nat} {xs : List (List AV)} {k : Key} (h : s.o P t x = .list sz xs (.own k)) : ∃ y, x = .tmp y ∧ s.t y = .list sz xs (.own k) := by
  cases x with
  | tmp y => exact ⟨y, rfl, h⟩
  | const v =>
    simp only [St.o] at h
    unfold cst at h
    split at h
    · cases h
    · split at h <;> cases h
    · split at h <;> cases h
  | global g => cases h
  | func f => cases h

theorem argsAV_congr : ∀ (xs : List Operand) (ts : List TypeId), (∀ x ∈ xs, ∀ t, s.o P t x = s'.o P t x) → argsAV P s xs ts = argsAV P s' xs ts
  | [], _, _ => rfl
  | _ :: _, [], _ => rfl
  | x :: xs, t :: ts, h => by
    have h1 := h x (List.mem_cons_self ..) t
    have h2 := argsAV_congr xs ts (fun y hy => h y (List.mem_cons_of_mem _ hy))
    simp only [argsAV, List.zipWith_cons_cons] at h2 ⊢
    rw [h1, h2]

theorem capAV_congr : ∀ (xs : List AV), (∀ k off, AV.box k off ∈ xs → s.b k = s'.b k) → capAV s xs = capAV s' xs
  | [], _ => rfl
  | x :: xs, h => by
    have ih := capAV_congr xs (fun k off hk => h k off (List.mem_cons_of_mem _ hk))
    cases x with
    | box k off =>
      cases off with
      | zero =>
        have hb := h k 0 (List.mem_cons_self ..)
        simp only [capAV, hb, ih]
      | succ off => rfl
    | ptr l => simp only [capAV, ih]
    | _ => rfl

theorem parts_congr {ps : Array (Nat × Operand)} (f : Nat → TypeId) (h : ∀ x ∈ (ps.toList.map (·.2)).toArray, ∀ t, s.o P t x = s'.o P t x) :
    (ps.toList.map fun p => (p.1, s.o P (f p.1) p.2)) = (ps.toList.map fun p => (p.1, s'.o P (f p.1) p.2)) := by
  apply List.map_congr_left
  intro p hp
  rw [h p.2 (by simp; exact ⟨p.1, by simpa using hp⟩)]

theorem ev_congr (h : Alike P o s s') : ev P s o = ev P s' o := by
  obtain ⟨ht, hg, hb, hd⟩ := h
  obtain ⟨dst, op, ty, pos, after, guard⟩ := o
  simp only [isSt] at hg
  cases op with
  | move x => simp only [ev]; rw [ht x (by simp [Op.operands])]
  | assign x => simp only [ev]; rw [ht x (by simp [Op.operands])]
  | pick c x y => simp only [ev]; rw [ht c (by simp [Op.operands]), ht x (by simp [Op.operands]), ht y (by simp [Op.operands])]
  | alloc t => simp only [ev]; rw [hg rfl]
  | box t x => simp only [ev]; rw [ht x (by simp [Op.operands]), hg rfl]
  | build t ps => simp only [ev]; rw [parts_congr (ptype P t) (by simpa [Op.operands] using ht)]
  | buildSlice t n ps => simp only [ev]; rw [parts_congr (ptype P t) (by simpa [Op.operands] using ht), hg rfl]
  | load t x =>
    have h1 := ht x (by simp [Op.operands]) 0
    simp only [ev]
    rw [← h1]
    cases hx : s.o P 0 x with
    | box k off =>
      obtain ⟨y, rfl, hy⟩ := o_box hx
      simp only [hb y (by simp [addrs, tmpOf]) k off hy]
    | _ => rfl
  | store t x y =>
    have h1 := ht x (by simp [Op.operands]) 0
    have h3 := ht y (by simp [Op.operands]) t
    simp only [ev]
    rw [← h1, ← h3]
    cases hx : s.o P 0 x with
    | box k off =>
      obtain ⟨z, rfl, hz⟩ := o_box hx
      cases hc : cells? (s.o P t y) with
      | none => rfl
      | some c => simp only [hb z (by simp [addrs, tmpOf]) k off hz]
    | _ => rfl
  | nilCheck x => simp only [ev]; rw [ht x (by simp [Op.operands])]
  | binOp op t x y u => simp only [ev]; rw [ht x (by simp [Op.operands]), ht y (by simp [Op.operands])]
  | unOp op t x => simp only [ev]; rw [ht x (by simp [Op.operands])]
  | convert t u x => simp only [ev]; rw [ht x (by simp [Op.operands])]
  | fieldAddr t x f => simp only [ev]; rw [ht x (by simp [Op.operands])]
  | indexAddr t x i => simp only [ev]; rw [ht x (by simp [Op.operands]), ht i (by simp [Op.operands])]
  | extract x i => simp only [ev]; rw [ht x (by simp [Op.operands])]
  | makeSlice t x y => simp only [ev]; rw [ht x (by simp [Op.operands]), ht y (by simp [Op.operands]), hg rfl]
  | makeFunc fn first caps =>
    cases fn with
    | func f =>
      simp only [ev]
      have e1 : caps.toList.map (s.o P 0) = caps.toList.map (s'.o P 0) := by
        apply List.map_congr_left
        intro x hx
        exact ht x (by simp [Op.operands]; exact .inr (by simpa using hx)) 0
      rw [← e1, capAV_congr (s := s) (s' := s') _ (fun k off hk => ?_)]
      obtain ⟨x, hx, hxk⟩ := List.mem_map.1 hk
      obtain ⟨z, rfl, hz⟩ := o_box hxk
      exact hb z (by simp only [addrs, List.mem_filterMap]; exact ⟨.tmp z, by simp; exact .inr (by simpa using hx), rfl⟩) k off hz
    | _ => rfl
  | slice t x lo hi mx =>
    cases lo with
    | some _ => rfl
    | none =>
      cases hi with
      | none => rfl
      | some hi =>
        cases mx with
        | some _ => rfl
        | none => simp only [ev]; rw [ht x (by simp [Op.operands]), ht hi (by simp [Op.operands])]
  | call c =>
    obtain ⟨callee, args, ts⟩ := c
    cases callee with
    | value f => rfl
    | invoke r m => rfl
    | builtin b =>
      have hargs : ∀ x ∈ args.toList, ∀ t, s.o P t x = s'.o P t x := fun x hx => ht x (by simp [Op.operands, Call.operands]; simpa using hx)
      cases b with
      | len =>
        simp only [ev]
        split
        · rename_i x t hx _
          rw [hargs x (by rw [hx]; simp)]
        · rfl
      | append =>
        simp only [ev]
        split
        · rename_i x y t t' hx _
          have h1 := hargs x (by rw [hx]; simp) t
          have h2 := hargs y (by rw [hx]; simp) t'
          rw [← h1, ← h2, hg rfl]
          cases hlx : s.o P t x with
          | list sz xs tk =>
            have htok : tokOK s tk = tokOK s' tk := by
              cases tk with
              | own k =>
                obtain ⟨z, rfl, hz⟩ := o_own hlx
                have := hd rfl z (by simp [recv, hx]) sz xs k hz
                simp only [tokOK, this]
              | _ => rfl
            cases hly : s.o P t' y with
            | list sz' ys tk' => simp only [htok]
            | _ => rfl
          | _ => rfl
        · rfl
      | max =>
        simp only [ev]
        split
        · rename_i x y hx
          rw [hargs x (by rw [hx]; simp), hargs y (by rw [hx]; simp)]
        · rfl
      | min =>
        simp only [ev]
        split
        · rename_i x y hx
          rw [hargs x (by rw [hx]; simp), hargs y (by rw [hx]; simp)]
        · rfl
      | _ => rfl
  | _ => rfl

theorem Ev_congr (h : Alike P o s s') (he : Ev P s o e) : Ev P s' o e := by
  rcases he with he | he
  · exact .inl (by rw [← ev_congr h]; exact he)
  · refine .inr ?_
    unfold CallEv at he ⊢
    split at he
    · rename_i g args ts ho
      obtain ⟨f, caps, hg, hts, hcl, hor⟩ := he
      have hargs : ∀ x ∈ args.toList, ∀ t, s.o P t x = s'.o P t x := fun x hx => h.t x (by rw [ho]; simp [Op.operands, Call.operands]; exact .inr (by simpa using hx))
      have hst : isSt o = false := by simp [isSt, ho]
      have hcg := h.t g (by rw [ho]; simp [Op.operands, Call.operands]) 0
      have e1 := argsAV_congr args.toList ts.toList hargs
      refine ⟨f, caps, by rw [← hcg]; exact hg, hts, by rw [← e1]; exact hcl, ?_⟩
      rcases hor with ⟨n, r, hcon, rfl⟩ | ⟨m, n, l, hcon, rfl⟩
      · exact .inl ⟨n, r, by rw [← e1]; exact hcon, by rw [h.g hst]⟩
      · exact .inr ⟨m, n, l, by rw [← e1]; exact hcon, by rw [h.g hst]⟩
    · exact he.elim

def pcall (P : Program) (o : Oper) : Bool := match o.op with
  | .call { callee := .value _, args, argTypes } => (match args.toList, argTypes.toList with
    | _ :: _, t0 :: _ => isPtrT P t0
    | _, _ => false)
  | _ => false
theorem EEvK_congr {k : Key} {v : AV} {c : List AV} {kl : Option Key} (ht : ∀ x ∈ o.op.operands, ∀ t, s.o P t x = s'.o P t x) (hb : s.b k = s'.b k) (hg : s.g k.1 = s'.g k.1) (hd : ∀ k', kl = some k' → s.d k' = s'.d k')
    (h : EEvK P s o k v c kl) : EEvK P s' o k v c kl := by
  unfold EEvK at h ⊢
  split at h
  · rename_i g args ts ho
    obtain ⟨f, x0, xs, t0, ts, pre, x, pre', x', h1, h2, h3, h4, h5, h6, h7, h8, h9, h10, h11, rfl, rfl⟩ := h
    have hargs : ∀ x ∈ args.toList, ∀ t, s.o P t x = s'.o P t x := fun x hx => ht x (by rw [ho]; simp [Op.operands, Call.operands]; exact .inr (by simpa using hx))
    have e1 := argsAV_congr xs ts (fun x hx => hargs x (by rw [h2]; exact List.mem_cons_of_mem _ hx))
    have hx : lastOK s' x = true := by
      cases x with
      | list sz xs tk =>
        cases tk with
        | own k' =>
          have := hd k' rfl
          simp only [lastOK, this] at h9 ⊢
          exact h9
        | _ => rfl
      | _ => exact h9
    refine ⟨f, x0, xs, t0, ts, pre, x, pre', x', ?_, h2, h3, h4, h5, ?_, ?_, h8, hx, ?_, ?_, ?_, rfl⟩
    · rw [← ht g (by rw [ho]; simp [Op.operands, Call.operands])]; exact h1
    · rw [← hargs x0 (by rw [h2]; exact List.mem_cons_self ..)]; exact h6
    · rw [← hb]; exact h7
    · rw [← e1]; exact h10
    · rw [← e1]; exact h11
    · rw [hg]
  · exact h.elim

theorem EEvK_facts {k : Key} {v : AV} {c : List AV} {kl : Option Key} (h : EEvK P s o k v c kl) : pcall P o = true ∧ (∃ x0 ∈ o.op.operands, recv o = some x0 ∧ ∃ t, s.o P t x0 = .box k 0) ∧
    (∀ k', kl = some k' → s.d k' = false ∧ ∃ pre sz xs, s.b k = some ⟨pre ++ [.list sz xs (.own k')], false⟩) := by
  unfold EEvK at h
  split at h
  · rename_i g args ts ho
    obtain ⟨f, x0, xs, t0, ts, pre, x, pre', x', h1, h2, h3, h4, h5, h6, h7, h8, h9, h10, h11, rfl, rfl⟩ := h
    refine ⟨by simp [pcall, ho, h2, h3, h5], ⟨x0, ?_, by simp [recv, ho, h2], t0, h6⟩, ?_⟩
    · have : x0 ∈ args.toList := by rw [h2]; simp
      rw [ho]; simp [Op.operands, Call.operands]; exact .inr (by simpa using this)
    · intro k' hk'
      cases x with
      | list sz xs tk =>
        cases tk with
        | own k2 =>
          simp [lastKey, tokKey] at hk'
          subst hk'
          exact ⟨by simpa [lastOK] using h9, pre, sz, xs, h7⟩
        | _ => simp [lastKey, tokKey] at hk'
      | _ => simp [lastKey] at hk'
  · exact h.elim

/-- A call that turns nothing points at no box. -/
theorem Ev_recv (he : Ev P s o e) (hp : pcall P o = true) {x0 : Operand} (hx : recv o = some x0) {k : Key} {off : Nat} (hb : ∀ t, s.o P t x0 = .box k off) : False := by
  unfold pcall at hp
  split at hp
  · rename_i g args ts ho
    split at hp
    · rename_i y ys t0 ts' h1 h2
      rcases he with he | he
      · simp [ev, ho] at he
      · unfold CallEv at he
        rw [ho] at he
        obtain ⟨f, caps, _, _, hcl, _⟩ := he
        simp [recv, ho, h1] at hx
        subst hx
        rw [h1, h2] at hcl
        simp [argsAV, hb, fgtV, fgt, cleanV, clean] at hcl
    · cases hp
  · cases hp

/-- What is stored to, what is killed: named by an operand. -/
theorem ev_st (he : Ev P s o e) {k : Key} (hk : k ∈ e.st.map Prod.fst) : isSt o = true ∧ ∃ y ∈ addrs o, ∃ off, s.t y = .box k off := by
  rcases he with he | he
  · obtain ⟨dst, op, ty, pos, after, guard⟩ := o
    cases op with
    | store t x y =>
      simp only [ev] at he
      split at he
      case h_2 => cases he
      rename_i k' off c hx hc
      split at he
      case h_2 => cases he
      split at he
      case isFalse => cases he
      cases he
      simp at hk
      subst hk
      obtain ⟨z, rfl, hz⟩ := o_box hx
      exact ⟨rfl, z, by simp [addrs, tmpOf], off, hz⟩
    | call c =>
      exfalso
      obtain ⟨callee, args, ts⟩ := c
      cases callee with
      | builtin b =>
        cases b <;> simp only [ev, reduceCtorEq] at he <;> (repeat' split at he) <;> first | (cases he; done) | (cases he; simp at hk)
      | _ => simp [ev] at he
    | makeFunc fn first caps => cases fn <;> simp only [ev, reduceCtorEq] at he <;> (split at he) <;> first | (cases he; done) | (obtain ⟨_, _, rfl⟩ := Option.map_eq_some_iff.1 he; simp at hk)
    | slice t x lo hi mx =>
      exfalso
      cases lo <;> cases hi <;> cases mx <;> simp only [ev, reduceCtorEq] at he
      (repeat' split at he) <;> first | (cases he; done) | (cases he; simp at hk)
    | _ =>
      exfalso
      first
        | (simp only [ev, reduceCtorEq] at he; done)
        | (simp only [ev] at he; obtain ⟨_, _, rfl⟩ := Option.map_eq_some_iff.1 he; simp at hk; done)
        | (simp only [ev] at he; cases he; simp at hk; done)
        | (simp only [ev] at he; (repeat' split at he) <;> first | (cases he; done) | (cases he; simp at hk; done) | (obtain ⟨_, _, rfl⟩ := Option.map_eq_some_iff.1 he; simp at hk; done))
  · unfold CallEv at he
    split at he
    · obtain ⟨f, caps, _, _, _, ⟨n, r, _, rfl⟩ | ⟨m, n, l, _, rfl⟩⟩ := he
      · simp at hk
      · simp at hk
    · exact he.elim

theorem ev_kl (he : Ev P s o e) {k : Key} (hk : e.kl = some k) : isApp o = true ∧ o.dst.isSome = true ∧ ∃ y, recv o = some (.tmp y) ∧ ∃ sz xs, s.t y = .list sz xs (.own k) ∧ s.d k = false := by
  rcases he with he | he
  · obtain ⟨dst, op, ty, pos, after, guard⟩ := o
    cases op with
    | call c =>
      obtain ⟨callee, args, ts⟩ := c
      cases callee with
      | builtin b =>
        cases b with
        | append =>
          simp only [ev] at he
          split at he
          case h_2 => cases he
          rename_i x y t t' hx ht
          split at he
          case h_2 => cases he
          rename_i sz xs tk sz' ys tk' hlx hly
          split at he
          case isFalse => cases he
          rename_i hcond
          cases he
          cases tk with
          | own k' =>
            simp only [tokKey, Option.some.injEq] at hk
            subst hk
            obtain ⟨z, rfl, hz⟩ := o_own hlx
            refine ⟨rfl, hcond.1, z, by simp [recv, hx], sz, xs, hz, ?_⟩
            have := hcond.2.2.2.2.2.1
            simpa [tokOK] using this
          | _ => simp [tokKey] at hk
        | _ => exfalso; simp only [ev, reduceCtorEq] at he <;> (repeat' split at he) <;> first | (cases he; done) | (cases he; simp at hk)
      | _ => simp [ev] at he
    | makeFunc fn first caps => cases fn <;> simp only [ev, reduceCtorEq] at he <;> (split at he) <;> first | (cases he; done) | (obtain ⟨_, _, rfl⟩ := Option.map_eq_some_iff.1 he; simp at hk)
    | slice t x lo hi mx =>
      exfalso
      cases lo <;> cases hi <;> cases mx <;> simp only [ev, reduceCtorEq] at he
      (repeat' split at he) <;> first | (cases he; done) | (cases he; simp at hk)
    | _ =>
      exfalso
      first
        | (simp only [ev, reduceCtorEq] at he; done)
        | (simp only [ev] at he; obtain ⟨_, _, rfl⟩ := Option.map_eq_some_iff.1 he; simp at hk; done)
        | (simp only [ev] at he; cases he; simp at hk; done)
        | (simp only [ev] at he; (repeat' split at he) <;> first | (cases he; done) | (cases he; simp at hk; done) | (obtain ⟨_, _, rfl⟩ := Option.map_eq_some_iff.1 he; simp at hk; done))
  · unfold CallEv at he
    split at he
    · obtain ⟨f, caps, _, _, _, ⟨n, r, _, rfl⟩ | ⟨m, n, l, _, rfl⟩⟩ := he
      · simp at hk
      · simp at hk
    · exact he.elim

/-- An append lets its owner's token die. -/
theorem ev_app (he : Ev P s o e) (ho : isApp o = true) {y : Nat} (hy : recv o = some (.tmp y)) {sz : Nat} {xs : List (List AV)} {k : Key} (hk : s.t y = .list sz xs (.own k)) : e.kl = some k := by
  unfold isApp at ho
  split at ho
  case h_2 => cases ho
  rename_i args ts hop
  rcases he with he | he
  · simp only [ev, hop] at he
    split at he
    case h_2 => cases he
    rename_i x z t t' hx ht
    simp [recv, hop, hx] at hy
    subst hy
    split at he
    case h_2 => cases he
    rename_i sz' xs' tk sz2 ys tk' hlx hly
    simp only [St.o, hk] at hlx
    cases hlx
    split at he
    case isFalse => cases he
    cases he
    rfl
  · unfold CallEv at he
    rw [hop] at he
    exact he.elim

end Go.Sy

/- A region that draws its order may be walked in the text's order. -/
namespace Go.Sy
open Go Go.RowKit

variable {N : Nat} {w0 : World} {C0 : CMap} {E : EX} {s s' : St} {a : Act} {w : World} {C : CMap} {ρ : RMap} {τ : TMap} {P : Program} {o o' : Oper} {e : Eff} {ops : Array Oper} {l : List Ap}

/-! ### Which operation must come before which -/
inductive AncR (ops : Array Oper) : Nat → Nat → Prop
  | one {i : Nat} {o : Oper} {e : Edge} (h : ops[i]? = some o) (he : e ∈ o.after) (hb : Region.binds .any e = true) : AncR ops i e.on
  | more {i j : Nat} {o : Oper} {e : Edge} (h : ops[i]? = some o) (he : e ∈ o.after) (hb : Region.binds .any e = true) (hr : AncR ops e.on j) : AncR ops i j
def OrdR (ops : Array Oper) (i j : Nat) : Prop := AncR ops i j ∨ AncR ops j i

def maskOf (acc : List Nat) (es : List Edge) (m : Nat) : Nat := es.foldl (fun m e => if Region.binds .any e then m ||| (2 ^ e.on) ||| acc.getD e.on 0 else m) m
def masks : List Oper → List Nat → List Nat
  | [], acc => acc
  | o :: r, acc => masks r (acc ++ [maskOf acc o.after.toList 0])
def ordB (M : List Nat) (i j : Nat) : Bool := (M.getD i 0).testBit j || (M.getD j 0).testBit i

theorem maskOf_sound {acc : List Nat} (hacc : ∀ k j, (acc.getD k 0).testBit j = true → AncR ops k j) {i : Nat} (hi : ops[i]? = some o) :
    ∀ (es : List Edge) (m : Nat), (∀ e ∈ es, e ∈ o.after) → (∀ j, m.testBit j = true → AncR ops i j) → ∀ j, (maskOf acc es m).testBit j = true → AncR ops i j
  | [], m, _, hm, j, h => hm j h
  | e :: es, m, hes, hm, j, h => by
    refine maskOf_sound hacc hi es _ (fun e he => hes e (List.mem_cons_of_mem _ he)) ?_ j h
    intro j' hj'
    simp only at hj'
    split at hj'
    · rename_i hb
      simp only [Nat.testBit_or, Bool.or_eq_true] at hj'
      rcases hj' with (hj' | hj') | hj'
      · exact hm _ hj'
      · rw [Nat.testBit_two_pow] at hj'
        have : e.on = j' := by simpa using hj'
        subst this
        exact .one hi (hes e (List.mem_cons_self ..)) hb
      · exact .more hi (hes e (List.mem_cons_self ..)) hb (hacc _ _ hj')
    · exact hm _ hj'

theorem masks_sound : ∀ (r : List Oper) (acc : List Nat) (pre : List Oper), ops.toList = pre ++ r → pre.length = acc.length → (∀ k j, (acc.getD k 0).testBit j = true → AncR ops k j) → ∀ k j, ((masks r acc).getD k 0).testBit j = true → AncR ops k j
  | [], acc, _, _, _, hacc => hacc
  | o :: r, acc, pre, hops, hlen, hacc => by
    refine masks_sound r (acc ++ [maskOf acc o.after.toList 0]) (pre ++ [o]) (by simp [hops]) (by simp [hlen]) ?_
    intro k j hk
    have hi : ops[pre.length]? = some o := by rw [← Array.getElem?_toList, hops]; simp
    rcases Nat.lt_or_ge k acc.length with h | h
    · rw [List.getD_eq_getElem?_getD, List.getElem?_append_left h, ← List.getD_eq_getElem?_getD] at hk
      exact hacc _ _ hk
    · rw [List.getD_eq_getElem?_getD, List.getElem?_append_right h] at hk
      by_cases hk0 : k = acc.length
      · subst hk0
        simp at hk
        rw [← hlen]
        exact maskOf_sound hacc hi _ 0 (fun e he => by simpa using he) (fun j hj => by simp at hj) j hk
      · have : k - acc.length ≠ 0 := by omega
        obtain ⟨q, hq⟩ := Nat.exists_eq_succ_of_ne_zero this
        rw [hq] at hk
        simp at hk

/-! ### The test -/
def dstsOf (ops : Array Oper) : List Nat := ops.toList.filterMap (·.dst)
def isTmp (x : Nat) : Option Operand → Bool
  | some (.tmp y) => x == y
  | _ => false
def one1 (P : Program) (l : List Ap) (ops : Array Oper) (M : List Nat) (o : Oper) (i : Nat) : Bool :=
  (o.after.toList.all fun e => !Region.binds .any e || decide (e.on < i)) && (o.dst.isSome || isSt o || pcall P o) &&
  (match o.dst with | some d => !(Oper.looksAt ops o).contains d | none => true) &&
  (!pcall P o || l.any fun q => isTmp q.1 (recv o) && (dstsOf ops).all q.2.2.contains && (ops.toList.zipIdx.all fun p => !accB p.1 || ordB M i p.2 || i == p.2 || (addrs p.1).all q.2.1.contains))
def two1 (P : Program) (l : List Ap) (ops : Array Oper) (M : List Nat) (o : Oper) (i : Nat) (o' : Oper) (j : Nat) : Bool :=
  i == j || ((match o'.dst with | some d => (!(Oper.looksAt ops o).contains d || (M.getD i 0).testBit j || (l.isEmpty && (M.getD j 0).testBit i)) && (match o.dst with | some d' => d != d' | none => true) | none => true) &&
    (!(isSt o' && accB o) || ordB M i j || (addrs o').all fun x => l.any fun q => q.1 == x && (addrs o).all q.2.1.contains) && (!(pcall P o && (pcall P o' || isApp o')) || ordB M i j))
def drawOK (P : Program) (l : List Ap) (ops : Array Oper) : Bool :=
  let M := masks ops.toList []
  ops.toList.zipIdx.all fun p => one1 P l ops M p.1 p.2 && ops.toList.zipIdx.all fun q => two1 P l ops M p.1 p.2 q.1 q.2

structure OKs (P : Program) (l : List Ap) (ops : Array Oper) : Prop where
  back : ∀ i o, ops[i]? = some o → ∀ e ∈ o.after, Region.binds .any e = true → e.on < i
  dst1 : ∀ (i : Nat) o, ops[i]? = some o → o.dst.isSome = true ∨ isSt o = true ∨ pcall P o = true
  self : ∀ (i : Nat) o d, ops[i]? = some o → o.dst = some d → d ∉ Oper.looksAt ops o
  cov : ∀ (i : Nat) o, ops[i]? = some o → pcall P o = true → ∃ x ys ds, (x, ys, ds) ∈ l ∧ recv o = some (.tmp x) ∧ (∀ (j : Nat) o' d, ops[j]? = some o' → o'.dst = some d → d ∈ ds) ∧
    (∀ (j : Nat) o', ops[j]? = some o' → accB o' = true → j ≠ i → OrdR ops i j ∨ ∀ y ∈ addrs o', y ∈ ys)
  dist : ∀ (i j : Nat) o o' d, ops[i]? = some o → ops[j]? = some o' → o.dst = some d → o'.dst = some d → i = j
  look : ∀ (i j : Nat) o o' d, ops[i]? = some o → ops[j]? = some o' → i ≠ j → o'.dst = some d → d ∈ Oper.looksAt ops o → OrdR ops i j
  last : l ≠ [] → ∀ (i j : Nat) o o' d, ops[i]? = some o → ops[j]? = some o' → i ≠ j → o'.dst = some d → d ∈ Oper.looksAt ops o → AncR ops i j
  st : ∀ (i j : Nat) o o', ops[i]? = some o → ops[j]? = some o' → i ≠ j → isSt o' = true → accB o = true → OrdR ops i j ∨ ∀ x ∈ addrs o', ∃ ys ds, (x, ys, ds) ∈ l ∧ ∀ y ∈ addrs o, y ∈ ys
  pp : ∀ (i j : Nat) o o', ops[i]? = some o → ops[j]? = some o' → i ≠ j → pcall P o = true → (pcall P o' = true ∨ isApp o' = true) → OrdR ops i j

theorem drawOK_sound (h : drawOK P l ops = true) : OKs P l ops := by
  unfold drawOK at h
  have hM : ∀ k j, ((masks ops.toList []).getD k 0).testBit j = true → AncR ops k j := masks_sound ops.toList [] [] (by simp) rfl (fun k j hk => by simp at hk)
  generalize masks ops.toList [] = M at h hM
  simp only [List.all_eq_true] at h
  have hz : ∀ {i : Nat} {o : Oper}, ops[i]? = some o → (o, i) ∈ ops.toList.zipIdx := by
    intro i o hi
    rw [List.mem_zipIdx_iff_getElem?]
    simpa using hi
  have hord : ∀ {i j : Nat}, ordB M i j = true → OrdR ops i j := by
    intro i j hij
    simp only [ordB, Bool.or_eq_true] at hij
    exact hij.imp (hM _ _) (hM _ _)
  have h1 : ∀ {i : Nat} {o : Oper}, ops[i]? = some o → one1 P l ops M o i = true := fun hi => (Bool.and_eq_true _ _ ▸ h _ (hz hi)).1
  have h2 : ∀ {i j : Nat} {o o' : Oper}, ops[i]? = some o → ops[j]? = some o' → two1 P l ops M o i o' j = true := by
    intro i j o o' hi hj
    have := (Bool.and_eq_true _ _ ▸ h _ (hz hi)).2
    exact List.all_eq_true.1 this _ (hz hj)
  constructor
  · intro i o hi e he hb
    have := h1 hi
    simp only [one1, Bool.and_eq_true, List.all_eq_true] at this
    have := this.1.1.1 e (by simpa using he)
    simpa [hb] using this
  · intro i o hi
    have := h1 hi
    simp only [one1, Bool.and_eq_true, Bool.or_eq_true] at this
    rcases this.1.1.2 with (h | h) | h
    · exact .inl h
    · exact .inr (.inl h)
    · exact .inr (.inr h)
  · intro i o d hi hd
    have := h1 hi
    simp only [one1, Bool.and_eq_true, hd] at this
    simpa using this.1.2
  · intro i o hi hp
    have := h1 hi
    simp only [one1, Bool.and_eq_true, hp, Bool.not_true, Bool.false_or, List.any_eq_true] at this
    obtain ⟨⟨x, ys, ds⟩, hq, ⟨hx, hds⟩, hacc⟩ := this.2
    refine ⟨x, ys, ds, hq, ?_, ?_, ?_⟩
    · revert hx
      simp only
      cases recv o with
      | none => intro hx; simp [isTmp] at hx
      | some y => cases y <;> simp [isTmp] <;> exact Eq.symm
    · intro j o' d hj hd
      have : d ∈ dstsOf ops := by
        simp only [dstsOf, List.mem_filterMap]
        exact ⟨o', by simpa using Array.mem_of_getElem? hj, hd⟩
      simpa using List.all_eq_true.1 hds d this
    · intro j o' hj ha hne
      have := List.all_eq_true.1 hacc (o', j) (hz hj)
      simp only [ha, Bool.not_true, Bool.false_or, Bool.or_eq_true, List.all_eq_true, beq_iff_eq] at this
      rcases this with (h | h) | h
      · exact .inl (hord h)
      · exact absurd h.symm hne
      · exact .inr fun y hy => by simpa using h y hy
  · intro i j o o' d hi hj hd hd'
    have := h2 hi hj
    simp only [two1, Bool.or_eq_true, Bool.and_eq_true, hd, hd', beq_iff_eq] at this
    rcases this with h | h
    · exact h
    · simp at h
  · intro i j o o' d hi hj hne hd hl
    have := h2 hi hj
    simp only [two1, Bool.or_eq_true, Bool.and_eq_true, hd, beq_iff_eq] at this
    rcases this with h | h
    · exact absurd h hne
    · rcases h.1.1.1 with (h | h) | h
      · simp at h; exact absurd hl h
      · exact .inl (hM _ _ h)
      · exact .inr (hM _ _ h.2)
  · intro hlne i j o o' d hi hj hne hd hl
    have := h2 hi hj
    simp only [two1, Bool.or_eq_true, Bool.and_eq_true, hd, beq_iff_eq] at this
    rcases this with h | h
    · exact absurd h hne
    · rcases h.1.1.1 with (h | h) | h
      · simp at h; exact absurd hl h
      · exact hM _ _ h
      · exact absurd (List.isEmpty_iff.1 h.1) hlne
  · intro i j o o' hi hj hne hs ha
    have := h2 hi hj
    simp only [two1, Bool.or_eq_true, Bool.and_eq_true, hs, ha, beq_iff_eq] at this
    rcases this with h | h
    · exact absurd h hne
    · rcases h.1.2 with (h | h) | h
      · simp at h
      · exact .inl (hord h)
      · refine .inr fun x hx => ?_
        obtain ⟨⟨x', ys, ds⟩, hq, hqq⟩ := List.any_eq_true.1 (List.all_eq_true.1 h x hx)
        simp only [Bool.and_eq_true, beq_iff_eq, List.all_eq_true] at hqq
        obtain ⟨rfl, hys⟩ := hqq
        exact ⟨ys, ds, hq, fun y hy => by simpa using hys y hy⟩
  · intro i j o o' hi hj hne hs ha
    have := h2 hi hj
    simp only [two1, Bool.or_eq_true, Bool.and_eq_true, hs, beq_iff_eq] at this
    rcases this with h | h
    · exact absurd h hne
    · exact hord (by rcases ha with ha | ha <;> simpa [ha] using h.2)

theorem AncR.lt (hO : OKs P l ops) {i j : Nat} (h : AncR ops i j) : j < i := by
  induction h with
  | one h he hb => exact hO.back _ _ h _ he hb
  | more h he hb _ ih => have := hO.back _ _ h _ he hb; omega

/-! ### Sets that hold what must come before -/
def Clos (ops : Array Oper) (X : Nat → Prop) : Prop := ∀ (i : Nat) o, X i → ops[i]? = some o → ∀ e ∈ o.after, Region.binds .any e = true → X e.on
theorem Clos.anc {X : Nat → Prop} (hX : Clos ops X) {i j : Nat} (h : AncR ops i j) (hi : X i) : X j := by
  induction h with
  | one h he hb => exact hX _ _ hi h _ he hb
  | more h he hb _ ih => exact ih (hX _ _ hi h _ he hb)

/-! ### One step, coordinate by coordinate -/
theorem nx_t {oe : Option Stp} {d : Option Nat} {u : Nat} (h : d ≠ some u) : (nx s d oe).t u = s.t u := by
  cases d with
  | none => cases oe with
    | none => rfl
    | some p => cases p <;> rfl
  | some d =>
    have hu : u ≠ d := fun hh => h (by rw [hh])
    cases oe with
    | none => simp [nx, St.skip, St.set, upd, hu]
    | some p => cases p <;> simp [nx, St.stp, St.app, St.ecall, upd, hu]
theorem nx_g {oe : Option Stp} {d : Option Nat} {u : Nat} (h : d ≠ some u) (h2 : ∀ k v c kl g, oe = some (.ec k v c kl g) → k.1 ≠ u) : (nx s d oe).g u = s.g u := by
  cases oe with
  | none => cases d <;> rfl
  | some p =>
    cases p with
    | ec k v c kl g =>
      have := h2 k v c kl g rfl
      simp [nx, St.stp, St.ecall, upd, Ne.symm this]
    | ef e =>
      cases d with
      | none => rfl
      | some d =>
        have hu : u ≠ d := fun hh => h (by rw [hh])
        simp only [nx, St.stp, St.app]
        split
        · simp [upd, hu]
        · rfl
theorem nx_mono {oe : Option Stp} {d : Option Nat} (u : Nat) : s.g u ≤ (nx s d oe).g u := by
  cases oe with
  | none => cases d <;> exact Nat.le_refl _
  | some p =>
    cases p with
    | ec k v c kl g =>
      simp only [nx, St.stp, St.ecall, upd_at]
      split
      · rename_i h; rw [h]; omega
      · exact Nat.le_refl _
    | ef e =>
      cases d with
      | none => exact Nat.le_refl _
      | some d =>
        simp only [nx, St.stp, St.app]
        split
        · simp only [upd_at]
          split
          · rename_i h; rw [h]; omega
          · exact Nat.le_refl _
        · exact Nat.le_refl _
theorem nx_dead {oe : Option Stp} {d : Option Nat} {k : Key} (hk : k.2.1 < s.g k.1) (hd : s.d k = true) (hg : ∀ k v c kl g, oe = some (.ec k v c kl g) → g = s.g k.1) : (nx s d oe).d k = true := by
  cases oe with
  | none => cases d <;> exact hd
  | some p =>
    cases p with
    | ec k' v c kl g =>
      simp only [nx, St.stp, St.ecall, upd_at]
      split
      · rename_i h; rw [h] at hk; simp at hk
      · cases kl with
        | none => exact hd
        | some k2 => simp only [killO, upd_at]; split <;> simp [hd]
    | ef e =>
      cases d with
      | none => exact hd
      | some d =>
        simp only [nx, St.stp, St.app, crt]
        split
        · rename_i h; rw [← h.1] at h; omega
        · cases e.kl with
          | none => exact hd
          | some k2 => simp only [upd_at]; split <;> simp [hd]
theorem nx_kill {e : Eff} {d : Nat} {k : Key} (hk : k.2.1 < s.g k.1) (hkl : e.kl = some k) : (nx s (some d) (some (.ef e))).d k = true := by
  simp only [nx, St.stp, St.app, crt, hkl]
  split
  · rename_i h; rw [← h.1] at h; omega
  · simp [upd]

/-! ### What is in a state is old -/
theorem rep_box (h : Rep N w0 C0 E s a w) {y : Nat} {k : Key} {off : Nat} (hy : s.t y = .box k off) : k.2.1 < s.g k.1 := by
  obtain ⟨C, ρ, τ, h⟩ := h
  have := h.tm y
  rw [hy] at this
  obtain ⟨b, _, hρ⟩ := rv_box this
  exact h.fρ _ _ hρ
theorem rep_tok (h : Rep N w0 C0 E s a w) {y : Nat} {k : Key} {sz : Nat} {xs : List (List AV)} (hy : s.t y = .list sz xs (.own k)) : k.2.1 < s.g k.1 := by
  obtain ⟨C, ρ, τ, h⟩ := h
  have := h.tm y
  rw [hy] at this
  obtain ⟨A, c, cv, _, _, _, _, _, ht⟩ := rv_list this
  exact h.fτ _ _ ht
theorem rep_btok (h : Rep N w0 C0 E s a w) {k k' : Key} {pre : List AV} {z : Bool} {sz : Nat} {xs : List (List AV)} (hb : s.b k = some ⟨pre ++ [.list sz xs (.own k')], z⟩) : k'.2.1 < s.g k'.1 := by
  obtain ⟨C, ρ, τ, h⟩ := h
  obtain ⟨b, _, ⟨⟨cs, ty, _, g2, _, g4, _⟩, _⟩, _⟩ := h.bx _ _ hb
  have hlt : pre.length < cs.size := by rw [g2]; simp
  have := g4 pre.length cs[pre.length] (.list sz xs (.own k')) (by simp [hlt]) (by simp)
  obtain ⟨A, c, cv, _, _, _, _, _, ht⟩ := rv_list this
  exact h.fτ _ _ ht

/-! ### The text's walk, written down -/
structure TR (P : Program) (ops : Array Oper) (s : St) (o : Oper) (T : Option Stp) : Prop where
  w : wantA ops s o = some T.isSome
  e : ∀ p, T = some p → EvG P s o p

theorem trace_of {K : St → Prop} : ∀ (r : List Oper) (s : St), aops P ops r s K → ∃ (T : Nat → Option Stp) (S : Nat → St), S 0 = s ∧ (∀ j o, r[j]? = some o → TR P ops (S j) o (T j) ∧ S (j + 1) = nx (S j) o.dst (T j)) ∧ K (S r.length)
  | [], s, h => ⟨fun _ => none, fun _ => s, rfl, fun j o hj => by simp at hj, h⟩
  | o :: r, s, h => by
    unfold aops at h
    split at h
    · exact h.elim
    · rename_i c hc
      have : ∃ t, TR P ops s o t ∧ aops P ops r (nx s o.dst t) K := by
        cases c with
        | true =>
          obtain ⟨p, hp, h2⟩ := stepG_elim (h.1 rfl)
          exact ⟨some p, ⟨hc, fun q hq => by cases hq; exact hp⟩, h2⟩
        | false => exact ⟨none, ⟨hc, fun q hq => by cases hq⟩, h.2 rfl⟩
      obtain ⟨t, ht, h2⟩ := this
      obtain ⟨T, S, hS0, hTS, hK⟩ := trace_of r _ h2
      refine ⟨fun j => match j with | 0 => t | j + 1 => T j, fun j => match j with | 0 => s | j + 1 => S j, rfl, ?_, hK⟩
      intro j o' hj
      cases j with
      | zero => simp at hj; subst hj; exact ⟨ht, hS0⟩
      | succ j => exact hTS j o' (by simpa using hj)

theorem wp_some {o : Oper} {G : Prop} (h : o.wp P a w (fun _ _ => G) (fun _ _ _ => G)) : G := by
  unfold Oper.wp at h
  generalize (execOp a.eval o).run P w = r at h
  cases r with
  | ok n w' =>
    cases n with
    | enter f args =>
      obtain ⟨e, w'', fr, he, _⟩ := h []
      cases e with
      | outgrown => obtain ⟨_, _, h⟩ := he; exact h
      | _ => exact he
    | row r args =>
      obtain ⟨v, w'', hv, _⟩ := h (Frame.enter P 0 #[] .normal) []
      exact hv
    | _ => first | exact h | exact h.elim
  | halt x w' => cases x <;> first | exact h | exact h.elim

theorem rep_nx (h : Rep N w0 C0 E s a w) (hN : ∀ d, o.dst = some d → d < N) {T : Option Stp} (hT : TR P ops s o T) : ∃ a' w', Rep N w0 C0 E (nx s o.dst T) a' w' := by
  cases T with
  | none => exact ⟨_, _, skip_sound h hN⟩
  | some p => exact wp_some (stp_sound (Q := fun _ _ _ => ∃ a' w', Rep N w0 C0 E (s.stp o.dst p) a' w') h hN (hT.e p rfl) (fun a' w' hr => ⟨a', w', hr⟩))

end Go.Sy

/- A region that draws its order comes to what the text's order comes to: the proof. -/
set_option linter.unusedVariables false
set_option linter.unusedSectionVars false
namespace Go.Sy
open Go Go.RowKit

variable {N : Nat} {w0 : World} {C0 : CMap} {E : EX} {s s' : St} {a : Act} {w : World} {P : Program} {o o' : Oper} {e : Eff} {ops : Array Oper} {l : List Ap} {T : Nat → Option Stp} {S : Nat → St}

def stF (ops : Array Oper) (γ : Nat → Nat) (T : Nat → Option Stp) (j : Nat) (s : St) : St := match ops[j]? with
  | some o => actS γ o.dst (T j) s
  | none => s

theorem dich_of {V : Type} {f : Nat → St → St} {π : St → V} {R : Nat → Prop} (h : ∀ j, (∀ s, π (f j s) = π s) ∨ (R j ∧ ∃ v, ∀ s, π (f j s) = v)) : Dich f π ∧ ∀ j, Tch f π j → R j :=
  ⟨fun j => (h j).imp_right fun h => h.2, fun j ht => ((h j).resolve_left ht).1⟩

variable {γ : Nat → Nat}
theorem d_t (u : Nat) : Dich (stF ops γ T) (fun s => s.t u) ∧ ∀ j, Tch (stF ops γ T) (fun s => s.t u) j → ∃ o, ops[j]? = some o ∧ o.dst = some u := by
  refine dich_of fun j => ?_
  unfold stF
  cases ops[j]? with
  | none => exact .inl fun _ => rfl
  | some o => exact (act_t o.dst (T j) u).imp_right fun h => ⟨⟨o, rfl, h.1⟩, h.2⟩
theorem d_g (u : Nat) : Dich (stF ops γ T) (fun s => s.g u) ∧ ∀ j, Tch (stF ops γ T) (fun s => s.g u) j → ∃ o, ops[j]? = some o ∧ (o.dst = some u ∨ ∃ k kl g, isEc (T j) k kl g ∧ k.1 = u) := by
  refine dich_of fun j => ?_
  unfold stF
  cases ops[j]? with
  | none => exact .inl fun _ => rfl
  | some o =>
    refine (act_g o.dst (T j) u).imp_right fun h => ?_
    rcases h with ⟨h1, _, h2⟩ | ⟨k, kl, g, h1, h2, h3⟩
    · exact ⟨⟨o, rfl, .inl h1⟩, _, h2⟩
    · exact ⟨⟨o, rfl, .inr ⟨k, kl, g, h1, h2⟩⟩, _, h3⟩
/-- Made here. -/
def Mk (γ : Nat → Nat) (o : Oper) (t : Option Stp) (k : Key) : Prop := o.dst = some k.1 ∧ k.2.1 = γ k.1 ∧ ∃ e, t = some (.ef e)
def StB (t : Option Stp) (k : Key) : Prop := ∃ e, t = some (.ef e) ∧ k ∈ e.st.map Prod.fst
def KlB (t : Option Stp) (k : Key) : Prop := ∃ e, t = some (.ef e) ∧ e.kl = some k
theorem d_b (k : Key) : Dich (stF ops γ T) (fun s => s.b k) ∧ ∀ j, Tch (stF ops γ T) (fun s => s.b k) j → ∃ o, ops[j]? = some o ∧ (StB (T j) k ∨ Mk γ o (T j) k ∨ ∃ kl g, isEc (T j) k kl g) := by
  refine dich_of fun j => ?_
  unfold stF
  cases ops[j]? with
  | none => exact .inl fun _ => rfl
  | some o =>
    refine (act_b o.dst (T j) k).imp_right fun h => ⟨⟨o, rfl, ?_⟩, h.2⟩
    rcases h.1 with h | ⟨h1, h2, e, h3, _⟩ | h
    · exact .inl h
    · exact .inr (.inl ⟨h1, h2, e, h3⟩)
    · exact .inr (.inr h)
theorem d_d (k : Key) : Dich (stF ops γ T) (fun s => s.d k) ∧ ∀ j, Tch (stF ops γ T) (fun s => s.d k) j → ∃ o, ops[j]? = some o ∧ (Mk γ o (T j) k ∨ KlB (T j) k ∨ ∃ k0 kl g, isEc (T j) k0 kl g ∧ (kl = some k ∨ k = (k0.1, g, 0))) := by
  refine dich_of fun j => ?_
  unfold stF
  cases ops[j]? with
  | none => exact .inl fun _ => rfl
  | some o =>
    refine (act_d o.dst (T j) k).imp_right fun h => ⟨⟨o, rfl, ?_⟩, h.2⟩
    rcases h.1 with ⟨h1, h2, e, h3, _⟩ | h | h
    · exact .inl ⟨h1, h2, e, h3⟩
    · exact .inr (.inl h)
    · exact .inr (.inr h)

structure Txt (P : Program) (N : Nat) (w0 : World) (C0 : CMap) (E : EX) (ops : Array Oper) (l : List Ap) (T : Nat → Option Stp) (S : Nat → St) : Prop where
  ok : OKs P l ops
  tr : ∀ j o, ops[j]? = some o → TR P ops (S j) o (T j) ∧ S (j + 1) = nx (S j) o.dst (T j)
  fin : l.all (ap1 (S ops.size)) = true
  rep : ∀ j, j ≤ ops.size → ∃ a w, Rep N w0 C0 E (S j) a w

namespace Txt
variable (H : Txt P N w0 C0 E ops l T S)
include H

theorem at_ {j : Nat} (hj : j < ops.size) : ∃ o, ops[j]? = some o := ⟨ops[j], by simp [hj]⟩
theorem lt_ {j : Nat} (hj : ops[j]? = some o) : j < ops.size := (Array.getElem?_eq_some_iff.1 hj).1

theorem t_end (hl : l ≠ []) {i u : Nat} (hi : ops[i]? = some o) (hu : u ∈ Oper.looksAt ops o) : (S i).t u = (S ops.size).t u := by
  have key : ∀ m, i ≤ m → m ≤ ops.size → (S m).t u = (S i).t u := by
    intro m hm
    induction hm with
    | refl => intro _; rfl
    | @step m hm ih =>
      have hm : i ≤ m := hm
      intro hn
      obtain ⟨q, hq⟩ := H.at_ (show m < ops.size by omega)
      rw [(H.tr m q hq).2, nx_t, ih (by omega)]
      intro hd
      by_cases hmi : m = i
      · subst hmi
        rw [hi] at hq; cases hq
        exact H.ok.self _ _ _ hi hd hu
      · have := (H.ok.last hl i m o q u hi hq (Ne.symm hmi) hd hu).lt H.ok
        omega
  have hin := H.lt_ hi
  exact (key ops.size (by omega) (Nat.le_refl _)).symm

theorem ec {i : Nat} {k : Key} {kl : Option Key} {g : Nat} (hi : ops[i]? = some o) (hT : isEc (T i) k kl g) :
    pcall P o = true ∧ (∀ (j : Nat) o' d, ops[j]? = some o' → o'.dst = some d → k.1 ≠ d) ∧
    (∀ (j : Nat) o', ops[j]? = some o' → accB o' = true → j ≠ i → OrdR ops i j ∨ ∀ y ∈ addrs o', ∀ k' off, (S ops.size).t y = .box k' off → k' ≠ k) ∧ g = (S i).g k.1 ∧
    (∃ y, (S i).t y = .box k 0 ∧ y ∈ Oper.looksAt ops o) ∧ (∃ v c, EEvK P (S i) o k v c kl) ∧ l ≠ [] := by
  obtain ⟨v, c, hT⟩ := hT
  obtain ⟨he, hg⟩ := (H.tr i o hi).1.e _ hT
  obtain ⟨h1, ⟨x0, hx0, hr, t, hb⟩, _⟩ := EEvK_facts he
  obtain ⟨x, ys, ds, hq, hrx, hds, hacc⟩ := H.ok.cov i o hi h1
  rw [hr] at hrx
  cases hrx
  have hlook : x ∈ Oper.looksAt ops o := by
    simp only [Oper.looksAt, List.mem_append, List.mem_filterMap]
    exact .inl ⟨.tmp x, by simpa using hx0, rfl⟩
  have hxe : (S ops.size).t x = .box k 0 := by rw [← H.t_end (List.ne_nil_of_mem hq) hi hlook]; exact hb
  have hap := List.all_eq_true.1 H.fin _ hq
  simp only [ap1, hxe, ap2, Bool.and_eq_true, List.all_eq_true] at hap
  refine ⟨h1, ?_, ?_, hg, ⟨x, hb, hlook⟩, ⟨v, c, he⟩, List.ne_nil_of_mem hq⟩
  · intro j o' d hj hd
    simpa using hap.2 d (hds j o' d hj hd)
  · intro j o' hj ha hne
    refine (hacc j o' hj ha hne).imp_right fun h y hy k' off hk' => ?_
    have := hap.1 y (h y hy)
    simpa [ap0, hk'] using this

theorem notec {i j : Nat} {d : Nat} (hi : ops[i]? = some o) (hd : o.dst = some d) (hj : ops[j]? = some o') {k : Key} {kl : Option Key} {g : Nat} (hT : isEc (T j) k kl g) : k.1 ≠ d :=
  (H.ec hj hT).2.1 i o d hi hd

theorem g_text {i j : Nat} {d : Nat} (hi : ops[i]? = some o) (hd : o.dst = some d) (hj : j ≤ i) : (S j).g d = (S 0).g d := by
  induction j with
  | zero => rfl
  | succ j ih =>
    have hin := H.lt_ hi
    obtain ⟨q, hq⟩ := H.at_ (show j < ops.size by omega)
    rw [(H.tr j q hq).2, nx_g, ih (by omega)]
    · intro hd'
      have := H.ok.dist i j o q d hi hq hd hd'
      omega
    · intro k v c kl g hT
      exact H.notec hi hd hq ⟨v, c, hT⟩

theorem mono {j m u : Nat} (h : j ≤ m) (hm : m ≤ ops.size) : (S j).g u ≤ (S m).g u := by
  induction h with
  | refl => exact Nat.le_refl _
  | @step m hjm ih =>
    obtain ⟨q, hq⟩ := H.at_ (show m < ops.size by omega)
    rw [(H.tr m q hq).2]
    exact Nat.le_trans (ih (by omega)) (nx_mono u)

theorem dead {j m : Nat} {k : Key} (h : j ≤ m) (hm : m ≤ ops.size) (hk : k.2.1 < (S j).g k.1) (hd : (S j).d k = true) : (S m).d k = true := by
  induction h with
  | refl => exact hd
  | @step m hjm ih =>
    obtain ⟨q, hq⟩ := H.at_ (show m < ops.size by omega)
    rw [(H.tr m q hq).2]
    refine nx_dead (Nat.lt_of_lt_of_le hk (H.mono hjm (by omega))) (ih (by omega)) ?_
    intro k' v c kl g hT
    exact (H.ec hq ⟨v, c, hT⟩).2.2.2.1

theorem step {j : Nat} (hj : ops[j]? = some o) : S (j + 1) = stF ops (S 0).g T j (S j) := by
  rw [(H.tr j o hj).2, stF, hj]
  refine (actS_nx ?_ ?_).symm
  · intro d hd
    exact H.g_text hj hd (Nat.le_refl _)
  · intro k v c kl g hT
    exact (H.ec hj ⟨v, c, hT⟩).2.2.2.1

theorem fold {j : Nat} (hj : j ≤ ops.size) : S j = (List.range j).foldl (fun s j => stF ops (S 0).g T j s) (S 0) := by
  induction j with
  | zero => rfl
  | succ j ih =>
    obtain ⟨q, hq⟩ := H.at_ (show j < ops.size by omega)
    rw [List.range_succ, List.foldl_append, ← ih (by omega)]
    exact H.step hq

/-- Who makes a key comes before who knows it. -/
theorem made {i j : Nat} {k : Key} (hj : ops[j]? = some o) (hm : Mk (S 0).g o (T j) k) (hi : i ≤ ops.size) (hk : k.2.1 < (S i).g k.1) : j < i := by
  rcases Nat.lt_or_ge j i with h | h
  · exact h
  · have := H.g_text hj hm.1 h
    have := hm.2.1
    omega

/-- Two appends that both let one token die are one. -/
theorem kill_one {i j : Nat} {k : Key} (hi : ops[i]? = some o) (hj : ops[j]? = some o') (h1 : KlB (T i) k) (h2 : KlB (T j) k) : i = j := by
  have key : ∀ {i j : Nat} {o o' : Oper}, ops[i]? = some o → ops[j]? = some o' → KlB (T i) k → KlB (T j) k → i < j → False := by
    intro i j o o' hi hj ⟨e1, hT1, hk1⟩ ⟨e2, hT2, hk2⟩ hij
    have hv1 : Ev P (S i) o e1 := (H.tr i o hi).1.e _ hT1
    have hv2 : Ev P (S j) o' e2 := (H.tr j o' hj).1.e _ hT2
    obtain ⟨_, hd1, y1, _, sz, xs, hy1, _⟩ := ev_kl hv1 hk1
    obtain ⟨_, _, y2, _, _, _, _, hlive⟩ := ev_kl hv2 hk2
    have hin := H.lt_ hi
    have hjn := H.lt_ hj
    obtain ⟨a, w, hr⟩ := H.rep i (by omega)
    have hlt := rep_tok hr hy1
    obtain ⟨d, hd⟩ := Option.isSome_iff_exists.1 hd1
    have hdead : (S (i + 1)).d k = true := by
      rw [(H.tr i o hi).2, hT1, hd]
      exact nx_kill hlt hk1
    have := H.dead (j := i + 1) (m := j) (by omega) (by omega) (Nat.lt_of_lt_of_le hlt (H.mono (by omega) (by omega))) hdead
    rw [this] at hlive
    cases hlive
  rcases Nat.lt_trichotomy i j with h | h | h
  · exact (key hi hj h1 h2 h).elim
  · exact h
  · exact (key hj hi h2 h1 h).elim

end Txt

/-- The keys that a step reads and turns. -/
def Keys (t : Option Stp) (k : Key) : Prop := StB t k ∨ KlB t k ∨ ∃ kl g k0, isEc t k0 kl g ∧ (k = k0 ∨ kl = some k)
def InvX (T : Nat → Option Stp) (X : Nat → Prop) (s : St) : Prop := ∀ j, X j → ∀ k, Keys (T j) k → k.2.1 < s.g k.1

noncomputable abbrev sx (ops : Array Oper) (T : Nat → Option Stp) (S : Nat → St) (X : Nat → Prop) : St := SX (stF ops (S 0).g T) ops.size (S 0) X

structure Rdy (ops : Array Oper) (X : Nat → Prop) (i : Nat) (o : Oper) : Prop where
  cl : Clos ops X
  lt : ∀ j, X j → j < ops.size
  at_ : ops[i]? = some o
  no : ¬ X i
  pre : ∀ e ∈ o.after, Region.binds .any e = true → X e.on

theorem Rdy.anc {X : Nat → Prop} {i j : Nat} (R : Rdy ops X i o) (h : AncR ops i j) : X j := by
  cases h with
  | one h he hb => rw [R.at_] at h; cases h; exact R.pre _ he hb
  | more h he hb hr => rw [R.at_] at h; cases h; exact R.cl.anc hr (R.pre _ he hb)
theorem Rdy.ord {X : Nat → Prop} {i j : Nat} (hO : OKs P l ops) (R : Rdy ops X i o) (h : OrdR ops i j) : X j ↔ j < i := by
  rcases h with h | h
  · exact ⟨fun _ => h.lt hO, fun _ => R.anc h⟩
  · have := h.lt hO
    exact ⟨fun hj => absurd (R.cl.anc h hj) R.no, fun hj => by omega⟩
theorem Rdy.me {X : Nat → Prop} {i : Nat} (R : Rdy ops X i o) : X i ↔ i < i := ⟨fun h => absurd h R.no, fun h => by omega⟩

theorem stF_mono {u : Nat} {i : Nat} (hi : ops[i]? = some o) (hg : ∀ d, o.dst = some d → s.g d = (S 0).g d) (hec : ∀ k kl g, isEc (T i) k kl g → g = s.g k.1) : s.g u ≤ (stF ops (S 0).g T i s).g u := by
  rw [stF, hi]
  simp only
  rw [actS_nx hg (fun k v c kl g hT => hec k kl g ⟨v, c, hT⟩)]
  exact nx_mono u

namespace Txt
variable (H : Txt P N w0 C0 E ops l T S) {X : Nat → Prop} {i : Nat}
include H

/-- A slot whose maker is not in the set is as old as it was. -/
theorem g_old {j d : Nat} (hj : ops[j]? = some o') (hd : o'.dst = some d) (hX : ¬ X j) : (sx ops T S X).g d = (S 0).g d := by
  have := SX_prefix (s := S 0) (n := ops.size) (X := X) (d_g (ops := ops) (γ := (S 0).g) (T := T) d).1 (i := 0) (Nat.zero_le _) (by
    intro m _ ht
    obtain ⟨q, hq, h⟩ := (d_g d).2 m ht
    refine ⟨fun hm => ?_, fun hm => by omega⟩
    rcases h with h | ⟨k, kl, g, h, hk⟩
    · have := H.ok.dist j m o' q d hj hq hd h
      subst this
      exact absurd hm hX
    · exact absurd hk (H.notec hj hd hq h))
  simpa using this

theorem madeX {j : Nat} {k : Key} (hj : ops[j]? = some o') (hm : Mk (S 0).g o' (T j) k) (hk : k.2.1 < (sx ops T S X).g k.1) : X j := by
  by_cases h : X j
  · exact h
  · have := H.g_old hj hm.1 h
    have := hm.2.1
    omega

variable (R : Rdy ops X i o)
include R

theorem tx {u : Nat} (hu : u ∈ Oper.looksAt ops o) : (S i).t u = (sx ops T S X).t u := by
  have hin := H.lt_ R.at_
  rw [H.fold (Nat.le_of_lt hin)]
  refine (SX_prefix (d_t u).1 (Nat.le_of_lt hin) ?_).symm
  intro j _ ht
  obtain ⟨q, hq, hd⟩ := (d_t u).2 j ht
  by_cases hij : i = j
  · subst hij; exact R.me
  · exact R.ord H.ok (H.ok.look i j o q u R.at_ hq hij hd hu)

theorem ox {x : Operand} (hx : x ∈ o.op.operands) (t : TypeId) : (S i).o P t x = (sx ops T S X).o P t x := by
  cases x with
  | tmp u =>
    refine H.tx R ?_
    simp only [Oper.looksAt, List.mem_append, List.mem_filterMap]
    exact .inl ⟨.tmp u, by simpa using hx, rfl⟩
  | _ => rfl

theorem wx : wantA ops (S i) o = wantA ops (sx ops T S X) o := by
  unfold wantA
  cases hg : o.guard with
  | none => rfl
  | some p =>
    obtain ⟨j, want⟩ := p
    simp only
    cases hd : (ops[j]?).bind (·.dst) with
    | none => rfl
    | some d =>
      simp only
      rw [H.tx R (u := d) (by simp only [Oper.looksAt, List.mem_append]; exact .inr (by simp [hg, hd]))]

theorem gx {d : Nat} (hd : o.dst = some d) : (S i).g d = (sx ops T S X).g d := by
  rw [H.g_old R.at_ hd R.no, H.g_text R.at_ hd (Nat.le_refl _)]

/-- The address slots are looked at. -/
theorem look_addr {y : Nat} (hy : y ∈ addrs o) : y ∈ Oper.looksAt ops o ∧ accB o = true := by
  have key : ∀ {x : Operand}, x ∈ o.op.operands → tmpOf x = some y → y ∈ Oper.looksAt ops o := by
    intro x hx hxy
    simp only [Oper.looksAt, List.mem_append, List.mem_filterMap]
    refine .inl ⟨x, by simpa using hx, ?_⟩
    cases x <;> simp [tmpOf] at hxy ⊢
    exact hxy
  unfold addrs at hy
  split at hy
  · rename_i t x ho
    exact ⟨key (x := x) (by simp [ho, Op.operands]) (by simpa using hy), by simp [accB, ho]⟩
  · rename_i t x v ho
    exact ⟨key (x := x) (by simp [ho, Op.operands]) (by simpa using hy), by simp [accB, ho]⟩
  · rename_i f xs cs ho
    obtain ⟨x, hx, hxy⟩ := List.mem_filterMap.1 hy
    exact ⟨key (x := x) (by simpa [ho, Op.operands] using hx) hxy, by simp [accB, ho]⟩
  · cases hy

end Txt

end Go.Sy

/- A region that draws its order: each step of any order is the text's. -/
set_option linter.unusedVariables false
set_option linter.unusedSectionVars false
namespace Go.Sy
open Go Go.RowKit

variable {N : Nat} {w0 : World} {C0 : CMap} {E : EX} {s s' : St} {a : Act} {w : World} {P : Program} {o o' : Oper} {e : Eff} {ops : Array Oper} {l : List Ap} {T : Nat → Option Stp} {S : Nat → St}

namespace Txt
variable (H : Txt P N w0 C0 E ops l T S) {X : Nat → Prop} {i : Nat}
include H

theorem stb {j : Nat} {k : Key} (hj : ops[j]? = some o) (h : StB (T j) k) : isSt o = true ∧ accB o = true ∧ ∃ y ∈ addrs o, y ∈ Oper.looksAt ops o ∧ ∃ off, (S j).t y = .box k off := by
  obtain ⟨e, hT, hk⟩ := h
  obtain ⟨h1, y, hy, off, hb⟩ := ev_st ((H.tr j o hj).1.e _ hT) hk
  have hl : y ∈ Oper.looksAt ops o ∧ accB o = true := by
    have key : ∀ {x : Operand}, x ∈ o.op.operands → tmpOf x = some y → y ∈ Oper.looksAt ops o := by
      intro x hx hxy
      simp only [Oper.looksAt, List.mem_append, List.mem_filterMap]
      refine .inl ⟨x, by simpa using hx, ?_⟩
      cases x <;> simp [tmpOf] at hxy ⊢
      exact hxy
    unfold addrs at hy
    split at hy
    · rename_i t x ho
      exact ⟨key (x := x) (by simp [ho, Op.operands]) (by simpa using hy), by simp [accB, ho]⟩
    · rename_i t x v ho
      exact ⟨key (x := x) (by simp [ho, Op.operands]) (by simpa using hy), by simp [accB, ho]⟩
    · rename_i f xs cs ho
      simp [isSt, ho] at h1
    · cases hy
  exact ⟨h1, hl.2, y, hy, hl.1, off, hb⟩

theorem klb {j : Nat} {k : Key} (hj : ops[j]? = some o) (h : KlB (T j) k) : isApp o = true ∧ ∃ y, y ∈ Oper.looksAt ops o ∧ ∃ sz xs, (S j).t y = .list sz xs (.own k) := by
  obtain ⟨e, hT, hk⟩ := h
  obtain ⟨h1, _, y, hy, sz, xs, hb, _⟩ := ev_kl ((H.tr j o hj).1.e _ hT) hk
  refine ⟨h1, y, ?_, sz, xs, hb⟩
  simp only [Oper.looksAt, List.mem_append, List.mem_filterMap]
  refine .inl ⟨.tmp y, ?_, rfl⟩
  unfold isApp at h1
  split at h1
  · rename_i args ts ho
    simp only [recv, ho] at hy
    rw [ho]
    simp [Op.operands, Call.operands]
    have := List.mem_of_mem_head? (a := Operand.tmp y) (l := args.toList) (by simp [hy])
    simpa using this
  · cases h1

/-- Two operations at one box, one of which writes: one comes before the other. -/
theorem st_ord {i j : Nat} {k : Key} (hi : ops[i]? = some o) (hj : ops[j]? = some o') (hij : i ≠ j) (hs : StB (T j) k) {y : Nat} (hy : y ∈ addrs o) (hyl : y ∈ Oper.looksAt ops o) (ha : accB o = true) {off : Nat} (hk : (S i).t y = .box k off) : OrdR ops i j := by
  obtain ⟨h1, _, z, hz, hzl, off', hzb⟩ := H.stb hj hs
  rcases H.ok.st i j o o' hi hj hij h1 ha with h | h
  · exact h
  · exfalso
    obtain ⟨ys, ds, hq, hys⟩ := h z hz
    have hne := List.ne_nil_of_mem hq
    have hap := List.all_eq_true.1 H.fin _ hq
    have hze : (S ops.size).t z = .box k off' := by rw [← H.t_end hne hj hzl]; exact hzb
    have hye : (S ops.size).t y = .box k off := by rw [← H.t_end hne hi hyl]; exact hk
    simp only [ap1, hze, ap2, Bool.and_eq_true, List.all_eq_true] at hap
    have := hap.1 y (hys y hy)
    simp [ap0, hye] at this

variable (R : Rdy ops X i o)
include R

section
variable (hrep : Rep N w0 C0 E (sx ops T S X) a w)
include hrep

/-- Both states know the key: who made it is in the set, and before. -/
theorem mk_both {j : Nat} {k : Key} (hj : ops[j]? = some o') (hm : Mk (S 0).g o' (T j) k) (h1 : k.2.1 < (S i).g k.1) (h2 : k.2.1 < (sx ops T S X).g k.1) : X j ∧ j < i :=
  ⟨H.madeX hj hm h2, H.made hj hm (Nat.le_of_lt (H.lt_ R.at_)) h1⟩

theorem rep_i : ∃ a w, Rep N w0 C0 E (S i) a w := H.rep i (Nat.le_of_lt (H.lt_ R.at_))

/-- The box behind an address slot. -/
theorem bx {y : Nat} (hy : y ∈ addrs o) {k : Key} {off : Nat} (hk : (S i).t y = .box k off) : (S i).b k = (sx ops T S X).b k := by
  have hin := H.lt_ R.at_
  obtain ⟨hyl, hacc⟩ := H.look_addr R hy
  obtain ⟨a', w', hri⟩ := H.rep_i R hrep
  have h1 := rep_box hri hk
  have h2 := rep_box hrep (by rw [← H.tx R hyl]; exact hk)
  rw [H.fold (Nat.le_of_lt hin)]
  refine (SX_prefix (d_b k).1 (Nat.le_of_lt hin) ?_).symm
  intro j _ ht
  obtain ⟨q, hq, h⟩ := (d_b k).2 j ht
  by_cases hij : i = j
  · subst hij; exact R.me
  rcases h with h | h | ⟨kl, g, h⟩
  · exact R.ord H.ok (H.st_ord R.at_ hq hij h hy hyl hacc hk)
  · have := H.mk_both R hrep hq h h1 h2
    exact ⟨fun _ => this.2, fun _ => this.1⟩
  · rcases (H.ec hq h).2.2.1 i o R.at_ hacc hij with hh | hh
    · exact R.ord H.ok (hh.symm)
    · exact absurd rfl (hh y hy k off (by rw [← H.t_end (H.ec hq h).2.2.2.2.2.2 R.at_ hyl]; exact hk))

theorem dx {y : Nat} (hy : recv o = some (.tmp y)) (ha : isApp o = true) {e : Eff} (hT : T i = some (.ef e)) {sz : Nat} {xs : List (List AV)} {k : Key} (hk : (S i).t y = .list sz xs (.own k)) : (S i).d k = (sx ops T S X).d k := by
  have hin := H.lt_ R.at_
  have hkl := ev_app ((H.tr i o R.at_).1.e _ hT) ha hy hk
  have hKl : KlB (T i) k := ⟨e, hT, hkl⟩
  obtain ⟨_, y2, hyl, sz2, xs2, hk2⟩ := H.klb R.at_ hKl
  obtain ⟨a', w', hri⟩ := H.rep_i R hrep
  have h1 := rep_tok hri hk2
  have h2 := rep_tok hrep (y := y2) (sz := sz2) (xs := xs2) (by rw [← H.tx R hyl]; exact hk2)
  rw [H.fold (Nat.le_of_lt hin)]
  refine (SX_prefix (d_d k).1 (Nat.le_of_lt hin) ?_).symm
  intro j _ ht
  obtain ⟨q, hq, h⟩ := (d_d k).2 j ht
  by_cases hij : i = j
  · subst hij; exact R.me
  rcases h with h | h | ⟨k0, kl, g, h, _⟩
  · have := H.mk_both R hrep hq h h1 h2
    exact ⟨fun _ => this.2, fun _ => this.1⟩
  · exact absurd (H.kill_one R.at_ hq hKl h) hij
  · exact R.ord H.ok ((H.ok.pp j i q o hq R.at_ (Ne.symm hij) (H.ec hq h).1 (.inr ha)).symm)

theorem alike {e : Eff} (hT : T i = some (.ef e)) : Alike P o (S i) (sx ops T S X) := by
  refine ⟨fun x hx t => H.ox R hx t, ?_, fun y hy k off hk => H.bx R hrep hy hk, fun ha y hy sz xs k hk => H.dx R hrep hy ha hT hk⟩
  intro hst
  cases hd : o.dst with
  | some d => exact H.gx R hd
  | none =>
    exfalso
    rcases H.ok.dst1 i o R.at_ with h | h | h
    · rw [hd] at h; cases h
    · rw [hst] at h; cases h
    · obtain ⟨x, ys, ds, hq, hrx, hds, _⟩ := H.ok.cov i o R.at_ h
      have hap := List.all_eq_true.1 H.fin _ hq
      have hlook : x ∈ Oper.looksAt ops o := by
        simp only [Oper.looksAt, List.mem_append, List.mem_filterMap]
        refine .inl ⟨.tmp x, ?_, rfl⟩
        unfold pcall at h
        split at h
        · rename_i g args ts ho
          simp only [recv, ho] at hrx
          rw [ho]
          simp [Op.operands, Call.operands]
          have := List.mem_of_mem_head? (a := Operand.tmp x) (l := args.toList) (by simp [hrx])
          exact .inr (by simpa using this)
        · cases h
      have he := (H.tr i o R.at_).1.e _ hT
      simp only [ap1] at hap
      rw [← H.t_end (List.ne_nil_of_mem hq) R.at_ hlook] at hap
      unfold ap2 at hap
      split at hap
      · rename_i k off hb
        exact Ev_recv he h hrx (fun t => hb)
      · cases hap

theorem ecx {k : Key} {v : AV} {c : List AV} {kl : Option Key} {g : Nat} (hT : T i = some (.ec k v c kl g)) :
    EEvK P (sx ops T S X) o k v c kl ∧ g = (sx ops T S X).g k.1 ∧ k.2.1 < (sx ops T S X).g k.1 ∧ (∀ k', kl = some k' → k'.2.1 < (sx ops T S X).g k'.1 ∧ k'.2.1 < (S i).g k'.1) := by
  have hin := H.lt_ R.at_
  have hec : isEc (T i) k kl g := ⟨v, c, hT⟩
  obtain ⟨hp, hds, hacc, hg, ⟨y, hy, hyl⟩, _, hlne⟩ := H.ec R.at_ hec
  have he : EEvK P (S i) o k v c kl := ((H.tr i o R.at_).1.e _ hT).1
  obtain ⟨a', w', hri⟩ := H.rep_i R hrep
  have hb : (S i).b k = (sx ops T S X).b k := by
    rw [H.fold (Nat.le_of_lt hin)]
    refine (SX_prefix (d_b k).1 (Nat.le_of_lt hin) ?_).symm
    intro j _ ht
    obtain ⟨q, hq, h⟩ := (d_b k).2 j ht
    by_cases hij : i = j
    · subst hij; exact R.me
    rcases h with h | h | ⟨kl', g', h⟩
    · obtain ⟨_, ha, z, hz, hzl, off, hzb⟩ := H.stb hq h
      rcases hacc j q hq ha (Ne.symm hij) with hh | hh
      · exact R.ord H.ok hh
      · exact absurd rfl (hh z hz k off (by rw [← H.t_end hlne hq hzl]; exact hzb))
    · exact absurd rfl (hds j q _ hq h.1)
    · exact R.ord H.ok (H.ok.pp i j o q R.at_ hq hij hp (.inl (H.ec hq h).1))
  have hgx : (S i).g k.1 = (sx ops T S X).g k.1 := by
    rw [H.fold (Nat.le_of_lt hin)]
    refine (SX_prefix (d_g k.1).1 (Nat.le_of_lt hin) ?_).symm
    intro j _ ht
    obtain ⟨q, hq, h⟩ := (d_g k.1).2 j ht
    by_cases hij : i = j
    · subst hij; exact R.me
    rcases h with h | ⟨k', kl', g', h, _⟩
    · exact absurd rfl (hds j q _ hq h)
    · exact R.ord H.ok (H.ok.pp i j o q R.at_ hq hij hp (.inl (H.ec hq h).1))
  have hkl : ∀ k', kl = some k' → k'.2.1 < (sx ops T S X).g k'.1 ∧ k'.2.1 < (S i).g k'.1 := by
    intro k' hk'
    obtain ⟨_, pre, sz, xs, hbb⟩ := (EEvK_facts he).2.2 k' hk'
    exact ⟨rep_btok hrep (by rw [← hb]; exact hbb), rep_btok hri hbb⟩
  refine ⟨EEvK_congr (fun x hx t => H.ox R hx t) hb hgx ?_ he, hg.trans hgx, rep_box hrep (y := y) (off := 0) (by rw [← H.tx R hyl]; exact hy), hkl⟩
  intro k' hk'
  obtain ⟨h2, h1⟩ := hkl k' hk'
  rw [H.fold (Nat.le_of_lt hin)]
  refine (SX_prefix (d_d k').1 (Nat.le_of_lt hin) ?_).symm
  intro j _ ht
  obtain ⟨q, hq, h⟩ := (d_d k').2 j ht
  by_cases hij : i = j
  · subst hij; exact R.me
  rcases h with h | h | ⟨k0, kl', g', h, _⟩
  · have := H.mk_both R hrep hq h h1 h2
    exact ⟨fun _ => this.2, fun _ => this.1⟩
  · exact R.ord H.ok (H.ok.pp i j o q R.at_ hq hij hp (.inr (H.klb hq h).1))
  · exact R.ord H.ok (H.ok.pp i j o q R.at_ hq hij hp (.inl (H.ec hq h).1))

theorem trx : TR P ops (sx ops T S X) o (T i) := by
  obtain ⟨hw, he⟩ := (H.tr i o R.at_).1
  refine ⟨by rw [← H.wx R]; exact hw, fun p hp => ?_⟩
  cases p with
  | ef e => exact Ev_congr (H.alike R hrep hp) (he _ hp)
  | ec k v c kl g =>
    have := H.ecx R hrep hp
    exact ⟨this.1, this.2.1⟩

/-- The keys of the step are known in the set's state and in the text's. -/
theorem keys {k : Key} (hk : Keys (T i) k) : k.2.1 < (sx ops T S X).g k.1 ∧ k.2.1 < (S i).g k.1 := by
  obtain ⟨a', w', hri⟩ := H.rep_i R hrep
  rcases hk with h | h | ⟨kl, g, k0, h, hk⟩
  · obtain ⟨_, _, y, _, hyl, off, hb⟩ := H.stb R.at_ h
    exact ⟨rep_box hrep (y := y) (off := off) (by rw [← H.tx R hyl]; exact hb), rep_box hri hb⟩
  · obtain ⟨_, y, hyl, sz, xs, hb⟩ := H.klb R.at_ h
    exact ⟨rep_tok hrep (y := y) (sz := sz) (xs := xs) (by rw [← H.tx R hyl]; exact hb), rep_tok hri hb⟩
  · obtain ⟨v, c, hT⟩ := h
    have := H.ecx R hrep hT
    rcases hk with rfl | hk
    · obtain ⟨_, _, _, _, ⟨y, hy, hyl⟩, _⟩ := H.ec R.at_ ⟨v, c, hT⟩
      exact ⟨this.2.2.1, rep_box hri hy⟩
    · exact this.2.2.2 k hk

theorem insert (hinv : InvX T X (sx ops T S X)) : sx ops T S (fun j => X j ∨ j = i) = stF ops (S 0).g T i (sx ops T S X) := by
  have hin := H.lt_ R.at_
  have ob : ∀ {j : Nat}, X j → OrdR ops i j → j < i := fun hj h => (R.ord H.ok h).1 hj
  have ne : ∀ {j : Nat}, X j → i ≠ j := fun hj hh => R.no (hh ▸ hj)
  have et : ∀ u, (sx ops T S (fun j => X j ∨ j = i)).t u = (stF ops (S 0).g T i (sx ops T S X)).t u := by
    intro u
    refine SX_insert (π := fun s => s.t u) (d_t u).1 hin R.no fun hti j _ hj htj => ?_
    obtain ⟨q, hq, hd⟩ := (d_t u).2 i hti
    obtain ⟨q', hq', hd'⟩ := (d_t u).2 j htj
    exact absurd (H.ok.dist i j q q' u hq hq' hd hd') (ne hj)
  have eg : ∀ u, (sx ops T S (fun j => X j ∨ j = i)).g u = (stF ops (S 0).g T i (sx ops T S X)).g u := by
    intro u
    refine SX_insert (π := fun s => s.g u) (d_g u).1 hin R.no fun hti j _ hj htj => ?_
    obtain ⟨q, hq, h⟩ := (d_g u).2 i hti
    obtain ⟨q', hq', h'⟩ := (d_g u).2 j htj
    rcases h with h | ⟨k, kl, g, h, hk⟩
    · rcases h' with h' | ⟨k', kl', g', h', hk'⟩
      · exact absurd (H.ok.dist i j q q' u hq hq' h h') (ne hj)
      · exact absurd hk' (H.notec hq h hq' h')
    · rcases h' with h' | ⟨k', kl', g', h', hk'⟩
      · exact absurd hk (H.notec hq' h' hq h)
      · exact ob hj (H.ok.pp i j q q' hq hq' (ne hj) (H.ec hq h).1 (.inl (H.ec hq' h').1))
  have eb : ∀ k, (sx ops T S (fun j => X j ∨ j = i)).b k = (stF ops (S 0).g T i (sx ops T S X)).b k := by
    intro k
    refine SX_insert (π := fun s => s.b k) (d_b k).1 hin R.no fun hti j _ hj htj => ?_
    obtain ⟨q, hq, h⟩ := (d_b k).2 i hti
    obtain ⟨q', hq', h'⟩ := (d_b k).2 j htj
    rcases h with h | h | ⟨kl, g, h⟩
    · rcases h' with h' | h' | ⟨kl', g', h'⟩
      · obtain ⟨_, ha, y, hy, hyl, off, hb⟩ := H.stb hq h
        exact ob hj (H.st_ord hq hq' (ne hj) h' hy hyl ha hb)
      · exact H.made hq' h' (Nat.le_of_lt hin) (H.keys R hrep (.inl h)).2
      · obtain ⟨_, ha, y, hy, hyl, off, hb⟩ := H.stb hq h
        rcases (H.ec hq' h').2.2.1 i q hq ha (ne hj) with hh | hh
        · exact ob hj hh.symm
        · exact absurd rfl (hh y hy k off (by rw [← H.t_end (H.ec hq' h').2.2.2.2.2.2 hq hyl]; exact hb))
    · rcases h' with h' | h' | ⟨kl', g', h'⟩
      · exact absurd (H.madeX hq h (hinv j hj k (.inl h'))) R.no
      · exact absurd (H.ok.dist i j q q' _ hq hq' h.1 h'.1) (ne hj)
      · exact absurd rfl (H.notec hq h.1 hq' h')
    · rcases h' with h' | h' | ⟨kl', g', h'⟩
      · obtain ⟨_, ha, y, hy, hyl, off, hb⟩ := H.stb hq' h'
        rcases (H.ec hq h).2.2.1 j q' hq' ha (Ne.symm (ne hj)) with hh | hh
        · exact ob hj hh
        · exact absurd rfl (hh y hy k off (by rw [← H.t_end (H.ec hq h).2.2.2.2.2.2 hq' hyl]; exact hb))
      · exact absurd rfl (H.notec hq' h'.1 hq h)
      · exact ob hj (H.ok.pp i j q q' hq hq' (ne hj) (H.ec hq h).1 (.inl (H.ec hq' h').1))
  have ed : ∀ k, (sx ops T S (fun j => X j ∨ j = i)).d k = (stF ops (S 0).g T i (sx ops T S X)).d k := by
    intro k
    refine SX_insert (π := fun s => s.d k) (d_d k).1 hin R.no fun hti j _ hj htj => ?_
    obtain ⟨q, hq, h⟩ := (d_d k).2 i hti
    obtain ⟨q', hq', h'⟩ := (d_d k).2 j htj
    rcases h with h | h | ⟨k0, kl, g, h, hk⟩
    · rcases h' with h' | h' | ⟨k0', kl', g', h', hk'⟩
      · exact absurd (H.ok.dist i j q q' _ hq hq' h.1 h'.1) (ne hj)
      · exact absurd (H.madeX hq h (hinv j hj k (.inr (.inl h')))) R.no
      · rcases hk' with hk' | hk'
        · exact absurd (H.madeX hq h (hinv j hj k (.inr (.inr ⟨kl', g', k0', h', .inr hk'⟩)))) R.no
        · exact absurd (by rw [hk']) (H.notec hq h.1 hq' h')
    · rcases h' with h' | h' | ⟨k0', kl', g', h', hk'⟩
      · exact H.made hq' h' (Nat.le_of_lt hin) (H.keys R hrep (.inr (.inl h))).2
      · exact absurd (H.kill_one hq hq' h h') (ne hj)
      · exact ob hj (H.ok.pp j i q' q hq' hq (Ne.symm (ne hj)) (H.ec hq' h').1 (.inr (H.klb hq h).1)).symm
    · rcases h' with h' | h' | ⟨k0', kl', g', h', hk'⟩
      · rcases hk with hk | hk
        · exact H.made hq' h' (Nat.le_of_lt hin) (H.keys R hrep (.inr (.inr ⟨kl, g, k0, h, .inr hk⟩))).2
        · exact absurd (by rw [hk]) (H.notec hq' h'.1 hq h)
      · exact ob hj (H.ok.pp i j q q' hq hq' (ne hj) (H.ec hq h).1 (.inr (H.klb hq' h').1))
      · exact ob hj (H.ok.pp i j q q' hq hq' (ne hj) (H.ec hq h).1 (.inl (H.ec hq' h').1))
  generalize sx ops T S (fun j => X j ∨ j = i) = A at et eg eb ed
  generalize stF ops (S 0).g T i (sx ops T S X) = B at et eg eb ed
  cases A; cases B
  simp only at et eg eb ed
  congr 1 <;> funext u
  · exact et u
  · exact eb u
  · exact ed u
  · exact eg u

theorem stF_nx : stF ops (S 0).g T i (sx ops T S X) = nx (sx ops T S X) o.dst (T i) := by
  rw [stF, R.at_]
  refine actS_nx ?_ ?_
  · intro d hd
    rw [← H.gx R hd, H.g_text R.at_ hd (Nat.le_refl _)]
  · intro k v c kl g hT
    exact (H.ecx R hrep hT).2.1

theorem inv (hinv : InvX T X (sx ops T S X)) : InvX T (fun j => X j ∨ j = i) (sx ops T S (fun j => X j ∨ j = i)) := by
  rw [H.insert R hrep hinv, H.stF_nx R hrep]
  intro j hj k hk
  refine Nat.lt_of_lt_of_le ?_ (nx_mono k.1)
  rcases hj with hj | rfl
  · exact hinv j hj k hk
  · exact (H.keys R hrep hk).1
end
end Txt

theorem Rep.drawn {n : Nat} (h : Rep N w0 C0 E s a w) : Rep N w0 C0 E s a { w with drawn := n } := by
  obtain ⟨C, ρ, τ, h⟩ := h
  have hbx : ∀ k B, s.b k = some B → ∃ b, ρ k = some b ∧ BoxW C ρ τ { w with drawn := n } b B ∧ (w0.heap.size ≤ b ∨ E b) := by
    intro k B hB
    obtain ⟨b, h1, ⟨h2, h3⟩, h4⟩ := h.bx k B hB
    exact ⟨b, h1, ⟨h2, h3⟩, h4⟩
  exact ⟨C, ρ, τ, { df := h.df, sz := h.sz, tm := h.tm, cw := h.cw, c0 := h.c0, c1 := h.c1, bx := hbx, bj := h.bj, tk := h.tk, tj := h.tj, fρ := h.fρ, fτ := h.fτ, fo := h.fo, fr := ⟨h.fr.os, h.fr.tape, h.fr.output, h.fr.size, h.fr.block⟩ }⟩

theorem any_sound (H : Txt P N w0 C0 E ops l T S) {Q : Exit → Act → World → Prop} (hN : ∀ o ∈ ops.toList, ∀ d, o.dst = some d → d < N) (hQ : ∀ a w, Rep N w0 C0 E (S ops.size) a w → Q .normal a w) :
    ∀ (fuel : Nat) (listed : Array Bool) (a : Act) (w : World), listed.size = ops.size → (listed.toList.countP (fun b => !b) ≤ fuel) → Clos ops (fun j => listed.getD j false = true) →
      Rep N w0 C0 E (sx ops T S (fun j => listed.getD j false = true)) a w → InvX T (fun j => listed.getD j false = true) (sx ops T S (fun j => listed.getD j false = true)) → wpAny P .any ops Q fuel listed a w := by
  have done : ∀ (listed : Array Bool) (a : Act) (w : World), listed.size = ops.size → Region.ready .any ops listed = [] → Rep N w0 C0 E (sx ops T S (fun j => listed.getD j false = true)) a w → Q .normal a w := by
    intro listed a w hsz hr hrep
    have all : ∀ j, j < ops.size → listed.getD j false = true := by
      intro j
      induction j using Nat.strongRecOn with
      | _ j ih =>
        intro hj
        cases hb : listed.getD j false with
        | true => rfl
        | false =>
          exfalso
          obtain ⟨o, ho⟩ := H.at_ hj
          have hjs : j < listed.size := by omega
          have : j ∈ Region.ready .any ops listed := by
            rw [mem_ready]
            refine ⟨by simpa [hjs] using hb, o, ho, fun e he hbd => ?_⟩
            have := H.ok.back _ _ ho e he hbd
            exact ih _ this (by omega)
          rw [hr] at this
          cases this
    have e : sx ops T S (fun j => listed.getD j false = true) = S ops.size := by
      have pr : ∀ {V : Type} {π : St → V} (hD : Dich (stF ops (S 0).g T) π), π (sx ops T S (fun j => listed.getD j false = true)) = π (S ops.size) := by
        intro V π hD
        rw [H.fold (Nat.le_refl _)]
        exact SX_prefix hD (Nat.le_refl _) fun j hj _ => ⟨fun _ => hj, fun _ => all j hj⟩
      have et := fun u => pr (d_t (ops := ops) (γ := (S 0).g) (T := T) u).1
      have eg := fun u => pr (d_g (ops := ops) (γ := (S 0).g) (T := T) u).1
      have eb := fun u => pr (d_b (ops := ops) (γ := (S 0).g) (T := T) u).1
      have ed := fun u => pr (d_d (ops := ops) (γ := (S 0).g) (T := T) u).1
      generalize sx ops T S (fun j => listed.getD j false = true) = A at et eg eb ed
      generalize S ops.size = B at et eg eb ed
      cases A; cases B
      simp only at et eg eb ed
      congr 1 <;> funext u
      · exact et u
      · exact eb u
      · exact ed u
      · exact eg u
    rw [e] at hrep
    exact hQ _ _ hrep
  intro fuel
  induction fuel with
  | zero =>
    intro listed a w hsz hc hcl hrep hinv
    have hr : Region.ready .any ops listed = [] := by
      rw [List.eq_nil_iff_forall_not_mem]
      intro i hi
      obtain ⟨h0, o, ho, _⟩ := mem_ready.1 hi
      have hi' : i < listed.size := by rw [hsz]; exact H.lt_ ho
      have hc0 : listed.toList.countP (fun b => !b) = 0 := by omega
      rw [List.countP_eq_zero] at hc0
      have := hc0 listed[i] (by simp)
      simp [hi'] at h0
      simp [h0] at this
    exact ⟨hr, done listed a w hsz hr hrep⟩
  | succ fuel ih =>
    intro listed a w hsz hc hcl hrep hinv
    refine ⟨fun hr => done listed a w hsz hr hrep, fun i hi => ?_⟩
    obtain ⟨h0, o, ho, hpre⟩ := mem_ready.1 hi
    have hin := H.lt_ ho
    have hi' : i < listed.size := by omega
    have hno : listed.getD i false = false := by simpa [hi'] using h0
    have R : Rdy ops (fun j => listed.getD j false = true) i o :=
      { cl := hcl
        lt := fun j hj => by
          rcases Nat.lt_or_ge j listed.size with h | h
          · omega
          · simp [h] at hj
        at_ := ho
        no := by simp [hno]
        pre := hpre }
    have hX : (fun j => (listed.setIfInBounds i true).getD j false = true) = (fun j => listed.getD j false = true ∨ j = i) := by
      funext j
      apply propext
      by_cases hij : i = j
      · subst hij; simp [hi']
      · rw [getD_set_ne false hij]
        simp [Ne.symm hij]
    have go : ∀ a' w', Rep N w0 C0 E (nx (sx ops T S (fun j => listed.getD j false = true)) o.dst (T i)) a' w' → wpAny P .any ops Q fuel (listed.setIfInBounds i true) a' w' := by
      intro a' w' hr'
      refine ih _ a' w' (by simp [hsz]) ?_ ?_ ?_ ?_
      · have hcnt : (listed.setIfInBounds i true).toList.countP (fun b => !b) + 1 = listed.toList.countP (fun b => !b) := by
          have hl : listed[i] = false := by simpa [hi'] using hno
          rw [Array.toList_setIfInBounds]
          have := List.countP_set (p := fun b : Bool => !b) (l := listed.toList) (i := i) (a := true) (by simpa using hi')
          rw [this]
          have hl' : listed.toList[i]'(by simpa using hi') = false := by simpa using hl
          have hpos : 0 < listed.toList.countP (fun b => !b) := List.countP_pos_iff.2 ⟨listed[i], by simp, by simp [hl]⟩
          simp only [hl', Bool.not_false, Bool.not_true, if_true, Bool.false_eq_true, if_false]
          omega
        omega
      · rw [hX]
        intro j q hj hq e he hb
        rcases hj with hj | rfl
        · exact .inl (hcl j q hj hq e he hb)
        · rw [ho] at hq; cases hq; exact .inl (hpre e he hb)
      · rw [hX, H.insert R hrep hinv, H.stF_nx R hrep]; exact hr'
      · rw [hX]; exact H.inv R hrep hinv
    have htr := H.trx R hrep
    have hNo : ∀ d, o.dst = some d → d < N := hN o (by simpa using Array.mem_of_getElem? ho)
    unfold wpOp
    rw [ho]
    simp only
    obtain ⟨C, ρ, τ, hrG⟩ := id hrep
    have hw := wantA_sound hrG htr.w
    cases hTi : T i with
    | none =>
      rw [hTi] at hw go
      rw [if_neg (by simp [hw])]
      exact go _ _ (skip_sound hrep hNo)
    | some p =>
      rw [hTi] at hw go
      rw [if_pos (by simpa using hw)]
      exact .inl (stp_sound hrep hNo (htr.e p hTi) fun a' w' hr' => go a' w' hr')

/-- The test on regions that draw their order is worth what it must be. -/
theorem drawOK_ok (hm : P.follows .mixedOrders = true) : DOK P (drawOK P) := by
  intro N w0 C0 E l ops id s a w K Q hD hN h hr hQ
  obtain ⟨T, S, hS0, hTS, hap, hK⟩ := trace_of ops.toList s h
  have hlen : ops.toList.length = ops.size := by simp
  rw [hlen] at hap hK
  have htr : ∀ j o, ops[j]? = some o → TR P ops (S j) o (T j) ∧ S (j + 1) = nx (S j) o.dst (T j) := fun j o hj => hTS j o (by simpa using hj)
  have hrep : ∀ j, j ≤ ops.size → ∃ a w, Rep N w0 C0 E (S j) a w := by
    intro j
    induction j with
    | zero => intro _; exact ⟨a, w, by rw [hS0]; exact hr⟩
    | succ j ih =>
      intro hj
      obtain ⟨a', w', h'⟩ := ih (by omega)
      have ho : ops[j]? = some ops[j] := by simp
      rw [(htr j _ ho).2]
      exact rep_nx h' (hN _ (by simp)) (htr j _ ho).1
  have H : Txt P N w0 C0 E ops l T S := ⟨drawOK_sound hD, htr, hap, hrep⟩
  have hno : ∀ j, ¬ ((Array.replicate ops.size false).getD j false = true) := by
    intro j
    by_cases hj : j < ops.size <;> simp [hj]
  have hsx : sx ops T S (fun j => (Array.replicate ops.size false).getD j false = true) = s := by
    unfold sx SX
    have : (List.range ops.size).filter (fun j => @decide ((Array.replicate ops.size false).getD j false = true) (Classical.propDecidable _)) = [] := by
      rw [List.filter_eq_nil_iff]
      intro j _
      simpa using hno j
    rw [this]
    exact hS0
  refine wp_region_any hm (any_sound H hN (fun a w hr => hQ _ _ _ hK hr) ops.size _ a _ (by simp) (by simpa using List.countP_le_length (l := (Array.replicate ops.size false).toList) (p := fun b => !b)) ?_ ?_ ?_)
  · intro i o hi
    exact absurd hi (hno i)
  · rw [hsx]; exact hr.drawn
  · intro j hj
    exact absurd hj (hno j)

end Go.Sy

/- The rules by which a walk over abstract values is reckoned. -/
namespace Go.Sy
open Go Go.RowKit

variable {P : Program} {X : Hints} {ops : Array Oper} {r : List Oper} {s : St} {K : St → Prop} {KE : Eff → Prop} {Q : Exit → St → Prop}

/-- A mark that keeps what it names from being looked into. -/
inductive Tag {α : Type} : α → Type
  | mk (x : α) : Tag x
/-- What follows a value that may lack. -/
def oK {α : Type} (x : Option α) (K : α → Prop) (_ : Tag K) : Prop := match x with | some v => K v | none => False
theorem oK_some {α : Type} (v : α) (K : α → Prop) : oK (some v) K (.mk _) = K v := rfl
theorem oK_none {α : Type} (K : α → Prop) : oK none K (.mk _) = False := rfl
theorem oK_ite {α : Type} (c : Prop) [Decidable c] (x y : Option α) (K : α → Prop) : oK (if c then x else y) K (.mk _) = ((c → oK x K (.mk _)) ∧ (¬ c → oK y K (.mk _))) := by
  by_cases h : c <;> simp [h]
attribute [go_sem] oK_some oK_none

/-! ### The state's parts -/
def St.nbox (s : St) (d : Nat) (x : AV) (l : List AV) : St := { s with t := upd s.t d x, b := upd s.b (d, s.g d, 0) (some ⟨l, false⟩), g := upd s.g d (s.g d + 1) }
def St.ntok (s : St) (d n : Nat) (x : AV) (kl : Option Key) : St := { s with t := upd s.t d x, d := crt d (s.g d) n (killO s.d kl), g := upd s.g d (s.g d + 1) }
def St.sbox (s : St) (k : Key) (l : List AV) : St := { s with b := upd s.b k (some ⟨l, false⟩) }

theorem app_v (d : Nat) (x : AV) : s.app (some d) { v := x } = s.set d x := by rw [app_val]
theorem app_v_none (x : AV) : s.app none { v := x } = s := by rw [app_val]
theorem app_n (d : Nat) (x : AV) (l : List AV) : s.app (some d) { v := x, nb := some l } = s.nbox d x l := by rw [app_nb]; rfl
theorem app_t (d n : Nat) (x : AV) (kl : Option Key) : s.app (some d) { v := x, nt := n + 1, kl := kl } = s.ntok d (n + 1) x kl := by
  cases kl <;> simp [St.app, St.ntok, sto, killO]
theorem app_t0 (d : Nat) (x : AV) : s.app (some d) { v := x, nt := 0 } = s.set d x := app_v d x
theorem app_s (x : AV) (k : Key) (l : List AV) : s.app none { v := x, st := [(k, l)] } = s.sbox k l := rfl

theorem set_t (d u : Nat) (x : AV) : (s.set d x).t u = if u = d then x else s.t u := rfl
theorem set_b (d : Nat) (x : AV) : (s.set d x).b = s.b := rfl
theorem set_d (d : Nat) (x : AV) : (s.set d x).d = s.d := rfl
theorem set_g (d : Nat) (x : AV) : (s.set d x).g = s.g := rfl
theorem nbox_t (d u : Nat) (x : AV) (l : List AV) : (s.nbox d x l).t u = if u = d then x else s.t u := rfl
theorem nbox_b (d : Nat) (k : Key) (x : AV) (l : List AV) : (s.nbox d x l).b k = if k = (d, s.g d, 0) then some ⟨l, false⟩ else s.b k := rfl
theorem nbox_d (d : Nat) (x : AV) (l : List AV) : (s.nbox d x l).d = s.d := rfl
theorem nbox_g (d u : Nat) (x : AV) (l : List AV) : (s.nbox d x l).g u = if u = d then s.g d + 1 else s.g u := rfl
theorem ntok_t (d n u : Nat) (x : AV) (kl : Option Key) : (s.ntok d n x kl).t u = if u = d then x else s.t u := rfl
theorem ntok_b (d n : Nat) (x : AV) (kl : Option Key) : (s.ntok d n x kl).b = s.b := rfl
theorem ntok_d (d n : Nat) (x : AV) (kl : Option Key) : (s.ntok d n x kl).d = crt d (s.g d) n (killO s.d kl) := rfl
theorem ntok_g (d n u : Nat) (x : AV) (kl : Option Key) : (s.ntok d n x kl).g u = if u = d then s.g d + 1 else s.g u := rfl
theorem sbox_t (k : Key) (l : List AV) : (s.sbox k l).t = s.t := rfl
theorem sbox_b (k k' : Key) (l : List AV) : (s.sbox k l).b k' = if k' = k then some ⟨l, false⟩ else s.b k' := rfl
theorem sbox_d (k : Key) (l : List AV) : (s.sbox k l).d = s.d := rfl
theorem sbox_g (k : Key) (l : List AV) : (s.sbox k l).g = s.g := rfl
theorem s0_t (args : List AV) (u : Nat) : (s0 args).t u = args.getD u .any := rfl
theorem s0_b (args : List AV) (k : Key) : (s0 args).b k = none := rfl
theorem s0_d (args : List AV) (k : Key) : (s0 args).d k = false := rfl
theorem s0_g (args : List AV) (k : Nat) : (s0 args).g k = 0 := rfl
attribute [go_sem] app_v app_v_none app_n app_t app_t0 app_s set_t set_b set_d set_g nbox_t nbox_b nbox_d nbox_g ntok_t ntok_b ntok_d ntok_g sbox_t sbox_b sbox_d sbox_g s0_t s0_b s0_d s0_g

/-! ### Code -/
theorem acode_skip : acode P X .skip Q s = Q .normal s := rfl
theorem acode_region0 (id : Nat) (l : List Oper) (dr : Bool) : acode P [] (.region id l.toArray dr) Q s = aops P l.toArray l s (Q .normal) := by simp [acode, hFz, hAp]
theorem acode_regionX (x : Nat × List Nat × List Ap) (id : Nat) (l : List Oper) (dr : Bool) : acode P (x :: X) (.region id l.toArray dr) Q s = aops P l.toArray l ((hFz (x :: X) id).foldl St.frz s) (fun s' => (hAp (x :: X) id).all (ap1 s') = true ∧ Q .normal s') := rfl
theorem hFz_nil (id : Nat) : hFz [] id = [] := rfl
theorem hFz_cons (i id : Nat) (f : List Nat) (a : List Ap) : hFz ((i, f, a) :: X) id = if id = i then f else hFz X id := rfl
theorem hAp_nil (id : Nat) : hAp [] id = [] := rfl
theorem hAp_cons (i id : Nat) (f : List Nat) (a : List Ap) : hAp ((i, f, a) :: X) id = if id = i then a else hAp X id := rfl
def St.fbox (s : St) (k : Key) (l : List AV) : St := { s with b := upd s.b k (some ⟨l, true⟩) }
def St.flist (s : St) (u : Nat) (k : Key) (l : List AV) : St := { s with t := upd s.t u (.list 1 (l.map fun y => [y]) .no), b := upd s.b k (some ⟨l, true⟩) }
def frzK (s : St) (u : Nat) : AV → St
  | .box k _ => match s.b k with
    | some B => if B.c.all clean = true then s.fbox k B.c else s
    | none => s
  | .sl k n sz => match s.b k with
    | some B => if B.c.all clean = true ∧ n = B.c.length ∧ sz = 1 then s.flist u k B.c else s
    | none => s
  | _ => s
theorem frz_frzK (u : Nat) : s.frz u = frzK s u (s.t u) := rfl
def frzB (s : St) (k : Key) : Option Box → St
  | some B => if B.c.all clean = true then s.fbox k B.c else s
  | none => s
def frzL (s : St) (u : Nat) (k : Key) (n sz : Nat) : Option Box → St
  | some B => if B.c.all clean = true ∧ n = B.c.length ∧ sz = 1 then s.flist u k B.c else s
  | none => s
theorem frzK_sl (u : Nat) (k : Key) (n sz : Nat) : frzK s u (.sl k n sz) = frzL s u k n sz (s.b k) := rfl
theorem frzL_some (u : Nat) (k : Key) (n sz : Nat) (l : List AV) (z : Bool) : frzL s u k n sz (some ⟨l, z⟩) = if l.all clean = true ∧ n = l.length ∧ sz = 1 then s.flist u k l else s := rfl
theorem flist_t (u v : Nat) (k : Key) (l : List AV) : (s.flist u k l).t v = if v = u then .list 1 (l.map fun y => [y]) .no else s.t v := rfl
theorem flist_b (u : Nat) (k k' : Key) (l : List AV) : (s.flist u k l).b k' = if k' = k then some ⟨l, true⟩ else s.b k' := rfl
theorem flist_d (u : Nat) (k : Key) (l : List AV) : (s.flist u k l).d = s.d := rfl
theorem flist_g (u : Nat) (k : Key) (l : List AV) : (s.flist u k l).g = s.g := rfl
attribute [go_sem] frzK_sl frzL_some flist_t flist_b flist_d flist_g
theorem frzK_box (u : Nat) (k : Key) (o : Nat) : frzK s u (.box k o) = frzB s k (s.b k) := rfl
theorem frzB_some (k : Key) (l : List AV) (z : Bool) : frzB s k (some ⟨l, z⟩) = if l.all clean = true then s.fbox k l else s := rfl
theorem fbox_t (k : Key) (l : List AV) : (s.fbox k l).t = s.t := rfl
theorem fbox_b (k k' : Key) (l : List AV) : (s.fbox k l).b k' = if k' = k then some ⟨l, true⟩ else s.b k' := rfl
theorem fbox_d (k : Key) (l : List AV) : (s.fbox k l).d = s.d := rfl
theorem fbox_g (k : Key) (l : List AV) : (s.fbox k l).g = s.g := rfl
theorem ap1_eq (x : Nat) (ys ds : List Nat) : ap1 s (x, ys, ds) = ap2 s ys ds (s.t x) := rfl
theorem ap2_box (k : Key) (o : Nat) (ys ds : List Nat) : ap2 s ys ds (.box k o) = ((ys.all fun y => ap0 k (s.t y)) && ds.all (fun d => decide (k.1 ≠ d))) := rfl
theorem ap0_box (k k' : Key) (o : Nat) : ap0 k (.box k' o) = decide (k' ≠ k) := rfl
theorem ap0_ptr (k : Key) (l : List AV) : ap0 k (.ptr l) = true := rfl
theorem ap0_any (k : Key) : ap0 k .any = true := rfl
attribute [go_sem] ap1_eq ap2_box ap0_box ap0_ptr ap0_any
attribute [go_sem] hFz_nil hFz_cons hAp_nil hAp_cons frz_frzK frzK_box frzB_some fbox_t fbox_b fbox_d fbox_g
theorem ecall_t (d u : Nat) (k : Key) (v : AV) (c : List AV) (kl : Option Key) : (s.ecall (some d) k v c kl).t u = if u = d then v else s.t u := rfl
theorem ecall_t0 (k : Key) (v : AV) (c : List AV) (kl : Option Key) : (s.ecall none k v c kl).t = s.t := rfl
theorem ecall_b (d : Option Nat) (k k' : Key) (v : AV) (c : List AV) (kl : Option Key) : (s.ecall d k v c kl).b k' = if k' = k then some ⟨c, false⟩ else s.b k' := rfl
theorem ecall_d (d : Option Nat) (k k' : Key) (v : AV) (c : List AV) (kl : Option Key) : (s.ecall d k v c kl).d k' = if k' = (k.1, s.g k.1, 0) then false else killO s.d kl k' := rfl
theorem ecall_g (d : Option Nat) (k : Key) (u : Nat) (v : AV) (c : List AV) (kl : Option Key) : (s.ecall d k v c kl).g u = if u = k.1 then s.g k.1 + 1 else s.g u := rfl
theorem s1_t (args pre : List AV) (x : AV) (u : Nat) : (s1 args pre x).t u = if u = 0 then .box (0, 0, 0) 0 else args.getD (u - 1) .any := rfl
theorem s1_b (args pre : List AV) (x : AV) (k : Key) : (s1 args pre x).b k = if k = (0, 0, 0) then some ⟨pre ++ [x], false⟩ else none := rfl
theorem s1_d (args pre : List AV) (x : AV) (k : Key) : (s1 args pre x).d k = false := rfl
theorem s1_g (args pre : List AV) (x : AV) (u : Nat) : (s1 args pre x).g u = if u = 0 then 1 else 0 := rfl
theorem crt_at (d g n : Nat) (f : Key → Bool) (k : Key) : crt d g n f k = if k.1 = d ∧ k.2.1 = g ∧ k.2.2 < n then false else f k := rfl
theorem killO_none (f : Key → Bool) : killO f none = f := rfl
theorem killO_some (f : Key → Bool) (k k' : Key) : killO f (some k) k' = if k' = k then true else f k' := rfl
attribute [go_sem] ecall_t ecall_t0 ecall_b ecall_d ecall_g s1_t s1_b s1_d s1_g crt_at killO_none killO_some
theorem acode_seq (x y : Code) : acode P X (.seq x y) Q s = acode P X x (fun e s' => match e with | .normal => acode P X y Q s' | e => Q e s') s := rfl
theorem acode_block (id : Nat) (c : Code) : acode P X (.block id c) Q s = acode P X c (fun e s' => match e with | .exit id' => if id' = id then Q .normal s' else Q (.exit id') s' | e => Q e s') s := rfl
theorem acode_scope (c : Code) : acode P X (.scope c) Q s = acode P X c (fun e s' => match e with | .goto _ => False | e => Q e s') s := rfl
theorem acode_exit (id : Nat) : acode P X (.exit id) Q s = Q (.exit id) s := rfl
theorem acode_ret : acode P X .ret Q s = Q .ret s := rfl
def condK (b : Bool) (X Y : Prop) (_ : Tag (X, Y)) : Prop := (b = true → X) ∧ (b = false → Y)
theorem condK_true (X Y : Prop) : condK true X Y (.mk _) = X := by simp [condK]
theorem condK_false (X Y : Prop) : condK false X Y (.mk _) = Y := by simp [condK]
/-- A loop. -/
def loopK (P : Program) (X : Hints) (c : Code) (Q : Exit → St → Prop) (s : St) (_ : Tag (X, c, Q)) : Prop := acode P X (.loop c) Q s
theorem acode_loop (c : Code) : acode P X (.loop c) Q s = loopK P X c Q s (.mk _) := rfl
def testK (x : AV) (X Y : Prop) (_ : Tag (X, Y)) : Prop := match x with | .v (.bool b) => condK b X Y (.mk _) | _ => False
theorem testK_bool (b : Bool) (X Y : Prop) : testK (.v (.bool b)) X Y (.mk _) = condK b X Y (.mk _) := rfl
theorem acode_cond (c : Operand) (x y : Code) : acode P X (.cond c x y) Q s = testK (s.o P 0 c) (acode P X x Q s) (acode P X y Q s) (.mk _) := rfl
attribute [go_sem]         condK_true condK_false testK_bool 

/-! ### Operations -/
theorem aops_nil : aops P ops [] s K = K s := rfl
def gK (x : Option Key) (A : Prop) (B : Key → Prop) (_ : Tag (A, B)) : Prop := match x with | none => A | some k => B k
theorem gK_none (A : Prop) (B : Key → Prop) : gK none A B (.mk _) = A := rfl
theorem gK_some (k : Key) (A : Prop) (B : Key → Prop) : gK (some k) A B (.mk _) = B k := rfl
theorem stepG_gK (o : Oper) : stepG P s o K = gK (boxArg P s o) (stepF P s o fun e => K (s.app o.dst e)) (fun k => estepF P s o k K) (.mk _) := by
  unfold stepG gK
  cases boxArg P s o <;> rfl
theorem aops_cons (dst : Option Nat) (op : Op) (ty : TypeId) (p : String) (af : Array Edge) :
    aops P ops (⟨dst, op, ty, p, af, none⟩ :: r) s K = gK (boxArg P s ⟨dst, op, ty, p, af, none⟩) (stepF P s ⟨dst, op, ty, p, af, none⟩ (fun e => aops P ops r (s.app dst e) K)) (fun k => estepF P s ⟨dst, op, ty, p, af, none⟩ k (fun s' => aops P ops r s' K)) (.mk _) := by
  rw [← stepG_gK (K := fun s' => aops P ops r s' K)]
  simp [aops, wantA]
def gdst (ops : Array Oper) (j : Nat) : Option Nat := (ops[j]?).bind (·.dst)
theorem gdst_zero (o : Oper) (l : List Oper) : gdst (o :: l).toArray 0 = o.dst := by simp [gdst]
theorem gdst_succ (o : Oper) (l : List Oper) (j : Nat) : gdst (o :: l).toArray (j + 1) = gdst l.toArray j := by simp [gdst]
def testG (x : AV) (want : Bool) (X Y : Prop) (_ : Tag (X, Y)) : Prop := match x with | .v (.bool b) => condK (b == want) X Y (.mk _) | .tup [] => Y | _ => False
theorem testG_bool (b : Bool) (X Y : Prop) : testG (.v (.bool b)) true X Y (.mk _) = condK b X Y (.mk _) := by simp [testG]
theorem testG_bool0 (b : Bool) (X Y : Prop) : testG (.v (.bool b)) false X Y (.mk _) = condK b Y X (.mk _) := by cases b <;> simp [testG, condK]
theorem testG_none (want : Bool) (X Y : Prop) : testG (.tup []) want X Y (.mk _) = Y := rfl
attribute [go_sem] testG_bool0 testG_none
def guardK (s : St) (d : Option Nat) (want : Bool) (X Y : Prop) (_ : Tag (X, Y)) : Prop := match d with
  | some d => testG (s.t d) want X Y (.mk _)
  | none => False
theorem guardK_some (d : Nat) (want : Bool) (X Y : Prop) : guardK s (some d) want X Y (.mk _) = testG (s.t d) want X Y (.mk _) := rfl
theorem aops_guard (dst : Option Nat) (op : Op) (ty : TypeId) (p : String) (af : Array Edge) (j : Nat) (want : Bool) :
    aops P ops (⟨dst, op, ty, p, af, some (j, want)⟩ :: r) s K = guardK s (gdst ops j) want
      (gK (boxArg P s ⟨dst, op, ty, p, af, none⟩) (stepF P s ⟨dst, op, ty, p, af, none⟩ (fun e => aops P ops r (s.app dst e) K)) (fun k => estepF P s ⟨dst, op, ty, p, af, none⟩ k (fun s' => aops P ops r s' K)) (.mk _)) (aops P ops r (s.skip dst) K) (.mk _) := by
  have e : aops P ops (⟨dst, op, ty, p, af, some (j, want)⟩ :: r) s K = (match wantA ops s ⟨dst, op, ty, p, af, some (j, want)⟩ with
    | none => False
    | some c => (c = true → stepG P s ⟨dst, op, ty, p, af, none⟩ fun s' => aops P ops r s' K) ∧ (c = false → aops P ops r (s.skip dst) K)) := rfl
  rw [e]
  rw [stepG_gK (K := fun s' => aops P ops r s' K)]
  unfold wantA gdst guardK testG
  simp only
  cases (ops[j]?).bind (·.dst) with
  | none => rfl
  | some d =>
    simp only
    cases s.t d with
    | v v => cases v <;> rfl
    | tup l => cases l <;> simp
    | _ => rfl
theorem skip_some (d : Nat) : s.skip (some d) = s.set d (.tup []) := rfl
theorem skip_none : s.skip none = s := rfl
theorem o_tmp (t : TypeId) (x : Nat) : s.o P t (.tmp x) = s.t x := rfl
theorem o_const (t : TypeId) (v : Value) : s.o P t (.const v) = cst P t v := rfl
theorem o_func (t : TypeId) (f : FuncId) : s.o P t (.func f) = .clo f [] := rfl
theorem cst_int (t : TypeId) (k : IntKind) (n : Int) : cst P t (.int k n) = .v (.int k n) := rfl
theorem cst_bool (t : TypeId) (b : Bool) : cst P t (.bool b) = .v (.bool b) := rfl
theorem cells_v (v : Value) : cells? (.v v) = some [.v v] := rfl
theorem cells_agg (l : List AV) : cells? (.agg l) = some l := rfl
theorem cells_list (sz : Nat) (xs : List (List AV)) (tk : Tok) : cells? (.list sz xs tk) = some [.list sz xs tk] := rfl
theorem cells_box (k : Key) (o : Nat) : cells? (.box k o) = some [.box k o] := rfl
theorem cells_sl (k : Key) (o n : Nat) : cells? (.sl k o n) = some [.sl k o n] := rfl
theorem cells_ptr (l : List AV) : cells? (.ptr l) = some [.ptr l] := rfl
theorem cells_clo (f : FuncId) (l : List AV) : cells? (.clo f l) = some [.clo f l] := rfl
theorem fgt_v (v : Value) : fgt (.v v) = .v v := rfl
theorem fgt_list (sz : Nat) (xs : List (List AV)) (tk : Tok) : fgt (.list sz xs tk) = .list sz xs .no := rfl
theorem fgt_ptr (l : List AV) : fgt (.ptr l) = .ptr l := rfl
theorem fgt_sl (k : Key) (n z : Nat) : fgt (.sl k n z) = .sl k n z := rfl
theorem fgt_clo (f : FuncId) (l : List AV) : fgt (.clo f l) = .clo f l := rfl
theorem fgtV_agg (l : List AV) : fgtV (.agg l) = .agg (l.map fgt) := rfl
theorem fgtV_v (v : Value) : fgtV (.v v) = .v v := rfl
theorem fgtV_list (sz : Nat) (xs : List (List AV)) (tk : Tok) : fgtV (.list sz xs tk) = .list sz xs .no := rfl
theorem fgtV_clo (f : FuncId) (l : List AV) : fgtV (.clo f l) = .clo f l := rfl
theorem fgtV_ptr (l : List AV) : fgtV (.ptr l) = .ptr l := rfl
theorem clean_v (v : Value) : clean (.v v) = true := rfl
theorem clean_list (sz : Nat) (xs : List (List AV)) : clean (.list sz xs .no) = true := rfl
theorem clean_ptr (l : List AV) : clean (.ptr l) = true := rfl
theorem clean_clo (f : FuncId) (l : List AV) : clean (.clo f l) = true := rfl
theorem cleanV_agg (l : List AV) : cleanV (.agg l) = l.all clean := rfl
theorem cleanV_v (v : Value) : cleanV (.v v) = true := rfl
theorem cleanV_list (sz : Nat) (xs : List (List AV)) : cleanV (.list sz xs .no) = true := rfl
theorem cleanV_clo (f : FuncId) (l : List AV) : cleanV (.clo f l) = true := rfl
theorem cleanV_ptr (l : List AV) : cleanV (.ptr l) = true := rfl
theorem ren_v (d g : Nat) (v : Value) : ren d g (.v v) = .v v := rfl
theorem ren_list (d g sz : Nat) (xs : List (List AV)) (tk : Tok) : ren d g (.list sz xs tk) = .list sz xs (renT d g tk) := rfl
theorem ren_agg (d g : Nat) (l : List AV) : ren d g (.agg l) = .agg (l.map (ren0 d g)) := rfl
theorem ren_tup (d g : Nat) (l : List AV) : ren d g (.tup l) = .tup (l.map (ren1 d g)) := rfl
theorem ren1_v (d g : Nat) (v : Value) : ren1 d g (.v v) = .v v := rfl
theorem ren1_list (d g sz : Nat) (xs : List (List AV)) (tk : Tok) : ren1 d g (.list sz xs tk) = .list sz xs (renT d g tk) := rfl
theorem ren1_agg (d g : Nat) (l : List AV) : ren1 d g (.agg l) = .agg (l.map (ren0 d g)) := rfl
theorem ren0_v (d g : Nat) (v : Value) : ren0 d g (.v v) = .v v := rfl
theorem ren0_list (d g sz : Nat) (xs : List (List AV)) (tk : Tok) : ren0 d g (.list sz xs tk) = .list sz xs (renT d g tk) := rfl
theorem ren0_clo (d g : Nat) (f : FuncId) (l : List AV) : ren0 d g (.clo f l) = .clo f l := rfl
theorem renT_no (d g : Nat) : renT d g .no = .no := rfl
theorem renT_nil (d g : Nat) : renT d g .nil = .nil := rfl
theorem renT_own (d g : Nat) (k : Key) : renT d g (.own k) = .own (d, g, k.2.2) := rfl
theorem argsAV_nil (ts : List TypeId) : argsAV P s [] ts = [] := rfl
theorem argsAV_cons (x : Operand) (xs : List Operand) (t : TypeId) (ts : List TypeId) : argsAV P s (x :: xs) (t :: ts) = fgtV (s.o P t x) :: argsAV P s xs ts := rfl
theorem tokOK_nil : tokOK s .nil = true := rfl
theorem tokOK_own (k : Key) : tokOK s (.own k) = !s.d k := rfl
theorem tokKey_nil : tokKey .nil = none := rfl
theorem tokKey_own (k : Key) : tokKey (.own k) = some k := rfl
attribute [go_sem] gdst_zero gdst_succ guardK_some testG_bool  gK_none gK_some skip_some skip_none o_tmp o_const o_func cst_int cst_bool cells_v cells_agg cells_list cells_box cells_sl cells_ptr cells_clo fgt_v fgt_list fgt_ptr fgt_sl fgt_clo fgtV_agg fgtV_v fgtV_list fgtV_clo fgtV_ptr
  clean_v clean_list clean_ptr clean_clo cleanV_agg cleanV_v cleanV_list cleanV_clo cleanV_ptr ren_v ren_list ren_agg ren_tup ren1_v ren1_list ren1_agg ren0_v ren0_list ren0_clo renT_no renT_nil renT_own argsAV_nil argsAV_cons tokOK_nil tokOK_own tokKey_nil tokKey_own

/-! ### Numbers -/
theorem bin_add (t : TypeId) (k : IntKind) (a b : Int) : binAV P .add t (.v (.int k a)) (.v (.int k b)) = some (.v (.int k (k.wrap (a + b)))) := if_pos rfl
theorem bin_sub (t : TypeId) (k : IntKind) (a b : Int) : binAV P .sub t (.v (.int k a)) (.v (.int k b)) = some (.v (.int k (k.wrap (a - b)))) := if_pos rfl
theorem bin_mul (t : TypeId) (k : IntKind) (a b : Int) : binAV P .mul t (.v (.int k a)) (.v (.int k b)) = some (.v (.int k (k.wrap (a * b)))) := if_pos rfl
theorem bin_quo (t : TypeId) (k : IntKind) (a b : Int) : binAV P .quo t (.v (.int k a)) (.v (.int k b)) = if b = 0 then none else some (.v (.int k (k.wrap (a.tdiv b)))) := if_pos rfl
theorem bin_rem (t : TypeId) (k : IntKind) (a b : Int) : binAV P .rem t (.v (.int k a)) (.v (.int k b)) = if b = 0 then none else some (.v (.int k (a.tmod b))) := if_pos rfl
theorem bin_eql (t : TypeId) (k : IntKind) (a b : Int) : binAV P .eql t (.v (.int k a)) (.v (.int k b)) = some (.v (.bool (a == b))) := if_pos rfl
theorem bin_neq (t : TypeId) (k : IntKind) (a b : Int) : binAV P .neq t (.v (.int k a)) (.v (.int k b)) = some (.v (.bool (a != b))) := if_pos rfl
theorem bin_lss (t : TypeId) (k : IntKind) (a b : Int) : binAV P .lss t (.v (.int k a)) (.v (.int k b)) = some (.v (.bool (decide (a < b)))) := if_pos rfl
theorem bin_leq (t : TypeId) (k : IntKind) (a b : Int) : binAV P .leq t (.v (.int k a)) (.v (.int k b)) = some (.v (.bool (decide (a ≤ b)))) := if_pos rfl
theorem bin_gtr (t : TypeId) (k : IntKind) (a b : Int) : binAV P .gtr t (.v (.int k a)) (.v (.int k b)) = some (.v (.bool (decide (b < a)))) := if_pos rfl
theorem bin_geq (t : TypeId) (k : IntKind) (a b : Int) : binAV P .geq t (.v (.int k a)) (.v (.int k b)) = some (.v (.bool (decide (b ≤ a)))) := if_pos rfl
theorem bin_agg_eql (t : TypeId) (x y : List AV) : binAV P .eql t (.agg x) (.agg y) = if intStruct P t && decide (x.length = P.cellsOf t) && decide (y.length = P.cellsOf t) then (eqInts x y).map fun b => .v (.bool b) else none := rfl
theorem bin_agg_neq (t : TypeId) (x y : List AV) : binAV P .neq t (.agg x) (.agg y) = if intStruct P t && decide (x.length = P.cellsOf t) && decide (y.length = P.cellsOf t) then (eqInts x y).map fun b => .v (.bool (!b)) else none := rfl
theorem eqInts_nil : eqInts [] [] = some true := rfl
theorem eqInts_cons (a b : Int) (x y : List AV) : eqInts (.v (.int .i64 a) :: x) (.v (.int .i64 b) :: y) = (eqInts x y).map fun r => a == b && r := rfl
theorem map_some' {α β : Type} (f : α → β) (x : α) : (some x).map f = some (f x) := rfl
attribute [go_sem] bin_add bin_sub bin_mul bin_quo bin_rem bin_eql bin_neq bin_lss bin_leq bin_gtr bin_geq bin_agg_eql bin_agg_neq eqInts_nil eqInts_cons map_some'

/-- What follows an operation that is no call: 'o' its value. -/
def onO (x : Option AV) (K : AV → Prop) (_ : Tag K) : Prop := match x with | some v => K v | none => False
theorem onO_some (v : AV) (K : AV → Prop) : onO (some v) K (.mk _) = K v := rfl
theorem onO_ite (c : Prop) [Decidable c] (x y : Option AV) (K : AV → Prop) : onO (if c then x else y) K (.mk _) = ((c → onO x K (.mk _)) ∧ (¬ c → onO y K (.mk _))) := by
  by_cases h : c <;> simp [h]
theorem onO_none (K : AV → Prop) : onO none K (.mk _) = False := rfl

def effK (x : Option Eff) (KE : Eff → Prop) : Prop := match x with | some e => KE e | none => False
theorem effK_ite (c : Prop) [Decidable c] (x : Option Eff) : effK (if c then x else none) KE = (c ∧ effK x KE) := by
  by_cases h : c <;> simp [h, effK]
theorem effK_map {α : Type} (x : Option α) (f : α → Eff) : effK (x.map f) KE = (match x with | some v => KE (f v) | none => False) := by cases x <;> rfl
theorem stepF_eff (o : Oper) (h : (match o.op with | .call { callee := .value _, .. } => false | _ => true) = true) : stepF P s o KE = effK (ev P s o) KE := by
  unfold stepF
  split
  · rename_i ho; simp [ho] at h
  · rfl

theorem stepF_ev (o : Oper) (h : (match o.op with | .call { callee := .value _, .. } => false | _ => true) = true) : stepF P s o KE = (match ev P s o with | some e => KE e | none => False) := by
  unfold stepF
  split
  · rename_i ho; simp [ho] at h
  · rfl

variable (dst : Option Nat) (ty : TypeId) (p : String) (af : Array Edge) (gd : Option (Nat × Bool))
theorem stepF_move (x : Operand) : stepF P s ⟨dst, .move x, ty, p, af, gd⟩ KE = KE { v := s.o P ty x } := rfl
theorem stepF_assign (x : Operand) : stepF P s ⟨dst, .assign x, ty, p, af, gd⟩ KE = KE { v := s.o P ty x } := rfl
def pickK (c : AV) (x y : AV) (K : AV → Prop) (_ : Tag K) : Prop := match c with | .v (.bool b) => K (if b = true then x else y) | _ => False
theorem pickK_bool (b : Bool) (x y : AV) (K : AV → Prop) : pickK (.v (.bool b)) x y K (.mk _) = K (if b = true then x else y) := rfl
theorem stepF_pick (c x y : Operand) : stepF P s ⟨dst, .pick c x y, ty, p, af, gd⟩ KE = pickK (s.o P 0 c) (s.o P ty x) (s.o P ty y) (fun v => KE { v }) (.mk _) := by
  unfold stepF ev pickK
  simp only
  cases h : s.o P 0 c with
  | v v => cases v <;> rfl
  | _ => rfl
/-- The cells that an address leads to. -/
def atK (s : St) (x : AV) (K : List AV → Prop) (_ : Tag K) : Prop := match x with
  | .box k off => oK (s.b k) (fun B => off < B.c.length ∧ K (B.c.drop off)) (.mk _)
  | .ptr l => K l
  | _ => False
theorem atK_box (k : Key) (off : Nat) (K : List AV → Prop) : atK s (.box k off) K (.mk _) = oK (s.b k) (fun B => off < B.c.length ∧ K (B.c.drop off)) (.mk _) := rfl
theorem atK_ptr (l : List AV) (K : List AV → Prop) : atK s (.ptr l) K (.mk _) = K l := rfl
theorem stepF_load (t : TypeId) (x : Operand) : stepF P s ⟨dst, .load t x, ty, p, af, gd⟩ KE = atK s (s.o P 0 x) (fun l => onO (rdAV P t l) (fun v => KE { v }) (.mk _)) (.mk _) := by
  unfold stepF ev atK oK
  simp only
  cases h : s.o P 0 x with
  | box k off =>
    simp only
    cases hb : s.b k with
    | none => rfl
    | some B =>
      simp only
      by_cases ho : off < B.c.length
      · simp only [ho, if_true, true_and]
        cases rdAV P t (B.c.drop off) <;> rfl
      · simp [ho]
  | ptr l => simp only; cases rdAV P t l <;> rfl
  | _ => rfl
theorem stepF_alloc (t : TypeId) (d : Nat) : stepF P s ⟨some d, .alloc t, ty, p, af, gd⟩ KE = oK (zav P t) (fun l => KE { v := .box (d, s.g d, 0) 0, nb := some l }) (.mk _) := by
  unfold stepF ev oK
  simp only [Option.getD_some]
  cases zav P t <;> rfl
theorem stepF_box (t : TypeId) (x : Operand) (d : Nat) : stepF P s ⟨some d, .box t x, ty, p, af, gd⟩ KE = oK (cells? (s.o P t x)) (fun l => KE { v := .box (d, s.g d, 0) 0, nb := some l }) (.mk _) := by
  unfold stepF ev oK
  simp only [Option.getD_some]
  cases cells? (s.o P t x) <;> rfl
theorem stepF_build (t : TypeId) (ps : List (Nat × Operand)) : stepF P s ⟨dst, .build t ps.toArray, ty, p, af, gd⟩ KE =
    oK (places P t) (fun pl => oK (zav P t) (fun z => onO ((fillAV (pl.toArray[·]?) z (ps.map fun p => (p.1, s.o P (ptype P t p.1) p.2))).map AV.agg) (fun v => KE { v }) (.mk _)) (.mk _)) (.mk _) := by
  unfold stepF ev oK
  simp only
  cases places P t with
  | none => rfl
  | some pl =>
    cases zav P t with
    | none => rfl
    | some z =>
      simp only
      cases fillAV (pl.toArray[·]?) z (ps.map fun p => (p.1, s.o P (ptype P t p.1) p.2)) <;> rfl
theorem stepF_buildSlice (t : TypeId) (n : Nat) (ps : List (Nat × Operand)) (d : Nat) : stepF P s ⟨some d, .buildSlice t n ps.toArray, ty, p, af, gd⟩ KE =
    ((slT P t = true ∧ n = ps.length ∧ n * esz P t ≤ 2 ^ 24 ∧ (zvals P (elT P t)).map (·.length) = some (esz P t)) ∧
      oK (partsAV (esz P t) 0 (ps.map fun p => (p.1, s.o P (ptype P t p.1) p.2))) (fun l => KE { v := .list (esz P t) l (.own (d, s.g d, 0)), nt := 1 }) (.mk _)) := by
  unfold oK
  rw [stepF_eff _ rfl]
  unfold ev
  simp only [Option.getD_some, List.size_toArray]
  rw [effK_ite, effK_map]
def wrK (P : Program) (t : TypeId) (B : Option Box) (off : Nat) (c : List AV) (K : List AV → Prop) (_ : Tag K) : Prop := match B with
    | some ⟨l, false⟩ => (okT P t = true ∧ c.length = P.cellsOf t ∧ off + c.length ≤ l.length) ∧ K (l.take off ++ c ++ l.drop (off + c.length))
    | _ => False
theorem wrK_some (t : TypeId) (l : List AV) (off : Nat) (c : List AV) (K : List AV → Prop) : wrK P t (some ⟨l, false⟩) off c K (.mk _) = ((okT P t = true ∧ c.length = P.cellsOf t ∧ off + c.length ≤ l.length) ∧ K (l.take off ++ c ++ l.drop (off + c.length))) := rfl
def storeK (P : Program) (s : St) (t : TypeId) (x : AV) (c : Option (List AV)) (K : Key → List AV → Prop) (_ : Tag K) : Prop := match x, c with
  | .box k off, some c => wrK P t (s.b k) off c (K k) (.mk _)
  | _, _ => False
theorem storeK_box (t : TypeId) (k : Key) (off : Nat) (c : List AV) (K : Key → List AV → Prop) : storeK P s t (.box k off) (some c) K (.mk _) = wrK P t (s.b k) off c (K k) (.mk _) := rfl
theorem stepF_store (t : TypeId) (x y : Operand) : stepF P s ⟨none, .store t x y, ty, p, af, gd⟩ KE = storeK P s t (s.o P 0 x) (cells? (s.o P t y)) (fun k l => KE { v := .any, st := [(k, l)] }) (.mk _) := by
  unfold stepF ev storeK wrK
  simp only
  cases s.o P 0 x with
  | box k off =>
    cases cells? (s.o P t y) with
    | none => rfl
    | some c =>
      simp only
      cases s.b k with
      | none => rfl
      | some B =>
        obtain ⟨l, fz⟩ := B
        cases fz with
        | true => rfl
        | false =>
          exact effK_ite _ _
  | _ => rfl
def refK (x : AV) (K : AV → Prop) (_ : Tag K) : Prop := match x with | .box k o => K (.box k o) | .ptr l => K (.ptr l) | .clo f l => K (.clo f l) | _ => False
theorem refK_box (k : Key) (o : Nat) (K : AV → Prop) : refK (.box k o) K (.mk _) = K (.box k o) := rfl
theorem refK_ptr (l : List AV) (K : AV → Prop) : refK (.ptr l) K (.mk _) = K (.ptr l) := rfl
theorem refK_clo (f : FuncId) (l : List AV) (K : AV → Prop) : refK (.clo f l) K (.mk _) = K (.clo f l) := rfl
theorem stepF_nilCheck (x : Operand) : stepF P s ⟨dst, .nilCheck x, ty, p, af, gd⟩ KE = refK (s.o P 0 x) (fun v => KE { v }) (.mk _) := by
  unfold stepF ev refK
  simp only
  cases s.o P 0 x <;> rfl
theorem stepF_binOp (op : BinOp) (t u : TypeId) (x y : Operand) : stepF P s ⟨dst, .binOp op t x y u, ty, p, af, gd⟩ KE = onO (binAV P op t (s.o P t x) (s.o P t y)) (fun v => KE { v }) (.mk _) := by
  unfold stepF ev onO
  simp only
  cases binAV P op t (s.o P t x) (s.o P t y) <;> rfl
def unK (op : UnOp) (x : AV) (K : AV → Prop) (_ : Tag K) : Prop := match op, x with
  | .not, .v (.bool b) => K (.v (.bool (!b)))
  | .neg, .v (.int k n) => K (.v (.int k (k.wrap (0 - n))))
  | _, _ => False
theorem unK_not (b : Bool) (K : AV → Prop) : unK .not (.v (.bool b)) K (.mk _) = K (.v (.bool (!b))) := rfl
theorem unK_neg (k : IntKind) (n : Int) (K : AV → Prop) : unK .neg (.v (.int k n)) K (.mk _) = K (.v (.int k (k.wrap (0 - n)))) := rfl
theorem stepF_unOp (op : UnOp) (t : TypeId) (x : Operand) : stepF P s ⟨dst, .unOp op t x, ty, p, af, gd⟩ KE = unK op (s.o P 0 x) (fun v => KE { v }) (.mk _) := by
  unfold stepF ev unK
  simp only
  cases s.o P 0 x with
  | v v => cases v <;> cases op <;> rfl
  | _ => cases op <;> rfl
def cvK (x y : Option TypeDesc) (v : AV) (K : AV → Prop) (_ : Tag K) : Prop := match x, y, v with
    | some _, some (.int k), .v (.int _ n) => K (.v (.int k (k.wrap n)))
    | _, _, _ => False
theorem cvK_int (x : TypeDesc) (k k' : IntKind) (n : Int) (K : AV → Prop) : cvK (some x) (some (.int k)) (.v (.int k' n)) K (.mk _) = K (.v (.int k (k.wrap n))) := rfl
theorem stepF_convert (t u : TypeId) (x : Operand) : stepF P s ⟨dst, .convert t u x, ty, p, af, gd⟩ KE = cvK (P.underlying t) (P.underlying u) (s.o P t x) (fun v => KE { v }) (.mk _) := by
  unfold stepF ev cvK
  simp only
  cases P.underlying t with
  | none => rfl
  | some _ =>
    cases P.underlying u with
    | none => rfl
    | some du =>
      cases du <;> (cases s.o P t x with
        | v v => cases v <;> rfl
        | _ => rfl)
def fldK (x : AV) (o : Option Nat) (K : AV → Prop) (_ : Tag K) : Prop := match x, o with
  | .box k off, some o => K (.box k (off + o))
  | .ptr l, some o => K (.ptr (l.drop o))
  | _, _ => False
theorem fldK_box (k : Key) (off o : Nat) (K : AV → Prop) : fldK (.box k off) (some o) K (.mk _) = K (.box k (off + o)) := rfl
theorem fldK_ptr (l : List AV) (o : Nat) (K : AV → Prop) : fldK (.ptr l) (some o) K (.mk _) = K (.ptr (l.drop o)) := rfl
theorem stepF_fieldAddr (t : TypeId) (x : Operand) (f : Nat) : stepF P s ⟨dst, .fieldAddr t x f, ty, p, af, gd⟩ KE = fldK (s.o P 0 x) (foff P t f) (fun v => KE { v }) (.mk _) := by
  unfold stepF ev fldK
  simp only
  cases s.o P 0 x <;> cases foff P t f <;> rfl
theorem stepF_indexAddr (t : TypeId) (x i : Operand) : stepF P s ⟨dst, .indexAddr t x i, ty, p, af, gd⟩ KE = onO (idxAV P t (s.o P t x) (s.o P 0 i)) (fun v => KE { v }) (.mk _) := by
  unfold stepF ev onO
  simp only
  cases idxAV P t (s.o P t x) (s.o P 0 i) <;> rfl
def tupK (x : AV) (i : Nat) (K : AV → Prop) (_ : Tag K) : Prop := match x with | .tup l => onO l[i]? K (.mk _) | _ => False
theorem tupK_tup (l : List AV) (i : Nat) (K : AV → Prop) : tupK (.tup l) i K (.mk _) = onO l[i]? K (.mk _) := rfl
theorem stepF_extract (x : Operand) (i : Nat) : stepF P s ⟨dst, .extract x i, ty, p, af, gd⟩ KE = tupK (s.o P 0 x) i (fun v => KE { v }) (.mk _) := by
  unfold stepF ev tupK onO
  simp only
  cases s.o P 0 x with
  | tup l => simp only; cases l[i]? <;> rfl
  | _ => rfl
theorem stepF_makeFunc (f : FuncId) (caps : List Operand) : stepF P s ⟨dst, .makeFunc (.func f) #[] caps.toArray, ty, p, af, gd⟩ KE = onO ((capAV s (caps.map (s.o P 0))).map (AV.clo f)) (fun v => KE { v }) (.mk _) := by
  unfold stepF ev onO
  simp only [Array.isEmpty_empty, if_true]
  cases capAV s (caps.map (s.o P 0)) <;> rfl
def mkK (P : Program) (t : TypeId) (x y : AV) (K : Int → List AV → Prop) (_ : Tag K) : Prop := match x, y with
  | .v (.int .i64 n), .v (.int .i64 m) => (slT P t = true ∧ n = m ∧ 0 ≤ n ∧ n * ebytes P t ≤ 140737488355328 ∧ n ≤ 9223372036854775807) ∧ oK (zav P (elT P t)) (fun z => z.length = esz P t ∧ K n z) (.mk _)
  | _, _ => False
theorem mkK_int (t : TypeId) (n m : Int) (K : Int → List AV → Prop) : mkK P t (.v (.int .i64 n)) (.v (.int .i64 m)) K (.mk _) =
    ((slT P t = true ∧ n = m ∧ 0 ≤ n ∧ n * ebytes P t ≤ 140737488355328 ∧ n ≤ 9223372036854775807) ∧ oK (zav P (elT P t)) (fun z => z.length = esz P t ∧ K n z) (.mk _)) := rfl
theorem stepF_makeSlice (t : TypeId) (x y : Operand) (d : Nat) : stepF P s ⟨some d, .makeSlice t x y, ty, p, af, gd⟩ KE = mkK P t (s.o P 0 x) (s.o P 0 y) (fun n z => KE { v := .sl (d, s.g d, 0) n.toNat (esz P t), nb := some (List.replicate n.toNat z).flatten }) (.mk _) := by
  unfold stepF ev mkK oK
  simp only [Option.getD_some]
  generalize s.o P 0 x = X
  generalize s.o P 0 y = Y
  cases X with
  | v v =>
    cases v with
    | int k n =>
      cases k with
      | i64 =>
        cases Y with
        | v u =>
          cases u with
          | int k' m =>
            cases k' with
            | i64 =>
              refine (effK_ite _ _).trans ?_
              congr 1
              cases zav P (elT P t) with
              | none => rfl
              | some z => exact effK_ite _ _
            | _ => rfl
          | _ => rfl
        | _ => rfl
      | _ => rfl
    | _ => rfl
  | _ => rfl
def slK (P : Program) (t : TypeId) (x y : AV) (K : AV → Prop) (_ : Tag K) : Prop := match x, y with
  | .list sz xs _, .v (.int _ n) => (slT P t = true ∧ sz = esz P t ∧ 0 ≤ n ∧ n ≤ xs.length) ∧ K (.list sz (xs.take n.toNat) .no)
  | _, _ => False
theorem slK_list (t : TypeId) (sz : Nat) (xs : List (List AV)) (tk : Tok) (k : IntKind) (n : Int) (K : AV → Prop) : slK P t (.list sz xs tk) (.v (.int k n)) K (.mk _) = ((slT P t = true ∧ sz = esz P t ∧ 0 ≤ n ∧ n ≤ xs.length) ∧ K (.list sz (xs.take n.toNat) .no)) := rfl
theorem stepF_slice (t : TypeId) (x h : Operand) : stepF P s ⟨dst, .slice t x none (some h) none, ty, p, af, gd⟩ KE = slK P t (s.o P t x) (s.o P 0 h) (fun v => KE { v }) (.mk _) := by
  unfold stepF ev slK
  simp only
  generalize s.o P t x = X
  generalize s.o P 0 h = Y
  cases X with
  | list sz xs tk =>
    cases Y with
    | v u =>
      cases u with
      | int k n => exact effK_ite _ _
      | _ => rfl
    | _ => rfl
  | _ => rfl
def lenK (x : AV) (K : Int → Prop) (_ : Tag K) : Prop := match x with
  | .list _ xs _ => K xs.length
  | .sl _ n _ => K n
  | _ => False
theorem lenK_list (sz : Nat) (xs : List (List AV)) (tk : Tok) (K : Int → Prop) : lenK (.list sz xs tk) K (.mk _) = K xs.length := rfl
theorem lenK_sl (k : Key) (n sz : Nat) (K : Int → Prop) : lenK (.sl k n sz) K (.mk _) = K n := rfl
theorem stepF_len (x : Operand) (t : TypeId) : stepF P s ⟨dst, .call { callee := .builtin .len, args := #[x], argTypes := #[t] }, ty, p, af, gd⟩ KE = (slT P t = true ∧ lenK (s.o P t x) (fun n => KE { v := .v (.int .i64 n) }) (.mk _)) := by
  unfold stepF ev lenK
  simp only
  by_cases h : slT P t = true
  · simp only [h, if_true, true_and]
    cases s.o P t x <;> rfl
  · simp [h]
def appK (P : Program) (s : St) (t : TypeId) (x y : AV) (K : Nat → List (List AV) → Option Key → Prop) (_ : Tag K) : Prop := match x, y with
  | .list sz xs tk, .list sz' ys _ => (slT P t = true ∧ sz = esz P t ∧ sz' = sz ∧ tokOK s tk = true ∧ (xs.length + ys.length) * ebytes P t ≤ 140737488355328
      ∧ (zvals P (elT P t)).map (·.length) = some (esz P t) ∧ xs.length + ys.length ≤ 9223372036854775807) ∧ K sz (xs ++ ys) (tokKey tk)
  | _, _ => False
theorem appK_list (t : TypeId) (sz sz' : Nat) (xs ys : List (List AV)) (tk tk' : Tok) (K : Nat → List (List AV) → Option Key → Prop) : appK P s t (.list sz xs tk) (.list sz' ys tk') K (.mk _) = ((slT P t = true ∧ sz = esz P t ∧ sz' = sz ∧ tokOK s tk = true ∧ (xs.length + ys.length) * ebytes P t ≤ 140737488355328
      ∧ (zvals P (elT P t)).map (·.length) = some (esz P t) ∧ xs.length + ys.length ≤ 9223372036854775807) ∧ K sz (xs ++ ys) (tokKey tk)) := rfl
theorem stepF_append (x y : Operand) (t : TypeId) (d : Nat) : stepF P s ⟨some d, .call { callee := .builtin .append, args := #[x, y], argTypes := #[t, t] }, ty, p, af, gd⟩ KE =
    appK P s t (s.o P t x) (s.o P t y) (fun sz l kl => KE { v := .list sz l (.own (d, s.g d, 0)), nt := 1, kl := kl }) (.mk _) := by
  unfold stepF ev appK
  simp only [Option.isSome_some, Option.getD_some, true_and]
  cases s.o P t x with
  | list sz xs tk =>
    cases s.o P t y with
    | list sz' ys tk' =>
      exact effK_ite _ _
    | _ => rfl
  | _ => rfl
def twoK (x y : AV) (K : IntKind → Int → Int → Prop) (_ : Tag K) : Prop := match x, y with
  | .v (.int k a), .v (.int _ b) => K k a b
  | _, _ => False
theorem twoK_int (k k' : IntKind) (a b : Int) (K : IntKind → Int → Int → Prop) : twoK (.v (.int k a)) (.v (.int k' b)) K (.mk _) = K k a b := rfl
theorem stepF_max (x y : Operand) (ts : Array TypeId) : stepF P s ⟨dst, .call { callee := .builtin .max, args := #[x, y], argTypes := ts }, ty, p, af, gd⟩ KE = twoK (s.o P 0 x) (s.o P 0 y) (fun k a b => KE { v := .v (.int k (if b > a then b else a)) }) (.mk _) := by
  unfold stepF ev twoK
  simp only
  cases s.o P 0 x with
  | v v =>
    cases v <;> (cases s.o P 0 y with
      | v u => cases u <;> rfl
      | _ => rfl)
  | _ => rfl
theorem stepF_min (x y : Operand) (ts : Array TypeId) : stepF P s ⟨dst, .call { callee := .builtin .min, args := #[x, y], argTypes := ts }, ty, p, af, gd⟩ KE = twoK (s.o P 0 x) (s.o P 0 y) (fun k a b => KE { v := .v (.int k (if b < a then b else a)) }) (.mk _) := by
  unfold stepF ev twoK
  simp only
  cases s.o P 0 x with
  | v v =>
    cases v <;> (cases s.o P 0 y with
      | v u => cases u <;> rfl
      | _ => rfl)
  | _ => rfl

/-- A call. -/
def callK (P : Program) (f : FuncId) (xs : List AV) (d g : Nat) (K : Eff → Prop) (_ : Tag K) : Prop := (∃ n r, Con P f xs n r ∧ K { v := ren d g r, nt := n }) ∨ ∃ m n l, BCon P f xs n l ∧ K { v := .sl (d, g, 0) n m, nb := some l }
theorem stepF_call (f : FuncId) (args : List Operand) (ts : List TypeId) : stepF P s ⟨dst, .call { callee := .value (.func f), args := args.toArray, argTypes := ts.toArray }, ty, p, af, gd⟩ KE =
    ((args.length ≤ ts.length ∧ (argsAV P s args ts).all cleanV = true) ∧ callK P f (argsAV P s args ts) (dst.getD 0) (s.g (dst.getD 0)) KE (.mk _)) := by
  unfold stepF callK
  simp [St.o, and_assoc]

theorem boxArg_move (x : Operand) : boxArg P s ⟨dst, .move x, ty, p, af, gd⟩ = none := rfl
theorem boxArg_assign (x : Operand) : boxArg P s ⟨dst, .assign x, ty, p, af, gd⟩ = none := rfl
theorem boxArg_pick (x y z : Operand) : boxArg P s ⟨dst, .pick x y z, ty, p, af, gd⟩ = none := rfl
theorem boxArg_alloc (t : TypeId) : boxArg P s ⟨dst, .alloc t, ty, p, af, gd⟩ = none := rfl
theorem boxArg_box (t : TypeId) (x : Operand) : boxArg P s ⟨dst, .box t x, ty, p, af, gd⟩ = none := rfl
theorem boxArg_build (t : TypeId) (ps : Array (Nat × Operand)) : boxArg P s ⟨dst, .build t ps, ty, p, af, gd⟩ = none := rfl
theorem boxArg_buildSlice (t : TypeId) (n : Nat) (ps : Array (Nat × Operand)) : boxArg P s ⟨dst, .buildSlice t n ps, ty, p, af, gd⟩ = none := rfl
theorem boxArg_load (t : TypeId) (x : Operand) : boxArg P s ⟨dst, .load t x, ty, p, af, gd⟩ = none := rfl
theorem boxArg_store (t : TypeId) (x y : Operand) : boxArg P s ⟨dst, .store t x y, ty, p, af, gd⟩ = none := rfl
theorem boxArg_nilCheck (x : Operand) : boxArg P s ⟨dst, .nilCheck x, ty, p, af, gd⟩ = none := rfl
theorem boxArg_binOp (b : BinOp) (t : TypeId) (x y : Operand) (u : TypeId) : boxArg P s ⟨dst, .binOp b t x y u, ty, p, af, gd⟩ = none := rfl
theorem boxArg_unOp (b : UnOp) (t : TypeId) (x : Operand) : boxArg P s ⟨dst, .unOp b t x, ty, p, af, gd⟩ = none := rfl
theorem boxArg_convert (t u : TypeId) (x : Operand) : boxArg P s ⟨dst, .convert t u x, ty, p, af, gd⟩ = none := rfl
theorem boxArg_fieldAddr (t : TypeId) (x : Operand) (f : Nat) : boxArg P s ⟨dst, .fieldAddr t x f, ty, p, af, gd⟩ = none := rfl
theorem boxArg_indexAddr (t : TypeId) (x i : Operand) : boxArg P s ⟨dst, .indexAddr t x i, ty, p, af, gd⟩ = none := rfl
theorem boxArg_extract (x : Operand) (i : Nat) : boxArg P s ⟨dst, .extract x i, ty, p, af, gd⟩ = none := rfl
theorem boxArg_makeFunc (f : Fn) (xs ys : Array Operand) : boxArg P s ⟨dst, .makeFunc f xs ys, ty, p, af, gd⟩ = none := rfl
theorem boxArg_makeSlice (t : TypeId) (x y : Operand) : boxArg P s ⟨dst, .makeSlice t x y, ty, p, af, gd⟩ = none := rfl
theorem boxArg_slice (t : TypeId) (x : Operand) (a b c : Option Operand) : boxArg P s ⟨dst, .slice t x a b c, ty, p, af, gd⟩ = none := rfl
theorem boxArg_builtin (b : Builtin) (xs : Array Operand) (ts : Array TypeId) : boxArg P s ⟨dst, .call { callee := .builtin b, args := xs, argTypes := ts }, ty, p, af, gd⟩ = none := rfl
def pbox (b : Bool) (x : AV) : Option Key := if b = true then box0 x else none
theorem pbox_false (x : AV) : pbox false x = none := rfl
theorem pbox_true (x : AV) : pbox true x = box0 x := rfl
theorem boxArg_call (f : FuncId) (x0 : Operand) (xs : List Operand) (t0 : TypeId) (ts : List TypeId) : boxArg P s ⟨dst, .call { callee := .value (.func f), args := (x0 :: xs).toArray, argTypes := (t0 :: ts).toArray }, ty, p, af, gd⟩ = pbox (isPtrT P t0) (s.o P t0 x0) := rfl
theorem boxArg_call0 (f : FuncId) : boxArg P s ⟨dst, .call { callee := .value (.func f), args := #[], argTypes := #[] }, ty, p, af, gd⟩ = none := rfl
theorem box0_box (k : Key) : box0 (.box k 0) = some k := rfl
theorem box0_ptr (l : List AV) : box0 (.ptr l) = none := rfl
def ecallK (P : Program) (s : St) (f : FuncId) (xs : List AV) (k : Key) (B : Option Box) (dst : Option Nat) (K : St → Prop) (_ : Tag K) : Prop :=
  ∃ pre x v pre' x', B = some ⟨pre ++ [x], false⟩ ∧ pre.all clean = true ∧ lastOK s x = true ∧ ECon P f xs pre (canonX x) v pre' x' ∧ K (s.ecall dst k v (pre' ++ [ren0 k.1 (s.g k.1) x']) (lastKey x))
theorem estep_call (f : FuncId) (x0 : Operand) (xs : List Operand) (t0 : TypeId) (ts : List TypeId) (k : Key) : estepF P s ⟨dst, .call { callee := .value (.func f), args := (x0 :: xs).toArray, argTypes := (t0 :: ts).toArray }, ty, p, af, gd⟩ k K =
    ((xs.length ≤ ts.length ∧ isPtrT P t0 = true ∧ s.o P t0 x0 = .box k 0 ∧ (argsAV P s xs ts).all cleanV = true) ∧ ecallK P s f (argsAV P s xs ts) k (s.b k) dst K (.mk _)) := by
  apply propext
  unfold estepF ecallK EEvK
  constructor
  · rintro ⟨v, c, kl, ⟨f', x0', xs', t0', ts', pre, x, pre', x', h1, h2, h3, h4, h5, h6, h7, h8, h9, h10, h11, rfl, rfl⟩, hK⟩
    simp only [St.o] at h1
    cases h1
    cases h2
    cases h3
    exact ⟨⟨h4, h5, h6, h10⟩, pre, x, v, pre', x', h7, h8, h9, h11, hK⟩
  · rintro ⟨⟨h4, h5, h6, h10⟩, pre, x, v, pre', x', h7, h8, h9, h11, hK⟩
    exact ⟨v, _, _, ⟨f, x0, xs, t0, ts, pre, x, pre', x', rfl, rfl, rfl, h4, h5, h6, h7, h8, h9, h10, h11, rfl, rfl⟩, hK⟩

attribute [go_sem] boxArg_move boxArg_assign boxArg_pick boxArg_alloc boxArg_box boxArg_build boxArg_buildSlice boxArg_load boxArg_store boxArg_nilCheck boxArg_binOp boxArg_unOp boxArg_convert boxArg_fieldAddr boxArg_indexAddr boxArg_extract boxArg_makeFunc boxArg_makeSlice boxArg_slice boxArg_builtin boxArg_call boxArg_call0 box0_box box0_ptr pbox_false pbox_true 
attribute [go_sem]   onO_some onO_none   pickK_bool  atK_box atK_ptr      storeK_box wrK_some  refK_box refK_ptr refK_clo 
   unK_not unK_neg  cvK_int  fldK_box fldK_ptr   tupK_tup   mkK_int  slK_list  lenK_list lenK_sl  appK_list  twoK_int   

/-! ### Results -/
variable {rs : List ResultVar}
theorem retQ_ret (x : AV) : retQ P rs x .ret s = oK (resAV P s rs) (fun xs => fin s (one xs) x) (.mk _) := by
  simp only [retQ]
  generalize resAV P s rs = z
  cases z <;> simp [oK]
theorem retQ_normal (x : AV) : retQ P rs x .normal s = oK (resAV P s rs) (fun xs => fin s (one xs) x) (.mk _) := retQ_ret x
theorem retE_ret (x y : AV) (pre : List AV) : retE P rs x pre y .ret s = (oK (resAV P s rs) (fun xs => x = .any ∨ (cleanV (fgtV (one xs)) = true ∧ x = fgtV (one xs))) (.mk _) ∧ oK (s.b (0, 0, 0)) (fun B => ∃ z, B = ⟨pre ++ [z], false⟩ ∧ pre.all clean = true ∧ lastOK s z = true ∧ y = canonX z) (.mk _)) := by
  simp only [retE]
  generalize resAV P s rs = z
  generalize s.b (0, 0, 0) = u
  cases z <;> cases u <;> simp [oK]
theorem retE_normal (x y : AV) (pre : List AV) : retE P rs x pre y .normal s = (oK (resAV P s rs) (fun xs => x = .any ∨ (cleanV (fgtV (one xs)) = true ∧ x = fgtV (one xs))) (.mk _) ∧ oK (s.b (0, 0, 0)) (fun B => ∃ z, B = ⟨pre ++ [z], false⟩ ∧ pre.all clean = true ∧ lastOK s z = true ∧ y = canonX z) (.mk _)) := retE_ret x y pre
theorem resAV_nil : resAV P s [] = some [] := rfl
theorem resAV_tmp (t : Nat) : resAV P s (.tmp t :: rs) = (resAV P s rs).map (s.t t :: ·) := by
  simp only [resAV, resAV1]
  cases resAV P s rs <;> rfl
def rdO (P : Program) (s : St) (t : TypeId) : AV → Option AV
  | .box k off => (s.b k).bind fun B => if off < B.c.length then rdAV P t (B.c.drop off) else none
  | _ => none
theorem rdO_box (t : TypeId) (k : Key) (off : Nat) : rdO P s t (.box k off) = (s.b k).bind fun B => if off < B.c.length then rdAV P t (B.c.drop off) else none := rfl
theorem resAV_cell (a : Nat) (t : TypeId) : resAV P s (.cell a t :: rs) = (rdO P s t (s.t a)).bind fun x => (resAV P s rs).map (x :: ·) := by
  simp only [resAV, resAV1, rdO]
  cases s.t a with
  | box k off =>
    simp only
    cases s.b k with
    | none => rfl
    | some B =>
      simp only [Option.bind_some]
      by_cases h : off < B.c.length
      · simp only [h, if_true]
        cases rdAV P t (B.c.drop off) with
        | none => rfl
        | some x => simp only [Option.bind_some]; cases resAV P s rs <;> rfl
      · simp only [h, if_false]; rfl
  | _ => rfl
theorem one_one (x : AV) : one [x] = x := rfl
theorem one_nil : one [] = .tup [] := rfl
theorem one_two (x y : AV) (l : List AV) : one (x :: y :: l) = .tup (x :: y :: l) := rfl
attribute [go_sem] retQ_ret retQ_normal retE_ret retE_normal resAV_nil resAV_tmp rdO_box resAV_cell one_one one_nil one_two Option.bind_some

/-- Cleared of what only the call could use. -/
def fin1F : AV → AV
  | .agg l => .agg (l.map fgt)
  | a => fgt a
def finF : AV → AV
  | .tup l => .tup (l.map fin1F)
  | a => fin1F a
def fin1C : AV → Bool
  | .agg l => l.all fun x => clean (fgt x)
  | a => clean (fgt a)
def finC : AV → Bool
  | .tup l => l.all fin1C
  | a => fin1C a
theorem fin1_of {x : AV} (h : fin1C x = true) : fin1 s x (fin1F x) := by
  cases hx : x with
  | agg l =>
    subst hx
    refine .agg _ _ (by simp) fun i y r hy hr => .inl ?_
    simp only [List.getElem?_map, hy, Option.map_some, Option.some.injEq] at hr
    exact ⟨List.all_eq_true.1 h y (List.mem_of_getElem? hy), hr.symm⟩
  | _ => subst hx; exact .one _ _ (.inl ⟨h, rfl⟩)
theorem fin_of {x r : AV} (h : finC x = true) (hr : r = finF x) : fin s x r := by
  subst hr
  cases hx : x with
  | tup l =>
    subst hx
    refine .tup _ _ (by simp) fun i y r hy hr => ?_
    simp only [List.getElem?_map, hy, Option.map_some, Option.some.injEq] at hr
    subst hr
    exact fin1_of (List.all_eq_true.1 h y (List.mem_of_getElem? hy))
  | _ => subst hx; exact .one _ _ (fin1_of h)

/-! ### Only what stands first is looked at -/
theorem aops_congr {l : List Oper} {s s' : St} {K : St → Prop} (h : s = s') : aops P ops l s K = aops P ops l s' K := by rw [h]
theorem acode_congr {c : Code} {s s' : St} {Q : Exit → St → Prop} (h : s = s') : acode P X c Q s = acode P X c Q s' := by rw [h]
theorem fin_congr {x y r : AV} (h : x = y) : fin s x r = fin s y r := by rw [h]
attribute [congr] aops_congr acode_congr fin_congr

theorem condK_intro {b : Bool} {X Y : Prop} {t : Tag (X, Y)} (h1 : b = true → X) (h2 : b = false → Y) : condK b X Y t := ⟨h1, h2⟩
theorem condK_dec {p : Prop} [Decidable p] {X Y : Prop} {t : Tag (X, Y)} (h1 : p → X) (h2 : ¬ p → Y) : condK (decide p) X Y t := ⟨fun h => h1 (by simpa using h), fun h => h2 (by simpa using h)⟩
theorem callK_intro {f : FuncId} {xs : List AV} {d g n : Nat} {r : AV} {K : Eff → Prop} {t : Tag K} (h : Con P f xs n r) (hK : K { v := ren d g r, nt := n }) : callK P f xs d g K t := .inl ⟨n, r, h, hK⟩
theorem callB_intro {f : FuncId} {xs : List AV} {d g n : Nat} (m : Nat) {l : List AV} {K : Eff → Prop} {t : Tag K} (h : BCon P f xs n l) (hK : K { v := .sl (d, g, 0) n m, nb := some l }) : callK P f xs d g K t := .inr ⟨m, n, l, h, hK⟩
theorem ecallK_intro {f : FuncId} {xs pre pre' : List AV} {x x' v : AV} {k : Key} {dst : Option Nat} {K : St → Prop} {t : Tag K} (h0 : pre.all clean = true) (h1 : lastOK s x = true) (h : ECon P f xs pre (canonX x) v pre' x')
    (hK : K (s.ecall dst k v (pre' ++ [ren0 k.1 (s.g k.1) x']) (lastKey x))) : ecallK P s f xs k (some ⟨pre ++ [x], false⟩) dst K t := ⟨pre, x, v, pre', x', rfl, h0, h1, h, hK⟩
theorem loopK_intro {α : Type} {c : Code} {t : Tag (X, c, Q)} (I : α → St → Prop) (μ : α → Nat) (h0 : ∃ x, I x s) (h : ∀ x s', I x s' → acode P X c (fun e s2 => match e with | .normal => ∃ y, μ y < μ x ∧ I y s2 | e => Q e s2) s') :
    loopK P X c Q s t := by
  obtain ⟨x0, h0⟩ := h0
  refine ⟨fun n s' => ∃ x, μ x = n ∧ I x s', ⟨μ x0, x0, rfl, h0⟩, ?_⟩
  rintro n s' ⟨x, rfl, hx⟩
  have := h x s' hx
  have e : (fun (e : Exit) (s2 : St) => (match e with | .normal => ∃ y, μ y < μ x ∧ I y s2 | e => Q e s2)) = (fun (e : Exit) (s2 : St) => (match e with | .normal => ∃ m, m < μ x ∧ ∃ y, μ y = m ∧ I y s2 | e => Q e s2)) := by
    funext e s2
    cases e with
    | normal => exact propext ⟨fun ⟨y, h1, h2⟩ => ⟨_, h1, y, rfl, h2⟩, fun ⟨m, h1, y, h2, h3⟩ => ⟨y, h2 ▸ h1, h3⟩⟩
    | _ => rfl
  rw [e] at this
  exact this

attribute [go_sem ↓] acode_skip acode_region0 acode_regionX acode_seq acode_block acode_scope acode_exit acode_ret acode_cond acode_loop aops_nil aops_cons aops_guard estep_call stepF_alloc stepF_append stepF_assign stepF_binOp stepF_box stepF_build stepF_buildSlice stepF_call stepF_convert stepF_extract stepF_fieldAddr stepF_indexAddr stepF_len stepF_load stepF_makeFunc stepF_makeSlice stepF_max stepF_min stepF_move stepF_nilCheck stepF_pick stepF_slice stepF_store stepF_unOp

end Go.Sy

/- What a walk may take for granted about its arguments; indexing. -/
namespace Go.Sy
open Go Go.RowKit
variable {P : Program} {C : CMap} {ρ : RMap} {τ : TMap}

/-- The lists in a value are no longer than a list can be. -/
def bnd : Nat → AV → Prop
  | 0, _ => True
  | n + 1, .list _ xs _ => (xs.length : Int) ≤ 9223372036854775807 ∧ ∀ x ∈ xs, ∀ a ∈ x, bnd n a
  | n + 1, .agg l => ∀ a ∈ l, bnd n a
  | n + 1, .ptr l => ∀ a ∈ l, bnd n a
  | _ + 1, _ => True

theorem rv_bnd : ∀ (n : Nat) (v : Value) (x : AV) (ρ : RMap) (τ : TMap), RV C ρ τ v x → bnd n x
  | 0, _, _, _, _, _ => trivial
  | n + 1, v, x, ρ, τ, h => by
    cases x with
    | list sz xs tk =>
      obtain ⟨A, c, cv, _, h1, h2, h3, h4, _⟩ := rv_list h
      refine ⟨?_, ?_⟩
      · have : maxLen ≤ 9223372036854775807 := by decide
        omega
      · intro x hx a ha
        obtain ⟨i, hi⟩ := List.getElem?_of_mem hx
        obtain ⟨j, hj⟩ := List.getElem?_of_mem ha
        exact rv_bnd n _ _ _ _ (h4 i x j a hi hj)
    | agg l =>
      obtain ⟨cs, _, h1, h2, _⟩ := rv_agg h
      intro a ha
      obtain ⟨j, hj⟩ := List.getElem?_of_mem ha
      have hlt : j < cs.size := by rw [h1]; exact (List.getElem?_eq_some_iff.1 hj).1
      exact rv_bnd n _ _ _ _ (h2 j cs[j] a (by simp [hlt]) hj)
    | ptr l =>
      obtain ⟨b, o, cv, _, _, h2⟩ := rv_ptr h
      intro a ha
      obtain ⟨j, hj⟩ := List.getElem?_of_mem ha
      exact rv_bnd n _ _ _ _ (h2 j a hj)
    | _ => trivial

theorem Con.assume {f : FuncId} {args : List AV} {n : Nat} {r : AV} (he : Enters P f) (h : (∀ x ∈ args, bnd 9 x) → Con P f args n r) : Con P f args n r := by
  refine ⟨he, fun C w vs hC hl hv => (h ?_).calls C w vs hC hl hv⟩
  intro x hx
  obtain ⟨i, hi⟩ := List.getElem?_of_mem hx
  have hlt : i < vs.size := by rw [hl]; exact (List.getElem?_eq_some_iff.1 hi).1
  exact rv_bnd 9 vs[i] x noρ noτ (hv i vs[i] x (by simp [hlt]) hi)

theorem ECon.assume {f : FuncId} {args pre pre' : List AV} {x x' r : AV} (he : Enters P f) (h : (∀ x ∈ args, bnd 9 x) → (∀ y ∈ pre, bnd 9 y) → bnd 9 x → ECon P f args pre x r pre' x') : ECon P f args pre x r pre' x' := by
  refine ⟨he, fun C w b τ vs hC hB hT hl hv => ?_⟩
  obtain ⟨cs, ty, g1, g2, g3, g4, g5⟩ := hB.ex
  refine (h ?_ ?_ ?_).calls C w b τ vs hC hB hT hl hv
  · intro x hx
    obtain ⟨i, hi⟩ := List.getElem?_of_mem hx
    have hlt : i < vs.size := by rw [hl]; exact (List.getElem?_eq_some_iff.1 hi).1
    exact rv_bnd 9 vs[i] x noρ noτ (hv i vs[i] x (by simp [hlt]) hi)
  · intro y hy
    obtain ⟨i, hi⟩ := List.getElem?_of_mem hy
    have hlt : i < cs.size := by rw [g2]; have := (List.getElem?_eq_some_iff.1 hi).1; omega
    exact rv_bnd 9 cs[i] y noρ noτ (g4 i cs[i] y (by simp [hlt]) hi)
  · have hlt : pre.length < cs.size := by rw [g2]; omega
    exact rv_bnd 9 cs[pre.length] x noρ τ (g5 _ (by simp [hlt]))

theorem idx_nat (t : TypeId) (sz : Nat) (xs : List (List AV)) (tk : Tok) (k : IntKind) (i : Nat) (h : i < xs.length) : idxAV P t (.list sz xs tk) (.v (.int k (i : Int))) = if slT P t = true ∧ sz = esz P t then some (.ptr xs[i]) else none := by
  simp only [idxAV]
  have h1 : (0 : Int) ≤ (i : Int) := by omega
  have h2 : (i : Int) < xs.length := by omega
  simp [h]
theorem idx_int (t : TypeId) (sz : Nat) (xs : List (List AV)) (tk : Tok) (k : IntKind) (i : Int) (h0 : 0 ≤ i) (h : i.toNat < xs.length) : idxAV P t (.list sz xs tk) (.v (.int k i)) = if slT P t = true ∧ sz = esz P t then some (.ptr xs[i.toNat]) else none := by
  simp only [idxAV]
  have h2 : i < xs.length := by omega
  simp [h, h0, h2]
theorem wrap_i64 (n : Int) (h0 : -9223372036854775808 ≤ n) (h1 : n ≤ 9223372036854775807) : IntKind.i64.wrap n = n := IntWalk.i64_in n ⟨h0, h1⟩
theorem finK {s : St} {x r : AV} (h : finC x = true ∧ r = finF x) : fin s x r := fin_of h.1 h.2
end Go.Sy

/- Functions that hand back lists of their own. -/
namespace Go.Sy
open Go Go.RowKit

variable {N : Nat} {w0 : World} {C0 : CMap} {E : EX} {s : St} {a : Act} {w : World} {C : CMap} {ρ : RMap} {τ : TMap} {P : Program}

def kidx : List Key → Key → Option Nat
  | [], _ => none
  | k' :: r, k => if k = k' then some 0 else (kidx r k).map (· + 1)
theorem kidx_get : ∀ {ks : List Key} {k : Key} {j : Nat}, kidx ks k = some j → ks[j]? = some k
  | [], k, j, h => by cases h
  | k' :: r, k, j, h => by
    unfold kidx at h
    split at h
    · rename_i hk; cases h; simp [hk]
    · obtain ⟨i, hi, rfl⟩ := Option.map_eq_some_iff.1 h
      simpa using kidx_get hi
def tkO : Option Nat → Tok
  | some j => .own (0, 0, j)
  | none => .no
def rnT (ks : List Key) : Tok → Tok
  | .own k => tkO (kidx ks k)
  | t => t
def rn0 (ks : List Key) : AV → AV
  | .list sz xs tk => .list sz xs (rnT ks tk)
  | a => a
def rn1 (ks : List Key) : AV → AV
  | .agg l => .agg (l.map (rn0 ks))
  | a => rn0 ks a
def rnF (ks : List Key) : AV → AV
  | .tup l => .tup (l.map (rn1 ks))
  | a => rn1 ks a
def rc0 : AV → Bool
  | .list _ _ _ => true
  | a => clean a
def rc1 : AV → Bool
  | .agg l => l.all rc0
  | a => rc0 a
def rcF : AV → Bool
  | .tup l => l.all rc1
  | a => rc1 a

def nτ (ks : List Key) (τ : TMap) : TMap := fun k => if k.1 = 0 ∧ k.2.1 = 0 then (ks[k.2.2]?).bind τ else none

theorem rn0_rv {ks : List Key} {v : Value} {x : AV} (h : RV C ρ τ v x) (hc : rc0 x = true) : RV C noρ (nτ ks τ) v (rn0 ks x) := by
  cases hx : x with
  | list sz xs tk =>
    rw [hx] at h
    obtain ⟨A, c, cv, rfl, h1, h2, h3, h4, h5⟩ := rv_list h
    refine .list sz xs _ A _ c cv rfl h1 h2 h3 h4 ?_
    cases tk with
    | no => trivial
    | nil => exact h5
    | own k =>
      simp only [rnT]
      cases hk : kidx ks k with
      | none => trivial
      | some j =>
        show nτ ks τ (0, 0, j) = _
        simp only [nτ, and_self, if_true, kidx_get hk]
        exact h5
  | _ =>
    rw [hx] at h hc
    exact (clean_rv h (by simpa [rc0] using hc)).mono (fun _ _ _ h => h) (fun _ _ h => h) (fun _ _ h => by cases h)

theorem rn1_rv {ks : List Key} {v : Value} {x : AV} (h : RV C ρ τ v x) (hc : rc1 x = true) : RV C noρ (nτ ks τ) v (rn1 ks x) := by
  cases hx : x with
  | agg l =>
    rw [hx] at h hc
    obtain ⟨cs, rfl, h1, h2, h3⟩ := rv_agg h
    refine .agg _ _ (by simpa using h1) (fun i v y hv hy => ?_) h3
    simp only [List.getElem?_map] at hy
    obtain ⟨z, hz, rfl⟩ := Option.map_eq_some_iff.1 hy
    exact rn0_rv (h2 i v z hv hz) (List.all_eq_true.1 hc z (List.mem_of_getElem? hz))
  | _ => rw [hx] at h hc; exact rn0_rv h hc

theorem rnF_rv {ks : List Key} {v : Value} {x : AV} (h : RV C ρ τ v x) (hc : rcF x = true) : RV C noρ (nτ ks τ) v (rnF ks x) := by
  cases hx : x with
  | tup l =>
    rw [hx] at h hc
    obtain ⟨cs, rfl, h1, h2⟩ := rv_tup h
    refine .tup _ _ (by simpa using h1) (fun i v y hv hy => ?_)
    simp only [List.getElem?_map] at hy
    obtain ⟨z, hz, rfl⟩ := Option.map_eq_some_iff.1 hy
    exact rn1_rv (h2 i v z hv hz) (List.all_eq_true.1 hc z (List.mem_of_getElem? hz))
  | _ => rw [hx] at h hc; exact rn1_rv h hc

def retN (P : Program) (rs : List ResultVar) (n : Nat) (r : AV) : Exit → St → Prop
  | .ret, s | .normal, s => oK (resAV P s rs) (fun xs => ∃ ks : List Key, ks.length = n ∧ ks.Nodup ∧ (ks.all fun k => !s.d k) = true ∧ rcF (one xs) = true ∧ r = rnF ks (one xs)) (.mk _)
  | _, _ => False

/-- An answer that is one list of the call's own, or nil. -/
def retC (P : Program) (rs : List ResultVar) (n : Nat) (r : AV) (e : Exit) (s : St) : Prop := retN P rs n r e s ∨ ∃ sz, n = 1 ∧ r = .list sz [] (.own (0, 0, 0)) ∧ retN P rs 0 (.list sz [] .nil) e s

theorem con_ofNw {f : FuncId} {fn : Func} {c : Code} {rs : List ResultVar} {args : List AV} {n : Nat} {r : AV} (hf : P.funcs[f]? = some fn) (hname : (fn.name == "runtime.NumGoroutine") = false) (hb : fn.body = some c)
    (hrs : fn.results.toList = rs) (hN : args.length ≤ fn.ntmps)
    (h : ∀ (w0 : World) (C0 : CMap) (Q : Exit → Act → World → Prop) (a : Act) (w : World), (∀ e s' a' w', retC P rs n r e s' → Rep fn.ntmps w0 C0 EX.none s' a' w' → Q e a' w') → Rep fn.ntmps w0 C0 EX.none (s0 args) a w → c.wp P Q a w) : Con P f args n r := by
  refine ⟨enters_of hf hname hb, ?_⟩
  intro C w vs hC hl hv
  refine calls_of_wp hf hb (h w C _ _ _ ?_ ⟨C, noρ, noτ, s0_rep hC hl hv hN⟩)
  intro e s' a' w' hq hr
  obtain ⟨C', ρ', τ', hr⟩ := hr
  have main : ∀ n r, oK (resAV P s' rs) (fun xs => ∃ ks : List Key, ks.length = n ∧ ks.Nodup ∧ (ks.all fun k => !s'.d k) = true ∧ rcF (one xs) = true ∧ r = rnF ks (one xs)) (.mk _) → a'.defers = [] ∧ ∃ v, (results fn a'.tmps).run P w' = .ok v w' ∧
      ∃ v1 C' τ', Ending.returned v = .returned v1 ∧ Below w.heap.size w w' ∧ (∀ b o v, C b o = some v → C' b o = some v) ∧ (∀ b o v, C' b o = some v → C b o = some v ∨ w.heap.size ≤ b) ∧
      CW C' w' ∧ RV C' noρ τ' v1 r ∧ Toks C' w' τ' n w.heap.size := by
    intro n r hq
    unfold oK at hq
    split at hq
    case h_2 => exact hq.elim
    rename_i xs hxs
    obtain ⟨ks, hkn, hnd, hal, hc, rfl⟩ := hq
    obtain ⟨v, hrun, hv⟩ := results_run (P := P) (fn := fn) hr (by rw [hrs]; exact hxs)
    have hnτ : ∀ k y, nτ ks τ' k = some y → k.1 = 0 ∧ k.2.1 = 0 ∧ k.2.2 < n ∧ ∃ k', ks[k.2.2]? = some k' ∧ τ' k' = some y ∧ s'.d k' = false := by
      intro k y hk
      unfold nτ at hk
      split at hk
      · rename_i hh
        obtain ⟨k', h1, h2⟩ := Option.bind_eq_some_iff.1 hk
        refine ⟨hh.1, hh.2, by rw [← hkn]; exact (List.getElem?_eq_some_iff.1 h1).1, k', h1, h2, ?_⟩
        have := List.all_eq_true.1 hal k' (List.mem_of_getElem? h1)
        simpa using this
      · cases hk
    refine ⟨hr.df, v, hrun, v, C', nτ ks τ', rfl, ⟨hr.fr.os, hr.fr.tape, hr.fr.output, hr.fr.size, fun k hk => hr.fr.block k hk id⟩, fun b o v h => hr.c0 _ _ _ h, ?_, hr.cw, rnF_rv hv hc, ⟨fun k x hk => ?_, ?_, ?_⟩⟩
    · intro b o v h
      rcases Nat.lt_or_ge b w.heap.size with hlt | hge
      · exact (hr.c1 _ _ _ hlt h).imp_right fun h => h.elim
      · exact .inr hge
    · have := hnτ k x hk
      exact ⟨this.1, this.2.1, this.2.2.1⟩
    · intro k v m hk
      obtain ⟨_, _, _, k', _, h2, h3⟩ := hnτ k _ hk
      obtain ⟨A, n', c, rfl, gg⟩ := hr.tk k' v m h2 h3
      refine ⟨A, n', c, rfl, ?_⟩
      rcases gg with gg | ⟨b', cs', ty', hA, q1, q2, q3, q4, q5, q6, q7⟩
      · exact .inl gg
      · refine .inr ⟨b', cs', ty', hA, q1, q2, q3, q4, q5, ?_⟩
        rcases q6 with q6 | q6
        · exact q6
        · exact q6.elim
    · intro k1 k2 v1 v2 m1 m2 b e1 e2 r1 r2
      obtain ⟨a1, a2, a3, k1', a4, a5, a6⟩ := hnτ k1 _ e1
      obtain ⟨b1, b2, b3, k2', b4, b5, b6⟩ := hnτ k2 _ e2
      have := hr.tj k1' k2' _ _ _ _ b a5 b5 a6 b6 r1 r2
      subst this
      have hj : k1.2.2 = k2.2.2 := (List.getElem?_inj (by rw [hkn]; exact a3) hnd).1 (a4.trans b4.symm)
      exact Prod.ext (a1.trans b1.symm) (Prod.ext (a2.trans b2.symm) hj)
  have conv : ∀ sz, (a'.defers = [] ∧ ∃ v, (results fn a'.tmps).run P w' = .ok v w' ∧
      ∃ v1 C' τ', Ending.returned v = .returned v1 ∧ Below w.heap.size w w' ∧ (∀ b o v, C b o = some v → C' b o = some v) ∧ (∀ b o v, C' b o = some v → C b o = some v ∨ w.heap.size ≤ b) ∧
      CW C' w' ∧ RV C' noρ τ' v1 (.list sz [] .nil) ∧ Toks C' w' τ' 0 w.heap.size) → (a'.defers = [] ∧ ∃ v, (results fn a'.tmps).run P w' = .ok v w' ∧
      ∃ v1 C' τ', Ending.returned v = .returned v1 ∧ Below w.heap.size w w' ∧ (∀ b o v, C b o = some v → C' b o = some v) ∧ (∀ b o v, C' b o = some v → C b o = some v ∨ w.heap.size ≤ b) ∧
      CW C' w' ∧ RV C' noρ τ' v1 (.list sz [] (.own (0, 0, 0))) ∧ Toks C' w' τ' 1 w.heap.size) := by
    rintro sz ⟨hd, v, hrun, v1, C', τ', h1, h2, h3, h4, h5, h6, _⟩
    have one : ∀ k x, (if k = (0, 0, 0) then some (v1, sz) else none : Option (Value × Nat)) = some x → k = (0, 0, 0) ∧ x = (v1, sz) := by
      intro k x hk
      split at hk
      · cases hk; exact ⟨by assumption, rfl⟩
      · cases hk
    obtain ⟨A, c, cv, rfl, q1, q2, _, _, q5⟩ := rv_list h6
    obtain ⟨A', q5⟩ := q5
    refine ⟨hd, v, hrun, _, C', fun k => if k = (0, 0, 0) then some (.slice A ([] : List (List AV)).length c, sz) else none, h1, h2, h3, h4, h5, .list _ _ _ A _ c cv rfl q1 q2 (fun i x hx => by simp at hx) (fun i x j y hx => by simp at hx) (if_pos rfl), ⟨?_, ?_, ?_⟩⟩
    · intro k x hk
      obtain ⟨rfl, _⟩ := one k x hk
      exact ⟨rfl, rfl, Nat.zero_lt_one⟩
    · intro k v m hk
      obtain ⟨_, hx⟩ := one k _ hk
      cases hx
      cases q5
      exact ⟨_, _, _, rfl, .inl rfl⟩
    · intro k k' v v' m m' b e1 e2 _ _
      rw [(one k _ e1).1, (one k' _ e2).1]
  have fin : ∀ n r, retN P rs n r e s' → bodyPost P fn (fun e w' => ∃ v C' τ', e = .returned v ∧ Below w.heap.size w w' ∧ (∀ b o v, C b o = some v → C' b o = some v) ∧ (∀ b o v, C' b o = some v → C b o = some v ∨ w.heap.size ≤ b) ∧
      CW C' w' ∧ RV C' noρ τ' v r ∧ Toks C' w' τ' n w.heap.size) e a' w' := by
    intro n r hq
    cases e with
    | ret => exact main n r hq
    | normal => exact main n r hq
    | _ => exact hq.elim
  rcases hq with hq | ⟨sz, rfl, rfl, hq⟩
  · exact fin _ _ hq
  · cases e with
    | ret => exact conv sz (main _ _ hq)
    | normal => exact conv sz (main _ _ hq)
    | _ => exact hq.elim

theorem retN_ret {rs : List ResultVar} {n : Nat} {r : AV} : retN P rs n r .ret s = oK (resAV P s rs) (fun xs => ∃ ks : List Key, ks.length = n ∧ ks.Nodup ∧ (ks.all fun k => !s.d k) = true ∧ rcF (one xs) = true ∧ r = rnF ks (one xs)) (.mk _) := rfl
theorem retN_normal {rs : List ResultVar} {n : Nat} {r : AV} : retN P rs n r .normal s = oK (resAV P s rs) (fun xs => ∃ ks : List Key, ks.length = n ∧ ks.Nodup ∧ (ks.all fun k => !s.d k) = true ∧ rcF (one xs) = true ∧ r = rnF ks (one xs)) (.mk _) := rfl
attribute [go_sem] retN_ret retN_normal

theorem con_ofN {D : List Ap → Array Oper → Bool} (hD : DOK P D) {X : Hints} {f : FuncId} {fn : Func} {c : Code} {rs : List ResultVar} {args : List AV} {n : Nat} {r : AV} (hf : P.funcs[f]? = some fn) (hname : (fn.name == "runtime.NumGoroutine") = false) (hb : fn.body = some c)
    (hrs : fn.results.toList = rs) (hN : (dstOK fn.ntmps c && draws D X c && decide (args.length ≤ fn.ntmps)) = true) (h : acode P X c (retN P rs n r) (s0 args)) : Con P f args n r := by
  rw [Bool.and_eq_true] at hN
  exact con_ofNw hf hname hb hrs (of_decide_eq_true hN.2) fun w0 C0 Q a w hQ hr => acode_sound (N := fn.ntmps) (w0 := w0) (C0 := C0) (E := EX.none) hD c _ _ _ _ _ hN.1 (fun e s' a' w' h => hQ e s' a' w' (.inl h)) h hr

end Go.Sy

/- A function that begins by asking whether a slice is nil. -/
namespace Go.Sy
open Go Go.RowKit

variable {N : Nat} {w0 : World} {C0 : CMap} {E : EX} {s : St} {a : Act} {w : World} {C : CMap} {ρ : RMap} {τ : TMap} {P : Program} {o : Oper} {e : Eff}

theorem nil_run {t e : TypeId} (hu : P.underlying t = some (.slice e)) (A : Option Addr) (n c : Nat) (X Y : Operand) :
    (do eqGuard .eql t X Y (.slice A n c) (.slice none 0 0); binOp .eql t (.slice A n c) (.slice none 0 0) : Sem Value).run P w = .ok (.bool A.isNone) w := by
  have hb : (binOp .eql t (.slice A n c) (.slice none 0 0)).run P w = .ok (.bool A.isNone) w := Lib.run_eql_slice_nil w t e A n c 0 0 hu
  simp [eqGuard, hb]

def nilK (P : Program) (s : St) (o : Oper) (K : St → Prop) : Prop := match o.op with
  | .binOp .eql t x (.const (.slice none 0 0)) _ => slT P t = true ∧ o.guard = none ∧ ∃ d sz xs tk, o.dst = some d ∧ s.o P t x = .list sz xs tk ∧ ∀ β, (β = true → xs = []) → K (s.set d (.v (.bool β)))
  | _ => False

theorem nil_sound {Q : Exit → Act → World → Prop} {K : Act → World → Prop} {KA : St → Prop} (h : Rep N w0 C0 E s a w) (hN : ∀ d, o.dst = some d → d < N) (hk : nilK P s o KA)
    (hK : ∀ s' a' w', KA s' → Rep N w0 C0 E s' a' w' → K a' w') : o.guard = none ∧ o.wp P a w K Q := by
  obtain ⟨C, ρ, τ, h⟩ := h
  unfold nilK at hk
  split at hk
  case h_2 => exact hk.elim
  rename_i t x u ho
  obtain ⟨ht, hg, d, sz, xs, tk, hd, hx, hk⟩ := hk
  refine ⟨hg, ?_⟩
  have hv := opnd (P := P) h t x
  rw [hx] at hv
  obtain ⟨A, c, cv, he, h1, h2, h3, _, _⟩ := rv_list hv
  have hu : ∃ e, P.underlying t = some (.slice e) := by
    unfold slT at ht
    split at ht
    · rename_i e hu; exact ⟨e, hu⟩
    · cases ht
  obtain ⟨e, hu⟩ := hu
  have hrun : (execOp a.eval o).run P w = .ok (.value (.bool A.isNone)) w := by
    have h2 : execOp a.eval o = (do pure (Next.value (← (do eqGuard .eql t x (.const (.slice none 0 0)) (a.eval x) (a.eval (.const (.slice none 0 0))); binOp .eql t (a.eval x) (a.eval (.const (.slice none 0 0))) : Sem Value)))) := by simp [execOp, ho]
    have h3 : a.eval (.const (.slice none 0 0)) = .slice none 0 0 := rfl
    rw [h2, Sem.run_bind, he, h3, nil_run hu]
    simp
  unfold Oper.wp
  rw [hrun]
  refine hK (s.set d (.v (.bool A.isNone))) _ w (hk _ ?_) ⟨C, ρ, τ, hd ▸ h.set d (hN d hd) (.v _ rfl)⟩
  intro hA
  cases xs with
  | nil => rfl
  | cons x xs =>
    obtain ⟨_, b, o, hA2, _⟩ := h3 0 x rfl
    rw [hA2] at hA
    cases hA

theorem aops_then {ops : Array Oper} {Q : Exit → Act → World → Prop} {K : St → Prop} {l2 : List Oper} (hQ : ∀ s' a' w', K s' → Rep N w0 C0 E s' a' w' → wpList P ops Q l2 a' w') :
    ∀ (l : List Oper) (s : St) (a : Act) (w : World), (∀ o ∈ l, ∀ d, o.dst = some d → d < N) → aops P ops l s K → Rep N w0 C0 E s a w → wpList P ops Q (l ++ l2) a w
  | [], s, a, w, _, h, hr => hQ s a w h hr
  | o :: r, s, a, w, hN, h, hr => by
    unfold aops at h
    split at h
    · exact h.elim
    · rename_i c hc
      obtain ⟨C, ρ, τ, hr'⟩ := id hr
      have hw := wantA_sound hr' hc
      have hNo := hN o (List.mem_cons_self ..)
      rw [List.cons_append]
      unfold wpList
      cases c with
      | true =>
        rw [if_pos hw]
        obtain ⟨e, he, h2⟩ := stepG_elim (h.1 rfl)
        exact .inl (stp_sound hr hNo he fun a' w' hr' => aops_then hQ r _ a' w' (fun o ho => hN o (List.mem_cons_of_mem _ ho)) h2 hr')
      | false =>
        rw [if_neg (by simp [hw])]
        exact aops_then hQ r _ _ w (fun o ho => hN o (List.mem_cons_of_mem _ ho)) (h.2 rfl) (skip_sound hr hNo)

theorem con_nil {D : List Ap → Array Oper → Bool} (hD : DOK P D) {f : FuncId} {fn : Func} {i0 i1 : Nat} {o0 : Array Oper} {op1 op2 : Oper} {c : Operand} {A B G : Code} {rs : List ResultVar} {args : List AV} {n : Nat} {r : AV}
    (hf : P.funcs[f]? = some fn) (hname : (fn.name == "runtime.NumGoroutine") = false)
    (hb : fn.body = some ((Code.region i0 o0 false).seq (((Code.region i1 #[op1, op2] false).seq (.cond c A B)).seq G)))
    (hrs : fn.results.toList = rs)
    (hN : (dstOK fn.ntmps (((Code.region i0 o0 false).seq (((Code.region i1 #[op1, op2] false).seq (.cond c A B)).seq G))) && draws D [] ((Code.cond c A B).seq G) && decide (args.length ≤ fn.ntmps)) = true)
    (h : acode P [] (.region i0 o0 false) (fun e s => e = .normal ∧ aops P #[op1, op2] [op1] s fun s => nilK P s op2 fun s => acode P [] ((Code.cond c A B).seq G) (retC P rs n r) s) (s0 args)) : Con P f args n r := by
  rw [Bool.and_eq_true, Bool.and_eq_true] at hN
  obtain ⟨⟨hN1, hN2⟩, hN3⟩ := hN
  refine con_ofNw hf hname hb hrs (of_decide_eq_true hN3) fun w0 C0 Q a w hQ hr => ?_
  simp only [dstOK, Bool.and_eq_true] at hN1
  obtain ⟨n0, ⟨n1, n2⟩, n3⟩ := hN1
  simp only [draws, Bool.and_eq_true] at hN2
  obtain ⟨⟨d1, d2⟩, d3⟩ := hN2
  refine wp_seq (acode_sound (N := fn.ntmps) (w0 := w0) (C0 := C0) (E := EX.none) hD (X := []) _ _ _ _ _ _ (by simp [dstOK, draws, n0]) ?_ h hr)
  rintro e s1 a1 w1 ⟨rfl, h1⟩ hr1
  have one : ∀ o ∈ [op1, op2], ∀ d, o.dst = some d → d < fn.ntmps := by
    intro o ho d hd
    simp at n1
    rcases List.mem_cons.1 ho with rfl | ho
    · have := n1.1; rw [hd] at this; simpa using this
    · simp at ho; subst ho; have := n1.2; rw [hd] at this; simpa using this
  have main : (((Code.region i1 #[op1, op2] false).seq (.cond c A B)).seq G).wp P Q a1 w1 := by
    refine wp_seq (wp_seq (wp_region_list (aops_then (l2 := [op2]) ?_ [op1] _ _ _ (fun o ho => one o (by simp at ho; simp [ho])) h1 hr1)))
    intro s2 a2 w2 h2 hr2
    obtain ⟨C, ρ, τ, hr2'⟩ := id hr2
    unfold wpList
    obtain ⟨g, hw⟩ := nil_sound (Q := Exit.then (Code.wp P (Code.cond c A B) (Exit.then (Code.wp P G Q) Q)) (Exit.then (Code.wp P G Q) Q))
      (K := wpList P #[op1, op2] (Exit.then (Code.wp P (Code.cond c A B) (Exit.then (Code.wp P G Q) Q)) (Exit.then (Code.wp P G Q) Q)) []) hr2 (one op2 (by simp)) h2 (by
      intro s3 a3 w3 h3 hr3
      unfold wpList
      show Code.wp P (Code.cond c A B) (Exit.then (Code.wp P G Q) Q) a3 w3
      unfold acode at h3
      refine acode_sound (N := fn.ntmps) (w0 := w0) (C0 := C0) (E := EX.none) hD (X := []) _ _ _ _ _ _ (by simp only [dstOK, draws, Bool.and_eq_true]; exact ⟨n2, d1, d2⟩) ?_ h3 hr3
      intro e s4 a4 w4 h4 hr4
      cases e with
      | normal => exact acode_sound (N := fn.ntmps) (w0 := w0) (C0 := C0) (E := EX.none) hD (X := []) _ _ _ _ _ _ (by simp [n3, d3]) hQ h4 hr4
      | _ => exact hQ _ _ _ _ h4 hr4)
    rw [if_pos (by simp [Region.wanted, g])]
    exact .inl hw
  exact main
end Go.Sy

/- The facts on the types of the translation that the walks read; each is closed by the kernel. -/
namespace Go.Sy
open Go Go.Proofs

theorem ok_2 : okT Try.prog 2 = true := by kernel_rfl
theorem cs_2 : Try.prog.cellsOf 2 = 1 := by kernel_rfl
theorem rd_2 (l : List AV) : rdAV Try.prog 2 l = l.head? := by kernel_rfl
theorem za_2 : zav Try.prog 2 = some [.v (.int .i64 0)] := by kernel_rfl
theorem un_2 : Try.prog.underlying 2 = some (.int .i64) := by kernel_rfl
theorem ok_3 : okT Try.prog 3 = true := by kernel_rfl
theorem cs_3 : Try.prog.cellsOf 3 = 1 := by kernel_rfl
theorem rd_3 (l : List AV) : rdAV Try.prog 3 l = l.head? := by kernel_rfl
theorem za_3 : zav Try.prog 3 = some [.v (.int .i64 0)] := by kernel_rfl
theorem un_3 : Try.prog.underlying 3 = some (.int .i64) := by kernel_rfl
theorem ok_4 : okT Try.prog 4 = true := by kernel_rfl
theorem cs_4 : Try.prog.cellsOf 4 = 1 := by kernel_rfl
theorem rd_4 (l : List AV) : rdAV Try.prog 4 l = l.head? := by kernel_rfl
theorem za_4 : zav Try.prog 4 = some [.v (.bool false)] := by kernel_rfl
theorem un_4 : Try.prog.underlying 4 = some .bool := by kernel_rfl
theorem ok_5 : okT Try.prog 5 = true := by kernel_rfl
theorem cs_5 : Try.prog.cellsOf 5 = 1 := by kernel_rfl
theorem rd_5 (l : List AV) : rdAV Try.prog 5 l = l.head? := by kernel_rfl
theorem za_5 : zav Try.prog 5 = some [.v (.int .u8 0)] := by kernel_rfl
theorem un_5 : Try.prog.underlying 5 = some (.int .u8) := by kernel_rfl
theorem ok_12 : okT Try.prog 12 = true := by kernel_rfl
theorem cs_12 : Try.prog.cellsOf 12 = 1 := by kernel_rfl
theorem rd_12 (l : List AV) : rdAV Try.prog 12 l = l.head? := by kernel_rfl
theorem za_12 : zav Try.prog 12 = some [.v (.int .u64 0)] := by kernel_rfl
theorem un_12 : Try.prog.underlying 12 = some (.int .u64) := by kernel_rfl
theorem ok_19 : okT Try.prog 19 = true := by kernel_rfl
theorem cs_19 : Try.prog.cellsOf 19 = 1 := by kernel_rfl
theorem rd_19 (l : List AV) : rdAV Try.prog 19 l = if 1 ≤ l.length then some (.agg (l.take 1)) else none := by kernel_rfl
theorem za_19 : zav Try.prog 19 = some [.v (.pointer none)] := by kernel_rfl
theorem fo_19_0 : foff Try.prog 19 0 = some 0 := by kernel_rfl
theorem pt_19_0 : ptype Try.prog 19 0 = 17 := by kernel_rfl
theorem pl_19 : places Try.prog 19 = some [(0, 1)] := by kernel_rfl
theorem ok_21 : okT Try.prog 21 = true := by kernel_rfl
theorem cs_21 : Try.prog.cellsOf 21 = 1 := by kernel_rfl
theorem rd_21 (l : List AV) : rdAV Try.prog 21 l = l.head? := by kernel_rfl
theorem za_21 : zav Try.prog 21 = some [.v (.int .i32 0)] := by kernel_rfl
theorem un_21 : Try.prog.underlying 21 = some (.int .i32) := by kernel_rfl
theorem ok_22 : okT Try.prog 22 = true := by kernel_rfl
theorem cs_22 : Try.prog.cellsOf 22 = 1 := by kernel_rfl
theorem rd_22 (l : List AV) : rdAV Try.prog 22 l = l.head? := by kernel_rfl
theorem za_22 : zav Try.prog 22 = some [.list 1 [] .nil] := by kernel_rfl
theorem es_22 : esz Try.prog 22 = 1 := by kernel_rfl
theorem eb_22 : ebytes Try.prog 22 = 8 := by kernel_rfl
theorem sl_22 : slT Try.prog 22 = true := by kernel_rfl
theorem el_22 : elT Try.prog 22 = 3 := by kernel_rfl
theorem zl_22 : (zvals Try.prog 3).map (fun x => x.length) = some 1 := by kernel_rfl
theorem pt_22 (i : Nat) : ptype Try.prog 22 i = 3 := by kernel_rfl
theorem cst_22 : cst Try.prog 22 (.slice none 0 0) = .list 1 [] .nil := by kernel_rfl
theorem ok_23 : okT Try.prog 23 = true := by kernel_rfl
theorem cs_23 : Try.prog.cellsOf 23 = 1 := by kernel_rfl
theorem rd_23 (l : List AV) : rdAV Try.prog 23 l = l.head? := by kernel_rfl
theorem za_23 : zav Try.prog 23 = some [.list 3 [] .nil] := by kernel_rfl
theorem es_23 : esz Try.prog 23 = 3 := by kernel_rfl
theorem eb_23 : ebytes Try.prog 23 = 24 := by kernel_rfl
theorem sl_23 : slT Try.prog 23 = true := by kernel_rfl
theorem el_23 : elT Try.prog 23 = 105 := by kernel_rfl
theorem zl_23 : (zvals Try.prog 105).map (fun x => x.length) = some 3 := by kernel_rfl
theorem pt_23 (i : Nat) : ptype Try.prog 23 i = 105 := by kernel_rfl
theorem cst_23 : cst Try.prog 23 (.slice none 0 0) = .list 3 [] .nil := by kernel_rfl
theorem ok_25 : okT Try.prog 25 = true := by kernel_rfl
theorem cs_25 : Try.prog.cellsOf 25 = 2 := by kernel_rfl
theorem rd_25 (l : List AV) : rdAV Try.prog 25 l = if 2 ≤ l.length then some (.agg (l.take 2)) else none := by kernel_rfl
theorem za_25 : zav Try.prog 25 = some [.list 1 [] .nil, .list 3 [] .nil] := by kernel_rfl
theorem fo_25_0 : foff Try.prog 25 0 = some 0 := by kernel_rfl
theorem pt_25_0 : ptype Try.prog 25 0 = 22 := by kernel_rfl
theorem fo_25_1 : foff Try.prog 25 1 = some 1 := by kernel_rfl
theorem pt_25_1 : ptype Try.prog 25 1 = 23 := by kernel_rfl
theorem pl_25 : places Try.prog 25 = some [(0, 1), (1, 1)] := by kernel_rfl
theorem ok_28 : okT Try.prog 28 = true := by kernel_rfl
theorem cs_28 : Try.prog.cellsOf 28 = 1 := by kernel_rfl
theorem rd_28 (l : List AV) : rdAV Try.prog 28 l = l.head? := by kernel_rfl
theorem za_28 : zav Try.prog 28 = some [.list 6 [] .nil] := by kernel_rfl
theorem es_28 : esz Try.prog 28 = 6 := by kernel_rfl
theorem eb_28 : ebytes Try.prog 28 = 144 := by kernel_rfl
theorem sl_28 : slT Try.prog 28 = true := by kernel_rfl
theorem el_28 : elT Try.prog 28 = 43 := by kernel_rfl
theorem zl_28 : (zvals Try.prog 43).map (fun x => x.length) = some 6 := by kernel_rfl
theorem pt_28 (i : Nat) : ptype Try.prog 28 i = 43 := by kernel_rfl
theorem cst_28 : cst Try.prog 28 (.slice none 0 0) = .list 6 [] .nil := by kernel_rfl
theorem ok_29 : okT Try.prog 29 = true := by kernel_rfl
theorem cs_29 : Try.prog.cellsOf 29 = 1 := by kernel_rfl
theorem rd_29 (l : List AV) : rdAV Try.prog 29 l = l.head? := by kernel_rfl
theorem za_29 : zav Try.prog 29 = some [.v (.int .i64 0)] := by kernel_rfl
theorem un_29 : Try.prog.underlying 29 = some (.int .i64) := by kernel_rfl
theorem ok_36 : okT Try.prog 36 = true := by kernel_rfl
theorem cs_36 : Try.prog.cellsOf 36 = 1 := by kernel_rfl
theorem rd_36 (l : List AV) : rdAV Try.prog 36 l = l.head? := by kernel_rfl
theorem za_36 : zav Try.prog 36 = some [.list 4 [] .nil] := by kernel_rfl
theorem es_36 : esz Try.prog 36 = 4 := by kernel_rfl
theorem eb_36 : ebytes Try.prog 36 = 96 := by kernel_rfl
theorem sl_36 : slT Try.prog 36 = true := by kernel_rfl
theorem el_36 : elT Try.prog 36 = 92 := by kernel_rfl
theorem zl_36 : (zvals Try.prog 92).map (fun x => x.length) = some 4 := by kernel_rfl
theorem pt_36 (i : Nat) : ptype Try.prog 36 i = 92 := by kernel_rfl
theorem cst_36 : cst Try.prog 36 (.slice none 0 0) = .list 4 [] .nil := by kernel_rfl
theorem ok_41 : okT Try.prog 41 = true := by kernel_rfl
theorem cs_41 : Try.prog.cellsOf 41 = 2 := by kernel_rfl
theorem rd_41 (l : List AV) : rdAV Try.prog 41 l = if 2 ≤ l.length then some (.agg (l.take 2)) else none := by kernel_rfl
theorem za_41 : zav Try.prog 41 = some [.list 1 [] .nil, .list 1 [] .nil] := by kernel_rfl
theorem fo_41_0 : foff Try.prog 41 0 = some 0 := by kernel_rfl
theorem pt_41_0 : ptype Try.prog 41 0 = 22 := by kernel_rfl
theorem fo_41_1 : foff Try.prog 41 1 = some 1 := by kernel_rfl
theorem pt_41_1 : ptype Try.prog 41 1 = 22 := by kernel_rfl
theorem pl_41 : places Try.prog 41 = some [(0, 1), (1, 1)] := by kernel_rfl
theorem ok_43 : okT Try.prog 43 = true := by kernel_rfl
theorem cs_43 : Try.prog.cellsOf 43 = 6 := by kernel_rfl
theorem rd_43 (l : List AV) : rdAV Try.prog 43 l = if 6 ≤ l.length then some (.agg (l.take 6)) else none := by kernel_rfl
theorem za_43 : zav Try.prog 43 = some [.list 1 [] .nil, .list 3 [] .nil, .list 1 [] .nil, .list 1 [] .nil, .list 1 [] .nil, .list 1 [] .nil] := by kernel_rfl
theorem fo_43_0 : foff Try.prog 43 0 = some 0 := by kernel_rfl
theorem pt_43_0 : ptype Try.prog 43 0 = 25 := by kernel_rfl
theorem fo_43_1 : foff Try.prog 43 1 = some 2 := by kernel_rfl
theorem pt_43_1 : ptype Try.prog 43 1 = 41 := by kernel_rfl
theorem fo_43_2 : foff Try.prog 43 2 = some 4 := by kernel_rfl
theorem pt_43_2 : ptype Try.prog 43 2 = 41 := by kernel_rfl
theorem pl_43 : places Try.prog 43 = some [(0, 2), (2, 2), (4, 2)] := by kernel_rfl
theorem ok_47 : okT Try.prog 47 = true := by kernel_rfl
theorem cs_47 : Try.prog.cellsOf 47 = 1 := by kernel_rfl
theorem rd_47 (l : List AV) : rdAV Try.prog 47 l = l.head? := by kernel_rfl
theorem za_47 : zav Try.prog 47 = some [.list 1 [] .nil] := by kernel_rfl
theorem es_47 : esz Try.prog 47 = 1 := by kernel_rfl
theorem eb_47 : ebytes Try.prog 47 = 1 := by kernel_rfl
theorem sl_47 : slT Try.prog 47 = true := by kernel_rfl
theorem el_47 : elT Try.prog 47 = 5 := by kernel_rfl
theorem zl_47 : (zvals Try.prog 5).map (fun x => x.length) = some 1 := by kernel_rfl
theorem pt_47 (i : Nat) : ptype Try.prog 47 i = 5 := by kernel_rfl
theorem cst_47 : cst Try.prog 47 (.slice none 0 0) = .list 1 [] .nil := by kernel_rfl
theorem ok_48 : okT Try.prog 48 = true := by kernel_rfl
theorem cs_48 : Try.prog.cellsOf 48 = 1 := by kernel_rfl
theorem rd_48 (l : List AV) : rdAV Try.prog 48 l = l.head? := by kernel_rfl
theorem za_48 : zav Try.prog 48 = some [.list 3 [] .nil] := by kernel_rfl
theorem es_48 : esz Try.prog 48 = 3 := by kernel_rfl
theorem eb_48 : ebytes Try.prog 48 = 3 := by kernel_rfl
theorem sl_48 : slT Try.prog 48 = true := by kernel_rfl
theorem el_48 : elT Try.prog 48 = 127 := by kernel_rfl
theorem zl_48 : (zvals Try.prog 127).map (fun x => x.length) = some 3 := by kernel_rfl
theorem pt_48 (i : Nat) : ptype Try.prog 48 i = 127 := by kernel_rfl
theorem cst_48 : cst Try.prog 48 (.slice none 0 0) = .list 3 [] .nil := by kernel_rfl
theorem ok_50 : okT Try.prog 50 = true := by kernel_rfl
theorem cs_50 : Try.prog.cellsOf 50 = 2 := by kernel_rfl
theorem rd_50 (l : List AV) : rdAV Try.prog 50 l = if 2 ≤ l.length then some (.agg (l.take 2)) else none := by kernel_rfl
theorem za_50 : zav Try.prog 50 = some [.list 1 [] .nil, .list 3 [] .nil] := by kernel_rfl
theorem fo_50_0 : foff Try.prog 50 0 = some 0 := by kernel_rfl
theorem pt_50_0 : ptype Try.prog 50 0 = 47 := by kernel_rfl
theorem fo_50_1 : foff Try.prog 50 1 = some 1 := by kernel_rfl
theorem pt_50_1 : ptype Try.prog 50 1 = 48 := by kernel_rfl
theorem pl_50 : places Try.prog 50 = some [(0, 1), (1, 1)] := by kernel_rfl
theorem ok_62 : okT Try.prog 62 = true := by kernel_rfl
theorem cs_62 : Try.prog.cellsOf 62 = 5 := by kernel_rfl
theorem rd_62 (l : List AV) : rdAV Try.prog 62 l = if 5 ≤ l.length then some (.agg (l.take 5)) else none := by kernel_rfl
theorem za_62 : zav Try.prog 62 = some [.list 1 [] .nil, .list 3 [] .nil, .list 1 [] .nil, .list 1 [] .nil, .list 1 [] .nil] := by kernel_rfl
theorem fo_62_0 : foff Try.prog 62 0 = some 0 := by kernel_rfl
theorem pt_62_0 : ptype Try.prog 62 0 = 50 := by kernel_rfl
theorem fo_62_1 : foff Try.prog 62 1 = some 2 := by kernel_rfl
theorem pt_62_1 : ptype Try.prog 62 1 = 47 := by kernel_rfl
theorem fo_62_2 : foff Try.prog 62 2 = some 3 := by kernel_rfl
theorem pt_62_2 : ptype Try.prog 62 2 = 47 := by kernel_rfl
theorem fo_62_3 : foff Try.prog 62 3 = some 4 := by kernel_rfl
theorem pt_62_3 : ptype Try.prog 62 3 = 47 := by kernel_rfl
theorem pl_62 : places Try.prog 62 = some [(0, 2), (2, 1), (3, 1), (4, 1)] := by kernel_rfl
theorem ok_63 : okT Try.prog 63 = true := by kernel_rfl
theorem cs_63 : Try.prog.cellsOf 63 = 1 := by kernel_rfl
theorem rd_63 (l : List AV) : rdAV Try.prog 63 l = l.head? := by kernel_rfl
theorem za_63 : zav Try.prog 63 = some [.list 9 [] .nil] := by kernel_rfl
theorem es_63 : esz Try.prog 63 = 9 := by kernel_rfl
theorem eb_63 : ebytes Try.prog 63 = 184 := by kernel_rfl
theorem sl_63 : slT Try.prog 63 = true := by kernel_rfl
theorem el_63 : elT Try.prog 63 = 69 := by kernel_rfl
theorem zl_63 : (zvals Try.prog 69).map (fun x => x.length) = some 9 := by kernel_rfl
theorem pt_63 (i : Nat) : ptype Try.prog 63 i = 69 := by kernel_rfl
theorem cst_63 : cst Try.prog 63 (.slice none 0 0) = .list 9 [] .nil := by kernel_rfl
theorem ok_64 : okT Try.prog 64 = true := by kernel_rfl
theorem cs_64 : Try.prog.cellsOf 64 = 1 := by kernel_rfl
theorem rd_64 (l : List AV) : rdAV Try.prog 64 l = l.head? := by kernel_rfl
theorem za_64 : zav Try.prog 64 = some [.list 4 [] .nil] := by kernel_rfl
theorem es_64 : esz Try.prog 64 = 4 := by kernel_rfl
theorem eb_64 : ebytes Try.prog 64 = 32 := by kernel_rfl
theorem sl_64 : slT Try.prog 64 = true := by kernel_rfl
theorem el_64 : elT Try.prog 64 = 156 := by kernel_rfl
theorem zl_64 : (zvals Try.prog 156).map (fun x => x.length) = some 4 := by kernel_rfl
theorem pt_64 (i : Nat) : ptype Try.prog 64 i = 156 := by kernel_rfl
theorem cst_64 : cst Try.prog 64 (.slice none 0 0) = .list 4 [] .nil := by kernel_rfl
theorem ok_65 : okT Try.prog 65 = true := by kernel_rfl
theorem cs_65 : Try.prog.cellsOf 65 = 1 := by kernel_rfl
theorem rd_65 (l : List AV) : rdAV Try.prog 65 l = l.head? := by kernel_rfl
theorem za_65 : zav Try.prog 65 = some [.list 5 [] .nil] := by kernel_rfl
theorem es_65 : esz Try.prog 65 = 5 := by kernel_rfl
theorem eb_65 : ebytes Try.prog 65 = 40 := by kernel_rfl
theorem sl_65 : slT Try.prog 65 = true := by kernel_rfl
theorem el_65 : elT Try.prog 65 = 158 := by kernel_rfl
theorem zl_65 : (zvals Try.prog 158).map (fun x => x.length) = some 5 := by kernel_rfl
theorem pt_65 (i : Nat) : ptype Try.prog 65 i = 158 := by kernel_rfl
theorem cst_65 : cst Try.prog 65 (.slice none 0 0) = .list 5 [] .nil := by kernel_rfl
theorem ok_67 : okT Try.prog 67 = true := by kernel_rfl
theorem cs_67 : Try.prog.cellsOf 67 = 5 := by kernel_rfl
theorem rd_67 (l : List AV) : rdAV Try.prog 67 l = if 5 ≤ l.length then some (.agg (l.take 5)) else none := by kernel_rfl
theorem za_67 : zav Try.prog 67 = some [.list 1 [] .nil, .list 3 [] .nil, .list 4 [] .nil, .v (.int .i64 0), .list 5 [] .nil] := by kernel_rfl
theorem fo_67_0 : foff Try.prog 67 0 = some 0 := by kernel_rfl
theorem pt_67_0 : ptype Try.prog 67 0 = 25 := by kernel_rfl
theorem fo_67_1 : foff Try.prog 67 1 = some 2 := by kernel_rfl
theorem pt_67_1 : ptype Try.prog 67 1 = 64 := by kernel_rfl
theorem fo_67_2 : foff Try.prog 67 2 = some 3 := by kernel_rfl
theorem pt_67_2 : ptype Try.prog 67 2 = 3 := by kernel_rfl
theorem fo_67_3 : foff Try.prog 67 3 = some 4 := by kernel_rfl
theorem pt_67_3 : ptype Try.prog 67 3 = 65 := by kernel_rfl
theorem pl_67 : places Try.prog 67 = some [(0, 2), (2, 1), (3, 1), (4, 1)] := by kernel_rfl
theorem ok_69 : okT Try.prog 69 = true := by kernel_rfl
theorem cs_69 : Try.prog.cellsOf 69 = 9 := by kernel_rfl
theorem rd_69 (l : List AV) : rdAV Try.prog 69 l = if 9 ≤ l.length then some (.agg (l.take 9)) else none := by kernel_rfl
theorem za_69 : zav Try.prog 69 = some [.v (.int .i64 0), .list 9 [] .nil, .list 1 [] .nil, .list 1 [] .nil, .list 1 [] .nil, .list 3 [] .nil, .list 4 [] .nil, .v (.int .i64 0), .list 5 [] .nil] := by kernel_rfl
theorem fo_69_0 : foff Try.prog 69 0 = some 0 := by kernel_rfl
theorem pt_69_0 : ptype Try.prog 69 0 = 3 := by kernel_rfl
theorem fo_69_1 : foff Try.prog 69 1 = some 1 := by kernel_rfl
theorem pt_69_1 : ptype Try.prog 69 1 = 63 := by kernel_rfl
theorem fo_69_2 : foff Try.prog 69 2 = some 2 := by kernel_rfl
theorem pt_69_2 : ptype Try.prog 69 2 = 41 := by kernel_rfl
theorem fo_69_3 : foff Try.prog 69 3 = some 4 := by kernel_rfl
theorem pt_69_3 : ptype Try.prog 69 3 = 67 := by kernel_rfl
theorem pl_69 : places Try.prog 69 = some [(0, 1), (1, 1), (2, 2), (4, 5)] := by kernel_rfl
theorem ok_76 : okT Try.prog 76 = true := by kernel_rfl
theorem cs_76 : Try.prog.cellsOf 76 = 1 := by kernel_rfl
theorem rd_76 (l : List AV) : rdAV Try.prog 76 l = l.head? := by kernel_rfl
theorem za_76 : zav Try.prog 76 = some [.list 2 [] .nil] := by kernel_rfl
theorem es_76 : esz Try.prog 76 = 2 := by kernel_rfl
theorem eb_76 : ebytes Try.prog 76 = 48 := by kernel_rfl
theorem sl_76 : slT Try.prog 76 = true := by kernel_rfl
theorem el_76 : elT Try.prog 76 = 41 := by kernel_rfl
theorem zl_76 : (zvals Try.prog 41).map (fun x => x.length) = some 2 := by kernel_rfl
theorem pt_76 (i : Nat) : ptype Try.prog 76 i = 41 := by kernel_rfl
theorem cst_76 : cst Try.prog 76 (.slice none 0 0) = .list 2 [] .nil := by kernel_rfl
theorem ok_79 : okT Try.prog 79 = true := by kernel_rfl
theorem cs_79 : Try.prog.cellsOf 79 = 1 := by kernel_rfl
theorem rd_79 (l : List AV) : rdAV Try.prog 79 l = l.head? := by kernel_rfl
theorem za_79 : zav Try.prog 79 = some [.v (.int .u16 0)] := by kernel_rfl
theorem un_79 : Try.prog.underlying 79 = some (.int .u16) := by kernel_rfl
theorem ok_86 : okT Try.prog 86 = true := by kernel_rfl
theorem cs_86 : Try.prog.cellsOf 86 = 4 := by kernel_rfl
theorem rd_86 (l : List AV) : rdAV Try.prog 86 l = if 4 ≤ l.length then some (.agg (l.take 4)) else none := by kernel_rfl
theorem za_86 : zav Try.prog 86 = some [.list 1 [] .nil, .list 3 [] .nil, .list 1 [] .nil, .list 1 [] .nil] := by kernel_rfl
theorem fo_86_0 : foff Try.prog 86 0 = some 0 := by kernel_rfl
theorem pt_86_0 : ptype Try.prog 86 0 = 25 := by kernel_rfl
theorem fo_86_1 : foff Try.prog 86 1 = some 2 := by kernel_rfl
theorem pt_86_1 : ptype Try.prog 86 1 = 41 := by kernel_rfl
theorem pl_86 : places Try.prog 86 = some [(0, 2), (2, 2)] := by kernel_rfl
theorem ok_92 : okT Try.prog 92 = true := by kernel_rfl
theorem cs_92 : Try.prog.cellsOf 92 = 4 := by kernel_rfl
theorem rd_92 (l : List AV) : rdAV Try.prog 92 l = if 4 ≤ l.length then some (.agg (l.take 4)) else none := by kernel_rfl
theorem za_92 : zav Try.prog 92 = some [.list 1 [] .nil, .list 3 [] .nil, .list 1 [] .nil, .list 1 [] .nil] := by kernel_rfl
theorem fo_92_0 : foff Try.prog 92 0 = some 0 := by kernel_rfl
theorem pt_92_0 : ptype Try.prog 92 0 = 25 := by kernel_rfl
theorem fo_92_1 : foff Try.prog 92 1 = some 2 := by kernel_rfl
theorem pt_92_1 : ptype Try.prog 92 1 = 41 := by kernel_rfl
theorem pl_92 : places Try.prog 92 = some [(0, 2), (2, 2)] := by kernel_rfl
theorem ok_105 : okT Try.prog 105 = true := by kernel_rfl
theorem cs_105 : Try.prog.cellsOf 105 = 3 := by kernel_rfl
theorem rd_105 (l : List AV) : rdAV Try.prog 105 l = if 3 ≤ l.length then some (.agg (l.take 3)) else none := by kernel_rfl
theorem za_105 : zav Try.prog 105 = some [.v (.int .i64 0), .v (.int .i64 0), .v (.int .i64 0)] := by kernel_rfl
theorem fo_105_0 : foff Try.prog 105 0 = some 0 := by kernel_rfl
theorem pt_105_0 : ptype Try.prog 105 0 = 3 := by kernel_rfl
theorem fo_105_1 : foff Try.prog 105 1 = some 1 := by kernel_rfl
theorem pt_105_1 : ptype Try.prog 105 1 = 3 := by kernel_rfl
theorem fo_105_2 : foff Try.prog 105 2 = some 2 := by kernel_rfl
theorem pt_105_2 : ptype Try.prog 105 2 = 3 := by kernel_rfl
theorem pl_105 : places Try.prog 105 = some [(0, 1), (1, 1), (2, 1)] := by kernel_rfl
theorem is_105 : intStruct Try.prog 105 = true := by kernel_rfl
theorem ok_107 : okT Try.prog 107 = true := by kernel_rfl
theorem cs_107 : Try.prog.cellsOf 107 = 1 := by kernel_rfl
theorem rd_107 (l : List AV) : rdAV Try.prog 107 l = l.head? := by kernel_rfl
theorem za_107 : zav Try.prog 107 = some [.list 2 [] .nil] := by kernel_rfl
theorem es_107 : esz Try.prog 107 = 2 := by kernel_rfl
theorem eb_107 : ebytes Try.prog 107 = 48 := by kernel_rfl
theorem sl_107 : slT Try.prog 107 = true := by kernel_rfl
theorem el_107 : elT Try.prog 107 = 25 := by kernel_rfl
theorem zl_107 : (zvals Try.prog 25).map (fun x => x.length) = some 2 := by kernel_rfl
theorem pt_107 (i : Nat) : ptype Try.prog 107 i = 25 := by kernel_rfl
theorem cst_107 : cst Try.prog 107 (.slice none 0 0) = .list 2 [] .nil := by kernel_rfl
theorem ok_108 : okT Try.prog 108 = true := by kernel_rfl
theorem cs_108 : Try.prog.cellsOf 108 = 1 := by kernel_rfl
theorem rd_108 (l : List AV) : rdAV Try.prog 108 l = l.head? := by kernel_rfl
theorem za_108 : zav Try.prog 108 = some [.v (.pointer none)] := by kernel_rfl
theorem ok_110 : okT Try.prog 110 = true := by kernel_rfl
theorem cs_110 : Try.prog.cellsOf 110 = 5 := by kernel_rfl
theorem rd_110 (l : List AV) : rdAV Try.prog 110 l = if 5 ≤ l.length then some (.agg (l.take 5)) else none := by kernel_rfl
theorem za_110 : zav Try.prog 110 = some [.list 1 [] .nil, .list 3 [] .nil, .list 1 [] .nil, .list 3 [] .nil, .list 6 [] .nil] := by kernel_rfl
theorem fo_110_0 : foff Try.prog 110 0 = some 0 := by kernel_rfl
theorem pt_110_0 : ptype Try.prog 110 0 = 25 := by kernel_rfl
theorem fo_110_1 : foff Try.prog 110 1 = some 2 := by kernel_rfl
theorem pt_110_1 : ptype Try.prog 110 1 = 25 := by kernel_rfl
theorem fo_110_2 : foff Try.prog 110 2 = some 4 := by kernel_rfl
theorem pt_110_2 : ptype Try.prog 110 2 = 28 := by kernel_rfl
theorem pl_110 : places Try.prog 110 = some [(0, 2), (2, 2), (4, 1)] := by kernel_rfl
theorem ok_112 : okT Try.prog 112 = true := by kernel_rfl
theorem cs_112 : Try.prog.cellsOf 112 = 1 := by kernel_rfl
theorem rd_112 (l : List AV) : rdAV Try.prog 112 l = l.head? := by kernel_rfl
theorem za_112 : zav Try.prog 112 = some [.v (.pointer none)] := by kernel_rfl
theorem ok_114 : okT Try.prog 114 = true := by kernel_rfl
theorem cs_114 : Try.prog.cellsOf 114 = 5 := by kernel_rfl
theorem rd_114 (l : List AV) : rdAV Try.prog 114 l = if 5 ≤ l.length then some (.agg (l.take 5)) else none := by kernel_rfl
theorem za_114 : zav Try.prog 114 = some [.list 1 [] .nil, .list 3 [] .nil, .list 1 [] .nil, .list 3 [] .nil, .list 6 [] .nil] := by kernel_rfl
theorem fo_114_0 : foff Try.prog 114 0 = some 0 := by kernel_rfl
theorem pt_114_0 : ptype Try.prog 114 0 = 25 := by kernel_rfl
theorem fo_114_1 : foff Try.prog 114 1 = some 2 := by kernel_rfl
theorem pt_114_1 : ptype Try.prog 114 1 = 25 := by kernel_rfl
theorem fo_114_2 : foff Try.prog 114 2 = some 4 := by kernel_rfl
theorem pt_114_2 : ptype Try.prog 114 2 = 28 := by kernel_rfl
theorem pl_114 : places Try.prog 114 = some [(0, 2), (2, 2), (4, 1)] := by kernel_rfl
theorem ok_115 : okT Try.prog 115 = true := by kernel_rfl
theorem cs_115 : Try.prog.cellsOf 115 = 1 := by kernel_rfl
theorem rd_115 (l : List AV) : rdAV Try.prog 115 l = l.head? := by kernel_rfl
theorem za_115 : zav Try.prog 115 = some [.list 1 [] .nil] := by kernel_rfl
theorem es_115 : esz Try.prog 115 = 1 := by kernel_rfl
theorem eb_115 : ebytes Try.prog 115 = 24 := by kernel_rfl
theorem sl_115 : slT Try.prog 115 = true := by kernel_rfl
theorem el_115 : elT Try.prog 115 = 22 := by kernel_rfl
theorem zl_115 : (zvals Try.prog 22).map (fun x => x.length) = some 1 := by kernel_rfl
theorem pt_115 (i : Nat) : ptype Try.prog 115 i = 22 := by kernel_rfl
theorem cst_115 : cst Try.prog 115 (.slice none 0 0) = .list 1 [] .nil := by kernel_rfl
theorem ok_121 : okT Try.prog 121 = true := by kernel_rfl
theorem cs_121 : Try.prog.cellsOf 121 = 1 := by kernel_rfl
theorem rd_121 (l : List AV) : rdAV Try.prog 121 l = l.head? := by kernel_rfl
theorem za_121 : zav Try.prog 121 = some [.v (.pointer none)] := by kernel_rfl
theorem ok_123 : okT Try.prog 123 = true := by kernel_rfl
theorem cs_123 : Try.prog.cellsOf 123 = 3 := by kernel_rfl
theorem rd_123 (l : List AV) : rdAV Try.prog 123 l = if 3 ≤ l.length then some (.agg (l.take 3)) else none := by kernel_rfl
theorem za_123 : zav Try.prog 123 = some [.list 1 [] .nil, .list 3 [] .nil, .list 4 [] .nil] := by kernel_rfl
theorem fo_123_0 : foff Try.prog 123 0 = some 0 := by kernel_rfl
theorem pt_123_0 : ptype Try.prog 123 0 = 25 := by kernel_rfl
theorem fo_123_1 : foff Try.prog 123 1 = some 2 := by kernel_rfl
theorem pt_123_1 : ptype Try.prog 123 1 = 36 := by kernel_rfl
theorem pl_123 : places Try.prog 123 = some [(0, 2), (2, 1)] := by kernel_rfl
theorem ok_127 : okT Try.prog 127 = true := by kernel_rfl
theorem cs_127 : Try.prog.cellsOf 127 = 3 := by kernel_rfl
theorem rd_127 (l : List AV) : rdAV Try.prog 127 l = if 3 ≤ l.length then some (.agg (l.take 3)) else none := by kernel_rfl
theorem za_127 : zav Try.prog 127 = some [.v (.int .u8 0), .v (.int .u8 0), .v (.int .u8 0)] := by kernel_rfl
theorem un_127 : Try.prog.underlying 127 = some (.array 3 5) := by kernel_rfl
theorem ok_139 : okT Try.prog 139 = true := by kernel_rfl
theorem cs_139 : Try.prog.cellsOf 139 = 1 := by kernel_rfl
theorem rd_139 (l : List AV) : rdAV Try.prog 139 l = l.head? := by kernel_rfl
theorem za_139 : zav Try.prog 139 = some [.v (.pointer none)] := by kernel_rfl
theorem ok_141 : okT Try.prog 141 = true := by kernel_rfl
theorem cs_141 : Try.prog.cellsOf 141 = 9 := by kernel_rfl
theorem rd_141 (l : List AV) : rdAV Try.prog 141 l = if 9 ≤ l.length then some (.agg (l.take 9)) else none := by kernel_rfl
theorem za_141 : zav Try.prog 141 = some [.list 1 [] .nil, .list 3 [] .nil, .list 1 [] .nil, .list 3 [] .nil, .list 1 [] .nil, .list 1 [] .nil, .list 1 [] .nil, .list 1 [] .nil, .list 2 [] .nil] := by kernel_rfl
theorem fo_141_0 : foff Try.prog 141 0 = some 0 := by kernel_rfl
theorem pt_141_0 : ptype Try.prog 141 0 = 25 := by kernel_rfl
theorem fo_141_1 : foff Try.prog 141 1 = some 2 := by kernel_rfl
theorem pt_141_1 : ptype Try.prog 141 1 = 25 := by kernel_rfl
theorem fo_141_2 : foff Try.prog 141 2 = some 4 := by kernel_rfl
theorem pt_141_2 : ptype Try.prog 141 2 = 41 := by kernel_rfl
theorem fo_141_3 : foff Try.prog 141 3 = some 6 := by kernel_rfl
theorem pt_141_3 : ptype Try.prog 141 3 = 41 := by kernel_rfl
theorem fo_141_4 : foff Try.prog 141 4 = some 8 := by kernel_rfl
theorem pt_141_4 : ptype Try.prog 141 4 = 76 := by kernel_rfl
theorem pl_141 : places Try.prog 141 = some [(0, 2), (2, 2), (4, 2), (6, 2), (8, 1)] := by kernel_rfl
theorem ok_154 : okT Try.prog 154 = true := by kernel_rfl
theorem cs_154 : Try.prog.cellsOf 154 = 2 := by kernel_rfl
theorem rd_154 (l : List AV) : rdAV Try.prog 154 l = if 2 ≤ l.length then some (.agg (l.take 2)) else none := by kernel_rfl
theorem za_154 : zav Try.prog 154 = some [.v (.int .i64 0), .v (.int .i64 0)] := by kernel_rfl
theorem fo_154_0 : foff Try.prog 154 0 = some 0 := by kernel_rfl
theorem pt_154_0 : ptype Try.prog 154 0 = 3 := by kernel_rfl
theorem fo_154_1 : foff Try.prog 154 1 = some 1 := by kernel_rfl
theorem pt_154_1 : ptype Try.prog 154 1 = 3 := by kernel_rfl
theorem pl_154 : places Try.prog 154 = some [(0, 1), (1, 1)] := by kernel_rfl
theorem is_154 : intStruct Try.prog 154 = true := by kernel_rfl
theorem ok_156 : okT Try.prog 156 = true := by kernel_rfl
theorem cs_156 : Try.prog.cellsOf 156 = 4 := by kernel_rfl
theorem rd_156 (l : List AV) : rdAV Try.prog 156 l = if 4 ≤ l.length then some (.agg (l.take 4)) else none := by kernel_rfl
theorem za_156 : zav Try.prog 156 = some [.v (.int .i64 0), .v (.int .i64 0), .v (.int .i64 0), .v (.int .i64 0)] := by kernel_rfl
theorem fo_156_0 : foff Try.prog 156 0 = some 0 := by kernel_rfl
theorem pt_156_0 : ptype Try.prog 156 0 = 3 := by kernel_rfl
theorem fo_156_1 : foff Try.prog 156 1 = some 1 := by kernel_rfl
theorem pt_156_1 : ptype Try.prog 156 1 = 3 := by kernel_rfl
theorem fo_156_2 : foff Try.prog 156 2 = some 2 := by kernel_rfl
theorem pt_156_2 : ptype Try.prog 156 2 = 154 := by kernel_rfl
theorem pl_156 : places Try.prog 156 = some [(0, 1), (1, 1), (2, 2)] := by kernel_rfl
theorem ok_158 : okT Try.prog 158 = true := by kernel_rfl
theorem cs_158 : Try.prog.cellsOf 158 = 5 := by kernel_rfl
theorem rd_158 (l : List AV) : rdAV Try.prog 158 l = if 5 ≤ l.length then some (.agg (l.take 5)) else none := by kernel_rfl
theorem za_158 : zav Try.prog 158 = some [.v (.int .i64 0), .v (.int .i64 0), .v (.int .i64 0), .v (.int .i64 0), .v (.int .i64 0)] := by kernel_rfl
theorem fo_158_0 : foff Try.prog 158 0 = some 0 := by kernel_rfl
theorem pt_158_0 : ptype Try.prog 158 0 = 3 := by kernel_rfl
theorem fo_158_1 : foff Try.prog 158 1 = some 1 := by kernel_rfl
theorem pt_158_1 : ptype Try.prog 158 1 = 154 := by kernel_rfl
theorem fo_158_2 : foff Try.prog 158 2 = some 3 := by kernel_rfl
theorem pt_158_2 : ptype Try.prog 158 2 = 154 := by kernel_rfl
theorem pl_158 : places Try.prog 158 = some [(0, 1), (1, 2), (3, 2)] := by kernel_rfl
theorem ok_168 : okT Try.prog 168 = true := by kernel_rfl
theorem cs_168 : Try.prog.cellsOf 168 = 1 := by kernel_rfl
theorem rd_168 (l : List AV) : rdAV Try.prog 168 l = l.head? := by kernel_rfl
theorem za_168 : zav Try.prog 168 = some [.v (.pointer none)] := by kernel_rfl
theorem ok_170 : okT Try.prog 170 = true := by kernel_rfl
theorem cs_170 : Try.prog.cellsOf 170 = 3 := by kernel_rfl
theorem rd_170 (l : List AV) : rdAV Try.prog 170 l = if 3 ≤ l.length then some (.agg (l.take 3)) else none := by kernel_rfl
theorem za_170 : zav Try.prog 170 = some [.list 1 [] .nil, .v (.int .i64 0), .v (.int .i64 0)] := by kernel_rfl
theorem fo_170_0 : foff Try.prog 170 0 = some 0 := by kernel_rfl
theorem pt_170_0 : ptype Try.prog 170 0 = 47 := by kernel_rfl
theorem fo_170_1 : foff Try.prog 170 1 = some 1 := by kernel_rfl
theorem pt_170_1 : ptype Try.prog 170 1 = 3 := by kernel_rfl
theorem fo_170_2 : foff Try.prog 170 2 = some 2 := by kernel_rfl
theorem pt_170_2 : ptype Try.prog 170 2 = 3 := by kernel_rfl
theorem pl_170 : places Try.prog 170 = some [(0, 1), (1, 1), (2, 1)] := by kernel_rfl
theorem ok_172 : okT Try.prog 172 = true := by kernel_rfl
theorem cs_172 : Try.prog.cellsOf 172 = 1 := by kernel_rfl
theorem rd_172 (l : List AV) : rdAV Try.prog 172 l = l.head? := by kernel_rfl
theorem za_172 : zav Try.prog 172 = some [.v (.pointer none)] := by kernel_rfl
theorem ok_174 : okT Try.prog 174 = true := by kernel_rfl
theorem cs_174 : Try.prog.cellsOf 174 = 2 := by kernel_rfl
theorem rd_174 (l : List AV) : rdAV Try.prog 174 l = if 2 ≤ l.length then some (.agg (l.take 2)) else none := by kernel_rfl
theorem za_174 : zav Try.prog 174 = some [.v (.int .i64 0), .v (.int .i64 0)] := by kernel_rfl
theorem fo_174_0 : foff Try.prog 174 0 = some 0 := by kernel_rfl
theorem pt_174_0 : ptype Try.prog 174 0 = 3 := by kernel_rfl
theorem fo_174_1 : foff Try.prog 174 1 = some 1 := by kernel_rfl
theorem pt_174_1 : ptype Try.prog 174 1 = 29 := by kernel_rfl
theorem pl_174 : places Try.prog 174 = some [(0, 1), (1, 1)] := by kernel_rfl
theorem is_174 : intStruct Try.prog 174 = true := by kernel_rfl
theorem ok_178 : okT Try.prog 178 = true := by kernel_rfl
theorem cs_178 : Try.prog.cellsOf 178 = 1 := by kernel_rfl
theorem rd_178 (l : List AV) : rdAV Try.prog 178 l = l.head? := by kernel_rfl
theorem za_178 : zav Try.prog 178 = some [.v (.pointer none)] := by kernel_rfl
theorem ok_182 : okT Try.prog 182 = true := by kernel_rfl
theorem cs_182 : Try.prog.cellsOf 182 = 7 := by kernel_rfl
theorem rd_182 (l : List AV) : rdAV Try.prog 182 l = if 7 ≤ l.length then some (.agg (l.take 7)) else none := by kernel_rfl
theorem fo_182_0 : foff Try.prog 182 0 = some 0 := by kernel_rfl
theorem pt_182_0 : ptype Try.prog 182 0 = 25 := by kernel_rfl
theorem fo_182_1 : foff Try.prog 182 1 = some 2 := by kernel_rfl
theorem pt_182_1 : ptype Try.prog 182 1 = 25 := by kernel_rfl
theorem fo_182_2 : foff Try.prog 182 2 = some 4 := by kernel_rfl
theorem pt_182_2 : ptype Try.prog 182 2 = 22 := by kernel_rfl
theorem fo_182_3 : foff Try.prog 182 3 = some 5 := by kernel_rfl
theorem pt_182_3 : ptype Try.prog 182 3 = 22 := by kernel_rfl
theorem fo_182_4 : foff Try.prog 182 4 = some 6 := by kernel_rfl
theorem pt_182_4 : ptype Try.prog 182 4 = 180 := by kernel_rfl
theorem pl_182 : places Try.prog 182 = some [(0, 2), (2, 2), (4, 1), (5, 1), (6, 1)] := by kernel_rfl
theorem ok_197 : okT Try.prog 197 = true := by kernel_rfl
theorem cs_197 : Try.prog.cellsOf 197 = 1 := by kernel_rfl
theorem rd_197 (l : List AV) : rdAV Try.prog 197 l = l.head? := by kernel_rfl
theorem za_197 : zav Try.prog 197 = some [.v (.int .u64 0)] := by kernel_rfl
theorem un_197 : Try.prog.underlying 197 = some (.int .u64) := by kernel_rfl
theorem ok_202 : okT Try.prog 202 = true := by kernel_rfl
theorem cs_202 : Try.prog.cellsOf 202 = 1 := by kernel_rfl
theorem rd_202 (l : List AV) : rdAV Try.prog 202 l = l.head? := by kernel_rfl
theorem za_202 : zav Try.prog 202 = some [.v (.int .i64 0)] := by kernel_rfl
theorem un_202 : Try.prog.underlying 202 = some (.int .i64) := by kernel_rfl
theorem ok_210 : okT Try.prog 210 = true := by kernel_rfl
theorem cs_210 : Try.prog.cellsOf 210 = 1 := by kernel_rfl
theorem rd_210 (l : List AV) : rdAV Try.prog 210 l = l.head? := by kernel_rfl
theorem za_210 : zav Try.prog 210 = some [.v (.int .u32 0)] := by kernel_rfl
theorem un_210 : Try.prog.underlying 210 = some (.int .u32) := by kernel_rfl
theorem ok_212 : okT Try.prog 212 = true := by kernel_rfl
theorem cs_212 : Try.prog.cellsOf 212 = 1 := by kernel_rfl
theorem rd_212 (l : List AV) : rdAV Try.prog 212 l = l.head? := by kernel_rfl
theorem za_212 : zav Try.prog 212 = some [.v (.int .u64 0)] := by kernel_rfl
theorem un_212 : Try.prog.underlying 212 = some (.int .u64) := by kernel_rfl
theorem ok_221 : okT Try.prog 221 = true := by kernel_rfl
theorem cs_221 : Try.prog.cellsOf 221 = 1 := by kernel_rfl
theorem rd_221 (l : List AV) : rdAV Try.prog 221 l = l.head? := by kernel_rfl
theorem za_221 : zav Try.prog 221 = some [.v (.pointer none)] := by kernel_rfl
theorem ok_234 : okT Try.prog 234 = true := by kernel_rfl
theorem cs_234 : Try.prog.cellsOf 234 = 1 := by kernel_rfl
theorem rd_234 (l : List AV) : rdAV Try.prog 234 l = l.head? := by kernel_rfl
theorem za_234 : zav Try.prog 234 = some [.v (.pointer none)] := by kernel_rfl
theorem ip_0 : isPtrT Try.prog 0 = false := by kernel_rfl
theorem ip_1 : isPtrT Try.prog 1 = false := by kernel_rfl
theorem ip_2 : isPtrT Try.prog 2 = false := by kernel_rfl
theorem ip_3 : isPtrT Try.prog 3 = false := by kernel_rfl
theorem ip_4 : isPtrT Try.prog 4 = false := by kernel_rfl
theorem ip_5 : isPtrT Try.prog 5 = false := by kernel_rfl
theorem ip_6 : isPtrT Try.prog 6 = false := by kernel_rfl
theorem ip_8 : isPtrT Try.prog 8 = false := by kernel_rfl
theorem ip_9 : isPtrT Try.prog 9 = false := by kernel_rfl
theorem ip_10 : isPtrT Try.prog 10 = false := by kernel_rfl
theorem ip_11 : isPtrT Try.prog 11 = false := by kernel_rfl
theorem ip_12 : isPtrT Try.prog 12 = false := by kernel_rfl
theorem ip_14 : isPtrT Try.prog 14 = false := by kernel_rfl
theorem ip_15 : isPtrT Try.prog 15 = true := by kernel_rfl
theorem ip_16 : isPtrT Try.prog 16 = true := by kernel_rfl
theorem ip_17 : isPtrT Try.prog 17 = true := by kernel_rfl
theorem ip_19 : isPtrT Try.prog 19 = false := by kernel_rfl
theorem ip_20 : isPtrT Try.prog 20 = false := by kernel_rfl
theorem ip_21 : isPtrT Try.prog 21 = false := by kernel_rfl
theorem ip_22 : isPtrT Try.prog 22 = false := by kernel_rfl
theorem ip_23 : isPtrT Try.prog 23 = false := by kernel_rfl
theorem ip_25 : isPtrT Try.prog 25 = false := by kernel_rfl
theorem ip_26 : isPtrT Try.prog 26 = false := by kernel_rfl
theorem ip_27 : isPtrT Try.prog 27 = false := by kernel_rfl
theorem ip_28 : isPtrT Try.prog 28 = false := by kernel_rfl
theorem ip_29 : isPtrT Try.prog 29 = false := by kernel_rfl
theorem ip_30 : isPtrT Try.prog 30 = false := by kernel_rfl
theorem ip_31 : isPtrT Try.prog 31 = false := by kernel_rfl
theorem ip_32 : isPtrT Try.prog 32 = false := by kernel_rfl
theorem ip_33 : isPtrT Try.prog 33 = false := by kernel_rfl
theorem ip_34 : isPtrT Try.prog 34 = false := by kernel_rfl
theorem ip_35 : isPtrT Try.prog 35 = false := by kernel_rfl
theorem ip_36 : isPtrT Try.prog 36 = false := by kernel_rfl
theorem ip_37 : isPtrT Try.prog 37 = false := by kernel_rfl
theorem ip_38 : isPtrT Try.prog 38 = false := by kernel_rfl
theorem ip_39 : isPtrT Try.prog 39 = false := by kernel_rfl
theorem ip_41 : isPtrT Try.prog 41 = false := by kernel_rfl
theorem ip_43 : isPtrT Try.prog 43 = false := by kernel_rfl
theorem ip_44 : isPtrT Try.prog 44 = false := by kernel_rfl
theorem ip_45 : isPtrT Try.prog 45 = false := by kernel_rfl
theorem ip_46 : isPtrT Try.prog 46 = false := by kernel_rfl
theorem ip_47 : isPtrT Try.prog 47 = false := by kernel_rfl
theorem ip_48 : isPtrT Try.prog 48 = false := by kernel_rfl
theorem ip_50 : isPtrT Try.prog 50 = false := by kernel_rfl
theorem ip_51 : isPtrT Try.prog 51 = false := by kernel_rfl
theorem ip_52 : isPtrT Try.prog 52 = false := by kernel_rfl
theorem ip_53 : isPtrT Try.prog 53 = false := by kernel_rfl
theorem ip_54 : isPtrT Try.prog 54 = false := by kernel_rfl
theorem ip_55 : isPtrT Try.prog 55 = false := by kernel_rfl
theorem ip_56 : isPtrT Try.prog 56 = false := by kernel_rfl
theorem ip_57 : isPtrT Try.prog 57 = false := by kernel_rfl
theorem ip_58 : isPtrT Try.prog 58 = false := by kernel_rfl
theorem ip_59 : isPtrT Try.prog 59 = false := by kernel_rfl
theorem ip_60 : isPtrT Try.prog 60 = false := by kernel_rfl
theorem ip_62 : isPtrT Try.prog 62 = false := by kernel_rfl
theorem ip_63 : isPtrT Try.prog 63 = false := by kernel_rfl
theorem ip_64 : isPtrT Try.prog 64 = false := by kernel_rfl
theorem ip_65 : isPtrT Try.prog 65 = false := by kernel_rfl
theorem ip_67 : isPtrT Try.prog 67 = false := by kernel_rfl
theorem ip_69 : isPtrT Try.prog 69 = false := by kernel_rfl
theorem ip_70 : isPtrT Try.prog 70 = false := by kernel_rfl
theorem ip_71 : isPtrT Try.prog 71 = false := by kernel_rfl
theorem ip_72 : isPtrT Try.prog 72 = false := by kernel_rfl
theorem ip_73 : isPtrT Try.prog 73 = false := by kernel_rfl
theorem ip_74 : isPtrT Try.prog 74 = false := by kernel_rfl
theorem ip_75 : isPtrT Try.prog 75 = false := by kernel_rfl
theorem ip_76 : isPtrT Try.prog 76 = false := by kernel_rfl
theorem ip_77 : isPtrT Try.prog 77 = false := by kernel_rfl
theorem ip_78 : isPtrT Try.prog 78 = false := by kernel_rfl
theorem ip_79 : isPtrT Try.prog 79 = false := by kernel_rfl
theorem ip_80 : isPtrT Try.prog 80 = false := by kernel_rfl
theorem ip_81 : isPtrT Try.prog 81 = false := by kernel_rfl
theorem ip_82 : isPtrT Try.prog 82 = false := by kernel_rfl
theorem ip_83 : isPtrT Try.prog 83 = false := by kernel_rfl
theorem ip_84 : isPtrT Try.prog 84 = false := by kernel_rfl
theorem ip_86 : isPtrT Try.prog 86 = false := by kernel_rfl
theorem ip_87 : isPtrT Try.prog 87 = false := by kernel_rfl
theorem ip_88 : isPtrT Try.prog 88 = false := by kernel_rfl
theorem ip_89 : isPtrT Try.prog 89 = false := by kernel_rfl
theorem ip_90 : isPtrT Try.prog 90 = false := by kernel_rfl
theorem ip_92 : isPtrT Try.prog 92 = false := by kernel_rfl
theorem ip_93 : isPtrT Try.prog 93 = false := by kernel_rfl
theorem ip_94 : isPtrT Try.prog 94 = false := by kernel_rfl
theorem ip_95 : isPtrT Try.prog 95 = false := by kernel_rfl
theorem ip_96 : isPtrT Try.prog 96 = false := by kernel_rfl
theorem ip_97 : isPtrT Try.prog 97 = false := by kernel_rfl
theorem ip_98 : isPtrT Try.prog 98 = false := by kernel_rfl
theorem ip_99 : isPtrT Try.prog 99 = false := by kernel_rfl
theorem ip_100 : isPtrT Try.prog 100 = false := by kernel_rfl
theorem ip_101 : isPtrT Try.prog 101 = false := by kernel_rfl
theorem ip_102 : isPtrT Try.prog 102 = false := by kernel_rfl
theorem ip_103 : isPtrT Try.prog 103 = false := by kernel_rfl
theorem ip_105 : isPtrT Try.prog 105 = false := by kernel_rfl
theorem ip_106 : isPtrT Try.prog 106 = false := by kernel_rfl
theorem ip_107 : isPtrT Try.prog 107 = false := by kernel_rfl
theorem ip_108 : isPtrT Try.prog 108 = true := by kernel_rfl
theorem ip_110 : isPtrT Try.prog 110 = false := by kernel_rfl
theorem ip_111 : isPtrT Try.prog 111 = false := by kernel_rfl
theorem ip_112 : isPtrT Try.prog 112 = true := by kernel_rfl
theorem ip_114 : isPtrT Try.prog 114 = false := by kernel_rfl
theorem ip_115 : isPtrT Try.prog 115 = false := by kernel_rfl
theorem ip_116 : isPtrT Try.prog 116 = false := by kernel_rfl
theorem ip_117 : isPtrT Try.prog 117 = false := by kernel_rfl
theorem ip_118 : isPtrT Try.prog 118 = false := by kernel_rfl
theorem ip_119 : isPtrT Try.prog 119 = false := by kernel_rfl
theorem ip_120 : isPtrT Try.prog 120 = false := by kernel_rfl
theorem ip_121 : isPtrT Try.prog 121 = true := by kernel_rfl
theorem ip_123 : isPtrT Try.prog 123 = false := by kernel_rfl
theorem ip_124 : isPtrT Try.prog 124 = false := by kernel_rfl
theorem ip_125 : isPtrT Try.prog 125 = false := by kernel_rfl
theorem ip_126 : isPtrT Try.prog 126 = false := by kernel_rfl
theorem ip_127 : isPtrT Try.prog 127 = false := by kernel_rfl
theorem ip_128 : isPtrT Try.prog 128 = false := by kernel_rfl
theorem ip_129 : isPtrT Try.prog 129 = false := by kernel_rfl
theorem ip_130 : isPtrT Try.prog 130 = false := by kernel_rfl
theorem ip_131 : isPtrT Try.prog 131 = false := by kernel_rfl
theorem ip_132 : isPtrT Try.prog 132 = false := by kernel_rfl
theorem ip_133 : isPtrT Try.prog 133 = false := by kernel_rfl
theorem ip_134 : isPtrT Try.prog 134 = false := by kernel_rfl
theorem ip_135 : isPtrT Try.prog 135 = false := by kernel_rfl
theorem ip_136 : isPtrT Try.prog 136 = false := by kernel_rfl
theorem ip_137 : isPtrT Try.prog 137 = false := by kernel_rfl
theorem ip_138 : isPtrT Try.prog 138 = false := by kernel_rfl
theorem ip_139 : isPtrT Try.prog 139 = true := by kernel_rfl
theorem ip_141 : isPtrT Try.prog 141 = false := by kernel_rfl
theorem ip_142 : isPtrT Try.prog 142 = false := by kernel_rfl
theorem ip_143 : isPtrT Try.prog 143 = false := by kernel_rfl
theorem ip_144 : isPtrT Try.prog 144 = false := by kernel_rfl
theorem ip_145 : isPtrT Try.prog 145 = false := by kernel_rfl
theorem ip_146 : isPtrT Try.prog 146 = false := by kernel_rfl
theorem ip_147 : isPtrT Try.prog 147 = false := by kernel_rfl
theorem ip_148 : isPtrT Try.prog 148 = false := by kernel_rfl
theorem ip_149 : isPtrT Try.prog 149 = false := by kernel_rfl
theorem ip_150 : isPtrT Try.prog 150 = false := by kernel_rfl
theorem ip_151 : isPtrT Try.prog 151 = false := by kernel_rfl
theorem ip_152 : isPtrT Try.prog 152 = false := by kernel_rfl
theorem ip_154 : isPtrT Try.prog 154 = false := by kernel_rfl
theorem ip_156 : isPtrT Try.prog 156 = false := by kernel_rfl
theorem ip_158 : isPtrT Try.prog 158 = false := by kernel_rfl
theorem ip_159 : isPtrT Try.prog 159 = false := by kernel_rfl
theorem ip_160 : isPtrT Try.prog 160 = false := by kernel_rfl
theorem ip_161 : isPtrT Try.prog 161 = false := by kernel_rfl
theorem ip_162 : isPtrT Try.prog 162 = false := by kernel_rfl
theorem ip_163 : isPtrT Try.prog 163 = false := by kernel_rfl
theorem ip_164 : isPtrT Try.prog 164 = false := by kernel_rfl
theorem ip_165 : isPtrT Try.prog 165 = false := by kernel_rfl
theorem ip_166 : isPtrT Try.prog 166 = false := by kernel_rfl
theorem ip_167 : isPtrT Try.prog 167 = false := by kernel_rfl
theorem ip_168 : isPtrT Try.prog 168 = true := by kernel_rfl
theorem ip_170 : isPtrT Try.prog 170 = false := by kernel_rfl
theorem ip_171 : isPtrT Try.prog 171 = false := by kernel_rfl
theorem ip_172 : isPtrT Try.prog 172 = true := by kernel_rfl
theorem ip_174 : isPtrT Try.prog 174 = false := by kernel_rfl
theorem ip_175 : isPtrT Try.prog 175 = false := by kernel_rfl
theorem ip_176 : isPtrT Try.prog 176 = false := by kernel_rfl
theorem ip_177 : isPtrT Try.prog 177 = false := by kernel_rfl
theorem ip_178 : isPtrT Try.prog 178 = true := by kernel_rfl
theorem ip_179 : isPtrT Try.prog 179 = false := by kernel_rfl
theorem ip_180 : isPtrT Try.prog 180 = false := by kernel_rfl
theorem ip_182 : isPtrT Try.prog 182 = false := by kernel_rfl
theorem ip_183 : isPtrT Try.prog 183 = false := by kernel_rfl
theorem ip_184 : isPtrT Try.prog 184 = false := by kernel_rfl
theorem ip_185 : isPtrT Try.prog 185 = false := by kernel_rfl
theorem ip_186 : isPtrT Try.prog 186 = false := by kernel_rfl
theorem ip_187 : isPtrT Try.prog 187 = false := by kernel_rfl
theorem ip_188 : isPtrT Try.prog 188 = false := by kernel_rfl
theorem ip_189 : isPtrT Try.prog 189 = false := by kernel_rfl
theorem ip_190 : isPtrT Try.prog 190 = false := by kernel_rfl
theorem ip_191 : isPtrT Try.prog 191 = false := by kernel_rfl
theorem ip_192 : isPtrT Try.prog 192 = false := by kernel_rfl
theorem ip_193 : isPtrT Try.prog 193 = false := by kernel_rfl
theorem ip_194 : isPtrT Try.prog 194 = false := by kernel_rfl
theorem ip_195 : isPtrT Try.prog 195 = false := by kernel_rfl
theorem ip_196 : isPtrT Try.prog 196 = false := by kernel_rfl
theorem ip_197 : isPtrT Try.prog 197 = false := by kernel_rfl
theorem ip_198 : isPtrT Try.prog 198 = false := by kernel_rfl
theorem ip_199 : isPtrT Try.prog 199 = false := by kernel_rfl
theorem ip_200 : isPtrT Try.prog 200 = false := by kernel_rfl
theorem ip_201 : isPtrT Try.prog 201 = false := by kernel_rfl
theorem ip_202 : isPtrT Try.prog 202 = false := by kernel_rfl
theorem ip_203 : isPtrT Try.prog 203 = false := by kernel_rfl
theorem ip_204 : isPtrT Try.prog 204 = false := by kernel_rfl
theorem ip_205 : isPtrT Try.prog 205 = false := by kernel_rfl
theorem ip_206 : isPtrT Try.prog 206 = false := by kernel_rfl
theorem ip_207 : isPtrT Try.prog 207 = false := by kernel_rfl
theorem ip_208 : isPtrT Try.prog 208 = false := by kernel_rfl
theorem ip_209 : isPtrT Try.prog 209 = false := by kernel_rfl
theorem ip_210 : isPtrT Try.prog 210 = false := by kernel_rfl
theorem ip_211 : isPtrT Try.prog 211 = false := by kernel_rfl
theorem ip_212 : isPtrT Try.prog 212 = false := by kernel_rfl
theorem ip_213 : isPtrT Try.prog 213 = false := by kernel_rfl
theorem ip_214 : isPtrT Try.prog 214 = false := by kernel_rfl
theorem ip_215 : isPtrT Try.prog 215 = false := by kernel_rfl
theorem ip_216 : isPtrT Try.prog 216 = false := by kernel_rfl
theorem ip_217 : isPtrT Try.prog 217 = false := by kernel_rfl
theorem ip_218 : isPtrT Try.prog 218 = false := by kernel_rfl
theorem ip_219 : isPtrT Try.prog 219 = false := by kernel_rfl
theorem ip_220 : isPtrT Try.prog 220 = false := by kernel_rfl
theorem ip_221 : isPtrT Try.prog 221 = true := by kernel_rfl
theorem ip_222 : isPtrT Try.prog 222 = false := by kernel_rfl
theorem ip_223 : isPtrT Try.prog 223 = true := by kernel_rfl
theorem ip_224 : isPtrT Try.prog 224 = false := by kernel_rfl
theorem ip_225 : isPtrT Try.prog 225 = false := by kernel_rfl
theorem ip_227 : isPtrT Try.prog 227 = false := by kernel_rfl
theorem ip_228 : isPtrT Try.prog 228 = false := by kernel_rfl
theorem ip_230 : isPtrT Try.prog 230 = false := by kernel_rfl
theorem ip_231 : isPtrT Try.prog 231 = false := by kernel_rfl
theorem ip_232 : isPtrT Try.prog 232 = false := by kernel_rfl
theorem ip_233 : isPtrT Try.prog 233 = false := by kernel_rfl
theorem ip_234 : isPtrT Try.prog 234 = true := by kernel_rfl
theorem ip_235 : isPtrT Try.prog 235 = false := by kernel_rfl
theorem ip_236 : isPtrT Try.prog 236 = false := by kernel_rfl
theorem ip_238 : isPtrT Try.prog 238 = false := by kernel_rfl
theorem ip_239 : isPtrT Try.prog 239 = false := by kernel_rfl
attribute [go_sem] ok_2 cs_2 rd_2 za_2 un_2 ok_3 cs_3 rd_3 za_3 un_3 ok_4 cs_4 rd_4 za_4 un_4 ok_5 cs_5 rd_5 za_5 un_5 ok_12 cs_12 rd_12 za_12 un_12 ok_19 cs_19 rd_19 za_19 fo_19_0 pt_19_0 pl_19 ok_21 cs_21 rd_21 za_21 un_21 ok_22 cs_22 rd_22 za_22 es_22 eb_22 sl_22 el_22 zl_22 pt_22 cst_22 ok_23 cs_23 rd_23 za_23 es_23 eb_23 sl_23 el_23 zl_23 pt_23 cst_23 ok_25 cs_25 rd_25 za_25 fo_25_0 pt_25_0 fo_25_1 pt_25_1 pl_25 ok_28 cs_28 rd_28 za_28 es_28 eb_28 sl_28 el_28 zl_28 pt_28 cst_28 ok_29 cs_29 rd_29 za_29 un_29 ok_36 cs_36 rd_36 za_36 es_36 eb_36 sl_36 el_36 zl_36 pt_36 cst_36 ok_41 cs_41 rd_41 za_41 fo_41_0 pt_41_0 fo_41_1 pt_41_1 pl_41 ok_43 cs_43 rd_43 za_43 fo_43_0 pt_43_0 fo_43_1 pt_43_1 fo_43_2 pt_43_2 pl_43 ok_47 cs_47 rd_47 za_47 es_47 eb_47 sl_47 el_47 zl_47 pt_47 cst_47 ok_48 cs_48 rd_48 za_48 es_48 eb_48 sl_48 el_48 zl_48 pt_48 cst_48 ok_50 cs_50 rd_50 za_50 fo_50_0 pt_50_0 fo_50_1 pt_50_1 pl_50 ok_62 cs_62 rd_62 za_62 fo_62_0 pt_62_0 fo_62_1 pt_62_1 fo_62_2 pt_62_2 fo_62_3 pt_62_3 pl_62 ok_63 cs_63 rd_63 za_63 es_63 eb_63 sl_63 el_63 zl_63 pt_63 cst_63 ok_64 cs_64 rd_64 za_64 es_64 eb_64 sl_64 el_64 zl_64 pt_64 cst_64 ok_65 cs_65 rd_65 za_65 es_65 eb_65 sl_65 el_65 zl_65 pt_65 cst_65 ok_67 cs_67 rd_67 za_67 fo_67_0 pt_67_0 fo_67_1 pt_67_1 fo_67_2 pt_67_2 fo_67_3 pt_67_3 pl_67 ok_69 cs_69 rd_69 za_69 fo_69_0 pt_69_0 fo_69_1 pt_69_1 fo_69_2 pt_69_2 fo_69_3 pt_69_3 pl_69 ok_76 cs_76 rd_76 za_76 es_76 eb_76 sl_76 el_76 zl_76 pt_76 cst_76 ok_79 cs_79 rd_79 za_79 un_79 ok_86 cs_86 rd_86 za_86 fo_86_0 pt_86_0 fo_86_1 pt_86_1 pl_86 ok_92 cs_92 rd_92 za_92 fo_92_0 pt_92_0 fo_92_1 pt_92_1 pl_92 ok_105 cs_105 rd_105 za_105 fo_105_0 pt_105_0 fo_105_1 pt_105_1 fo_105_2 pt_105_2 pl_105 is_105 ok_107 cs_107 rd_107 za_107 es_107 eb_107 sl_107 el_107 zl_107 pt_107 cst_107 ok_108 cs_108 rd_108 za_108 ok_110 cs_110 rd_110 za_110 fo_110_0 pt_110_0 fo_110_1 pt_110_1 fo_110_2 pt_110_2 pl_110 ok_112 cs_112 rd_112 za_112 ok_114 cs_114 rd_114 za_114 fo_114_0 pt_114_0 fo_114_1 pt_114_1 fo_114_2 pt_114_2 pl_114 ok_115 cs_115 rd_115 za_115 es_115 eb_115 sl_115 el_115 zl_115 pt_115 cst_115 ok_121 cs_121 rd_121 za_121 ok_123 cs_123 rd_123 za_123 fo_123_0 pt_123_0 fo_123_1 pt_123_1 pl_123 ok_127 cs_127 rd_127 za_127 un_127 ok_139 cs_139 rd_139 za_139 ok_141 cs_141 rd_141 za_141 fo_141_0 pt_141_0 fo_141_1 pt_141_1 fo_141_2 pt_141_2 fo_141_3 pt_141_3 fo_141_4 pt_141_4 pl_141 ok_154 cs_154 rd_154 za_154 fo_154_0 pt_154_0 fo_154_1 pt_154_1 pl_154 is_154 ok_156 cs_156 rd_156 za_156 fo_156_0 pt_156_0 fo_156_1 pt_156_1 fo_156_2 pt_156_2 pl_156 ok_158 cs_158 rd_158 za_158 fo_158_0 pt_158_0 fo_158_1 pt_158_1 fo_158_2 pt_158_2 pl_158 ok_168 cs_168 rd_168 za_168 ok_170 cs_170 rd_170 za_170 fo_170_0 pt_170_0 fo_170_1 pt_170_1 fo_170_2 pt_170_2 pl_170 ok_172 cs_172 rd_172 za_172 ok_174 cs_174 rd_174 za_174 fo_174_0 pt_174_0 fo_174_1 pt_174_1 pl_174 is_174 ok_178 cs_178 rd_178 za_178 ok_182 cs_182 rd_182 fo_182_0 pt_182_0 fo_182_1 pt_182_1 fo_182_2 pt_182_2 fo_182_3 pt_182_3 fo_182_4 pt_182_4 pl_182 ok_197 cs_197 rd_197 za_197 un_197 ok_202 cs_202 rd_202 za_202 un_202 ok_210 cs_210 rd_210 za_210 un_210 ok_212 cs_212 rd_212 za_212 un_212 ok_221 cs_221 rd_221 za_221 ok_234 cs_234 rd_234 za_234 ip_0 ip_1 ip_2 ip_3 ip_4 ip_5 ip_6 ip_8 ip_9 ip_10 ip_11 ip_12 ip_14 ip_15 ip_16 ip_17 ip_19 ip_20 ip_21 ip_22 ip_23 ip_25 ip_26 ip_27 ip_28 ip_29 ip_30 ip_31 ip_32 ip_33 ip_34 ip_35 ip_36 ip_37 ip_38 ip_39 ip_41 ip_43 ip_44 ip_45 ip_46 ip_47 ip_48 ip_50 ip_51 ip_52 ip_53 ip_54 ip_55 ip_56 ip_57 ip_58 ip_59 ip_60 ip_62 ip_63 ip_64 ip_65 ip_67 ip_69 ip_70 ip_71 ip_72 ip_73 ip_74 ip_75 ip_76 ip_77 ip_78 ip_79 ip_80 ip_81 ip_82 ip_83 ip_84 ip_86 ip_87 ip_88 ip_89 ip_90 ip_92 ip_93 ip_94 ip_95 ip_96 ip_97 ip_98 ip_99 ip_100 ip_101 ip_102 ip_103 ip_105 ip_106 ip_107 ip_108 ip_110 ip_111 ip_112 ip_114 ip_115 ip_116 ip_117 ip_118 ip_119 ip_120 ip_121 ip_123 ip_124 ip_125 ip_126 ip_127 ip_128 ip_129 ip_130 ip_131 ip_132 ip_133 ip_134 ip_135 ip_136 ip_137 ip_138 ip_139 ip_141 ip_142 ip_143 ip_144 ip_145 ip_146 ip_147 ip_148 ip_149 ip_150 ip_151 ip_152 ip_154 ip_156 ip_158 ip_159 ip_160 ip_161 ip_162 ip_163 ip_164 ip_165 ip_166 ip_167 ip_168 ip_170 ip_171 ip_172 ip_174 ip_175 ip_176 ip_177 ip_178 ip_179 ip_180 ip_182 ip_183 ip_184 ip_185 ip_186 ip_187 ip_188 ip_189 ip_190 ip_191 ip_192 ip_193 ip_194 ip_195 ip_196 ip_197 ip_198 ip_199 ip_200 ip_201 ip_202 ip_203 ip_204 ip_205 ip_206 ip_207 ip_208 ip_209 ip_210 ip_211 ip_212 ip_213 ip_214 ip_215 ip_216 ip_217 ip_218 ip_219 ip_220 ip_221 ip_222 ip_223 ip_224 ip_225 ip_227 ip_228 ip_230 ip_231 ip_232 ip_233 ip_234 ip_235 ip_236 ip_238 ip_239

theorem conT {X : Hints} {f : FuncId} {fn : Func} {c : Code} {rs : List ResultVar} {args : List AV} {r : AV} (hf : Try.prog.funcs[f]? = some fn) (hname : (fn.name == "runtime.NumGoroutine") = false) (hb : fn.body = some c)
    (hrs : fn.results.toList = rs) (hN : (dstOK fn.ntmps c && draws (drawOK Try.prog) X c && decide (args.length ≤ fn.ntmps)) = true) (h : acode Try.prog X c (retQ Try.prog rs r) (s0 args)) : Con Try.prog f args 0 r :=
  con_of (drawOK_ok (by kernel_rfl)) hf hname hb hrs hN h
theorem econT {X : Hints} {f : FuncId} {fn : Func} {c : Code} {rs : List ResultVar} {args pre pre' : List AV} {x x' r : AV} (hf : Try.prog.funcs[f]? = some fn) (hname : (fn.name == "runtime.NumGoroutine") = false) (hb : fn.body = some c)
    (hrs : fn.results.toList = rs) (hN : (dstOK fn.ntmps c && draws (drawOK Try.prog) X c && decide (args.length + 1 ≤ fn.ntmps)) = true) (h : acode Try.prog X c (retE Try.prog rs r pre' x') (s1 args pre x)) : ECon Try.prog f args pre x r pre' x' :=
  econ_of (drawOK_ok (by kernel_rfl)) hf hname hb hrs hN h

end Go.Sy

/- Graphs and their kin as abstract values. -/
namespace Go.Sy
open Go Go.Proofs

abbrev Ed := Int × Int × Int
structure Gr where
  n : List Int
  e : List Ed
  deriving DecidableEq
structure Mo where
  n : List Int
  e : List Int
  deriving DecidableEq
structure Ov where
  g : Gr
  l : Mo
  r : Mo
  deriving DecidableEq
structure Qu where
  g : Gr
  o : Mo
  deriving DecidableEq
def iv (n : Int) : AV := .v (.int .i64 n)
def bv (b : Bool) : AV := .v (.bool b)
def ecs (x : Ed) : List AV := [iv x.1, iv x.2.1, iv x.2.2]
def lvT (l : List Int) (tk : Tok) : AV := .list 1 (l.map fun n => [iv n]) tk
def elT' (l : List Ed) (tk : Tok) : AV := .list 3 (l.map ecs) tk
def lv (l : List Int) : AV := lvT l .no
def elv (l : List Ed) : AV := elT' l .no
def gcs (g : Gr) : List AV := [lv g.n, elv g.e]
def mcs (m : Mo) : List AV := [lv m.n, lv m.e]
def gv (g : Gr) : AV := .agg (gcs g)
def mv (m : Mo) : AV := .agg (mcs m)
def ocs (o : Ov) : List AV := gcs o.g ++ mcs o.l ++ mcs o.r
def ov (o : Ov) : AV := .agg (ocs o)
def qcs (q : Qu) : List AV := gcs q.g ++ mcs q.o
def qv (q : Qu) : AV := .agg (qcs q)
def olv (l : List Ov) : AV := .list 6 (l.map ocs) .no
def qlv (l : List Qu) : AV := .list 4 (l.map qcs) .no
theorem len_list1 (l : List Int) : ((l.map fun n => [iv n]).length : Int) = l.length := by simp
attribute [go_sem] iv bv ecs lvT elT' lv elv gcs mcs gv mv ocs ov qcs qv olv qlv List.length_map List.getElem_map List.head?_cons List.cons_append List.nil_append and_self true_and and_true
theorem wrapN (i : Nat) (h : (i : Int) ≤ 9223372036854775806) : IntKind.i64.wrap ((i : Int) + 1) = ((i + 1 : Nat) : Int) := by rw [wrap_i64 _ (by omega) (by omega)]; rfl
theorem lt_cast (i n : Nat) : ((i : Int) < (n : Int)) = (i < n) := by simp
theorem le_cast (i n : Nat) : ((i : Int) ≤ (n : Int)) = (i ≤ n) := by simp
theorem getD_zero' {α : Type} (x d : α) (l : List α) : (x :: l).getD 0 d = x := rfl
theorem getD_succ' {α : Type} (x d : α) (l : List α) (n : Nat) : (x :: l).getD (n + 1) d = l.getD n d := rfl
theorem getD_nil' {α : Type} (d : α) (n : Nat) : ([] : List α).getD n d = d := by simp
attribute [go_sem] lt_cast le_cast List.length_cons List.length_nil List.drop_zero List.drop_succ_cons List.drop_nil List.take_zero List.take_succ_cons List.take_nil Nat.zero_add Nat.add_zero List.getD_cons_zero List.getD_cons_succ getD_nil' if_true if_false
  List.all_cons List.all_nil Bool.and_true Bool.true_and List.map_cons List.map_nil List.append_nil decide_true decide_false eq_self
attribute [go_sem] Option.getD_some Option.getD_none Prod.mk.injEq false_and and_false Bool.not_false Bool.not_true Bool.false_and Bool.and_false not_true_eq_false not_false_eq_true Bool.false_eq_true Bool.true_eq_false
variable {s : St}
theorem finB {b c : Bool} (h : c = b) : fin s (.v (.bool b)) (.v (.bool c)) := h ▸ finK ⟨rfl, rfl⟩
theorem finP {p q : Prop} [Decidable p] [Decidable q] (h : q ↔ p) : fin s (.v (.bool (decide p))) (.v (.bool (decide q))) := finB (decide_eq_decide.2 h)
theorem finT {q : Prop} [Decidable q] (h : q) : fin s (.v (.bool true)) (.v (.bool (decide q))) := finB (decide_eq_true h)
theorem finF' {q : Prop} [Decidable q] (h : ¬ q) : fin s (.v (.bool false)) (.v (.bool (decide q))) := finB (decide_eq_false h)
theorem finI {n m : Int} (h : m = n) : fin s (.v (.int .i64 n)) (.v (.int .i64 m)) := h ▸ finK ⟨rfl, rfl⟩
theorem finL {sz : Nat} {xs ys : List (List AV)} {tk : Tok} (h : ys = xs) : fin s (.list sz xs tk) (.list sz ys .no) := h ▸ finK ⟨rfl, rfl⟩
theorem conTN {X : Hints} {f : FuncId} {fn : Func} {c : Code} {rs : List ResultVar} {args : List AV} {n : Nat} {r : AV} (hf : Try.prog.funcs[f]? = some fn) (hname : (fn.name == "runtime.NumGoroutine") = false) (hb : fn.body = some c)
    (hrs : fn.results.toList = rs) (hN : (dstOK fn.ntmps c && draws (drawOK Try.prog) X c && decide (args.length ≤ fn.ntmps)) = true) (h : acode Try.prog X c (retN Try.prog rs n r) (s0 args)) : Con Try.prog f args n r :=
  con_ofN (drawOK_ok (by kernel_rfl)) hf hname hb hrs hN h
theorem partsAV_nil (n k : Nat) : partsAV n k [] = some [] := rfl
theorem partsAV_cons (n k i : Nat) (x : AV) (r : List (Nat × AV)) : partsAV n k ((i, x) :: r) = (cells? x).bind fun c => if i = k ∧ c.length = n ∧ (c.all fun x => clean (fgt x)) = true then (partsAV n (k + 1) r).map ((c.map fgt) :: ·) else none := by
  simp only [partsAV]
  cases cells? x <;> rfl
theorem fillAV_nil (pl : Nat → Option (Nat × Nat)) (l : List AV) : fillAV pl l [] = some l := rfl
theorem fillAV_cons (pl : Nat → Option (Nat × Nat)) (l : List AV) (i : Nat) (x : AV) (r : List (Nat × AV)) : fillAV pl l ((i, x) :: r) = (pl i).bind fun q => (cells? x).bind fun c => if c.length = q.2 ∧ q.1 + q.2 ≤ l.length then fillAV pl (l.take q.1 ++ c ++ l.drop (q.1 + q.2)) r else none := by
  simp only [fillAV]
  cases pl i with
  | none => rfl
  | some q => obtain ⟨a, b⟩ := q; cases cells? x <;> rfl
theorem tokOK_set (d : Nat) (x : AV) (tk : Tok) : tokOK (s.set d x) tk = tokOK s tk := by cases tk <;> rfl
theorem tokOK_nbox (d : Nat) (x : AV) (l : List AV) (tk : Tok) : tokOK (s.nbox d x l) tk = tokOK s tk := by cases tk <;> rfl
theorem tokOK_sbox (k : Key) (l : List AV) (tk : Tok) : tokOK (s.sbox k l) tk = tokOK s tk := by cases tk <;> rfl
theorem tokOK_ntok (d n : Nat) (x : AV) (tk : Tok) (h : tokOK s tk = true) : tokOK (s.ntok d n x none) tk = true := by
  cases tk with
  | own k => simp only [tokOK, ntok_d, killO_none, crt_at] at h ⊢; split <;> simp_all
  | no => exact h
  | nil => exact h
theorem tokOK_new (d n : Nat) (x : AV) (kl : Option Key) : tokOK (s.ntok d (n + 1) x kl) (.own (d, s.g d, 0)) = true := by simp [tokOK, ntok_d, crt_at]
attribute [go_sem] partsAV_nil partsAV_cons fillAV_nil fillAV_cons tokOK_set tokOK_nbox tokOK_sbox tokOK_ntok tokOK_new List.getElem?_toArray List.getElem?_cons_zero List.getElem?_cons_succ
theorem ndec {p : Prop} [Decidable p] (h : (!decide p) = true) : ¬ p := by simpa only [Bool.not_eq_true', decide_eq_false_iff_not] using h
theorem ydec {p : Prop} [Decidable p] (h : (!decide p) = false) : p := by simpa only [Bool.not_eq_false', decide_eq_true_eq] using h
theorem take_all {α : Type} {l : List α} {i : Nat} (h : i < l.length) {p : α → Prop} (h1 : ∀ x ∈ l.take i, p x) (h2 : p l[i]) : ∀ x ∈ l.take (i + 1), p x := by
  intro x hx
  rw [List.take_add_one, List.getElem?_eq_getElem h] at hx
  rcases List.mem_append.1 hx with hx | hx
  · exact h1 x hx
  · simp at hx; exact hx ▸ h2
theorem take_full {α : Type} {l : List α} {i : Nat} (h : ¬ i < l.length) {p : α → Prop} (h1 : ∀ x ∈ l.take i, p x) : ∀ x ∈ l, p x := by
  rwa [List.take_of_length_le (by omega)] at h1
theorem ineq {a b : Int} (h : (a != b) = true) : a ≠ b := by simpa using h
theorem ieq {a b : Int} (h : (a != b) = false) : a = b := by simpa using h
theorem beqT {a b : Int} (h : (a == b) = true) : a = b := by simpa using h
theorem beqF {a b : Int} (h : (a == b) = false) : a ≠ b := by simpa using h
/-- The slots that made a token, with its place. -/
def tkIn (l : List (Nat × Nat)) : Tok → Bool
  | .own k => l.contains (k.1, k.2.2)
  | .nil => true
  | .no => false
theorem kill_tk {l : List (Nat × Nat)} {tk : Tok} (h : tkIn l tk = true) {k : Key} (hk : l.contains (k.1, k.2.2) = false) (f : Key → Bool) : killO f (tokKey tk) k = f k := by
  cases tk with
  | own k1 =>
    have hne : k ≠ k1 := by
      rintro rfl
      have : l.contains (k.1, k.2.2) = true := h
      rw [hk] at this
      cases this
    show killO f (some k1) k = f k
    rw [killO_some, if_neg hne]
  | no => rfl
  | nil => rfl
theorem tk_kill {l1 l2 : List (Nat × Nat)} {t1 t2 : Tok} {d n : Nat} {x : AV} (h1 : tkIn l1 t1 = true) (h2 : tkIn l2 t2 = true) (hd : (l1.all fun a => !l2.contains a) = true) (h : tokOK s t2 = true) : tokOK (s.ntok d n x (tokKey t1)) t2 = true := by
  cases t2 with
  | no => exact h
  | nil => rfl
  | own k2 =>
    cases t1 with
    | own k1 =>
      have hne : k2 ≠ k1 := by
        rintro rfl
        have := List.all_eq_true.1 hd (k2.1, k2.2.2) (by simpa [tkIn] using h1)
        have h2' : l2.contains (k2.1, k2.2.2) = true := h2
        rw [h2'] at this
        simp at this
      simp only [tokOK, ntok_d, tokKey, killO_some, crt_at] at h ⊢
      split
      · rfl
      · first | exact h | (rw [if_neg hne]; exact h)
    | no => exact tokOK_ntok _ _ _ _ h
    | nil => exact tokOK_ntok _ _ _ _ h
theorem bnd_lv {n : Nat} {l : List Int} {tk : Tok} (h : bnd (n + 1) (lvT l tk)) : (l.length : Int) ≤ 9223372036854775807 := by
  have := h.1
  simpa using this
theorem bnd_elv {n : Nat} {l : List Ed} {tk : Tok} (h : bnd (n + 1) (elT' l tk)) : (l.length : Int) ≤ 9223372036854775807 := by
  have := h.1
  simpa using this
end Go.Sy

/- How a law's row comes out of a contract: what the arguments are, and what the call leaves. -/
namespace Go.Sy
open Go Go.Proofs Go.RowKit

/-- All cells of a world. -/
def cmap (W : World) : CMap := fun b o => match W.cell? ⟨b, o, none⟩ with | some v => if v.oneCell' = true then some v else none | none => none
theorem cmap_cw (W : World) : CW (cmap W) W := by
  intro b o v h
  unfold cmap at h
  split at h
  · rename_i u hu
    split at h
    · rename_i h1; cases h; exact ⟨hu, h1⟩
    · cases h
  · cases h
theorem cmap_some {W : World} {b o : Nat} {v : Value} (h : W.cell? ⟨b, o, none⟩ = some v) (h1 : v.oneCell' = true) : cmap W b o = some v := by
  unfold cmap
  rw [h]
  exact if_pos h1

theorem mapM_at {α β : Type} {f : α → Option β} : ∀ {l : List α} {r : List β}, l.mapM f = some r → ∀ (i : Nat) (x : α), l[i]? = some x → ∃ y, f x = some y ∧ r[i]? = some y
  | [], r, h, i, x, hx => by simp at hx
  | a :: l, r, h, i, x, hx => by
    rw [List.mapM_cons] at h
    obtain ⟨y, h1, h⟩ := Option.bind_eq_some_iff.1 h
    obtain ⟨ys, h2, h3⟩ := Option.bind_eq_some_iff.1 h
    cases h3
    cases i with
    | zero => simp at hx; subst hx; exact ⟨y, h1, rfl⟩
    | succ i =>
      obtain ⟨z, h4, h5⟩ := mapM_at h2 i x (by simpa using hx)
      exact ⟨z, h4, by simpa using h5⟩
theorem mapM_size {α β : Type} {f : α → Option β} : ∀ {l : List α} {r : List β}, l.mapM f = some r → r.length = l.length
  | [], r, h => by simp at h; simp [h]
  | a :: l, r, h => by
    rw [List.mapM_cons] at h
    obtain ⟨y, h1, h⟩ := Option.bind_eq_some_iff.1 h
    obtain ⟨ys, h2, h3⟩ := Option.bind_eq_some_iff.1 h
    cases h3
    simp [mapM_size h2]

variable {H : Type} {enc : TypeId × Value → H} {P : Program} {W : World} {sp : Nat → Bool} {held : Bool}

/-- Of a type t each reading gives cells that bear abstract values of the shape S. -/
structure Opens (P : Program) (t : TypeId) (S : List AV → Prop) : Prop where
  get : ∀ {H : Type} (enc : TypeId × Value → H) (W : World) (sp : Nat → Bool) (held : Bool) (fuel : Nat) (cs : List Value) (d : DataW H × List MemPlace), DataW.trod enc P W 0 sp held fuel t cs = some d →
    ∃ x : List AV, S x ∧ cs.length = P.cellsOf t ∧ x.length = cs.length ∧ (∀ c ∈ cs, c.oneCell' = true) ∧ ∀ (j : Nat) (c : Value) (a : AV), cs[j]? = some c → x[j]? = some a → RV (cmap W) noρ noτ c a

theorem opens_int {t : TypeId} {k : IntKind} (hu : P.underlying t = some (.int k)) (hc : P.cellsOf t = 1) : Opens P t (fun x => ∃ n, (Lit.int k n).wf = true ∧ x = [.v (.int k n)]) := by
  refine ⟨fun {H} enc W sp held fuel cs d h => ?_⟩
  cases fuel with
  | zero => cases h
  | succ fuel =>
    unfold DataW.trod at h
    simp only [hu] at h
    split at h
    all_goals try (rename_i heq _; cases heq; done)
    all_goals try (rename_i heq; cases heq; done)
    all_goals try (cases h; done)
    · rename_i k' k2 n heq
      cases heq
      split at h
      · rename_i hk
        obtain ⟨rfl, hw⟩ := hk
        exact ⟨_, ⟨n, hw, rfl⟩, hc.symm ▸ rfl, rfl, by simp [Value.oneCell'], fun j c a h1 h2 => by
          cases j with
          | zero => simp at h1 h2; subst h1 h2; exact .v _ rfl
          | succ j => simp at h1⟩
      · cases h

theorem opens_slice {t e : TypeId} {sz : Nat} {S : List AV → Prop} (hu : P.underlying t = some (.slice e)) (hc : P.cellsOf t = 1) (hce : P.cellsOf e = sz) (hpos : 0 < sz) (he : Opens P e S) :
    Opens P t (fun x => ∃ xs : List (List AV), (∀ y ∈ xs, S y ∧ y.length = sz) ∧ x = [.list sz xs .no]) := by
  subst hce
  refine ⟨fun {H} enc W sp held fuel cs d h => ?_⟩
  cases fuel with
  | zero => cases h
  | succ fuel =>
    unfold DataW.trod at h
    simp only [hu] at h
    split at h
    all_goals try (rename_i heq _; cases heq; done)
    all_goals try (rename_i heq; cases heq; done)
    all_goals try (cases h; done)
    · exact ⟨_, ⟨[], fun y hy => by simp at hy, rfl⟩, hc.symm ▸ rfl, rfl, by simp [Value.oneCell'], fun j c a h1 h2 => by
        cases j with
        | zero =>
          simp at h1 h2; subst h1 h2
          exact .list _ _ _ none 0 0 (fun _ _ => undef) rfl (Nat.le_refl _) (by simp [maxLen]) (fun i x hx => by simp at hx) (fun i x j a hx => by simp at hx) trivial
        | succ j => simp at h1⟩
    · rename_i e' A len cap heq
      cases heq
      split at h
      case isFalse => cases h
      rename_i hcond
      obtain ⟨_, hlc, hcm⟩ := hcond
      obtain ⟨elems, h1, _⟩ := Option.bind_eq_some_iff.1 h
      have each : ∀ i, i < len → ∃ (cs : List Value) (x : List AV), W.cells? 0 (A.add (i * P.cellsOf e)) (P.cellsOf e) = some cs ∧ S x ∧ cs.length = P.cellsOf e ∧ x.length = cs.length ∧ (∀ c ∈ cs, c.oneCell' = true) ∧
          ∀ (j : Nat) (c : Value) (a : AV), cs[j]? = some c → x[j]? = some a → RV (cmap W) noρ noτ c a := by
        intro i hi
        obtain ⟨y, hy, _⟩ := mapM_at h1 i i (by simp [hi])
        obtain ⟨cs, h3, h4⟩ := Option.bind_eq_some_iff.1 hy
        obtain ⟨x, q⟩ := he.get enc W sp held fuel cs y h4
        exact ⟨cs, x, h3, q⟩
      let CS : Nat → List Value := fun i => if h : i < len then Classical.choose (each i h) else []
      let XS : Nat → List AV := fun i => if h : i < len then Classical.choose (Classical.choose_spec (each i h)) else []
      have spec : ∀ i, i < len → W.cells? 0 (A.add (i * P.cellsOf e)) (P.cellsOf e) = some (CS i) ∧ S (XS i) ∧ (CS i).length = P.cellsOf e ∧ (XS i).length = (CS i).length ∧ (∀ c ∈ CS i, c.oneCell' = true) ∧
          ∀ (j : Nat) (c : Value) (a : AV), (CS i)[j]? = some c → (XS i)[j]? = some a → RV (cmap W) noρ noτ c a := by
        intro i hi
        have := Classical.choose_spec (Classical.choose_spec (each i hi))
        simpa only [CS, XS, dif_pos hi] using this
      have cell : ∀ i, i < len → ∀ j, j < P.cellsOf e → W.cell? ((A.add (i * P.cellsOf e)).add j) = (CS i)[j]? := by
        intro i hi j hj
        have h3 := (spec i hi).1
        unfold World.cells? at h3
        rw [if_pos (Nat.zero_le _)] at h3
        obtain ⟨y, h4, h5⟩ := mapM_at h3 j j (by simp [hj])
        rw [h4, h5]
      have hspot : 0 < len → A.spot = none := by
        intro hl
        have h4 := cell 0 hl 0 hpos
        have h5 : (0 : Nat) < (CS 0).length := by rw [(spec 0 hl).2.2.1]; exact hpos
        rw [Nat.zero_mul] at h4
        have e0 : (A.add 0).add 0 = A := rfl
        rw [e0, List.getElem?_eq_getElem h5] at h4
        unfold World.cell? at h4
        split at h4
        · split at h4
          · cases h4
          · rename_i hs; simpa using hs
        · cases h4
      refine ⟨_, ⟨(List.range len).map XS, ?_, rfl⟩, hc.symm ▸ rfl, rfl, by simp [Value.oneCell'], ?_⟩
      · intro y hy
        obtain ⟨i, hi, rfl⟩ := List.mem_map.1 hy
        have hi := List.mem_range.1 hi
        exact ⟨(spec i hi).2.1, by rw [(spec i hi).2.2.2.1, (spec i hi).2.2.1]⟩
      · intro j c a hj1 hj2
        cases j with
        | succ j => simp at hj1
        | zero =>
          simp at hj1 hj2; subst hj1 hj2
          have hget : ∀ (i : Nat) (x : List AV), ((List.range len).map XS)[i]? = some x → i < len ∧ x = XS i := by
            intro i x hx
            simp only [List.getElem?_map] at hx
            obtain ⟨z, hz, rfl⟩ := Option.map_eq_some_iff.1 hx
            have hz2 := List.getElem?_eq_some_iff.1 hz
            obtain ⟨hz3, hz4⟩ := hz2
            simp at hz3 hz4
            subst hz4
            exact ⟨hz3, rfl⟩
          refine .list _ _ _ (some A) len cap (fun i j => (CS i).getD j undef) (by simp) hlc hcm ?_ ?_ trivial
          · intro i x hx
            obtain ⟨hi, rfl⟩ := hget i x hx
            have sp0 := hspot (by omega)
            refine ⟨by rw [(spec i hi).2.2.2.1, (spec i hi).2.2.1], A.block, A.off, ?_, fun j hj => ?_⟩
            · cases A; simp at sp0; subst sp0; rfl
            · have hlt : j < (CS i).length := by rw [(spec i hi).2.2.1]; exact hj
              have h4 := cell i hi j hj
              rw [List.getElem?_eq_getElem hlt] at h4
              have hA : (A.add (i * P.cellsOf e)).add j = ⟨A.block, A.off + i * P.cellsOf e + j, none⟩ := by
                cases A with
                | mk bb oo ss =>
                  simp at sp0; subst sp0
                  unfold Addr.add
                  split <;> split <;> simp_all
              rw [hA] at h4
              have hm := (spec i hi).2.2.2.2.1 _ (List.getElem_mem hlt)
              rw [cmap_some h4 hm]
              simp [hlt]
          · intro i x j a hx ha
            obtain ⟨hi, rfl⟩ := hget i x hx
            have hlt : j < (CS i).length := by
              have := (List.getElem?_eq_some_iff.1 ha).1
              rw [(spec i hi).2.2.2.1] at this
              exact this
            exact (spec i hi).2.2.2.2.2 j _ a (by simp [hlt]) ha

def OpensL (P : Program) (n : Nat) : List Field → Nat → List (Nat × (List AV → Prop)) → Prop
  | [], off, [] => off = n
  | f :: fs, off, (m, S) :: Ss => f.offset = off ∧ P.cellsOf f.type = m ∧ Opens P f.type S ∧ OpensL P n fs (off + m) Ss
  | _, _, _ => False
def ShapeL : List (Nat × (List AV → Prop)) → List AV → Prop
  | [], x => x = []
  | (_, S) :: Ss, x => ∃ y z, S y ∧ ShapeL Ss z ∧ x = y ++ z
theorem opensL {n fuel : Nat} {cs : List Value} (hcs : cs.length = n) : ∀ (fs : List Field) (off : Nat) (Ss : List (Nat × (List AV → Prop))) (r : List (DataW H × List MemPlace)), OpensL P n fs off Ss →
    (fs.mapM fun f => DataW.trod enc P W 0 sp held fuel f.type ((cs.drop f.offset).take (P.cellsOf f.type))) = some r →
    ∃ x : List AV, ShapeL Ss x ∧ x.length = (cs.drop off).length ∧ (∀ c ∈ cs.drop off, c.oneCell' = true) ∧ ∀ (j : Nat) (c : Value) (a : AV), (cs.drop off)[j]? = some c → x[j]? = some a → RV (cmap W) noρ noτ c a
  | [], off, [], r, ho, h => by
    have ho : off = n := ho
    have : cs.drop off = [] := List.drop_eq_nil_of_le (by omega)
    rw [this]
    exact ⟨[], rfl, rfl, by simp, fun j c a h1 => by simp at h1⟩
  | f :: fs, off, (m, S) :: Ss, r, ho, h => by
    obtain ⟨hoff, hm, hop, hol⟩ := ho
    subst hm
    rw [List.mapM_cons] at h
    obtain ⟨d, h1, h⟩ := Option.bind_eq_some_iff.1 h
    obtain ⟨ys, h2, _⟩ := Option.bind_eq_some_iff.1 h
    rw [hoff] at h1
    obtain ⟨y, q1, q2, q3, q4, q5⟩ := hop.get enc W sp held fuel _ d h1
    obtain ⟨z, p1, p2, p3, p4⟩ := opensL hcs fs _ Ss ys hol h2
    have hlen : ((cs.drop off).take (P.cellsOf f.type)).length = P.cellsOf f.type := q2
    have hsplit : cs.drop off = (cs.drop off).take (P.cellsOf f.type) ++ cs.drop (off + P.cellsOf f.type) := by
      rw [← List.drop_drop, List.take_append_drop]
    refine ⟨y ++ z, ⟨y, z, q1, p1, rfl⟩, ?_, ?_, ?_⟩
    · rw [List.length_append, q3, p2, ← List.length_append, ← hsplit]
    · intro c hc
      rw [hsplit] at hc
      rcases List.mem_append.1 hc with hc | hc
      · exact q4 c hc
      · exact p3 c hc
    · intro j c a hc ha
      rw [hsplit] at hc
      by_cases hj : j < ((cs.drop off).take (P.cellsOf f.type)).length
      · rw [List.getElem?_append_left hj] at hc
        rw [List.getElem?_append_left (by rw [q3]; exact hj)] at ha
        exact q5 j c a hc ha
      · rw [List.getElem?_append_right (by omega)] at hc
        rw [List.getElem?_append_right (by rw [q3]; omega), q3] at ha
        exact p4 _ c a hc ha
theorem opens_struct {t : TypeId} {fs : Array Field} {n : Nat} {Ss : List (Nat × (List AV → Prop))} (hu : P.underlying t = some (.struct fs)) (hn : P.cellsOf t = n) (h : OpensL P n fs.toList 0 Ss) : Opens P t (ShapeL Ss) := by
  subst hn
  refine ⟨fun {H} enc W sp held fuel cs d hd => ?_⟩
  cases fuel with
  | zero => cases hd
  | succ fuel =>
    unfold DataW.trod at hd
    simp only [hu] at hd
    split at hd
    case isFalse => cases hd
    rename_i hcs
    obtain ⟨r, h1, _⟩ := Option.map_eq_some_iff.1 hd
    obtain ⟨x, q1, q2, q3, q4⟩ := opensL hcs _ _ _ _ h h1
    exact ⟨x, q1, hcs, by simpa using q2, by simpa using q3, by simpa using q4⟩
end Go.Sy

/- What a law's call leaves, out of its contract; the arguments' types. -/
namespace Go.Sy
open Go Go.Proofs Go.RowKit Go.Proofs.Ytkhheblmgbiniaa

variable {H : Type} {enc : TypeId × Value → H} {W : World} {sp : Nat → Bool} {held : Bool}

theorem Opens.mono {P : Program} {t : TypeId} {S S' : List AV → Prop} (h : Opens P t S) (hS : ∀ x, S x → S' x) : Opens P t S' := by
  refine ⟨fun {H} enc W sp held fuel cs d hd => ?_⟩
  obtain ⟨x, q1, q2⟩ := h.get enc W sp held fuel cs d hd
  exact ⟨x, hS x q1, q2⟩

theorem listOf {β : Type} {f : β → List AV} {xs : List (List AV)} (h : ∀ y ∈ xs, ∃ b, y = f b) : ∃ l : List β, xs = l.map f := by
  induction xs with
  | nil => exact ⟨[], rfl⟩
  | cons x xs ih =>
    obtain ⟨b, rfl⟩ := h x (by simp)
    obtain ⟨l, rfl⟩ := ih (fun y hy => h y (by simp [hy]))
    exact ⟨b :: l, rfl⟩

/-- The arguments stay as they were. -/
theorem trodAll_below {P : Program} (hl : laidOutB P = true) {W W' : World} (hb : Below W.heap.size W W') {sp' : Nat → Bool} : ∀ {ts : List TypeId} {vs : List Value} {ds : List (DataW H)} {ps : List MemPlace},
    (∀ t ∈ ts, P.readableRec t = true ∧ t < P.types.size) → DataW.TrodAll enc P W 0 (fun _ => true) true ts vs ds ps → (∀ x ∈ ps, x.block < W.heap.size) → (∀ p ∈ ps, sp' p.block = true) → DataW.TrodAll enc P W' 0 sp' true ts vs ds ps
  | [], [], [], ps, _, h, _, _ => h
  | t :: ts, v :: vs, d :: ds, ps, hr, h, hlt, hsp => by
    obtain ⟨p, q, h1, h2, rfl⟩ := h
    exact ⟨p, q, WideElems.Trod_stays hl (hr t (by simp)).1 (hr t (by simp)).2 h1 (fun x hx => hb.same (hlt x (by simp [hx]))) (fun x hx => hsp x (by simp [hx])),
      trodAll_below hl hb (fun t ht => hr t (by simp [ht])) h2 (fun x hx => hlt x (by simp [hx])) (fun x hx => hsp x (by simp [hx])), rfl⟩
  | [], _ :: _, _, _, _, h, _, _ => by simp [DataW.TrodAll] at h
  | [], [], _ :: _, _, _, h, _, _ => by simp [DataW.TrodAll] at h
  | _ :: _, [], _, _, _, h, _, _ => by simp [DataW.TrodAll] at h
  | _ :: _, _ :: _, [], _, _, h, _, _ => by simp [DataW.TrodAll] at h

set_option maxRecDepth 8000 in
theorem law_post {f : FuncId} {fn : Func} {s : ChangeSpec} {args : Array Value} {ds gs : List (DataW H)} {before : List MemPlace} {avs : List AV} {apart : Bool} (hl : laidOutB Try.prog = true) (hbool : Try.prog.underlying 4 = some .bool)
    (hW : DataW.Whole enc Try.prog fn.params.toList s.vars apart W args.toList ds gs before) (hvars : s.vars = []) (hrt : fn.resultTypes = #[4]) (hspec : s.fn H (ds ++ gs) = { results := [.lit (.bool true)], args := ds })
    (hread : (fn.params.toList.all fun t => Try.prog.readableRec t && decide (t < Try.prog.types.size)) = true) (hcon : Con Try.prog f avs 0 (bv true)) (hsz : args.size = avs.length)
    (hrv : ∀ (i : Nat) (v : Value) (x : AV), args[i]? = some v → avs[i]? = some x → RV (cmap W) noρ noτ v x) :
    Calls Try.prog f args W fun e W' => ∃ v, e = .returned v ∧ s.post enc Try.prog fn apart true false false W args v W' := by
  refine (hcon.calls (cmap W) W args (cmap_cw W) hsz hrv).mono ?_
  rintro e W' ⟨v, C', τ', rfl, hb, _, _, _, hv, _⟩
  obtain ⟨rfl, _⟩ := rv_v hv
  refine ⟨_, rfl, ?_⟩
  have hW' := hW
  obtain ⟨p, q, h1, h2, rfl, _, _⟩ := hW'
  rw [hvars] at h2
  obtain ⟨rfl, rfl⟩ := ChangeShapes.trodVars_none h2
  have hlt : ∀ x ∈ p, x.block < W.heap.size := fun x hx => hW.lt x (by simp [hx])
  refine ⟨ds, [], p ++ [], [], p, [], hW, ?_, ?_, ?_, World.keptBut_mono (fun x hx => ⟨hx, .inr (.inl (by simpa using hx))⟩) (hb.frame _), fun h => by cases h⟩
  · rw [hspec, hrt]
    refine ⟨[], [], ⟨1, ?_⟩, rfl, rfl⟩
    simp [Value.cells, DataW.trod, hbool]
  · rw [hspec]
    exact trodAll_below hl hb (fun t ht => by simpa using List.all_eq_true.1 hread t ht) h1 hlt (fun x hx => by simpa using hlt x hx)
  · rw [hvars, hspec]
    rfl

set_option maxRecDepth 8000 in
theorem open_agg {t : TypeId} {fs : Array Field} {S : List AV → Prop} {base : Nat} {v : Value} {d : DataW H} {p : List MemPlace} (hu : Try.prog.underlying t = some (.struct fs)) (ho : Opens Try.prog t S) (hval : Value.okWide Try.prog W .any base t v)
    (h : DataW.Trod enc Try.prog W 0 sp held t v d p) : ∃ x, S x ∧ RV (cmap W) noρ noτ v (.agg x) := by
  simp only [Value.okWide, hu] at hval
  obtain ⟨cs, rfl, _, _⟩ := hval
  obtain ⟨fuel, h⟩ := h
  obtain ⟨x, q1, q2, q3, q4, q5⟩ := ho.get enc W sp held fuel _ _ h
  refine ⟨x, q1, .agg _ _ ?_ (fun i v a hv ha => q5 i v a ?_ ha) (fun i v hv => q4 v ?_)⟩
  · have : cs.toList.length = x.length := q3.symm
    simpa using this
  · show cs.toList[i]? = some v
    simpa using hv
  · show v ∈ cs.toList
    exact Array.mem_toList_iff.2 (Array.mem_of_getElem? hv)

/-! ### Types -/
theorem opensInt : Opens Try.prog 3 (fun x => ∃ n : Int, x = [iv n]) := (opens_int (k := .i64) (by kernel_rfl) (by kernel_rfl)).mono fun x ⟨n, _, h⟩ => ⟨n, h⟩
theorem opensInts : Opens Try.prog 22 (fun x => ∃ l, x = [lv l]) := (opens_slice (e := 3) (sz := 1) (by kernel_rfl) (by kernel_rfl) (by kernel_rfl) (by decide) opensInt).mono fun x ⟨xs, h, hx⟩ => by
  obtain ⟨l, rfl⟩ := listOf (f := fun n => [iv n]) (fun y hy => (h y hy).1)
  exact ⟨l, hx⟩
theorem opensEdge : Opens Try.prog 105 (fun x => ∃ e : Ed, x = ecs e) := (opens_struct (n := 3) (Ss := [(1, _), (1, _), (1, _)]) Try.underlying105 (by kernel_rfl) ⟨rfl, by kernel_rfl, opensInt, rfl, by kernel_rfl, opensInt, rfl, by kernel_rfl, opensInt, rfl⟩).mono fun x h => by
  obtain ⟨_, _, ⟨a, rfl⟩, ⟨_, _, ⟨b, rfl⟩, ⟨_, _, ⟨c, rfl⟩, rfl, rfl⟩, rfl⟩, rfl⟩ := h
  exact ⟨(a, b, c), rfl⟩
theorem opensEdges : Opens Try.prog 23 (fun x => ∃ l, x = [elv l]) := (opens_slice (e := 105) (sz := 3) (by kernel_rfl) (by kernel_rfl) (by kernel_rfl) (by decide) opensEdge).mono fun x ⟨xs, h, hx⟩ => by
  obtain ⟨l, rfl⟩ := listOf (f := ecs) (fun y hy => (h y hy).1)
  exact ⟨l, hx⟩
theorem opensGraph : Opens Try.prog 25 (fun x => ∃ g, x = gcs g) := (opens_struct (n := 2) (Ss := [(1, _), (1, _)]) Try.underlying25 (by kernel_rfl) ⟨rfl, by kernel_rfl, opensInts, rfl, by kernel_rfl, opensEdges, rfl⟩).mono fun x h => by
  obtain ⟨_, _, ⟨a, rfl⟩, ⟨_, _, ⟨b, rfl⟩, rfl, rfl⟩, rfl⟩ := h
  exact ⟨⟨a, b⟩, rfl⟩
theorem opensMorphism : Opens Try.prog 41 (fun x => ∃ g, x = mcs g) := (opens_struct (n := 2) (Ss := [(1, _), (1, _)]) Try.underlying41 (by kernel_rfl) ⟨rfl, by kernel_rfl, opensInts, rfl, by kernel_rfl, opensInts, rfl⟩).mono fun x h => by
  obtain ⟨_, _, ⟨a, rfl⟩, ⟨_, _, ⟨b, rfl⟩, rfl, rfl⟩, rfl⟩ := h
  exact ⟨⟨a, b⟩, rfl⟩
end Go.Sy

/- More types of arguments. -/
namespace Go.Sy
open Go Go.Proofs Go.RowKit Go.Proofs.Ytkhheblmgbiniaa

theorem opensOv : Opens Try.prog 43 (fun x => ∃ g, x = ocs g) := (opens_struct (n := 6) (Ss := [(2, _), (2, _), (2, _)]) Try.underlying43 (by kernel_rfl) ⟨rfl, by kernel_rfl, opensGraph, rfl, by kernel_rfl, opensMorphism, rfl, by kernel_rfl, opensMorphism, rfl⟩).mono fun x h => by
  obtain ⟨_, _, ⟨a, rfl⟩, ⟨_, _, ⟨b, rfl⟩, ⟨_, _, ⟨c, rfl⟩, rfl, rfl⟩, rfl⟩, rfl⟩ := h
  exact ⟨⟨a, b, c⟩, rfl⟩
end Go.Sy
