/- A region that draws its order comes to what the text's order comes to. -/
import Derived.Test.YtkhheblmgbiniaaB5
namespace Go.Sy
open Go Go.RowKit

variable {N : Nat} {w0 : World} {C0 : CMap} {E : EX} {s : St} {a : Act} {w : World} {C : CMap} {ρ : RMap} {τ : TMap} {P : Program} {o : Oper} {e : Eff} {ops : Array Oper}

/-! ### Folds, coordinate by coordinate -/
section folds
variable {V : Type} (f : Nat → St → St) (π : St → V)
def Dich : Prop := ∀ j, (∀ s, π (f j s) = π s) ∨ (∃ v, ∀ s, π (f j s) = v)
def Tch (j : Nat) : Prop := ¬ ∀ s, π (f j s) = π s
variable {f π}
theorem fold_same (hD : Dich f π) : ∀ (l : List Nat) (s s' : St), π s = π s' → π (l.foldl (fun s j => f j s) s) = π (l.foldl (fun s j => f j s) s')
  | [], _, _, h => h
  | j :: l, s, s', h => by
    simp only [List.foldl_cons]
    refine fold_same hD l _ _ ?_
    rcases hD j with hj | ⟨v, hj⟩
    · rw [hj, hj, h]
    · rw [hj, hj]
open Classical in
theorem fold_filter (hD : Dich f π) : ∀ (l : List Nat) (s : St), π (l.foldl (fun s j => f j s) s) = π ((l.filter fun j => decide (Tch f π j)).foldl (fun s j => f j s) s)
  | [], _ => rfl
  | j :: l, s => by
    by_cases hj : Tch f π j
    · rw [List.filter_cons_of_pos (by simpa using hj)]
      simp only [List.foldl_cons]
      exact fold_filter hD l _
    · rw [List.filter_cons_of_neg (by simpa using hj)]
      simp only [List.foldl_cons]
      have hj' : ∀ s, π (f j s) = π s := by unfold Tch at hj; exact Classical.not_not.1 hj
      rw [fold_same hD l _ s (hj' s)]
      exact fold_filter hD l s
end folds

theorem range_filter_lt {n i : Nat} (h : i ≤ n) : (List.range n).filter (fun j => decide (j < i)) = List.range i := by
  induction n with
  | zero => have : i = 0 := by omega
            subst this; rfl
  | succ n ih =>
    rw [List.range_succ, List.filter_append]
    by_cases hi : i ≤ n
    · rw [ih hi]; simp; omega
    · have : i = n + 1 := by omega
      subst this
      rw [List.range_succ]
      have h1 : (List.range n).filter (fun j => decide (j < n + 1)) = List.range n := by
        rw [List.filter_eq_self]
        intro x hx
        simp at hx ⊢
        omega
      rw [h1]
      simp

/-- The state behind the operations of a set. -/
noncomputable def SX (f : Nat → St → St) (n : Nat) (s : St) (X : Nat → Prop) : St := open Classical in ((List.range n).filter fun j => decide (X j)).foldl (fun s j => f j s) s

section sets
variable {V : Type} {f : Nat → St → St} {π : St → V} {n : Nat} {s : St} {X : Nat → Prop}
open Classical in
theorem SX_prefix (hD : Dich f π) {i : Nat} (hi : i ≤ n) (h : ∀ j, j < n → Tch f π j → (X j ↔ j < i)) : π (SX f n s X) = π ((List.range i).foldl (fun s j => f j s) s) := by
  unfold SX
  rw [fold_filter hD, fold_filter hD (List.range i)]
  congr 2
  rw [← range_filter_lt hi, List.filter_filter, List.filter_filter]
  apply List.filter_congr
  intro j hj
  have hj' : j < n := by simpa using hj
  by_cases ht : Tch f π j
  · have := h j hj' ht
    simp [ht, this]
  · simp [ht]

open Classical in
theorem SX_insert (hD : Dich f π) {i : Nat} (hi : i < n) (hX : ¬ X i) (h : Tch f π i → ∀ j, j < n → X j → Tch f π j → j < i) : π (SX f n s (fun j => X j ∨ j = i)) = π (f i (SX f n s X)) := by
  by_cases ht : Tch f π i
  · obtain ⟨v, hv⟩ : ∃ v, ∀ s, π (f i s) = v := (hD i).resolve_left ht
    rw [hv]
    unfold SX
    rw [fold_filter hD, List.filter_filter]
    have e : (List.range n).filter (fun j => decide (Tch f π j) && decide (X j ∨ j = i)) = ((List.range i).filter (fun j => decide (Tch f π j) && decide (X j))) ++ [i] := by
      have hs : List.range n = List.range i ++ i :: List.range' (i + 1) (n - i - 1) := by
        rw [List.range_eq_range', List.range_eq_range']
        have h1 : List.range' 0 n = List.range' 0 i ++ List.range' (0 + i) (n - i) := by
          rw [List.range'_append_1]; congr 1; omega
        rw [h1]
        congr 1
        rw [Nat.zero_add, show n - i = (n - i - 1) + 1 by omega, List.range'_succ]
        congr 2
      rw [hs, List.filter_append, List.filter_cons]
      have h2 : (decide (Tch f π i) && decide (X i ∨ i = i)) = true := by simp [ht]
      rw [if_pos h2]
      have h3 : (List.range' (i + 1) (n - i - 1)).filter (fun j => decide (Tch f π j) && decide (X j ∨ j = i)) = [] := by
        rw [List.filter_eq_nil_iff]
        intro j hj
        simp only [List.mem_range'_1] at hj
        simp only [Bool.and_eq_true, decide_eq_true_eq, not_and]
        intro hjt hjx
        rcases hjx with hjx | rfl
        · have := h ht j (by omega) hjx hjt; omega
        · omega
      rw [h3]
      congr 1
      apply List.filter_congr
      intro j hj
      have hj' : j < i := by simpa using hj
      have : j ≠ i := by omega
      simp [this]
    have key : ∀ l : List Nat, l = ((List.range i).filter (fun j => decide (Tch f π j) && decide (X j))) ++ [i] → π (l.foldl (fun s j => f j s) s) = v := by
      intro l hl
      rw [hl, List.foldl_append]
      exact hv _
    refine key _ (Eq.trans ?_ e)
    apply List.filter_congr
    intro a _
    by_cases ha : X a ∨ a = i <;> simp [ha]
  · have ht' : ∀ s, π (f i s) = π s := by unfold Tch at ht; exact Classical.not_not.1 ht
    rw [ht']
    unfold SX
    rw [fold_filter hD, fold_filter hD ((List.range n).filter fun j => decide (X j)), List.filter_filter, List.filter_filter]
    congr 2
    apply List.filter_congr
    intro j _
    by_cases hji : j = i
    · subst hji; simp [ht]
    · simp [hji]
end sets

/-! ### Recorded steps -/
def actS (γ : Nat → Nat) (d : Option Nat) (oe : Option Stp) (s : St) : St :=
  match oe with
  | none => s.skip d
  | some (.ec k v c kl g) =>
    { t := match d with | none => s.t | some d => upd s.t d v
      b := upd s.b k (some ⟨c, false⟩)
      d := upd (killO s.d kl) (k.1, g, 0) false
      g := upd s.g k.1 (g + 1) }
  | some (.ef e) => match d with
    | none => { s with b := sto s.b e.st }
    | some d =>
      { t := upd s.t d e.v
        b := match e.nb with | none => sto s.b e.st | some l => upd (sto s.b e.st) (d, γ d, 0) (some ⟨l, false⟩)
        d := crt d (γ d) e.nt (match e.kl with | none => s.d | some k => upd s.d k true)
        g := if e.nb.isSome || decide (0 < e.nt) then upd s.g d (γ d + 1) else s.g }

def nx (s : St) (d : Option Nat) : Option Stp → St
  | none => s.skip d
  | some p => s.stp d p

theorem actS_nx {γ : Nat → Nat} {s : St} {d : Option Nat} {oe : Option Stp} (h : ∀ d', d = some d' → s.g d' = γ d') (h2 : ∀ k v c kl g, oe = some (.ec k v c kl g) → g = s.g k.1) : actS γ d oe s = nx s d oe := by
  cases oe with
  | none => rfl
  | some p =>
    cases p with
    | ec k v c kl g =>
      have := h2 k v c kl g rfl
      subst this
      rfl
    | ef e =>
      cases d with
      | none => rfl
      | some d =>
        simp only [actS, nx, St.stp, St.app, h d rfl]
        cases e.nb <;> cases e.kl <;> rfl

theorem sto_dich (k : Key) : ∀ (l : List (Key × List AV)), (∀ f : Key → Option Box, sto f l k = f k) ∨ ((k ∈ l.map Prod.fst) ∧ ∃ v, ∀ f : Key → Option Box, sto f l k = v)
  | [] => .inl fun _ => rfl
  | (k', c) :: l => by
    rcases sto_dich k l with h | ⟨h0, v, h⟩
    · by_cases hk : k = k'
      · subst hk
        exact .inr ⟨by simp, some ⟨c, false⟩, fun f => by simp only [sto]; rw [h]; simp [upd]⟩
      · exact .inl fun f => by simp only [sto]; rw [h]; simp [upd, hk]
    · exact .inr ⟨by simp at h0 ⊢; exact .inr h0, v, fun f => by simp only [sto]; rw [h]⟩

theorem act_t {γ : Nat → Nat} (d : Option Nat) (oe : Option Stp) (u : Nat) : (∀ s, (actS γ d oe s).t u = s.t u) ∨ (d = some u ∧ ∃ v, ∀ s, (actS γ d oe s).t u = v) := by
  cases d with
  | none => cases oe with
    | none => exact .inl fun _ => rfl
    | some p => cases p <;> exact .inl fun _ => rfl
  | some d =>
    by_cases h : u = d
    · subst h
      cases oe with
      | none => exact .inr ⟨rfl, .tup [], fun s => by simp [actS, St.skip, St.set, upd]⟩
      | some p => cases p with
        | ef e => exact .inr ⟨rfl, e.v, fun s => by simp [actS, upd]⟩
        | ec k v c kl g => exact .inr ⟨rfl, v, fun s => by simp [actS, upd]⟩
    · cases oe with
      | none => exact .inl fun s => by simp [actS, St.skip, St.set, upd, h]
      | some p => cases p with
        | ef e => exact .inl fun s => by simp [actS, upd, h]
        | ec k v c kl g => exact .inl fun s => by simp [actS, upd, h]

/-- A step turns a call's box. -/
def isEc (oe : Option Stp) (k : Key) (kl : Option Key) (g : Nat) : Prop := ∃ v c, oe = some (.ec k v c kl g)

theorem act_g {γ : Nat → Nat} (d : Option Nat) (oe : Option Stp) (u : Nat) : (∀ s, (actS γ d oe s).g u = s.g u) ∨
    (((d = some u ∧ (∃ e, oe = some (.ef e)) ∧ ∀ s, (actS γ d oe s).g u = γ u + 1) ∨ ∃ k kl g, isEc oe k kl g ∧ k.1 = u ∧ ∀ s, (actS γ d oe s).g u = g + 1)) := by
  cases oe with
  | none => cases d <;> exact .inl fun _ => rfl
  | some p =>
    cases p with
    | ec k v c kl g =>
      by_cases h : u = k.1
      · exact .inr (.inr ⟨k, kl, g, ⟨v, c, rfl⟩, h.symm, fun s => by simp [actS, upd, h]⟩)
      · exact .inl fun s => by simp [actS, upd, h]
    | ef e =>
      cases d with
      | none => exact .inl fun _ => rfl
      | some d =>
        by_cases hc : (e.nb.isSome || decide (0 < e.nt)) = true
        · by_cases h : u = d
          · subst h; exact .inr (.inl ⟨rfl, ⟨e, rfl⟩, fun s => by simp [actS, hc, upd]⟩)
          · exact .inl fun s => by simp [actS, hc, upd, h]
        · exact .inl fun s => by simp [actS, hc]

theorem act_b {γ : Nat → Nat} (d : Option Nat) (oe : Option Stp) (k : Key) : (∀ s, (actS γ d oe s).b k = s.b k) ∨
    (((∃ e, oe = some (.ef e) ∧ k ∈ e.st.map Prod.fst) ∨ (d = some k.1 ∧ k.2.1 = γ k.1 ∧ ∃ e, oe = some (.ef e) ∧ (e.nb.isSome || decide (0 < e.nt)) = true) ∨ ∃ kl g, isEc oe k kl g) ∧ ∃ v, ∀ s, (actS γ d oe s).b k = v) := by
  cases oe with
  | none => cases d <;> exact .inl fun _ => rfl
  | some p =>
    cases p with
    | ec k' v c kl g =>
      by_cases h : k = k'
      · subst h; exact .inr ⟨.inr (.inr ⟨kl, g, v, c, rfl⟩), _, fun s => by simp [actS, upd]; rfl⟩
      · exact .inl fun s => by simp [actS, upd, h]
    | ef e =>
      cases d with
      | none =>
        rcases sto_dich k e.st with h | ⟨h0, v, h⟩
        · exact .inl fun s => h s.b
        · exact .inr ⟨.inl ⟨e, rfl, h0⟩, v, fun s => h s.b⟩
      | some d =>
        cases hn : e.nb with
        | none =>
          rcases sto_dich k e.st with h | ⟨h0, v, h⟩
          · exact .inl fun s => by simp only [actS, hn]; exact h s.b
          · exact .inr ⟨.inl ⟨e, rfl, h0⟩, v, fun s => by simp only [actS, hn]; exact h s.b⟩
        | some l =>
          by_cases hk : k = (d, γ d, 0)
          · subst hk
            exact .inr ⟨.inr (.inl ⟨rfl, rfl, e, rfl, by simp [hn]⟩), some ⟨l, false⟩, fun s => by simp [actS, hn, upd]⟩
          · rcases sto_dich k e.st with h | ⟨h0, v, h⟩
            · exact .inl fun s => by simp only [actS, hn, upd_ne _ _ hk]; exact h s.b
            · exact .inr ⟨.inl ⟨e, rfl, h0⟩, v, fun s => by simp only [actS, hn, upd_ne _ _ hk]; exact h s.b⟩

theorem act_d {γ : Nat → Nat} (d : Option Nat) (oe : Option Stp) (k : Key) : (∀ s, (actS γ d oe s).d k = s.d k) ∨
    (((d = some k.1 ∧ k.2.1 = γ k.1 ∧ ∃ e, oe = some (.ef e) ∧ (e.nb.isSome || decide (0 < e.nt)) = true) ∨ (∃ e, oe = some (.ef e) ∧ e.kl = some k) ∨ ∃ k0 kl g, isEc oe k0 kl g ∧ (kl = some k ∨ k = (k0.1, g, 0))) ∧ ∃ v, ∀ s, (actS γ d oe s).d k = v) := by
  cases oe with
  | none => cases d <;> exact .inl fun _ => rfl
  | some p =>
    cases p with
    | ec k0 v c kl g =>
      by_cases h : k = (k0.1, g, 0)
      · exact .inr ⟨.inr (.inr ⟨k0, kl, g, ⟨v, c, rfl⟩, .inr h⟩), false, fun s => by simp [actS, upd, h]⟩
      · cases kl with
        | none => exact .inl fun s => by simp [actS, upd, h, killO]
        | some k' =>
          by_cases hk : k = k'
          · exact .inr ⟨.inr (.inr ⟨k0, _, g, ⟨v, c, rfl⟩, .inl (by rw [hk])⟩), true, fun s => by simp only [actS, upd_ne _ _ h, killO]; simp [upd, hk]⟩
          · exact .inl fun s => by simp only [actS, upd_ne _ _ h, killO]; simp [upd, hk]
    | ef e =>
      cases d with
      | none => exact .inl fun _ => rfl
      | some d =>
        by_cases hc : k.1 = d ∧ k.2.1 = γ d ∧ k.2.2 < e.nt
        · refine .inr ⟨.inl ⟨by rw [hc.1], by rw [hc.1]; exact hc.2.1, e, rfl, by simp; omega⟩, false, fun s => ?_⟩
          simp only [actS, crt, if_pos hc]
        · cases hk : e.kl with
          | none => exact .inl fun s => by simp only [actS, crt, if_neg hc, hk]
          | some k' =>
            by_cases hkk : k = k'
            · subst hkk
              exact .inr ⟨.inr (.inl ⟨e, rfl, hk⟩), true, fun s => by simp only [actS, crt, if_neg hc, hk]; simp [upd]⟩
            · exact .inl fun s => by simp only [actS, crt, if_neg hc, hk]; simp [upd, hkk]

end Go.Sy
