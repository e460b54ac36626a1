/- Contracts: conditions over a graph; what is light. -/
import Derived.Test.YtkhheblmgbiniaaMG4
import Derived.Test.YtkhheblmgbiniaaMG2
import Derived.Test.YtkhheblmgbiniaaMG3
import Derived.RangeFuncBox
import Derived.RangeFuncLeaves
import Derived.Shelf.Abstract
import Derived.WalkKit
import Derived.OwnWalkIn
import Derived.TacticsInMore
import Derived.LoopNIn
import Derived.LoopIn
import Derived.Maps.AppendAt
set_option linter.unusedSimpArgs false
namespace Go.Sy
open Go Go.Proofs

theorem c108 (c : Cd) : ∀ a : Gr, Con Try.prog 108 [gv a, cv c] 0 (iv (ovr c a)) := by
  induction c using Cd.ind
  rename_i k kids m g sl v ts ih
  intro a
  refine Con.assume (enters_of Try.func108 (by kernel_rfl) rfl) fun hb => ?_
  have hlen := bnd_cv (hb _ (List.mem_cons_of_mem _ (List.mem_cons_self ..)))
  clear hb
  rw [ovr_mk]
  have K := c142 k kids m g sl v ts
  rw [cv_mk] at K
  generalize shp (.mk k kids m g sl v ts) = e at *
  have loop : ∀ (b : Gr) (s : St), s.t 6 = .box (6, 0, 0) 0 → s.b (6, 0, 0) = some ⟨gcs b, false⟩ → True := fun _ _ _ _ => trivial
  clear loop
  refine conT (X := []) (rs := [.tmp 4]) Try.func108 (by kernel_rfl) rfl rfl (by kernel_rfl) ?_
  simp (dsimp := false) (maxDischargeDepth := 16) only [go_sem, ↓reduceIte, reduceCtorEq, Nat.reduceEqDiff, Nat.reduceAdd, Nat.reduceMul, Nat.reduceSub, Nat.reduceLT, Nat.reduceLeDiff, Nat.reducePow, Int.reduceLT, Int.reduceLE, Int.reduceNeg, Int.reduceToNat]
  refine callK_intro K ?_
  simp (dsimp := false) (maxDischargeDepth := 16) only [go_sem, ↓reduceIte, reduceCtorEq, Nat.reduceEqDiff, Nat.reduceAdd, Nat.reduceMul, Nat.reduceSub, Nat.reduceLT, Nat.reduceLeDiff, Nat.reducePow, Int.reduceLT, Int.reduceLE, Int.reduceNeg, Int.reduceToNat]
  refine condK_intro (fun q => ?_) (fun q => ?_)
  · simp (dsimp := false) (maxDischargeDepth := 16) only [go_sem, ↓reduceIte, reduceCtorEq, Nat.reduceEqDiff, Nat.reduceAdd, Nat.reduceMul, Nat.reduceSub, Nat.reduceLT, Nat.reduceLeDiff, Nat.reducePow, Int.reduceLT, Int.reduceLE, Int.reduceNeg, Int.reduceToNat, q]
    rw [if_pos (ne0_T q)]
    exact finI rfl
  rw [if_neg (by simp [ne0_F q])]
  simp (dsimp := false) (maxDischargeDepth := 16) only [go_sem, ↓reduceIte, reduceCtorEq, Nat.reduceEqDiff, Nat.reduceAdd, Nat.reduceMul, Nat.reduceSub, Nat.reduceLT, Nat.reduceLeDiff, Nat.reducePow, Int.reduceLT, Int.reduceLE, Int.reduceNeg, Int.reduceToNat, q]
  by_cases hk : k = 5
  · rw [if_pos hk]
    have n5 : (k == 5) = true := by simp [hk]
    have K1 := c70 a g m
    have K2 := c75 a g m
    generalize mErr a g m = e1 at *
    generalize injR a g m = e2 at *
    simp (dsimp := false) (maxDischargeDepth := 16) only [go_sem, ↓reduceIte, reduceCtorEq, Nat.reduceEqDiff, Nat.reduceAdd, Nat.reduceMul, Nat.reduceSub, Nat.reduceLT, Nat.reduceLeDiff, Nat.reducePow, Int.reduceLT, Int.reduceLE, Int.reduceNeg, Int.reduceToNat, q, n5]
    refine callK_intro K1 ?_
    simp (dsimp := false) (maxDischargeDepth := 16) only [go_sem, ↓reduceIte, reduceCtorEq, Nat.reduceEqDiff, Nat.reduceAdd, Nat.reduceMul, Nat.reduceSub, Nat.reduceLT, Nat.reduceLeDiff, Nat.reducePow, Int.reduceLT, Int.reduceLE, Int.reduceNeg, Int.reduceToNat]
    refine condK_intro (fun q1 => ?_) (fun q1 => ?_)
    · simp (dsimp := false) (maxDischargeDepth := 16) only [go_sem, ↓reduceIte, reduceCtorEq, Nat.reduceEqDiff, Nat.reduceAdd, Nat.reduceMul, Nat.reduceSub, Nat.reduceLT, Nat.reduceLeDiff, Nat.reducePow, Int.reduceLT, Int.reduceLE, Int.reduceNeg, Int.reduceToNat, q1]
      rw [if_pos (ne0_T q1)]
      exact finI rfl
    rw [if_neg (by simp [ne0_F q1])]
    simp (dsimp := false) (maxDischargeDepth := 16) only [go_sem, ↓reduceIte, reduceCtorEq, Nat.reduceEqDiff, Nat.reduceAdd, Nat.reduceMul, Nat.reduceSub, Nat.reduceLT, Nat.reduceLeDiff, Nat.reducePow, Int.reduceLT, Int.reduceLE, Int.reduceNeg, Int.reduceToNat, q1]
    refine callK_intro K2 ?_
    cases e2 with
    | false =>
      simp (dsimp := false) (maxDischargeDepth := 16) only [go_sem, ↓reduceIte, reduceCtorEq, Nat.reduceEqDiff, Nat.reduceAdd, Nat.reduceMul, Nat.reduceSub, Nat.reduceLT, Nat.reduceLeDiff, Nat.reducePow, Int.reduceLT, Int.reduceLE, Int.reduceNeg, Int.reduceToNat, q1]
      exact finI rfl
    | true =>
      simp (dsimp := false) (maxDischargeDepth := 16) only [go_sem, ↓reduceIte, reduceCtorEq, Nat.reduceEqDiff, Nat.reduceAdd, Nat.reduceMul, Nat.reduceSub, Nat.reduceLT, Nat.reduceLeDiff, Nat.reducePow, Int.reduceLT, Int.reduceLE, Int.reduceNeg, Int.reduceToNat, q1]
      refine loopK_intro (fun (i : Nat) s => i ≤ kids.length ∧ s.t 6 = .box (6, 0, 0) 0 ∧ s.b (6, 0, 0) = some ⟨gcs g, false⟩ ∧ s.t 38 = .list 9 (kids.map ccs) .no ∧ s.t 39 = iv kids.length ∧ s.t 40 = iv i ∧ ∀ x ∈ kids.take i, ovr x g = 0) (fun i => kids.length - i) ⟨0, by omega, rfl, rfl, rfl, rfl, rfl, fun j hj => by simp at hj⟩ ?_
      rintro i s ⟨hi, t6, b6, t38, t39, t40, hall⟩
      simp (dsimp := false) (maxDischargeDepth := 16) only [go_sem, ↓reduceIte, reduceCtorEq, Nat.reduceEqDiff, Nat.reduceAdd, Nat.reduceMul, Nat.reduceSub, Nat.reduceLT, Nat.reduceLeDiff, Nat.reducePow, Int.reduceLT, Int.reduceLE, Int.reduceNeg, Int.reduceToNat, t6, b6, t38, t39, t40]
      refine condK_dec (fun h6 => ?_) (fun h6 => ?_)
      · simp (dsimp := false) (maxDischargeDepth := 16) only [go_sem, ↓reduceIte, reduceCtorEq, Nat.reduceEqDiff, Nat.reduceAdd, Nat.reduceMul, Nat.reduceSub, Nat.reduceLT, Nat.reduceLeDiff, Nat.reducePow, Int.reduceLT, Int.reduceLE, Int.reduceNeg, Int.reduceToNat, t6, b6, t38, t39, t40, h6, idx_nat]
        refine callK_intro (ih _ (List.getElem_mem h6) g) ?_
        simp (dsimp := false) (maxDischargeDepth := 16) only [go_sem, ↓reduceIte, reduceCtorEq, Nat.reduceEqDiff, Nat.reduceAdd, Nat.reduceMul, Nat.reduceSub, Nat.reduceLT, Nat.reduceLeDiff, Nat.reducePow, Int.reduceLT, Int.reduceLE, Int.reduceNeg, Int.reduceToNat, t6, b6, t38, t39, t40, h6]
        refine condK_intro (fun h9 => ?_) (fun h9 => ?_)
        · simp (dsimp := false) (maxDischargeDepth := 16) only [go_sem, ↓reduceIte, reduceCtorEq, Nat.reduceEqDiff, Nat.reduceAdd, Nat.reduceMul, Nat.reduceSub, Nat.reduceLT, Nat.reduceLeDiff, Nat.reducePow, Int.reduceLT, Int.reduceLE, Int.reduceNeg, Int.reduceToNat, t6, b6, t38, t39, t40, h6, h9]
          exact finI (firstI_at (f := fun c => ovr c g) h6 hall (ne0_T h9))
        · simp (dsimp := false) (maxDischargeDepth := 16) only [go_sem, ↓reduceIte, reduceCtorEq, Nat.reduceEqDiff, Nat.reduceAdd, Nat.reduceMul, Nat.reduceSub, Nat.reduceLT, Nat.reduceLeDiff, Nat.reducePow, Int.reduceLT, Int.reduceLE, Int.reduceNeg, Int.reduceToNat, t6, b6, t38, t39, t40, h6, h9]
          exact ⟨i + 1, by omega, by omega, by rw [wrapN _ (by omega)], take_all h6 hall (ne0_F h9)⟩
      · simp (dsimp := false) (maxDischargeDepth := 16) only [go_sem, ↓reduceIte, reduceCtorEq, Nat.reduceEqDiff, Nat.reduceAdd, Nat.reduceMul, Nat.reduceSub, Nat.reduceLT, Nat.reduceLeDiff, Nat.reducePow, Int.reduceLT, Int.reduceLE, Int.reduceNeg, Int.reduceToNat, t6, b6, t38, t39, t40, h6]
        exact finI (firstI_all (f := fun c => ovr c g) (take_full h6 hall))
  · rw [if_neg hk]
    have n5 := not_k hk
    simp (dsimp := false) (maxDischargeDepth := 16) only [go_sem, ↓reduceIte, reduceCtorEq, Nat.reduceEqDiff, Nat.reduceAdd, Nat.reduceMul, Nat.reduceSub, Nat.reduceLT, Nat.reduceLeDiff, Nat.reducePow, Int.reduceLT, Int.reduceLE, Int.reduceNeg, Int.reduceToNat, q, n5]
    refine loopK_intro (fun (i : Nat) s => i ≤ kids.length ∧ s.t 6 = .box (6, 0, 0) 0 ∧ s.b (6, 0, 0) = some ⟨gcs a, false⟩ ∧ s.t 38 = .list 9 (kids.map ccs) .no ∧ s.t 39 = iv kids.length ∧ s.t 40 = iv i ∧ ∀ x ∈ kids.take i, ovr x a = 0) (fun i => kids.length - i) ⟨0, by omega, rfl, rfl, rfl, rfl, rfl, fun j hj => by simp at hj⟩ ?_
    rintro i s ⟨hi, t6, b6, t38, t39, t40, hall⟩
    simp (dsimp := false) (maxDischargeDepth := 16) only [go_sem, ↓reduceIte, reduceCtorEq, Nat.reduceEqDiff, Nat.reduceAdd, Nat.reduceMul, Nat.reduceSub, Nat.reduceLT, Nat.reduceLeDiff, Nat.reducePow, Int.reduceLT, Int.reduceLE, Int.reduceNeg, Int.reduceToNat, t6, b6, t38, t39, t40]
    refine condK_dec (fun h6 => ?_) (fun h6 => ?_)
    · simp (dsimp := false) (maxDischargeDepth := 16) only [go_sem, ↓reduceIte, reduceCtorEq, Nat.reduceEqDiff, Nat.reduceAdd, Nat.reduceMul, Nat.reduceSub, Nat.reduceLT, Nat.reduceLeDiff, Nat.reducePow, Int.reduceLT, Int.reduceLE, Int.reduceNeg, Int.reduceToNat, t6, b6, t38, t39, t40, h6, idx_nat]
      refine callK_intro (ih _ (List.getElem_mem h6) a) ?_
      simp (dsimp := false) (maxDischargeDepth := 16) only [go_sem, ↓reduceIte, reduceCtorEq, Nat.reduceEqDiff, Nat.reduceAdd, Nat.reduceMul, Nat.reduceSub, Nat.reduceLT, Nat.reduceLeDiff, Nat.reducePow, Int.reduceLT, Int.reduceLE, Int.reduceNeg, Int.reduceToNat, t6, b6, t38, t39, t40, h6]
      refine condK_intro (fun h9 => ?_) (fun h9 => ?_)
      · simp (dsimp := false) (maxDischargeDepth := 16) only [go_sem, ↓reduceIte, reduceCtorEq, Nat.reduceEqDiff, Nat.reduceAdd, Nat.reduceMul, Nat.reduceSub, Nat.reduceLT, Nat.reduceLeDiff, Nat.reducePow, Int.reduceLT, Int.reduceLE, Int.reduceNeg, Int.reduceToNat, t6, b6, t38, t39, t40, h6, h9]
        exact finI (firstI_at (f := fun c => ovr c a) h6 hall (ne0_T h9))
      · simp (dsimp := false) (maxDischargeDepth := 16) only [go_sem, ↓reduceIte, reduceCtorEq, Nat.reduceEqDiff, Nat.reduceAdd, Nat.reduceMul, Nat.reduceSub, Nat.reduceLT, Nat.reduceLeDiff, Nat.reducePow, Int.reduceLT, Int.reduceLE, Int.reduceNeg, Int.reduceToNat, t6, b6, t38, t39, t40, h6, h9]
        exact ⟨i + 1, by omega, by omega, by rw [wrapN _ (by omega)], take_all h6 hall (ne0_F h9)⟩
    · simp (dsimp := false) (maxDischargeDepth := 16) only [go_sem, ↓reduceIte, reduceCtorEq, Nat.reduceEqDiff, Nat.reduceAdd, Nat.reduceMul, Nat.reduceSub, Nat.reduceLT, Nat.reduceLeDiff, Nat.reducePow, Int.reduceLT, Int.reduceLE, Int.reduceNeg, Int.reduceToNat, t6, b6, t38, t39, t40, h6]
      exact finI (firstI_all (f := fun c => ovr c a) (take_full h6 hall))
theorem c54 (a : Gr) (c : Cd) : Con Try.prog 54 [gv a, cv c] 0 (iv (vld a c)) := by
  have K1 := c61 a
  have K2 := c108 c a
  have K3 := c104 c
  unfold vld
  generalize gErr a = x at *
  generalize ovr c a = y at *
  generalize lrg c = z at *
  refine conT (X := []) (rs := [.tmp 4]) Try.func54 (by kernel_rfl) rfl rfl (by kernel_rfl) ?_
  simp (dsimp := false) (maxDischargeDepth := 16) only [go_sem, ↓reduceIte, reduceCtorEq, Nat.reduceEqDiff, Nat.reduceAdd, Nat.reduceMul, Nat.reduceSub, Nat.reduceLT, Nat.reduceLeDiff, Nat.reducePow, Int.reduceLT, Int.reduceLE, Int.reduceNeg, Int.reduceToNat]
  refine callK_intro K1 ?_
  simp (dsimp := false) (maxDischargeDepth := 16) only [go_sem, ↓reduceIte, reduceCtorEq, Nat.reduceEqDiff, Nat.reduceAdd, Nat.reduceMul, Nat.reduceSub, Nat.reduceLT, Nat.reduceLeDiff, Nat.reducePow, Int.reduceLT, Int.reduceLE, Int.reduceNeg, Int.reduceToNat]
  refine condK_intro (fun q => ?_) (fun q => ?_)
  · simp (dsimp := false) (maxDischargeDepth := 16) only [go_sem, ↓reduceIte, reduceCtorEq, Nat.reduceEqDiff, Nat.reduceAdd, Nat.reduceMul, Nat.reduceSub, Nat.reduceLT, Nat.reduceLeDiff, Nat.reducePow, Int.reduceLT, Int.reduceLE, Int.reduceNeg, Int.reduceToNat, q]
    rw [if_pos (ne0_T q)]
    exact finI rfl
  rw [if_neg (by simp [ne0_F q])]
  simp (dsimp := false) (maxDischargeDepth := 16) only [go_sem, ↓reduceIte, reduceCtorEq, Nat.reduceEqDiff, Nat.reduceAdd, Nat.reduceMul, Nat.reduceSub, Nat.reduceLT, Nat.reduceLeDiff, Nat.reducePow, Int.reduceLT, Int.reduceLE, Int.reduceNeg, Int.reduceToNat, q]
  refine callK_intro K2 ?_
  simp (dsimp := false) (maxDischargeDepth := 16) only [go_sem, ↓reduceIte, reduceCtorEq, Nat.reduceEqDiff, Nat.reduceAdd, Nat.reduceMul, Nat.reduceSub, Nat.reduceLT, Nat.reduceLeDiff, Nat.reducePow, Int.reduceLT, Int.reduceLE, Int.reduceNeg, Int.reduceToNat]
  refine condK_intro (fun q2 => ?_) (fun q2 => ?_)
  · simp (dsimp := false) (maxDischargeDepth := 16) only [go_sem, ↓reduceIte, reduceCtorEq, Nat.reduceEqDiff, Nat.reduceAdd, Nat.reduceMul, Nat.reduceSub, Nat.reduceLT, Nat.reduceLeDiff, Nat.reducePow, Int.reduceLT, Int.reduceLE, Int.reduceNeg, Int.reduceToNat, q, q2]
    rw [if_pos (ne0_T q2)]
    exact finI rfl
  rw [if_neg (by simp [ne0_F q2])]
  simp (dsimp := false) (maxDischargeDepth := 16) only [go_sem, ↓reduceIte, reduceCtorEq, Nat.reduceEqDiff, Nat.reduceAdd, Nat.reduceMul, Nat.reduceSub, Nat.reduceLT, Nat.reduceLeDiff, Nat.reducePow, Int.reduceLT, Int.reduceLE, Int.reduceNeg, Int.reduceToNat, q, q2]
  refine callK_intro K3 ?_
  simp (dsimp := false) (maxDischargeDepth := 16) only [go_sem, ↓reduceIte, reduceCtorEq, Nat.reduceEqDiff, Nat.reduceAdd, Nat.reduceMul, Nat.reduceSub, Nat.reduceLT, Nat.reduceLeDiff, Nat.reducePow, Int.reduceLT, Int.reduceLE, Int.reduceNeg, Int.reduceToNat]
  exact finI rfl
/-- The error of a morphism that must be injective. -/
def injE (a b : Gr) (m : Mo) : Int := if mErr a b m ≠ 0 then mErr a b m else if injR a b m = true then 0 else 1
theorem c87 (a b : Gr) (m : Mo) : Con Try.prog 87 [gv a, gv b, mv m] 0 (iv (injE a b m)) := by
  have K1 := c70 a b m
  have K2 := c75 a b m
  unfold injE
  generalize mErr a b m = x at *
  generalize injR a b m = y at *
  refine conT (X := []) (rs := [.tmp 6]) Try.func87 (by kernel_rfl) rfl rfl (by kernel_rfl) ?_
  simp (dsimp := false) (maxDischargeDepth := 16) only [go_sem, ↓reduceIte, reduceCtorEq, Nat.reduceEqDiff, Nat.reduceAdd, Nat.reduceMul, Nat.reduceSub, Nat.reduceLT, Nat.reduceLeDiff, Nat.reducePow, Int.reduceLT, Int.reduceLE, Int.reduceNeg, Int.reduceToNat]
  refine callK_intro K1 ?_
  simp (dsimp := false) (maxDischargeDepth := 16) only [go_sem, ↓reduceIte, reduceCtorEq, Nat.reduceEqDiff, Nat.reduceAdd, Nat.reduceMul, Nat.reduceSub, Nat.reduceLT, Nat.reduceLeDiff, Nat.reducePow, Int.reduceLT, Int.reduceLE, Int.reduceNeg, Int.reduceToNat]
  refine condK_intro (fun q => ?_) (fun q => ?_)
  · simp (dsimp := false) (maxDischargeDepth := 16) only [go_sem, ↓reduceIte, reduceCtorEq, Nat.reduceEqDiff, Nat.reduceAdd, Nat.reduceMul, Nat.reduceSub, Nat.reduceLT, Nat.reduceLeDiff, Nat.reducePow, Int.reduceLT, Int.reduceLE, Int.reduceNeg, Int.reduceToNat, q]
    rw [if_pos (ne0_T q)]
    exact finI rfl
  rw [if_neg (by simp [ne0_F q])]
  simp (dsimp := false) (maxDischargeDepth := 16) only [go_sem, ↓reduceIte, reduceCtorEq, Nat.reduceEqDiff, Nat.reduceAdd, Nat.reduceMul, Nat.reduceSub, Nat.reduceLT, Nat.reduceLeDiff, Nat.reducePow, Int.reduceLT, Int.reduceLE, Int.reduceNeg, Int.reduceToNat, q]
  refine callK_intro K2 ?_
  cases y with
  | false =>
    simp (dsimp := false) (maxDischargeDepth := 16) only [go_sem, ↓reduceIte, reduceCtorEq, Nat.reduceEqDiff, Nat.reduceAdd, Nat.reduceMul, Nat.reduceSub, Nat.reduceLT, Nat.reduceLeDiff, Nat.reducePow, Int.reduceLT, Int.reduceLE, Int.reduceNeg, Int.reduceToNat, q]
    exact finI rfl
  | true =>
    simp (dsimp := false) (maxDischargeDepth := 16) only [go_sem, ↓reduceIte, reduceCtorEq, Nat.reduceEqDiff, Nat.reduceAdd, Nat.reduceMul, Nat.reduceSub, Nat.reduceLT, Nat.reduceLeDiff, Nat.reducePow, Int.reduceLT, Int.reduceLE, Int.reduceNeg, Int.reduceToNat, q]
    exact finI rfl
end Go.Sy

/- Walks through code that turns two lists of numbers which a box refers to: calls that only read such lists; calls that turn them. -/
namespace Go.Sy
open Go Go.RowKit

variable {N : Nat} {w0 : World} {C0 : CMap} {E : EX} {s : St} {a : Act} {w : World} {C : CMap} {ρ : RMap} {τ : TMap} {P : Program} {o : Oper} {e : Eff}

/-- What a call reads of a list that may still be written. -/
def thB (x : AV) (n sz : Nat) : Option Box → AV
  | some B => if n = B.c.length ∧ sz = 1 ∧ B.c.all clean = true then .list 1 (B.c.map fun y => [y]) .no else x
  | none => x
def thw (s : St) : AV → AV
  | .sl k n sz => thB (.sl k n sz) n sz (s.b k)
  | x => x

theorem endC_cw (h : RepG N w0 C0 E s a w C ρ τ) : CW (endC C ρ s w) w := by
  intro b o v hv
  rcases endC_cases hv with h1 | ⟨⟨k, B, hB, hρ⟩, hc⟩
  · exact h.cw _ _ _ h1
  · refine ⟨hc, ?_⟩
    obtain ⟨cs, ty, g1, g2, g3, g4⟩ := box_cells h hB hρ
    simp only [World.cell?, g1] at hc
    exact g3 o v hc

theorem thw_rv (h : RepG N w0 C0 E s a w C ρ τ) {v : Value} {x : AV} (hv : RV C ρ τ v x) (hc : cleanV (thw s x) = true) : RV (endC C ρ s w) noρ noτ v (thw s x) := by
  have base : cleanV x = true → RV (endC C ρ s w) noρ noτ v x := fun hx => (cleanV_rv hv hx).mono endC_ge (fun _ _ h => h) (fun _ _ h => h)
  cases x with
  | sl k n sz =>
    simp only [thw] at hc ⊢
    unfold thB at hc ⊢
    split at hc
    · rename_i B hB
      split at hc
      · rename_i hcnd
        rw [if_pos hcnd]
        obtain ⟨h1, rfl, h3⟩ := hcnd
        refine fin0_rv h hv (.inr ⟨k, n, 1, _, B, rfl, rfl, hB, ?_, by simp [h1], ?_, fun y hy => List.all_eq_true.1 h3 y hy⟩)
        · generalize B.c = l
          induction l with
          | nil => rfl
          | cons y l ih => simp only [List.map_cons, List.flatten_cons, List.singleton_append]; rw [← ih]
        · intro y hy
          obtain ⟨z, _, rfl⟩ := List.mem_map.1 hy
          rfl
      · cases hc
    · cases hc
  | _ => exact base hc

/-- A call that only reads, lists that may still be written among what it reads. -/
def stepT (P : Program) (s : St) (o : Oper) (K : St → Prop) : Prop := match o.op with
  | .call { callee := .value g, args, argTypes } => match s.o P 0 g with
    | .clo f caps => args.size ≤ argTypes.size ∧ ((argsAV P s args.toList argTypes.toList).map (thw s)).all cleanV = true ∧ ∃ d v, o.dst = some d ∧ Con P f ((argsAV P s args.toList argTypes.toList).map (thw s) ++ caps) 0 (.v v) ∧ K (s.set d (.v v))
    | _ => False
  | _ => False

theorem stepT_sound {Q : Exit → Act → World → Prop} {K : St → Prop} {KA : Act → World → Prop} (h : Rep N w0 C0 E s a w) (hN : ∀ d, o.dst = some d → d < N) (he : stepT P s o K)
    (hK : ∀ s' a' w', K s' → Rep N w0 C0 E s' a' w' → KA a' w') : o.wp P a w KA Q := by
  obtain ⟨C, ρ, τ, h⟩ := h
  unfold stepT at he
  split at he
  case h_2 => exact he.elim
  rename_i g args ts ho
  split at he
  case h_2 => exact he.elim
  rename_i f caps hg
  obtain ⟨hts, hcl, d, v, hd, hcon, hk⟩ := he
  have hgv := opnd (P := P) h 0 g
  rw [hg] at hgv
  have hfn : ∃ cs, a.eval g = .func (.func f) #[] cs ∧ cs.size = caps.length ∧ (∀ (i : Nat) (v : Value) (x : AV), cs[i]? = some v → caps[i]? = some x → RV C noρ noτ v x) := by
    generalize a.eval g = v at hgv
    cases hgv
    exact ⟨_, rfl, by assumption, by assumption⟩
  obtain ⟨cs, hfv, hcs1, hcs2⟩ := hfn
  have hrun : (execOp a.eval o).run P w = .ok (.enter f (args.map a.eval ++ cs)) w := by
    simp [execOp, ho, resolve, hfv, Deferred.ofValue, invoke, hcon.enters _ _]
  unfold Oper.wp
  rw [hrun]
  simp only [Oper.upon]
  have hlen : (argsAV P s args.toList ts.toList).length = args.size := by
    simp only [argsAV, List.length_zipWith, Array.length_toList]; omega
  refine (hcon.calls (endC C ρ s w) w (args.map a.eval ++ cs) (endC_cw h) (by simp [hlen, hcs1]) ?_).mono ?_
  · intro i v x hv hx
    by_cases hi : i < args.size
    · rw [Array.getElem?_append_left (by simpa using hi)] at hv
      rw [List.getElem?_append_left (by simp; omega)] at hx
      simp only [Array.getElem?_map] at hv
      obtain ⟨y, hy, rfl⟩ := Option.map_eq_some_iff.1 hv
      have hmem := List.mem_of_getElem? hx
      have hcx := List.all_eq_true.1 hcl x hmem
      simp only [List.getElem?_map] at hx
      obtain ⟨z, hz, rfl⟩ := Option.map_eq_some_iff.1 hx
      simp only [argsAV, List.getElem?_zipWith] at hz
      split at hz
      · rename_i y' t' hy' ht'
        cases hz
        simp only [Array.getElem?_toList] at hy'
        rw [hy] at hy'
        cases hy'
        exact thw_rv h (fgtV_rv (opnd h t' y)) hcx
      · cases hz
    · rw [Array.getElem?_append_right (by simp; omega)] at hv
      rw [List.getElem?_append_right (by simp; omega)] at hx
      simp only [Array.size_map, List.length_map, hlen] at hv hx
      exact (hcs2 _ _ _ hv hx).mono endC_ge (fun _ _ h => h) (fun _ _ h => h)
  · rintro e' w' ⟨u, C', τ', rfl, hb, _, _, _, hr, _⟩
    obtain ⟨rfl, h1⟩ := rv_v hr
    have h2 := h.same hb
    refine hK _ _ _ hk ⟨C, ρ, τ, ?_⟩
    rw [hd]
    exact h2.set d (hN d hd) (.v _ h1)

/-! ### Calls that turn two lists -/
def ints (l : List Int) : Array Value := (l.map fun n => Value.int .i64 n).toArray
theorem ints_size (l : List Int) : (ints l).size = l.length := by simp [ints]
theorem ints_at {l : List Int} {i : Nat} {v : Value} (h : (ints l)[i]? = some v) : ∃ n, l[i]? = some n ∧ v = .int .i64 n := by
  simp only [ints, List.getElem?_toArray, List.getElem?_map] at h
  obtain ⟨n, h1, rfl⟩ := Option.map_eq_some_iff.1 h
  exact ⟨n, h1, rfl⟩
theorem ints_rv {l : List Int} {i : Nat} {v : Value} {x : AV} (h : (ints l)[i]? = some v) (hx : (bi l)[i]? = some x) : RV C ρ τ v x := by
  obtain ⟨n, h1, rfl⟩ := ints_at h
  simp only [bi, List.getElem?_map, h1, Option.map_some, Option.some.injEq] at hx
  subst hx
  exact .v _ rfl
theorem rv_ints {l : List Int} {cs : Array Value} (hl : cs.size = l.length) (h : ∀ (i : Nat) (v : Value) (x : AV), cs[i]? = some v → (bi l)[i]? = some x → RV C ρ τ v x) : cs = ints l := by
  refine Array.ext (by rw [hl, ints_size]) fun i h1 h2 => ?_
  have hi : i < l.length := by omega
  have := h i cs[i] (.v (.int .i64 l[i])) (by simp [h1]) (by simp [bi, hi])
  rw [(rv_v this).1]
  simp [ints]

/-- A box, and the two lists that it refers to. -/
structure XB (C : CMap) (w : World) (x y z : Nat) (p : List AV) (q : AV) (l m : List Int) : Prop where
  ex : ∃ (cs : Array Value) (ty : TypeId) (c d : Nat), w.heap[x]? = some (.cells cs ty (0, 0)) ∧ cs.size = p.length + 3 ∧ (∀ (i : Nat) (v : Value), cs[i]? = some v → v.oneCell' = true) ∧
    (∀ (i : Nat) (v : Value) (a : AV), cs[i]? = some v → p[i]? = some a → RV C noρ noτ v a) ∧ cs[p.length]? = some (.slice (some ⟨y, 0, none⟩) l.length c) ∧ l.length ≤ c ∧ c ≤ maxLen ∧
    cs[p.length + 1]? = some (.slice (some ⟨z, 0, none⟩) m.length d) ∧ m.length ≤ d ∧ d ≤ maxLen ∧ (∀ v, cs[p.length + 2]? = some v → RV C noρ noτ v q)
  b1 : ∃ ty, w.heap[y]? = some (.cells (ints l) ty (0, 0))
  b2 : ∃ ty, w.heap[z]? = some (.cells (ints m) ty (0, 0))
  f : ∀ o, C x o = none ∧ C y o = none ∧ C z o = none
  ne : x ≠ y ∧ x ≠ z ∧ y ≠ z

structure XCon (P : Program) (f : FuncId) (args : List AV) (p : List AV) (q : AV) (l m : List Int) (r : Bool) : Prop where
  enters : Enters P f
  calls : ∀ (C : CMap) (w : World) (x y z : Nat) (vs : Array Value), CW C w → XB C w x y z p q l m → vs.size = args.length →
    (∀ (i : Nat) (v : Value) (x : AV), vs[i]? = some v → args[i]? = some x → RV C noρ noτ v x) →
    Calls P f (#[.pointer (some ⟨x, 0, none⟩)] ++ vs) w fun e w' => ∃ (C' : CMap) (l' m' : List Int), e = .returned (.bool r) ∧ Fr w (fun i => i = x ∨ i = y ∨ i = z) w' ∧ (∀ b o v, C b o = some v → C' b o = some v) ∧
      (∀ b o v, C' b o = some v → C b o = some v ∨ w.heap.size ≤ b) ∧ CW C' w' ∧ XB C' w' x y z p q l' m' ∧ l'.length = l.length ∧ m'.length = m.length ∧ (r = false → l' = l ∧ m' = m)

/-- Three blocks more that never turn. -/
noncomputable def plus3 (C : CMap) (w : World) (x y z : Nat) : CMap := fun b o => open Classical in if b = x ∨ b = y ∨ b = z then w.cell? ⟨b, o, none⟩ else C b o
theorem plus3_in {x y z b o : Nat} (h : b = x ∨ b = y ∨ b = z) : plus3 C w x y z b o = w.cell? ⟨b, o, none⟩ := if_pos h
theorem plus3_out {x y z b o : Nat} (h : ¬ (b = x ∨ b = y ∨ b = z)) : plus3 C w x y z b o = C b o := if_neg h
set_option maxHeartbeats 1000000 in
/-- A call that turns nothing is such a call. -/
theorem xcon_con {f : FuncId} {args p : List AV} {q : AV} {l m : List Int} {r : Bool} (h : Con P f (.ptr (p ++ [lvT l .no, lvT m .no, q]) :: args) 0 (bv r)) : XCon P f args p q l m r := by
  refine ⟨h.enters, fun C w x y z vs hC hX hl hv => ?_⟩
  obtain ⟨cs, ty, c, d, g1, g2, g3, g4, g5, g6, g7, g8, g9, g10, g11⟩ := hX.ex
  obtain ⟨ty1, y1⟩ := hX.b1
  obtain ⟨ty2, z1⟩ := hX.b2
  obtain ⟨C1, eC1⟩ : ∃ C1, C1 = plus3 C w x y z := ⟨_, rfl⟩
  have hC1 : ∀ b o v, C b o = some v → C1 b o = some v := by
    intro b o v hb
    have : ¬ (b = x ∨ b = y ∨ b = z) := by
      rintro (rfl | rfl | rfl)
      · rw [(hX.f o).1] at hb; cases hb
      · rw [(hX.f o).2.1] at hb; cases hb
      · rw [(hX.f o).2.2] at hb; cases hb
    rw [eC1, plus3_out this]
    exact hb
  have cx : ∀ o, C1 x o = cs[o]? := fun o => by
    rw [eC1, plus3_in (.inl rfl)]
    simp only [World.cell?, g1]
    rfl
  have cy : ∀ o, C1 y o = (ints l)[o]? := fun o => by
    rw [eC1, plus3_in (.inr (.inl rfl))]
    simp only [World.cell?, y1]
    rfl
  have cz : ∀ o, C1 z o = (ints m)[o]? := fun o => by
    rw [eC1, plus3_in (.inr (.inr rfl))]
    simp only [World.cell?, z1]
    rfl
  have hcw : CW C1 w := by
    intro b o v hb
    by_cases hh : b = x ∨ b = y ∨ b = z
    · have hb' := hb
      rw [eC1, plus3_in hh] at hb'
      refine ⟨hb', ?_⟩
      rcases hh with rfl | rfl | rfl
      · rw [cx] at hb; exact g3 o v hb
      · rw [cy] at hb; obtain ⟨n, _, rfl⟩ := ints_at hb; rfl
      · rw [cz] at hb; obtain ⟨n, _, rfl⟩ := ints_at hb; rfl
    · have hb' := hb
      rw [eC1, plus3_out hh] at hb'
      exact hC b o v hb'
  have lst : ∀ (b c : Nat) (l : List Int), l.length ≤ c → c ≤ maxLen → (∀ o, C1 b o = (ints l)[o]?) → RV C1 noρ noτ (.slice (some ⟨b, 0, none⟩) l.length c) (lvT l .no) := by
    intro b c l h1 h2 h3
    refine .list 1 _ .no _ _ c (fun i _ => (ints l).getD i undef) (by simp) h1 h2 (fun i x hx => ?_) (fun i x j u hx hu => ?_) trivial
    · rw [List.getElem?_map] at hx
      obtain ⟨n, hn, rfl⟩ := Option.map_eq_some_iff.1 hx
      have hi := (List.getElem?_eq_some_iff.1 hn).1
      refine ⟨rfl, b, 0, rfl, fun j hj => ?_⟩
      have e : 0 + i * 1 + j = i := by omega
      rw [e, h3]
      have : i < (ints l).size := by rw [ints_size]; exact hi
      simp [this]
    · rw [List.getElem?_map] at hx
      obtain ⟨n, hn, rfl⟩ := Option.map_eq_some_iff.1 hx
      have hi := (List.getElem?_eq_some_iff.1 hn).1
      cases j with
      | zero =>
        cases hu
        have e : (ints l).getD i undef = .int .i64 n := by
          have : i < (ints l).size := by rw [ints_size]; exact hi
          rw [Array.getD_eq_getD_getElem?]
          simp [ints, hn]
        rw [e]
        exact .v _ rfl
      | succ j => simp at hu
  have hpv : RV C1 noρ noτ (.pointer (some ⟨x, 0, none⟩)) (.ptr (p ++ [lvT l .no, lvT m .no, q])) := by
    refine .ptr x 0 _ (fun j => cs.getD j undef) (fun j hj => ?_) (fun j u hu => ?_)
    · rw [Nat.zero_add, cx]
      have : j < cs.size := by simp at hj; omega
      simp [this]
    · have hj := (List.getElem?_eq_some_iff.1 hu).1
      simp at hj
      have hlt : j < cs.size := by omega
      have hjv : cs[j]? = some (cs.getD j undef) := by simp [hlt]
      rcases Nat.lt_or_ge j p.length with h1 | h1
      · rw [List.getElem?_append_left h1] at hu
        exact (g4 j _ u hjv hu).mono hC1 (fun _ _ h => h) (fun _ _ h => h)
      · rw [List.getElem?_append_right h1] at hu
        have hcase : j = p.length ∨ j = p.length + 1 ∨ j = p.length + 2 := by omega
        rcases hcase with rfl | rfl | rfl
        · simp at hu; subst hu
          rw [g5] at hjv; rw [← Option.some.inj hjv]
          exact lst y c l g6 g7 cy
        · rw [show p.length + 1 - p.length = 1 by omega] at hu
          simp at hu; subst hu
          rw [g8] at hjv; rw [← Option.some.inj hjv]
          exact lst z d m g9 g10 cz
        · rw [show p.length + 2 - p.length = 2 by omega] at hu
          simp at hu; subst hu
          exact (g11 _ hjv).mono hC1 (fun _ _ h => h) (fun _ _ h => h)
  have hs1 : (#[Value.pointer (some ⟨x, 0, none⟩)] ++ vs).size = (AV.ptr (p ++ [lvT l .no, lvT m .no, q]) :: args).length := by
    rw [Array.size_append, hl, List.length_cons, Nat.add_comm]
    rfl
  have hs2 : ∀ (i : Nat) (v : Value) (u : AV), (#[Value.pointer (some ⟨x, 0, none⟩)] ++ vs)[i]? = some v → (AV.ptr (p ++ [lvT l .no, lvT m .no, q]) :: args)[i]? = some u → RV C1 noρ noτ v u := by
    intro i v u hv' hu
    cases i with
    | zero =>
      rw [Array.getElem?_append_left (Nat.zero_lt_one)] at hv'
      cases hv'
      cases hu
      exact hpv
    | succ i =>
      rw [Array.getElem?_append_right (by exact Nat.le_add_left 1 i)] at hv'
      have e : i + 1 - #[Value.pointer (some ⟨x, 0, none⟩)].size = i := rfl
      rw [e] at hv'
      exact (hv i v u hv' hu).mono hC1 (fun _ _ h => h) (fun _ _ h => h)
  refine (h.calls C1 w _ hcw hs1 hs2).mono ?_
  · rintro e w' ⟨v, C', τ', rfl, hb, _, _, _, hr, _⟩
    obtain ⟨rfl, _⟩ := rv_v hr
    have blkx : ∀ {i : Nat} {x : Obj}, w.heap[i]? = some x → w'.heap[i]? = some x := fun hx => (hb.block _ (heap_lt hx)).trans hx
    refine ⟨C, l, m, rfl, ⟨hb.os, hb.tape, hb.output, hb.size, fun i hi _ => hb.block i hi⟩, fun _ _ _ h => h, fun _ _ _ h => .inl h, ?_, ⟨⟨cs, ty, c, d, blkx g1, g2, g3, g4, g5, g6, g7, g8, g9, g10, g11⟩, ⟨ty1, blkx y1⟩, ⟨ty2, blkx z1⟩, hX.f, hX.ne⟩, rfl, rfl, fun _ => ⟨rfl, rfl⟩⟩
    intro b o v hv
    obtain ⟨h1, h2⟩ := hC b o v hv
    exact ⟨(World.cell?_of_block (w := w) (a := ⟨b, o, none⟩) (hb.block b (cell_lt h1))).trans h1, h2⟩

theorem RepG.unbox (h : RepG N w0 C0 E s a w C ρ τ) (k : Key) : RepG N w0 C0 E { s with b := upd s.b k none } a w C ρ τ := by
  have ob : ∀ k' B', (upd s.b k none : Key → Option Box) k' = some B' → s.b k' = some B' := by
    intro k' B' hh
    rw [upd_at] at hh
    split at hh
    · cases hh
    · exact hh
  exact { h with
    bx := fun k' B hB => h.bx k' B (ob _ _ hB)
    bj := fun k1 k2 B1 B2 b h1 h2 => h.bj k1 k2 B1 B2 b (ob _ _ h1) (ob _ _ h2)
    tk := by
      intro k' v n hk hd
      obtain ⟨A, n', c, rfl, g⟩ := h.tk k' v n hk hd
      refine ⟨A, n', c, rfl, ?_⟩
      rcases g with g | ⟨b', cs, ty, hA, g1, g2, g3, g4, g5, g6, g7⟩
      · exact .inl g
      · exact .inr ⟨b', cs, ty, hA, g1, g2, g3, g4, g5, g6, fun k2 B2 hB2 => g7 k2 B2 (ob _ _ hB2)⟩ }

/-- Blocks that neither a box nor a token holds may turn. -/
theorem RepG.turnS (h : RepG N w0 C0 E s a w C ρ τ) (G : Nat → Prop) (hG1 : ∀ i, G i → w0.heap.size ≤ i ∨ E i) (hG2 : ∀ k B i, s.b k = some B → ρ k = some i → ¬ G i)
    (hG3 : ∀ k v m i, τ k = some (v, m) → s.d k = false → blk v = some i → ¬ G i) {w1 : World} {C1 : CMap} (hC : ∀ b o v, C b o = some v → C1 b o = some v)
    (hF : Fr w G w1) (hn : ∀ b' o v, C1 b' o = some v → C b' o = some v ∨ w.heap.size ≤ b') (hcw : CW C1 w1) : RepG N w0 C0 E s a w1 C1 ρ τ := by
  have mono : ∀ {v : Value} {x : AV}, RV C ρ τ v x → RV C1 ρ τ v x := fun hv => hv.mono hC (fun _ _ h => h) (fun _ _ h => h)
  have old : ∀ {i : Nat} {x : Obj}, ¬ G i → w.heap[i]? = some x → w1.heap[i]? = some x := fun h1 hx => (hF.block _ (heap_lt hx) h1).trans hx
  have cold : ∀ {i o : Nat}, i < w.heap.size → C i o = none → C1 i o = none := by
    intro i o h1 h3
    cases hc : C1 i o with
    | none => rfl
    | some v =>
      rcases hn _ _ _ hc with hh | hh
      · rw [h3] at hh; cases hh
      · omega
  refine
    { df := h.df, sz := h.sz, tm := fun t => mono (h.tm t), cw := hcw, c0 := fun _ _ _ hh => hC _ _ _ (h.c0 _ _ _ hh), c1 := ?_, bx := ?_, bj := h.bj, tk := ?_, tj := h.tj, fρ := h.fρ, fτ := h.fτ, fo := h.fo, fr := ?_ }
  · intro b' o v hb' hv
    rcases hn _ _ _ hv with hh | hh
    · exact h.c1 _ _ _ hb' hh
    · have := h.fr.size; omega
  · intro k' B' hB'
    obtain ⟨b', hρ', ⟨⟨cs, ty, g1, g2, g3, g4, g5⟩, g6⟩, g7⟩ := h.bx k' B' hB'
    exact ⟨b', hρ', ⟨⟨cs, ty, old (hG2 _ _ _ hB' hρ') g1, g2, g3, fun i v x hc hx => mono (g4 i v x hc hx), fun hz i v hc => hC _ _ _ (g5 hz i v hc)⟩, fun hz o => cold (heap_lt g1) (g6 hz o)⟩, g7⟩
  · intro k' v m hk' hd
    obtain ⟨A, n, c, rfl, g⟩ := h.tk k' v m hk' hd
    refine ⟨A, n, c, rfl, ?_⟩
    rcases g with g | ⟨b', cs, ty, hA, g1, g2, g3, g4, g5, g6, g7⟩
    · exact .inl g
    · by_cases hc0 : c = 0
      · exact .inl hc0
      subst hA
      exact .inr ⟨b', cs, ty, rfl, old (hG3 _ _ _ b' hk' hd (by simp [blk, hc0])) g1, g2, g3, g4, fun o ho => cold (heap_lt g1) (g5 o ho), g6, g7⟩
  · refine ⟨hF.os.trans h.fr.os, hF.tape.trans h.fr.tape, hF.output.trans h.fr.output, Nat.le_trans h.fr.size hF.size, fun i hi hEi => ?_⟩
    rw [hF.block i (Nat.lt_of_lt_of_le hi h.fr.size), h.fr.block i hi hEi]
    intro hh
    rcases hG1 i hh with g | g
    · omega
    · exact hEi g

def xcell (p : List AV) (k1 k2 : Key) (n1 n2 : Nat) (q : AV) : List AV := p ++ [.sl k1 n1 1, .sl k2 n2 1, q]
/-- What such a call leaves. -/
def St.xcall (s : St) (d : Option Nat) (r : Bool) (k k1 k2 : Key) (c : List AV) (l m : List Int) : St :=
  { s with t := match d with | none => s.t | some d => upd s.t d (.v (.bool r)), b := upd (upd (upd s.b k (some ⟨c, false⟩)) k1 (some ⟨bi l, false⟩)) k2 (some ⟨bi m, false⟩) }
def stepM (P : Program) (s : St) (o : Oper) (K : St → Prop) : Prop := match o.op with
  | .call { callee := .value g, args, argTypes } => ∃ f x0 xs t0 ts k k1 k2 p q l m r, s.o P 0 g = .clo f [] ∧ args.toList = x0 :: xs ∧ argTypes.toList = t0 :: ts ∧ xs.length ≤ ts.length ∧ s.o P t0 x0 = .box k 0 ∧
      s.b k = some ⟨xcell p k1 k2 l.length m.length q, false⟩ ∧ (p.all clean = true ∧ clean q = true) ∧ s.b k1 = some ⟨bi l, false⟩ ∧ s.b k2 = some ⟨bi m, false⟩ ∧ (k ≠ k1 ∧ k ≠ k2 ∧ k1 ≠ k2) ∧ (argsAV P s xs ts).all cleanV = true ∧ XCon P f (argsAV P s xs ts) p q l m r ∧
      ∀ l' m' : List Int, l'.length = l.length → m'.length = m.length → (r = false → l' = l ∧ m' = m) → K (s.xcall o.dst r k k1 k2 (xcell p k1 k2 l.length m.length q) l' m')
  | _ => False

set_option maxHeartbeats 1000000 in
theorem stepM_sound {Q : Exit → Act → World → Prop} {K : St → Prop} {KA : Act → World → Prop} (h : Rep N w0 C0 E s a w) (hN : ∀ d, o.dst = some d → d < N) (he : stepM P s o K)
    (hK : ∀ s' a' w', K s' → Rep N w0 C0 E s' a' w' → KA a' w') : o.wp P a w KA Q := by
  obtain ⟨C, ρ, τ, h⟩ := h
  unfold stepM at he
  split at he
  case h_2 => exact he.elim
  rename_i g args tys ho
  obtain ⟨f, x0, xs, t0, ts, k, k1, k2, p, q, l, m, r, hg, hargs, htys, hlen, hbx, hB, ⟨hp, hq⟩, hB1, hB2, ⟨n1, n2, n3⟩, hcl, hcon, hk⟩ := he
  have hgv := opnd (P := P) h 0 g
  rw [hg] at hgv
  have hfn : a.eval g = .func (.func f) #[] #[] := by
    generalize a.eval g = v at hgv
    cases hgv with
    | clo _ cs _ hl _ =>
      have : cs = #[] := by simpa using hl
      rw [this]
  have hrun : (execOp a.eval o).run P w = .ok (.enter f (args.map a.eval)) w := by
    simp [execOp, ho, resolve, hfn, Deferred.ofValue, invoke, hcon.enters _ _]
  unfold Oper.wp
  rw [hrun]
  simp only [Oper.upon]
  have hbv := opnd (P := P) h t0 x0
  rw [hbx] at hbv
  obtain ⟨x, hv0, hρ⟩ := rv_box hbv
  have hmap : args.map a.eval = #[.pointer (some ⟨x, 0, none⟩)] ++ (xs.map a.eval).toArray := by
    apply Array.ext'
    simp [hargs, hv0]
  obtain ⟨x', hρ', ⟨⟨cs, ty, g1, g2, g3, g4, _⟩, g6⟩, g7⟩ := h.bx k _ hB
  rw [hρ] at hρ'; cases hρ'
  obtain ⟨y, hρ1, ⟨⟨cs1, ty1, y1, y2, y3, y4, _⟩, y6⟩, y7⟩ := h.bx k1 _ hB1
  obtain ⟨z, hρ2, ⟨⟨cs2, ty2, z1, z2, z3, z4, _⟩, z6⟩, z7⟩ := h.bx k2 _ hB2
  have e1 : cs1 = ints l := rv_ints (by simpa [bi] using y2) y4
  have e2 : cs2 = ints m := rv_ints (by simpa [bi] using z2) z4
  subst e1 e2
  have hsz : cs.size = p.length + 3 := by simpa [xcell] using g2
  have sl1 : ∃ c, cs[p.length]? = some (.slice (some ⟨y, 0, none⟩) l.length c) ∧ l.length ≤ c ∧ c ≤ maxLen := by
    have hlt : p.length < cs.size := by omega
    have := g4 p.length cs[p.length] (.sl k1 l.length 1) (by simp [hlt]) (by simp [xcell])
    obtain ⟨b, c, e, hb, h1, h2⟩ := rv_sl this
    rw [hρ1] at hb; cases hb
    exact ⟨c, by simp [hlt, e], h1, h2⟩
  have sl2 : ∃ c, cs[p.length + 1]? = some (.slice (some ⟨z, 0, none⟩) m.length c) ∧ m.length ≤ c ∧ c ≤ maxLen := by
    have hlt : p.length + 1 < cs.size := by omega
    have := g4 (p.length + 1) cs[p.length + 1] (.sl k2 m.length 1) (by simp [hlt]) (by simp [xcell])
    obtain ⟨b, c, e, hb, h1, h2⟩ := rv_sl this
    rw [hρ2] at hb; cases hb
    exact ⟨c, by simp [hlt, e], h1, h2⟩
  obtain ⟨c, s1, s2, s3⟩ := sl1
  obtain ⟨d, t1, t2, t3⟩ := sl2
  have ne1 : x ≠ y := fun e => n1 (h.bj _ _ _ _ x hB hB1 hρ (e ▸ hρ1))
  have ne2 : x ≠ z := fun e => n2 (h.bj _ _ _ _ x hB hB2 hρ (e ▸ hρ2))
  have ne3 : y ≠ z := fun e => n3 (h.bj _ _ _ _ y hB1 hB2 hρ1 (e ▸ hρ2))
  have hX : XB C w x y z p q l m := by
    refine ⟨⟨cs, ty, c, d, g1, hsz, g3, fun i v u hv hu => ?_, s1, s2, s3, t1, t2, t3, fun v hv => ?_⟩, ⟨ty1, y1⟩, ⟨ty2, z1⟩, fun o => ⟨g6 rfl o, y6 rfl o, z6 rfl o⟩, ne1, ne2, ne3⟩
    · have hi := (List.getElem?_eq_some_iff.1 hu).1
      exact clean_rv (g4 i v u hv (by rw [xcell, List.getElem?_append_left hi]; exact hu)) (List.all_eq_true.1 hp u (List.mem_of_getElem? hu))
    · exact clean_rv (g4 (p.length + 2) v q hv (by simp [xcell])) hq
  rw [hmap]
  refine (hcon.calls C w x y z _ h.cw hX ?_ ?_).mono ?_
  · simp only [argsAV, List.length_zipWith, List.size_toArray, List.length_map]; omega
  · intro i v u hv hu
    have hmem := List.mem_of_getElem? hu
    have hcx := List.all_eq_true.1 hcl u hmem
    simp only [argsAV, List.getElem?_zipWith] at hu
    split at hu
    · rename_i y' t' hy' ht'
      cases hu
      simp only [List.getElem?_toArray, List.getElem?_map, hy', Option.map_some, Option.some.injEq] at hv
      subst hv
      exact cleanV_rv (fgtV_rv (opnd h t' y')) hcx
    · cases hu
  · rintro e' w' ⟨C', l', m', rfl, hF, hC1, hC2, hcw, hX', hl, hm, hrr⟩
    refine hK _ _ _ (hk l' m' hl hm hrr) ?_
    have h1 := ((h.unbox k).unbox k1).unbox k2
    have ob : ∀ k' B', (upd (upd (upd s.b k none) k1 none) k2 none : Key → Option Box) k' = some B' → (k' ≠ k ∧ k' ≠ k1 ∧ k' ≠ k2) ∧ s.b k' = some B' := by
      intro k' B' hh
      simp only [upd_at] at hh
      split at hh
      · cases hh
      · split at hh
        · cases hh
        · split at hh
          · cases hh
          · exact ⟨⟨by assumption, by assumption, by assumption⟩, hh⟩
    have tkn : ∀ k' v n i, τ k' = some (v, n) → s.d k' = false → blk v = some i → i ≠ x ∧ i ≠ y ∧ i ≠ z := by
      intro k' v n i e1 e2 e3
      obtain ⟨A, n', c, rfl, gg⟩ := h.tk k' v n e1 e2
      obtain ⟨hc, ad, rfl, hb2⟩ := blk_cap e3
      rcases gg with gg | ⟨b', cs, ty, hA, _, _, _, _, _, _, gg7⟩
      · exact absurd gg hc
      · cases hA
        subst hb2
        refine ⟨fun hh => gg7 k _ hB ?_, fun hh => gg7 k1 _ hB1 ?_, fun hh => gg7 k2 _ hB2 ?_⟩
        · rw [hρ]; exact congrArg some hh.symm
        · rw [hρ1]; exact congrArg some hh.symm
        · rw [hρ2]; exact congrArg some hh.symm
    have h2 := h1.turnS (fun i => i = x ∨ i = y ∨ i = z) (by
        rintro i (rfl | rfl | rfl)
        · exact g7
        · exact y7
        · exact z7) (by
        intro k' B i hB' hρ' hh
        obtain ⟨⟨e1, e2, e3⟩, hB'⟩ := ob _ _ hB'
        rcases hh with rfl | rfl | rfl
        · exact e1 (h.bj _ _ _ _ _ hB' hB hρ' hρ)
        · exact e2 (h.bj _ _ _ _ _ hB' hB1 hρ' hρ1)
        · exact e3 (h.bj _ _ _ _ _ hB' hB2 hρ' hρ2)) (by
        intro k' v n i e1 e2 e3 hh
        have := tkn k' v n i e1 e2 e3
        rcases hh with rfl | rfl | rfl
        · exact this.1 rfl
        · exact this.2.1 rfl
        · exact this.2.2 rfl) hC1 hF hC2 hcw
    obtain ⟨cs', ty', c', d', q1, q2, q3, q4, q5, q6, q7, q8, q9, q10, q11⟩ := hX'.ex
    obtain ⟨ty1', u1⟩ := hX'.b1
    obtain ⟨ty2', v1⟩ := hX'.b2
    have h3 := h2.putbox (k := k) (b := x) (l := xcell p k1 k2 l.length m.length q) hρ g7 q1 (by simpa [xcell] using q2) q3 (by
        intro i v u hv hu
        rcases Nat.lt_or_ge i p.length with h1 | h1
        · rw [xcell, List.getElem?_append_left h1] at hu
          exact (q4 i v u hv hu).lift _ _
        · rw [xcell, List.getElem?_append_right h1] at hu
          have hi := (List.getElem?_eq_some_iff.1 hu).1
          simp at hi
          have hcase : i = p.length ∨ i = p.length + 1 ∨ i = p.length + 2 := by omega
          rcases hcase with rfl | rfl | rfl
          · simp at hu; subst hu
            rw [q5] at hv; cases hv
            rw [hl] at q6 ⊢
            exact .sl _ y _ c' 1 hρ1 q6 q7
          · rw [show p.length + 1 - p.length = 1 by omega] at hu
            simp at hu; subst hu
            rw [q8] at hv; cases hv
            rw [hm] at q9 ⊢
            exact .sl _ z _ d' 1 hρ2 q9 q10
          · rw [show p.length + 2 - p.length = 2 by omega] at hu
            simp at hu; subst hu
            exact (q11 v hv).lift _ _) (fun o => (hX'.f o).1) (by
        intro k' B hne e1 e2
        exact hne (h.bj _ _ _ _ _ (ob _ _ e1).2 hB e2 hρ)) (fun k' v n e1 e2 e3 => (tkn k' v n x e1 e2 e3).1 rfl)
    have h4 := h3.putbox (k := k1) (b := y) (l := bi l') hρ1 y7 u1 (by rw [ints_size, bi_len]) (by
        intro i v hv
        obtain ⟨n, _, rfl⟩ := ints_at hv
        rfl) (fun i v u hv hu => ints_rv hv hu) (fun o => (hX'.f o).2.1) (by
        intro k' B hne e1 e2
        by_cases hkk : k' = k
        · subst hkk; rw [hρ] at e2; exact ne1 (Option.some.inj e2)
        · have e1 := (upd_ne _ _ hkk).symm.trans e1
          exact hne (h.bj _ _ _ _ _ (ob _ _ e1).2 hB1 e2 hρ1)) (fun k' v n e1 e2 e3 => (tkn k' v n y e1 e2 e3).2.1 rfl)
    have h5 := h4.putbox (k := k2) (b := z) (l := bi m') hρ2 z7 v1 (by rw [ints_size, bi_len]) (by
        intro i v hv
        obtain ⟨n, _, rfl⟩ := ints_at hv
        rfl) (fun i v u hv hu => ints_rv hv hu) (fun o => (hX'.f o).2.2) (by
        intro k' B hne e1 e2
        by_cases hkk1 : k' = k1
        · subst hkk1; rw [hρ1] at e2; exact ne3 (Option.some.inj e2)
        · have e1 := (upd_ne _ _ hkk1).symm.trans e1
          by_cases hkk : k' = k
          · subst hkk; rw [hρ] at e2; exact ne2 (Option.some.inj e2)
          · have e1 := (upd_ne _ _ hkk).symm.trans e1
            exact hne (h.bj _ _ _ _ _ (ob _ _ e1).2 hB2 e2 hρ2)) (fun k' v n e1 e2 e3 => (tkn k' v n z e1 e2 e3).2.2 rfl)
    have eb : upd (upd (upd (upd (upd (upd s.b k none) k1 none) k2 none) k (some ⟨xcell p k1 k2 l.length m.length q, false⟩)) k1 (some ⟨bi l', false⟩)) k2 (some ⟨bi m', false⟩) =
        upd (upd (upd s.b k (some ⟨xcell p k1 k2 l.length m.length q, false⟩)) k1 (some ⟨bi l', false⟩)) k2 (some ⟨bi m', false⟩) := by
      funext k'
      simp only [upd_at]
      split
      · rfl
      · split
        · rfl
        · split
          · rfl
          · rfl
    cases hd : o.dst with
    | none =>
      refine ⟨C', ρ, τ, ?_⟩
      simp only [eb] at h5
      exact h5
    | some d =>
      refine ⟨C', ρ, τ, ?_⟩
      simp only [eb] at h5
      exact h5.set d (hN d hd) (.v _ rfl)

/-! ### Code -/
def kdO : List (Nat × Nat) → Nat → Nat
  | [], _ => 0
  | (j, k) :: r, i => if i = j then k else kdO r i
def stepX (P : Program) (s : St) (o : Oper) (n : Nat) (K : St → Prop) : Prop := if n = 0 then stepG P s o K else if n = 1 then stepT P s o K else stepM P s o K
theorem stepX_sound {Q : Exit → Act → World → Prop} {K : St → Prop} {KA : Act → World → Prop} {n : Nat} (h : Rep N w0 C0 E s a w) (hN : ∀ d, o.dst = some d → d < N) (he : stepX P s o n K)
    (hK : ∀ s' a' w', K s' → Rep N w0 C0 E s' a' w' → KA a' w') : o.wp P a w KA Q := by
  unfold stepX at he
  split at he
  · obtain ⟨p, h1, h2⟩ := stepG_elim he
    exact stp_sound h hN h1 fun a' w' hr => hK _ _ _ h2 hr
  · split at he
    · exact stepT_sound h hN he hK
    · exact stepM_sound h hN he hK
def xops (P : Program) (ops : Array Oper) (H : List (Nat × Nat)) : Nat → List Oper → St → (St → Prop) → Prop
  | _, [], s, K => K s
  | i, o :: r, s, K => match wantA ops s o with
    | none => False
    | some c => (c = true → stepX P s o (kdO H i) fun s' => xops P ops H (i + 1) r s' K) ∧ (c = false → xops P ops H (i + 1) r (s.skip o.dst) K)
theorem xops_sound {ops : Array Oper} {H : List (Nat × Nat)} {Q : Exit → Act → World → Prop} {K : St → Prop} (hQ : ∀ s' a' w', K s' → Rep N w0 C0 E s' a' w' → Q .normal a' w') :
    ∀ (l : List Oper) (i : Nat) (s : St) (a : Act) (w : World), (∀ o ∈ l, ∀ d, o.dst = some d → d < N) → xops P ops H i l s K → Rep N w0 C0 E s a w → wpList P ops Q l a w
  | [], i, s, a, w, _, h, hr => hQ s a w h hr
  | o :: r, i, s, a, w, hN, h, hr => by
    unfold xops at h
    split at h
    · exact h.elim
    · rename_i c hc
      obtain ⟨C, ρ, τ, hr'⟩ := id hr
      have hw := wantA_sound hr' hc
      have hNo := hN o (List.mem_cons_self ..)
      unfold wpList
      cases c with
      | true =>
        rw [if_pos hw]
        exact .inl (stepX_sound hr hNo (h.1 rfl) fun s' a' w' hk hr' => xops_sound hQ r _ s' a' w' (fun o ho => hN o (List.mem_cons_of_mem _ ho)) hk hr')
      | false =>
        rw [if_neg (by simp [hw])]
        exact xops_sound hQ r _ _ _ w (fun o ho => hN o (List.mem_cons_of_mem _ ho)) (h.2 rfl) (skip_sound hr hNo)
abbrev XHints := List (Nat × List (Nat × Nat))
def hkO : XHints → Nat → Option (List (Nat × Nat))
  | [], _ => none
  | (j, h) :: r, i => if i = j then some h else hkO r i
def xcode (P : Program) (X : Hints) (H : XHints) : Code → (Exit → St → Prop) → St → Prop
  | .region id ops d, Q, s => match hkO H id with
    | none => acode P X (.region id ops d) Q s
    | some h => d = false ∧ xops P ops h 0 ops.toList s (Q .normal)
  | .seq x y, Q, s => xcode P X H x (fun e s' => match e with | .normal => xcode P X H y Q s' | e => Q e s') s
  | .cond c x y, Q, s => match s.o P 0 c with
    | .v (.bool b) => (b = true → xcode P X H x Q s) ∧ (b = false → xcode P X H y Q s)
    | _ => False
  | .block id c, Q, s => xcode P X H c (fun e s' => match e with | .exit id' => if id' = id then Q .normal s' else Q (.exit id') s' | e => Q e s') s
  | .loop c, Q, s => ∃ I : Nat → St → Prop, (∃ n, I n s) ∧ ∀ n s, I n s → xcode P X H c (fun e s' => match e with | .normal => ∃ m, m < n ∧ I m s' | e => Q e s') s
  | .scope c, Q, s => xcode P X H c (fun e s' => match e with | .goto _ => False | e => Q e s') s
  | .exit id, Q, s => Q (.exit id) s
  | .ret, Q, s => Q .ret s
  | .skip, Q, s => Q .normal s
  | _, _, _ => False
theorem xcode_sound {D : List Ap → Array Oper → Bool} {X : Hints} {H : XHints} (hD : DOK P D) : ∀ (c : Code) (QA : Exit → St → Prop) (Q : Exit → Act → World → Prop) (s : St) (a : Act) (w : World), (dstOK N c && draws D X c) = true →
    (∀ e s' a' w', QA e s' → Rep N w0 C0 E s' a' w' → Q e a' w') → xcode P X H c QA s → Rep N w0 C0 E s a w → c.wp P Q a w := by
  intro c
  induction c with
  | skip => intro QA Q s a w _ hQ h hr; exact wp_skip (hQ _ _ _ _ h hr)
  | region id ops draw =>
    intro QA Q s a w hN hQ h hr
    simp only [xcode] at h
    split at h
    · exact acode_sound hD _ _ _ _ _ _ hN hQ h hr
    · obtain ⟨rfl, h⟩ := h
      simp only [dstOK, draws, Bool.and_eq_true] at hN
      have hN' : ∀ o ∈ ops.toList, ∀ d, o.dst = some d → d < N := by
        intro o ho d hd
        have hN := hN.1
        simp only [Array.all_eq_true] at hN
        obtain ⟨i, hi, rfl⟩ := List.mem_iff_getElem.1 ho
        have := hN i (by simpa using hi)
        simp only [Array.getElem_toList] at hd
        rw [hd] at this
        simpa using this
      exact wp_region_list (xops_sound (fun s' a' w' hk hr => hQ _ _ _ _ hk hr) _ _ _ a w hN' h hr)
  | seq x y ihx ihy =>
    intro QA Q s a w hN hQ h hr
    simp only [dstOK, draws, Bool.and_eq_true] at hN
    simp only [xcode] at h
    refine wp_seq (ihx _ _ s a w (by simp [hN]) ?_ h hr)
    intro e s' a' w' hq hr'
    cases e with
    | normal => exact ihy _ _ _ _ _ (by simp [hN]) hQ hq hr'
    | _ => exact hQ _ _ _ _ hq hr'
  | cond c x y ihx ihy =>
    intro QA Q s a w hN hQ h hr
    simp only [dstOK, draws, Bool.and_eq_true] at hN
    simp only [xcode] at h
    obtain ⟨C, ρ, τ, hr'⟩ := id hr
    have hc := opnd (P := P) hr' 0 c
    split at h
    · rename_i b hb
      rw [hb] at hc
      have hv := (rv_v hc).1
      cases b with
      | true => exact wp_cond_true hv (ihx _ _ _ _ _ (by simp [hN]) hQ (h.1 rfl) hr)
      | false => exact wp_cond_false hv (ihy _ _ _ _ _ (by simp [hN]) hQ (h.2 rfl) hr)
    · exact h.elim
  | block id c ih =>
    intro QA Q s a w hN hQ h hr
    simp only [xcode] at h
    refine wp_block (ih _ _ s a w hN ?_ h hr)
    intro e s' a' w' hq hr'
    cases e with
    | exit id' =>
      simp only [Exit.inBlock]
      simp only at hq
      split
      · rename_i hid; rw [if_pos hid] at hq; exact hQ _ _ _ _ hq hr'
      · rename_i hid; rw [if_neg hid] at hq; exact hQ _ _ _ _ hq hr'
    | _ => exact hQ _ _ _ _ hq hr'
  | loop c ih =>
    intro QA Q s a w hN hQ h hr
    simp only [xcode] at h
    obtain ⟨I, ⟨n0, h0⟩, hround⟩ := h
    let R : Nat → Act → World → Prop := fun n a w => ∃ s, I n s ∧ Rep N w0 C0 E s a w
    let μ : Act → World → Nat := fun a w => Classical.epsilon fun n => R n a w ∧ ∀ m, R m a w → n ≤ m
    have least : ∀ a w n, R n a w → R (μ a w) a w ∧ ∀ m, R m a w → μ a w ≤ m := by
      intro a w n hn
      have hex : ∃ n, R n a w ∧ ∀ m, R m a w → n ≤ m := by
        induction n using Nat.strongRecOn with
        | _ n ih2 =>
          by_cases hq : ∃ m, m < n ∧ R m a w
          · obtain ⟨m, hm, hR⟩ := hq
            exact ih2 m hm hR
          · refine ⟨n, hn, fun m hm => ?_⟩
            rcases Nat.lt_or_ge m n with hlt | hge
            · exact absurd ⟨m, hlt, hm⟩ hq
            · exact hge
      exact Classical.epsilon_spec hex
    refine wp_loop (fun a w => ∃ n, R n a w) μ ⟨n0, s, h0, hr⟩ ?_
    rintro a w ⟨n, hn⟩
    obtain ⟨⟨s', hI, hr'⟩, _⟩ := least a w n hn
    refine ih _ _ s' a w hN ?_ (hround _ _ hI) hr'
    intro e s2 a2 w2 hq hr2
    cases e with
    | normal =>
      obtain ⟨m, hm, hI2⟩ := hq
      have hRm : R m a2 w2 := ⟨s2, hI2, hr2⟩
      have := (least a2 w2 m hRm).2 m hRm
      exact ⟨⟨m, hRm⟩, by omega⟩
    | _ => exact hQ _ _ _ _ hq hr2
  | scope c ih =>
    intro QA Q s a w hN hQ h hr
    simp only [xcode] at h
    refine wp_scope_straight (ih _ _ s a w hN ?_ h hr)
    intro e s' a' w' hq hr'
    cases e with
    | goto l => exact hq
    | _ => exact hQ _ _ _ _ hq hr'
  | exit id => intro QA Q s a w _ hQ h hr; exact wp_exit (hQ _ _ _ _ h hr)
  | ret => intro QA Q s a w _ hQ h hr; exact wp_ret (hQ _ _ _ _ h hr)
  | rangeFunc f ps x y _ _ => intro QA Q s a w hN; simp [dstOK] at hN
  | label l => intro QA Q s a w hN; simp [dstOK] at hN
  | goto l => intro QA Q s a w hN; simp [dstOK] at hN
  | refuse y => intro QA Q s a w hN; simp [dstOK] at hN
end Go.Sy

/- The rules of reckoning for code that turns two lists; contracts out of it. -/
namespace Go.Sy
open Go Go.RowKit

variable {P : Program} {X : Hints} {H : XHints} {h : List (Nat × Nat)} {ops : Array Oper} {r : List Oper} {s : St} {K : St → Prop} {Q : Exit → St → Prop}

def hkK (x : Option (List (Nat × Nat))) (A : Prop) (B : List (Nat × Nat) → Prop) (_ : Tag (A, B)) : Prop := match x with | none => A | some h => B h
theorem hkK_none (A : Prop) (B : List (Nat × Nat) → Prop) : hkK none A B (.mk _) = A := rfl
theorem hkK_some (h : List (Nat × Nat)) (A : Prop) (B : List (Nat × Nat) → Prop) : hkK (some h) A B (.mk _) = B h := rfl
theorem hkO_nil (i : Nat) : hkO [] i = none := rfl
theorem hkO_cons (j i : Nat) (h : List (Nat × Nat)) : hkO ((j, h) :: H) i = if i = j then some h else hkO H i := rfl
theorem kdO_nil (i : Nat) : kdO [] i = 0 := rfl
theorem kdO_cons (j k i : Nat) : kdO ((j, k) :: h) i = if i = j then k else kdO h i := rfl
theorem xcode_region (id : Nat) (l : List Oper) (dr : Bool) : xcode P X H (.region id l.toArray dr) Q s = hkK (hkO H id) (acode P X (.region id l.toArray dr) Q s) (fun h => dr = false ∧ xops P l.toArray h 0 l s (Q .normal)) (.mk _) := by
  have e : xcode P X H (.region id l.toArray dr) Q s = (match hkO H id with
    | none => acode P X (.region id l.toArray dr) Q s
    | some h => dr = false ∧ xops P l.toArray h 0 l s (Q .normal)) := rfl
  rw [e]
  unfold hkK
  cases hkO H id <;> rfl
theorem xcode_skip : xcode P X H .skip Q s = Q .normal s := rfl
theorem xcode_seq (x y : Code) : xcode P X H (.seq x y) Q s = xcode P X H x (fun e s' => match e with | .normal => xcode P X H y Q s' | e => Q e s') s := rfl
theorem xcode_block (id : Nat) (c : Code) : xcode P X H (.block id c) Q s = xcode P X H c (fun e s' => match e with | .exit id' => if id' = id then Q .normal s' else Q (.exit id') s' | e => Q e s') s := rfl
theorem xcode_scope (c : Code) : xcode P X H (.scope c) Q s = xcode P X H c (fun e s' => match e with | .goto _ => False | e => Q e s') s := rfl
theorem xcode_exit (id : Nat) : xcode P X H (.exit id) Q s = Q (.exit id) s := rfl
theorem xcode_ret : xcode P X H .ret Q s = Q .ret s := rfl
def xloopK (P : Program) (X : Hints) (H : XHints) (c : Code) (Q : Exit → St → Prop) (s : St) (_ : Tag (X, c, Q)) : Prop := xcode P X H (.loop c) Q s
theorem xcode_loop (c : Code) : xcode P X H (.loop c) Q s = xloopK P X H c Q s (.mk _) := rfl
theorem xcode_cond (c : Operand) (x y : Code) : xcode P X H (.cond c x y) Q s = testK (s.o P 0 c) (xcode P X H x Q s) (xcode P X H y Q s) (.mk _) := rfl
theorem xops_nil (i : Nat) : xops P ops h i [] s K = K s := rfl
def kdK (n : Nat) (A B C : Prop) (_ : Tag (A, B, C)) : Prop := if n = 0 then A else if n = 1 then B else C
theorem kdK_0 (A B C : Prop) : kdK 0 A B C (.mk _) = A := rfl
theorem kdK_1 (A B C : Prop) : kdK 1 A B C (.mk _) = B := rfl
theorem kdK_2 (A B C : Prop) : kdK 2 A B C (.mk _) = C := rfl
theorem stepX_kdK (o : Oper) (n : Nat) : stepX P s o n K = kdK n (gK (boxArg P s o) (stepF P s o fun e => K (s.app o.dst e)) (fun k => estepF P s o k K) (.mk _)) (stepT P s o K) (stepM P s o K) (.mk _) := by
  unfold stepX kdK
  rw [stepG_gK]
theorem xops_cons (i : Nat) (dst : Option Nat) (op : Op) (ty : TypeId) (p : String) (af : Array Edge) :
    xops P ops h i (⟨dst, op, ty, p, af, none⟩ :: r) s K = kdK (kdO h i)
      (gK (boxArg P s ⟨dst, op, ty, p, af, none⟩) (stepF P s ⟨dst, op, ty, p, af, none⟩ (fun e => xops P ops h (i + 1) r (s.app dst e) K)) (fun k => estepF P s ⟨dst, op, ty, p, af, none⟩ k (fun s' => xops P ops h (i + 1) r s' K)) (.mk _))
      (stepT P s ⟨dst, op, ty, p, af, none⟩ (fun s' => xops P ops h (i + 1) r s' K)) (stepM P s ⟨dst, op, ty, p, af, none⟩ (fun s' => xops P ops h (i + 1) r s' K)) (.mk _) := by
  rw [← stepX_kdK (K := fun s' => xops P ops h (i + 1) r s' K)]
  simp [xops, wantA]
theorem xops_guard (i : Nat) (dst : Option Nat) (op : Op) (ty : TypeId) (p : String) (af : Array Edge) (j : Nat) (want : Bool) :
    xops P ops h i (⟨dst, op, ty, p, af, some (j, want)⟩ :: r) s K = guardK s (gdst ops j) want (kdK (kdO h i)
      (gK (boxArg P s ⟨dst, op, ty, p, af, none⟩) (stepF P s ⟨dst, op, ty, p, af, none⟩ (fun e => xops P ops h (i + 1) r (s.app dst e) K)) (fun k => estepF P s ⟨dst, op, ty, p, af, none⟩ k (fun s' => xops P ops h (i + 1) r s' K)) (.mk _))
      (stepT P s ⟨dst, op, ty, p, af, none⟩ (fun s' => xops P ops h (i + 1) r s' K)) (stepM P s ⟨dst, op, ty, p, af, none⟩ (fun s' => xops P ops h (i + 1) r s' K)) (.mk _)) (xops P ops h (i + 1) r (s.skip dst) K) (.mk _) := by
  have e : xops P ops h i (⟨dst, op, ty, p, af, some (j, want)⟩ :: r) s K = (match wantA ops s ⟨dst, op, ty, p, af, some (j, want)⟩ with
    | none => False
    | some c => (c = true → stepX P s ⟨dst, op, ty, p, af, none⟩ (kdO h i) fun s' => xops P ops h (i + 1) r s' K) ∧ (c = false → xops P ops h (i + 1) r (s.skip dst) K)) := rfl
  rw [e]
  rw [stepX_kdK (K := fun s' => xops P ops h (i + 1) r s' K)]
  unfold wantA gdst guardK testG
  simp only
  cases (ops[j]?).bind (·.dst) with
  | none => rfl
  | some d =>
    simp only
    cases s.t d with
    | v v => cases v <;> rfl
    | tup l => cases l <;> simp
    | _ => rfl
def thawK (P : Program) (f : FuncId) (xs : List AV) (K : Value → Prop) (_ : Tag K) : Prop := ∃ v, Con P f xs 0 (.v v) ∧ K v
theorem thawK_intro {f : FuncId} {xs : List AV} {v : Value} {K : Value → Prop} {t : Tag K} (h : Con P f xs 0 (.v v)) (hK : K v) : thawK P f xs K t := ⟨v, h, hK⟩
theorem stepT_call (f : FuncId) (args : List Operand) (ts : List TypeId) (d : Nat) (ty : TypeId) (p : String) (af : Array Edge) (gd : Option (Nat × Bool)) :
    stepT P s ⟨some d, .call { callee := .value (.func f), args := args.toArray, argTypes := ts.toArray }, ty, p, af, gd⟩ K =
      ((args.length ≤ ts.length ∧ ((argsAV P s args ts).map (thw s)).all cleanV = true) ∧ thawK P f ((argsAV P s args ts).map (thw s)) (fun v => K (s.set d (.v v))) (.mk _)) := by
  unfold stepT thawK
  simp [St.o, and_assoc]
theorem thw_v (v : Value) : thw s (.v v) = .v v := rfl
theorem thw_list (sz : Nat) (xs : List (List AV)) (tk : Tok) : thw s (.list sz xs tk) = .list sz xs tk := rfl
theorem thw_agg (l : List AV) : thw s (.agg l) = .agg l := rfl
theorem thw_clo (f : FuncId) (l : List AV) : thw s (.clo f l) = .clo f l := rfl
theorem thw_sl (k : Key) (n sz : Nat) : thw s (.sl k n sz) = thB (.sl k n sz) n sz (s.b k) := rfl
theorem thB_some (x : AV) (n sz : Nat) (l : List AV) (z : Bool) : thB x n sz (some ⟨l, z⟩) = if n = l.length ∧ sz = 1 ∧ l.all clean = true then .list 1 (l.map fun y => [y]) .no else x := rfl
theorem bi_clean (l : List Int) : (bi l).all clean = true := by simp [bi, clean]
theorem bi_list (l : List Int) : (bi l).map (fun y => [y]) = l.map fun n => [AV.v (.int .i64 n)] := by simp [bi]
theorem fgtV_sl (k : Key) (n sz : Nat) : fgtV (.sl k n sz) = .sl k n sz := rfl
theorem xcall_t (d u : Nat) (b : Bool) (k k1 k2 : Key) (c : List AV) (l m : List Int) : (s.xcall (some d) b k k1 k2 c l m).t u = if u = d then .v (.bool b) else s.t u := rfl
theorem xcall_t0 (b : Bool) (k k1 k2 : Key) (c : List AV) (l m : List Int) : (s.xcall none b k k1 k2 c l m).t = s.t := rfl
theorem xcall_b (d : Option Nat) (b : Bool) (k k1 k2 k' : Key) (c : List AV) (l m : List Int) : (s.xcall d b k k1 k2 c l m).b k' = if k' = k2 then some ⟨bi m, false⟩ else if k' = k1 then some ⟨bi l, false⟩ else if k' = k then some ⟨c, false⟩ else s.b k' := rfl
theorem xcall_d (d : Option Nat) (b : Bool) (k k1 k2 : Key) (c : List AV) (l m : List Int) : (s.xcall d b k k1 k2 c l m).d = s.d := rfl
theorem xcall_g (d : Option Nat) (b : Bool) (k k1 k2 : Key) (c : List AV) (l m : List Int) : (s.xcall d b k k1 k2 c l m).g = s.g := rfl
theorem stepM_intro {dst : Option Nat} {f : FuncId} {x0 : Operand} {xs : List Operand} {t0 : TypeId} {ts : List TypeId} {ty : TypeId} {ps : String} {af : Array Edge} {gd : Option (Nat × Bool)} (k k1 k2 : Key) {p : List AV} {q : AV} {l m : List Int} {b : Bool} {args : List AV}
    (hx : XCon P f args p q l m b) (ha : argsAV P s xs ts = args) (hl : xs.length ≤ ts.length) (hc : args.all cleanV = true) (h1 : s.o P t0 x0 = .box k 0) (h2 : s.b k = some ⟨xcell p k1 k2 l.length m.length q, false⟩) (h3 : s.b k1 = some ⟨bi l, false⟩)
    (h4 : s.b k2 = some ⟨bi m, false⟩) (hp : p.all clean = true) (hq : clean q = true) (hne : k ≠ k1 ∧ k ≠ k2 ∧ k1 ≠ k2)
    (hK : ∀ l' m' : List Int, l'.length = l.length → m'.length = m.length → (b = false → l' = l ∧ m' = m) → K (s.xcall dst b k k1 k2 (xcell p k1 k2 l.length m.length q) l' m')) :
    stepM P s ⟨dst, .call { callee := .value (.func f), args := (x0 :: xs).toArray, argTypes := (t0 :: ts).toArray }, ty, ps, af, gd⟩ K := by
  subst ha
  exact ⟨f, x0, xs, t0, ts, k, k1, k2, p, q, l, m, b, rfl, rfl, rfl, hl, h1, h2, ⟨hp, hq⟩, h3, h4, hne, hc, hx, hK⟩
theorem xcode_congr {c : Code} {s s' : St} {Q : Exit → St → Prop} (e : s = s') : xcode P X H c Q s = xcode P X H c Q s' := by rw [e]
theorem xops_congr {i : Nat} {l : List Oper} {s s' : St} {K : St → Prop} (e : s = s') : xops P ops h i l s K = xops P ops h i l s' K := by rw [e]
theorem stepM_congr {o : Oper} {s s' : St} {K : St → Prop} (e : s = s') : stepM P s o K = stepM P s' o K := by rw [e]
theorem stepT_congr {o : Oper} {s s' : St} {K : St → Prop} (e : s = s') : stepT P s o K = stepT P s' o K := by rw [e]
attribute [congr] xcode_congr xops_congr stepM_congr stepT_congr
theorem xloopK_intro {α : Type} {c : Code} {t : Tag (X, c, Q)} (I : α → St → Prop) (μ : α → Nat) (h0 : ∃ x, I x s) (hr : ∀ x s', I x s' → xcode P X H c (fun e s2 => match e with | .normal => ∃ y, μ y < μ x ∧ I y s2 | e => Q e s2) s') :
    xloopK P X H c Q s t := by
  obtain ⟨x0, h0⟩ := h0
  refine ⟨fun n s' => ∃ x, μ x = n ∧ I x s', ⟨μ x0, x0, rfl, h0⟩, ?_⟩
  rintro n s' ⟨x, rfl, hx⟩
  have := hr x s' hx
  have e : (fun (e : Exit) (s2 : St) => (match e with | .normal => ∃ y, μ y < μ x ∧ I y s2 | e => Q e s2)) = (fun (e : Exit) (s2 : St) => (match e with | .normal => ∃ m, m < μ x ∧ ∃ y, μ y = m ∧ I y s2 | e => Q e s2)) := by
    funext e s2
    cases e with
    | normal => exact propext ⟨fun ⟨y, h1, h2⟩ => ⟨_, h1, y, rfl, h2⟩, fun ⟨m, h1, y, h2, h3⟩ => ⟨y, h2 ▸ h1, h3⟩⟩
    | _ => rfl
  rw [e] at this
  exact this
attribute [go_sem] hkK_none hkK_some hkO_nil hkO_cons kdO_nil kdO_cons kdK_0 kdK_1 kdK_2 thw_v thw_list thw_agg thw_clo thw_sl thB_some bi_clean bi_list fgtV_sl xcall_t xcall_t0 xcall_b xcall_d xcall_g
attribute [go_sem ↓] xcode_region xcode_skip xcode_seq xcode_block xcode_scope xcode_exit xcode_ret xcode_loop xcode_cond xops_nil xops_cons xops_guard stepT_call

/-! ### A slice of the call's own that may still be written -/
variable {N : Nat} {w0 : World} {C0 : CMap} {E : EX} {a : Act} {w : World} {C : CMap} {ρ : RMap} {τ : TMap}
def retB (P : Program) (rs : List ResultVar) (n : Nat) (l : List AV) : Exit → St → Prop
  | .ret, s | .normal, s => oK (resAV P s rs) (fun xs => ∃ k m, one xs = .sl k n m ∧ s.b k = some ⟨l, false⟩ ∧ l.all clean = true) (.mk _)
  | _, _ => False
theorem retB_ret {rs : List ResultVar} {n : Nat} {l : List AV} : retB P rs n l .ret s = oK (resAV P s rs) (fun xs => ∃ k m, one xs = .sl k n m ∧ s.b k = some ⟨l, false⟩ ∧ l.all clean = true) (.mk _) := rfl
theorem retB_normal {rs : List ResultVar} {n : Nat} {l : List AV} : retB P rs n l .normal s = oK (resAV P s rs) (fun xs => ∃ k m, one xs = .sl k n m ∧ s.b k = some ⟨l, false⟩ ∧ l.all clean = true) (.mk _) := rfl
attribute [go_sem] retB_ret retB_normal
theorem bcon_of {D : List Ap → Array Oper → Bool} (hD : DOK P D) {X : Hints} {f : FuncId} {fn : Func} {c : Code} {rs : List ResultVar} {args : List AV} {n : Nat} {l : List AV} (hf : P.funcs[f]? = some fn) (hname : (fn.name == "runtime.NumGoroutine") = false) (hb : fn.body = some c)
    (hrs : fn.results.toList = rs) (hN : (dstOK fn.ntmps c && draws D X c && decide (args.length ≤ fn.ntmps)) = true) (h : acode P X c (retB P rs n l) (s0 args)) : BCon P f args n l := by
  refine ⟨enters_of hf hname hb, ?_⟩
  intro C w vs hC hl hv
  rw [Bool.and_eq_true] at hN
  refine calls_of_wp hf hb (acode_sound (N := fn.ntmps) (w0 := w) (C0 := C) (E := EX.none) hD c _ _ _ _ _ hN.1 ?_ h ⟨C, noρ, noτ, s0_rep hC hl hv (of_decide_eq_true hN.2)⟩)
  intro e s' a' w' hq hr
  obtain ⟨C', ρ', τ', hr⟩ := hr
  have main : oK (resAV P s' rs) (fun xs => ∃ k m, one xs = .sl k n m ∧ s'.b k = some ⟨l, false⟩ ∧ l.all clean = true) (.mk _) → a'.defers = [] ∧ ∃ v, (results fn a'.tmps).run P w' = .ok v w' ∧
      ∃ (b c : Nat) (C' : CMap) (cs : Array Value) (ty : TypeId), Ending.returned v = .returned (.slice (some ⟨b, 0, none⟩) n c) ∧ n ≤ c ∧ c ≤ maxLen ∧ Below w.heap.size w w' ∧ (∀ b o v, C b o = some v → C' b o = some v) ∧
      (∀ b o v, C' b o = some v → C b o = some v ∨ w.heap.size ≤ b) ∧ CW C' w' ∧ w.heap.size ≤ b ∧ w'.heap[b]? = some (.cells cs ty (0, 0)) ∧ cs.size = l.length ∧ (∀ (i : Nat) (v : Value), cs[i]? = some v → v.oneCell' = true) ∧
      (∀ (i : Nat) (v : Value) (x : AV), cs[i]? = some v → l[i]? = some x → RV C' noρ noτ v x) ∧ ∀ o, C' b o = none := by
    intro hq
    unfold oK at hq
    split at hq
    case h_2 => exact hq.elim
    rename_i xs hxs
    obtain ⟨k, m, hone, hB, hcl⟩ := hq
    obtain ⟨v, hrun, hv⟩ := results_run (P := P) (fn := fn) hr (by rw [hrs]; exact hxs)
    rw [hone] at hv
    obtain ⟨b, c, rfl, hρ, h1, h2⟩ := rv_sl hv
    obtain ⟨b', hρ', ⟨⟨cs, ty, g1, g2, g3, g4, _⟩, g6⟩, g7⟩ := hr.bx _ _ hB
    rw [hρ] at hρ'; cases hρ'
    refine ⟨hr.df, _, hrun, b, c, C', cs, ty, rfl, h1, h2, ⟨hr.fr.os, hr.fr.tape, hr.fr.output, hr.fr.size, fun k hk => hr.fr.block k hk id⟩, fun b o v h => hr.c0 _ _ _ h, ?_, hr.cw, g7.resolve_right id, g1, g2, g3, fun i v x hv hx => clean_rv (g4 i v x hv hx) (List.all_eq_true.1 hcl x (List.mem_of_getElem? hx)), g6 rfl⟩
    intro b o v h
    rcases Nat.lt_or_ge b w.heap.size with hlt | hge
    · exact (hr.c1 _ _ _ hlt h).imp_right fun h => h.elim
    · exact .inr hge
  cases e with
  | ret => exact main hq
  | normal => exact main hq
  | _ => exact hq.elim

/-! ### Functions that turn two lists -/
def s3 (args p : List AV) (q : AV) (l m : List Int) : St :=
  { t := fun u => if u = 0 then .box (0, 0, 0) 0 else args.getD (u - 1) .any
    b := fun k => if k = (0, 0, 0) then some ⟨xcell p (0, 0, 1) (0, 0, 2) l.length m.length q, false⟩ else if k = (0, 0, 1) then some ⟨bi l, false⟩ else if k = (0, 0, 2) then some ⟨bi m, false⟩ else none
    d := fun _ => false
    g := fun u => if u = 0 then 1 else 0 }
theorem s3_t (args p : List AV) (q : AV) (l m : List Int) (u : Nat) : (s3 args p q l m).t u = if u = 0 then .box (0, 0, 0) 0 else args.getD (u - 1) .any := rfl
theorem s3_b (args p : List AV) (q : AV) (l m : List Int) (k : Key) : (s3 args p q l m).b k = if k = (0, 0, 0) then some ⟨xcell p (0, 0, 1) (0, 0, 2) l.length m.length q, false⟩ else if k = (0, 0, 1) then some ⟨bi l, false⟩ else if k = (0, 0, 2) then some ⟨bi m, false⟩ else none := rfl
theorem s3_d (args p : List AV) (q : AV) (l m : List Int) (k : Key) : (s3 args p q l m).d k = false := rfl
theorem s3_g (args p : List AV) (q : AV) (l m : List Int) (u : Nat) : (s3 args p q l m).g u = if u = 0 then 1 else 0 := rfl
attribute [go_sem] s3_t s3_b s3_d s3_g
def retX (P : Program) (rs : List ResultVar) (p : List AV) (q : AV) (l m : List Int) (b : Bool) : Exit → St → Prop
  | .ret, s | .normal, s => oK (resAV P s rs) (fun xs => one xs = .v (.bool b) ∧ ∃ l' m' : List Int, s.b (0, 0, 0) = some ⟨xcell p (0, 0, 1) (0, 0, 2) l.length m.length q, false⟩ ∧ s.b (0, 0, 1) = some ⟨bi l', false⟩ ∧ s.b (0, 0, 2) = some ⟨bi m', false⟩ ∧
      l'.length = l.length ∧ m'.length = m.length ∧ (b = false → l' = l ∧ m' = m)) (.mk _)
  | _, _ => False
theorem retX_ret {rs : List ResultVar} {p : List AV} {q : AV} {l m : List Int} {b : Bool} : retX P rs p q l m b .ret s = oK (resAV P s rs) (fun xs => one xs = .v (.bool b) ∧ ∃ l' m' : List Int, s.b (0, 0, 0) = some ⟨xcell p (0, 0, 1) (0, 0, 2) l.length m.length q, false⟩ ∧ s.b (0, 0, 1) = some ⟨bi l', false⟩ ∧ s.b (0, 0, 2) = some ⟨bi m', false⟩ ∧
      l'.length = l.length ∧ m'.length = m.length ∧ (b = false → l' = l ∧ m' = m)) (.mk _) := rfl
theorem retX_normal {rs : List ResultVar} {p : List AV} {q : AV} {l m : List Int} {b : Bool} : retX P rs p q l m b .normal s = oK (resAV P s rs) (fun xs => one xs = .v (.bool b) ∧ ∃ l' m' : List Int, s.b (0, 0, 0) = some ⟨xcell p (0, 0, 1) (0, 0, 2) l.length m.length q, false⟩ ∧ s.b (0, 0, 1) = some ⟨bi l', false⟩ ∧ s.b (0, 0, 2) = some ⟨bi m', false⟩ ∧
      l'.length = l.length ∧ m'.length = m.length ∧ (b = false → l' = l ∧ m' = m)) (.mk _) := rfl
attribute [go_sem] retX_ret retX_normal
def ρ3 (x y z : Nat) : RMap := fun k => if k = (0, 0, 0) then some x else if k = (0, 0, 1) then some y else if k = (0, 0, 2) then some z else none
theorem ρ3_some {x y z b : Nat} {k : Key} (h : ρ3 x y z k = some b) : (k = (0, 0, 0) ∧ b = x) ∨ (k = (0, 0, 1) ∧ b = y) ∨ (k = (0, 0, 2) ∧ b = z) := by
  unfold ρ3 at h
  split at h
  · cases h; exact .inl ⟨by assumption, rfl⟩
  · split at h
    · cases h; exact .inr (.inl ⟨by assumption, rfl⟩)
    · split at h
      · cases h; exact .inr (.inr ⟨by assumption, rfl⟩)
      · cases h
theorem s3_box {args p : List AV} {q : AV} {l m : List Int} {k : Key} {B : Box} (h : (s3 args p q l m).b k = some B) :
    (k = (0, 0, 0) ∧ B = ⟨xcell p (0, 0, 1) (0, 0, 2) l.length m.length q, false⟩) ∨ (k = (0, 0, 1) ∧ B = ⟨bi l, false⟩) ∨ (k = (0, 0, 2) ∧ B = ⟨bi m, false⟩) := by
  rw [s3_b] at h
  split at h
  · cases h; exact .inl ⟨by assumption, rfl⟩
  · split at h
    · cases h; exact .inr (.inl ⟨by assumption, rfl⟩)
    · split at h
      · cases h; exact .inr (.inr ⟨by assumption, rfl⟩)
      · cases h
theorem s3_rep {args p : List AV} {q : AV} {l m : List Int} {x y z : Nat} {vs : Array Value} {w : World} (hC : CW C w) (hX : XB C w x y z p q l m) (hl : vs.size = args.length)
    (hv : ∀ (i : Nat) (v : Value) (x : AV), vs[i]? = some v → args[i]? = some x → RV C noρ noτ v x) (hN : args.length + 1 ≤ N) :
    RepG N w C ⟨fun i => i = x ∨ i = y ∨ i = z, ρ3 x y z⟩ (s3 args p q l m)
      { tmps := (#[Value.pointer (some ⟨x, 0, none⟩)] ++ vs) ++ Array.replicate (N - (#[Value.pointer (some ⟨x, 0, none⟩)] ++ vs).size) undef, defers := [] } w C (ρ3 x y z) noτ := by
  obtain ⟨cs, ty, c, d, g1, g2, g3, g4, g5, g6, g7, g8, g9, g10, g11⟩ := hX.ex
  obtain ⟨ty1, y1⟩ := hX.b1
  obtain ⟨ty2, z1⟩ := hX.b2
  have r0 : ρ3 x y z (0, 0, 0) = some x := rfl
  have r1 : ρ3 x y z (0, 0, 1) = some y := rfl
  have r2 : ρ3 x y z (0, 0, 2) = some z := rfl
  exact
  { df := rfl
    sz := by simp; omega
    tm := by
      intro t
      cases t with
      | zero => simpa [s3, Array.getElem?_append] using RV.box (0, 0, 0) x 0 r0
      | succ t =>
        simp only [s3, Nat.add_one_ne_zero, if_false, Nat.add_sub_cancel]
        by_cases ht : t < args.length
        · have h1 : t < vs.size := by omega
          have e : (#[Value.pointer (some ⟨x, 0, none⟩)] ++ vs ++ Array.replicate (N - (#[Value.pointer (some ⟨x, 0, none⟩)] ++ vs).size) undef).getD (t + 1) undef = vs[t] := by
            rw [Array.getD_eq_getD_getElem?, Array.getElem?_append_left (by simp; omega), Array.getElem?_append_right (by simp)]
            simp [h1]
          rw [e]
          simp only [List.getD, List.getElem?_eq_getElem ht, Option.getD_some]
          exact (hv t _ _ (by simp [h1]) (by simp [ht])).lift _ _
        · rw [List.getD, List.getElem?_eq_none (by omega)]
          exact .any _
    cw := hC
    c0 := fun _ _ _ h => h
    c1 := fun _ _ _ _ h => .inl h
    bx := by
      intro k B h
      rcases s3_box h with ⟨rfl, rfl⟩ | ⟨rfl, rfl⟩ | ⟨rfl, rfl⟩
      · refine ⟨x, r0, ⟨⟨cs, ty, g1, by simpa [xcell] using g2, g3, ?_, fun hz => by cases hz⟩, fun _ o => (hX.f o).1⟩, .inr (.inl rfl)⟩
        intro i u a hu ha
        rcases Nat.lt_or_ge i p.length with hi | hi
        · rw [xcell, List.getElem?_append_left hi] at ha
          exact (g4 i u a hu ha).lift _ _
        · rw [xcell, List.getElem?_append_right hi] at ha
          have hlt := (List.getElem?_eq_some_iff.1 ha).1
          simp at hlt
          have hcase : i = p.length ∨ i = p.length + 1 ∨ i = p.length + 2 := by omega
          rcases hcase with rfl | rfl | rfl
          · simp at ha; subst ha
            rw [g5] at hu; cases hu
            exact .sl _ y _ c 1 r1 g6 g7
          · rw [show p.length + 1 - p.length = 1 by omega] at ha
            simp at ha; subst ha
            rw [g8] at hu; cases hu
            exact .sl _ z _ d 1 r2 g9 g10
          · rw [show p.length + 2 - p.length = 2 by omega] at ha
            simp at ha; subst ha
            exact (g11 u hu).lift _ _
      · exact ⟨y, r1, ⟨⟨ints l, ty1, y1, by rw [ints_size, bi_len], fun i v hv => by obtain ⟨n, _, rfl⟩ := ints_at hv; rfl, fun i v u hv hu => ints_rv hv hu, fun hz => by cases hz⟩, fun _ o => (hX.f o).2.1⟩, .inr (.inr (.inl rfl))⟩
      · exact ⟨z, r2, ⟨⟨ints m, ty2, z1, by rw [ints_size, bi_len], fun i v hv => by obtain ⟨n, _, rfl⟩ := ints_at hv; rfl, fun i v u hv hu => ints_rv hv hu, fun hz => by cases hz⟩, fun _ o => (hX.f o).2.2⟩, .inr (.inr (.inr rfl))⟩
    bj := by
      intro k k' B B' b h h' e e'
      obtain ⟨n1, n2, n3⟩ := hX.ne
      rcases ρ3_some e with ⟨rfl, rfl⟩ | ⟨rfl, rfl⟩ | ⟨rfl, rfl⟩ <;> rcases ρ3_some e' with ⟨rfl, e2⟩ | ⟨rfl, e2⟩ | ⟨rfl, e2⟩ <;> first | rfl | (exfalso; omega)
    tk := fun k v n hk => by cases hk
    tj := fun k k' v v' n n' b hk => by cases hk
    fρ := by
      intro k b h
      rcases ρ3_some h with ⟨rfl, _⟩ | ⟨rfl, _⟩ | ⟨rfl, _⟩ <;> simp [s3]
    fτ := fun k x h => by cases h
    fo := fun k b h => h
    fr := ⟨rfl, rfl, rfl, Nat.le_refl _, fun _ _ _ => rfl⟩ }
theorem xcon_of {D : List Ap → Array Oper → Bool} (hD : DOK P D) {X : Hints} {H : XHints} {f : FuncId} {fn : Func} {c : Code} {rs : List ResultVar} {args p : List AV} {q : AV} {l m : List Int} {b : Bool} (hf : P.funcs[f]? = some fn) (hname : (fn.name == "runtime.NumGoroutine") = false) (hb : fn.body = some c)
    (hrs : fn.results.toList = rs) (hN : (dstOK fn.ntmps c && draws D X c && decide (args.length + 1 ≤ fn.ntmps)) = true) (hp : p.all clean = true) (hcq : clean q = true) (h : xcode P X H c (retX P rs p q l m b) (s3 args p q l m)) : XCon P f args p q l m b := by
  refine ⟨enters_of hf hname hb, ?_⟩
  intro C w x y z vs hC hX hl hv
  rw [Bool.and_eq_true] at hN
  have lx : x < w.heap.size := by obtain ⟨cs, ty, _, _, g, _⟩ := hX.ex; exact heap_lt g
  have ly : y < w.heap.size := by obtain ⟨ty, g⟩ := hX.b1; exact heap_lt g
  have lz : z < w.heap.size := by obtain ⟨ty, g⟩ := hX.b2; exact heap_lt g
  refine calls_of_wp hf hb (xcode_sound (N := fn.ntmps) (w0 := w) (C0 := C) (E := ⟨fun i => i = x ∨ i = y ∨ i = z, ρ3 x y z⟩) hD c _ _ _ _ _ hN.1 ?_ h ⟨C, _, noτ, s3_rep hC hX hl hv (of_decide_eq_true hN.2)⟩)
  intro e s' a' w' hq hr
  obtain ⟨C', ρ', τ', hr⟩ := hr
  have main : oK (resAV P s' rs) (fun xs => one xs = .v (.bool b) ∧ ∃ l' m' : List Int, s'.b (0, 0, 0) = some ⟨xcell p (0, 0, 1) (0, 0, 2) l.length m.length q, false⟩ ∧ s'.b (0, 0, 1) = some ⟨bi l', false⟩ ∧ s'.b (0, 0, 2) = some ⟨bi m', false⟩ ∧
      l'.length = l.length ∧ m'.length = m.length ∧ (b = false → l' = l ∧ m' = m)) (.mk _) → a'.defers = [] ∧ ∃ v, (results fn a'.tmps).run P w' = .ok v w' ∧
      ∃ (C' : CMap) (l' m' : List Int), Ending.returned v = .returned (.bool b) ∧ Fr w (fun i => i = x ∨ i = y ∨ i = z) w' ∧ (∀ b o v, C b o = some v → C' b o = some v) ∧
      (∀ b o v, C' b o = some v → C b o = some v ∨ w.heap.size ≤ b) ∧ CW C' w' ∧ XB C' w' x y z p q l' m' ∧ l'.length = l.length ∧ m'.length = m.length ∧ (b = false → l' = l ∧ m' = m) := by
    intro hq
    unfold oK at hq
    split at hq
    case h_2 => exact hq.elim
    rename_i xs hxs
    obtain ⟨hone, l', m', hB, hB1, hB2, e1, e2, e3⟩ := hq
    obtain ⟨v, hrun, hv⟩ := results_run (P := P) (fn := fn) hr (by rw [hrs]; exact hxs)
    rw [hone] at hv
    obtain ⟨rfl, _⟩ := rv_v hv
    have hρ0 : ρ' (0, 0, 0) = some x := hr.fo (0, 0, 0) x rfl
    have hρ1 : ρ' (0, 0, 1) = some y := hr.fo (0, 0, 1) y rfl
    have hρ2 : ρ' (0, 0, 2) = some z := hr.fo (0, 0, 2) z rfl
    obtain ⟨x', hρ', ⟨⟨cs, ty, g1, g2, g3, g4, _⟩, g6⟩, _⟩ := hr.bx _ _ hB
    rw [hρ0] at hρ'; cases hρ'
    obtain ⟨y', hρ', ⟨⟨cs1, ty1, y1, y2, y3, y4, _⟩, y6⟩, _⟩ := hr.bx _ _ hB1
    rw [hρ1] at hρ'; cases hρ'
    obtain ⟨z', hρ', ⟨⟨cs2, ty2, z1, z2, z3, z4, _⟩, z6⟩, _⟩ := hr.bx _ _ hB2
    rw [hρ2] at hρ'; cases hρ'
    have c1 : cs1 = ints l' := rv_ints (by simpa [bi] using y2) y4
    have c2 : cs2 = ints m' := rv_ints (by simpa [bi] using z2) z4
    subst c1 c2
    have hsz : cs.size = p.length + 3 := by simpa [xcell] using g2
    have sl1 : ∃ c, cs[p.length]? = some (.slice (some ⟨y, 0, none⟩) l'.length c) ∧ l'.length ≤ c ∧ c ≤ maxLen := by
      have hlt : p.length < cs.size := by omega
      have := g4 p.length cs[p.length] (.sl (0, 0, 1) l.length 1) (by simp [hlt]) (by simp [xcell])
      obtain ⟨b, c, e, hb, h1, h2⟩ := rv_sl this
      rw [hρ1] at hb; cases hb
      exact ⟨c, by simp [hlt, e, e1], by omega, h2⟩
    have sl2 : ∃ c, cs[p.length + 1]? = some (.slice (some ⟨z, 0, none⟩) m'.length c) ∧ m'.length ≤ c ∧ c ≤ maxLen := by
      have hlt : p.length + 1 < cs.size := by omega
      have := g4 (p.length + 1) cs[p.length + 1] (.sl (0, 0, 2) m.length 1) (by simp [hlt]) (by simp [xcell])
      obtain ⟨b, c, e, hb, h1, h2⟩ := rv_sl this
      rw [hρ2] at hb; cases hb
      exact ⟨c, by simp [hlt, e, e2], by omega, h2⟩
    obtain ⟨c, s1, s2, s3⟩ := sl1
    obtain ⟨d, t1, t2, t3⟩ := sl2
    refine ⟨hr.df, _, hrun, C', l', m', rfl, hr.fr, fun b o v h => hr.c0 _ _ _ h, ?_, hr.cw, ⟨⟨cs, ty, c, d, g1, hsz, g3, fun i v u hv hu => ?_, s1, s2, s3, t1, t2, t3, fun v hv => ?_⟩, ⟨ty1, y1⟩, ⟨ty2, z1⟩, fun o => ⟨g6 rfl o, y6 rfl o, z6 rfl o⟩, hX.ne⟩, e1, e2, e3⟩
    · intro b o v h
      rcases Nat.lt_or_ge b w.heap.size with hlt | hge
      · rcases hr.c1 _ _ _ hlt h with hh | hh
        · exact .inl hh
        · exfalso
          rcases hh with rfl | rfl | rfl
          · rw [g6 rfl o] at h; cases h
          · rw [y6 rfl o] at h; cases h
          · rw [z6 rfl o] at h; cases h
      · exact .inr hge
    · have hi := (List.getElem?_eq_some_iff.1 hu).1
      exact clean_rv (g4 i v u hv (by rw [xcell, List.getElem?_append_left hi]; exact hu)) (List.all_eq_true.1 hp u (List.mem_of_getElem? hu))
    · exact clean_rv (g4 (p.length + 2) v q hv (by simp [xcell])) hcq
  cases e with
  | ret => exact main hq
  | normal => exact main hq
  | _ => exact hq.elim
end Go.Sy

/- Contracts: images. -/
set_option linter.unusedSimpArgs false
namespace Go.Sy
open Go Go.Proofs

theorem bconT {X : Hints} {f : FuncId} {fn : Func} {c : Code} {rs : List ResultVar} {args : List AV} {n : Nat} {l : List AV} (hf : Try.prog.funcs[f]? = some fn) (hname : (fn.name == "runtime.NumGoroutine") = false) (hb : fn.body = some c)
    (hrs : fn.results.toList = rs) (hN : (dstOK fn.ntmps c && draws (drawOK Try.prog) X c && decide (args.length ≤ fn.ntmps)) = true) (h : acode Try.prog X c (retB Try.prog rs n l) (s0 args)) : BCon Try.prog f args n l :=
  bcon_of (drawOK_ok (by kernel_rfl)) hf hname hb hrs hN h
/-- The images that a map and a morphism behind it give: by step. -/
def img (n : Nat) (by' m : List Int) : Nat → List Int
  | 0 => List.replicate n (-1)
  | i + 1 => (img n by' m i).set (by'.getD i 0).toNat (m.getD i 0)
theorem img_len (n : Nat) (b m : List Int) (i : Nat) : (img n b m i).length = n := by
  induction i with
  | zero => simp [img]
  | succ i ih => simp [img, ih]
def inR (n : Nat) (l : List Int) : Prop := ∀ x ∈ l, 0 ≤ x ∧ x < (n : Int)
theorem bi_rep (n : Nat) (x : Int) : List.replicate n (iv x) = bi (List.replicate n x) := by simp [bi, iv]
theorem c132 (n : Nat) (b m : List Int) (hn : n ≤ 1000) (hb : inR n b) (hm : b.length ≤ m.length) (hbl : b.length ≤ 1000) : BCon Try.prog 132 [iv n, lv b, lv m] n (bi (img n b m b.length)) := by
  refine bconT (X := []) (rs := [.tmp 6]) Try.func132 (by kernel_rfl) rfl rfl (by kernel_rfl) ?_
  have K := c153 n (by omega)
  rw [bi_rep] at K
  unfold lv lvT at K
  simp (dsimp := false) (maxDischargeDepth := 16) only [go_sem, ↓reduceIte, reduceCtorEq, Nat.reduceEqDiff, Nat.reduceAdd, Nat.reduceMul, Nat.reduceSub, Nat.reduceLT, Nat.reduceLeDiff, Nat.reducePow, Int.reduceLT, Int.reduceLE, Int.reduceNeg, Int.reduceToNat]
  refine callB_intro (m := 1) K ?_
  simp (dsimp := false) (maxDischargeDepth := 16) only [go_sem, ↓reduceIte, reduceCtorEq, Nat.reduceEqDiff, Nat.reduceAdd, Nat.reduceMul, Nat.reduceSub, Nat.reduceLT, Nat.reduceLeDiff, Nat.reducePow, Int.reduceLT, Int.reduceLE, Int.reduceNeg, Int.reduceToNat]
  refine loopK_intro (fun (i : Nat) s => i ≤ b.length ∧ s.t 7 = .sl (12, 0, 0) n 1 ∧ s.t 2 = lv m ∧ s.t 13 = lv b ∧ s.t 14 = iv b.length ∧ s.t 15 = iv i ∧ s.b (12, 0, 0) = some ⟨bi (img n b m i), false⟩) (fun i => b.length - i)
    ⟨0, by omega, rfl, rfl, rfl, rfl, rfl, rfl⟩ ?_
  rintro i s ⟨hi, t7, t2, t13, t14, t15, b12⟩
  simp (dsimp := false) (maxDischargeDepth := 16) only [go_sem, ↓reduceIte, reduceCtorEq, Nat.reduceEqDiff, Nat.reduceAdd, Nat.reduceMul, Nat.reduceSub, Nat.reduceLT, Nat.reduceLeDiff, Nat.reducePow, Int.reduceLT, Int.reduceLE, Int.reduceNeg, Int.reduceToNat, t7, t2, t13, t14, t15, b12]
  have hl := img_len n b m i
  refine condK_dec (fun h6 => ?_) (fun h6 => ?_)
  · have hx := hb _ (List.getElem_mem h6)
    have hx2 : b[i].toNat < n := by omega
    have hmi : i < m.length := by omega
    have hx3 : b[i].toNat < (img n b m i).length := by omega
    simp (dsimp := false) (maxDischargeDepth := 16) only [go_sem, ↓reduceIte, reduceCtorEq, Nat.reduceEqDiff, Nat.reduceAdd, Nat.reduceMul, Nat.reduceSub, Nat.reduceLT, Nat.reduceLeDiff, Nat.reducePow, Int.reduceLT, Int.reduceLE, Int.reduceNeg, Int.reduceToNat, t7, t2, t13, t14, t15, b12, h6, idx_nat, idx_slI, hx.1, hx2, hmi]
    refine ⟨by rw [bi_len]; omega, i + 1, by omega, by omega, by rw [wrapN _ (by omega)], ?_⟩
    rw [Nat.mul_one, bi_set hx3]
    simp [img, List.getD, h6, hmi]
  · have e : i = b.length := by omega
    subst e
    simp (dsimp := false) (maxDischargeDepth := 16) only [go_sem, ↓reduceIte, reduceCtorEq, Nat.reduceEqDiff, Nat.reduceAdd, Nat.reduceMul, Nat.reduceSub, Nat.reduceLT, Nat.reduceLeDiff, Nat.reducePow, Int.reduceLT, Int.reduceLE, Int.reduceNeg, Int.reduceToNat, t7, t2, t13, t14, t15, b12, h6]
    exact ⟨_, _, rfl, b12⟩
end Go.Sy

/- Contracts: the extender's edges. -/
set_option linter.unusedSimpArgs false
namespace Go.Sy
open Go Go.Proofs

theorem rd_180 (l : List AV) : rdAV Try.prog 180 l = l.head? := by kernel_rfl
attribute [go_sem] rd_180
theorem xconT {X : Hints} {H : XHints} {f : FuncId} {fn : Func} {c : Code} {rs : List ResultVar} {args p : List AV} {q : AV} {l m : List Int} {b : Bool} (hf : Try.prog.funcs[f]? = some fn) (hname : (fn.name == "runtime.NumGoroutine") = false) (hb : fn.body = some c)
    (hrs : fn.results.toList = rs) (hN : (dstOK fn.ntmps c && draws (drawOK Try.prog) X c && decide (args.length + 1 ≤ fn.ntmps)) = true) (hp : p.all clean = true) (hcq : clean q = true) (h : xcode Try.prog X H c (retX Try.prog rs p q l m b) (s3 args p q l m)) : XCon Try.prog f args p q l m b :=
  xcon_of (drawOK_ok (by kernel_rfl)) hf hname hb hrs hN hp hcq h
def okX (p g : Gr) (l m : List Int) (i j : Nat) : Bool := decide (g.e.getD j (0, 0, 0) = ((p.e.getD i (0, 0, 0)).1, l.getD (p.e.getD i (0, 0, 0)).2.1.toNat 0, l.getD (p.e.getD i (0, 0, 0)).2.2.toNat 0)) && !m.contains (j : Int)
def edgeR (p g : Gr) (acc : Mo → Bool) (l : List Int) : Nat → Nat → List Int → Bool
  | 0, _, m => acc ⟨l, m⟩
  | k + 1, i, m => if 0 ≤ m.getD i 0 then edgeR p g acc l k (i + 1) m else (List.range g.e.length).any fun j => okX p g l m i j && edgeR p g acc l k (i + 1) (m.set i (j : Int))
theorem c154z (p g : Gr) (l m : List Int) (fa : FuncId) (caps : List AV) (b : Bool) (hl : l.length ≤ 1000000) (hm : m.length ≤ 1000000) (h : Con Try.prog fa (mv ⟨l, m⟩ :: caps) 0 (bv b)) :
    Con Try.prog 154 [.ptr (gcs p ++ gcs g ++ [lv l, lv m, .clo fa caps]), iv p.e.length] 0 (bv b) := by
  refine conT (X := []) (rs := [.tmp 4]) Try.func154 (by kernel_rfl) rfl rfl (by kernel_rfl) ?_
  have K1 := c78 l hl
  have K2 := c78 m hm
  simp (dsimp := false) (maxDischargeDepth := 16) only [go_sem, ↓reduceIte, reduceCtorEq, Nat.reduceEqDiff, Nat.reduceAdd, Nat.reduceMul, Nat.reduceSub, Nat.reduceLT, Nat.reduceLeDiff, Nat.reducePow, Int.reduceLT, Int.reduceLE, Int.reduceNeg, Int.reduceToNat, beq_self_eq_true]
  refine callK_intro K1 ?_
  simp (dsimp := false) (maxDischargeDepth := 16) only [go_sem, ↓reduceIte, reduceCtorEq, Nat.reduceEqDiff, Nat.reduceAdd, Nat.reduceMul, Nat.reduceSub, Nat.reduceLT, Nat.reduceLeDiff, Nat.reducePow, Int.reduceLT, Int.reduceLE, Int.reduceNeg, Int.reduceToNat]
  refine callK_intro K2 ?_
  simp (dsimp := false) (maxDischargeDepth := 16) only [go_sem, ↓reduceIte, reduceCtorEq, Nat.reduceEqDiff, Nat.reduceAdd, Nat.reduceMul, Nat.reduceSub, Nat.reduceLT, Nat.reduceLeDiff, Nat.reducePow, Int.reduceLT, Int.reduceLE, Int.reduceNeg, Int.reduceToNat]
  refine callK_intro h ?_
  simp (dsimp := false) (maxDischargeDepth := 16) only [go_sem, ↓reduceIte, reduceCtorEq, Nat.reduceEqDiff, Nat.reduceAdd, Nat.reduceMul, Nat.reduceSub, Nat.reduceLT, Nat.reduceLeDiff, Nat.reducePow, Int.reduceLT, Int.reduceLE, Int.reduceNeg, Int.reduceToNat]
  exact finB rfl
theorem low_get {m : List Int} (h : ∀ x ∈ m, -1 ≤ x) {i : Nat} (hi : i < m.length) (hn : ¬ 0 ≤ m[i]) : m[i] = -1 := by
  have := h _ (List.getElem_mem hi)
  omega
theorem low_set {m : List Int} (h : ∀ x ∈ m, -1 ≤ x) (i j : Nat) : ∀ x ∈ m.set i (j : Int), -1 ≤ x := by
  intro x hx
  rcases List.mem_or_eq_of_mem_set hx with hx | rfl
  · exact h x hx
  · omega
theorem c154 (p g : Gr) (l : List Int) (fa : FuncId) (caps : List AV) (acc : Mo → Bool) (hl : l.length ≤ 1000) (hp : ∀ x ∈ p.e, (0 ≤ x.2.1 ∧ x.2.1.toNat < l.length) ∧ 0 ≤ x.2.2 ∧ x.2.2.toNat < l.length) (hpe : p.e.length ≤ 1000) (hge : g.e.length ≤ 1000) (_hc : caps.all clean = true)
    (h : ∀ m : List Int, m.length = p.e.length → (∀ x ∈ m, -1 ≤ x) → Con Try.prog fa (mv ⟨l, m⟩ :: caps) 0 (bv (acc ⟨l, m⟩))) :
    ∀ (k i : Nat) (m : List Int), k + i = p.e.length → m.length = p.e.length → (∀ x ∈ m, -1 ≤ x) → XCon Try.prog 154 [iv i] (gcs p ++ gcs g) (.clo fa caps) l m (edgeR p g acc l k i m) := by
  intro k
  induction k with
  | zero =>
    intro i m hk hm hlo
    obtain rfl : i = p.e.length := by omega
    have := c154z p g l m fa caps _ (by omega) (by omega) (h m hm hlo)
    refine xcon_con ?_
    simpa [edgeR, lv] using this
  | succ k ih =>
    intro i m hk hm hlo
    have hi : i < p.e.length := by omega
    have hi2 : i < m.length := by omega
    have hne : ((i : Int) == (p.e.length : Int)) = false := by simp; omega
    have hy := hp _ (List.getElem_mem hi)
    have hcl : ((gcs p ++ gcs g).all clean) = true := rfl
    refine xconT (X := []) (H := [(4, [(3, 2)]), (10, [(9, 1)]), (12, [(3, 2)])]) (rs := [.tmp 4]) Try.func154 (by kernel_rfl) rfl rfl (by kernel_rfl) hcl (by simp [clean]) ?_
    have e1 : m.getD i 0 = m[i] := by simp [List.getD, hi2]
    unfold edgeR
    rw [e1]
    have bh := bi_head hi2 e1
    simp (dsimp := false) (maxDischargeDepth := 16) only [go_sem, ↓reduceIte, reduceCtorEq, Nat.reduceEqDiff, Nat.reduceAdd, Nat.reduceMul, Nat.reduceSub, Nat.reduceLT, Nat.reduceLeDiff, Nat.reducePow, Int.reduceLT, Int.reduceLE, Int.reduceNeg, Int.reduceToNat, hne, idx_slI, idx_sl, hi2, bi_len, xcell, bh]
    refine ⟨by omega, ?_⟩
    refine condK_dec (fun h6 => ?_) (fun h6 => ?_)
    · simp (dsimp := false) (maxDischargeDepth := 16) only [go_sem, ↓reduceIte, reduceCtorEq, Nat.reduceEqDiff, Nat.reduceAdd, Nat.reduceMul, Nat.reduceSub, Nat.reduceLT, Nat.reduceLeDiff, Nat.reducePow, Int.reduceLT, Int.reduceLE, Int.reduceNeg, Int.reduceToNat, hne, idx_slI, idx_sl, hi2, bi_len, xcell, bh, h6]
      refine stepM_intro (0, 0, 0) (0, 0, 1) (0, 0, 2) (ih (i + 1) m (by omega) hm hlo) ?_ (by decide) rfl rfl rfl rfl rfl hcl (by simp [clean]) (by decide) ?_
      · simp (dsimp := false) (maxDischargeDepth := 16) only [go_sem, ↓reduceIte, reduceCtorEq, Nat.reduceEqDiff, Nat.reduceAdd, Nat.reduceMul, Nat.reduceSub, Nat.reduceLT, Nat.reduceLeDiff, Nat.reducePow, Int.reduceLT, Int.reduceLE, Int.reduceNeg, Int.reduceToNat, wrapN i (by omega)]
      intro l' m' hl' hm' hbb
      simp (dsimp := false) (maxDischargeDepth := 16) only [go_sem, ↓reduceIte, reduceCtorEq, Nat.reduceEqDiff, Nat.reduceAdd, Nat.reduceMul, Nat.reduceSub, Nat.reduceLT, Nat.reduceLeDiff, Nat.reducePow, Int.reduceLT, Int.reduceLE, Int.reduceNeg, Int.reduceToNat, xcell]
      exact ⟨_, _, rfl, rfl, hl', hm', hbb⟩
    · have g1 := bi_head (zs := l) (k := p.e[i].2.1.toNat) hy.1.2 rfl
      have g2 := bi_head (zs := l) (k := p.e[i].2.2.toNat) hy.2.2 rfl
      simp (dsimp := false) (maxDischargeDepth := 16) only [go_sem, ↓reduceIte, reduceCtorEq, Nat.reduceEqDiff, Nat.reduceAdd, Nat.reduceMul, Nat.reduceSub, Nat.reduceLT, Nat.reduceLeDiff, Nat.reducePow, Int.reduceLT, Int.reduceLE, Int.reduceNeg, Int.reduceToNat, hne, idx_slI, idx_sl, hi2, bi_len, xcell, bh, h6, idx_nat, hi, hy.1.1, hy.1.2, hy.2.1, hy.2.2, g1, g2]
      refine ⟨by omega, by omega, ?_⟩
      have hmn : m[i] = -1 := low_get hlo hi2 h6
      have ey : p.e.getD i (0, 0, 0) = p.e[i] := getD_at hi
      obtain ⟨W, hW⟩ : ∃ W : Ed, W = (p.e[i].1, l.getD p.e[i].2.1.toNat 0, l.getD p.e[i].2.2.toNat 0) := ⟨_, rfl⟩
      have hok : ∀ j, okX p g l m i j = (decide (g.e.getD j (0, 0, 0) = W) && !m.contains (j : Int)) := fun j => by unfold okX; rw [ey, ← hW]
      refine xloopK_intro (fun (j : Nat) s => j ≤ g.e.length ∧ s.t 0 = .box (0, 0, 0) 0 ∧ s.t 1 = iv i ∧ s.t 6 = .box (6, 0, 0) 0 ∧ s.b (6, 0, 0) = some ⟨ecs W, false⟩ ∧ s.t 76 = elv g.e ∧ s.t 77 = iv g.e.length ∧ s.t 78 = iv j ∧
        s.b (0, 0, 0) = some ⟨xcell (gcs p ++ gcs g) (0, 0, 1) (0, 0, 2) l.length m.length (.clo fa caps), false⟩ ∧ s.b (0, 0, 1) = some ⟨bi l, false⟩ ∧ s.b (0, 0, 2) = some ⟨bi m, false⟩ ∧
        ∀ j', j' < j → (okX p g l m i j' && edgeR p g acc l k (i + 1) (m.set i (j' : Int))) = false) (fun j => g.e.length - j) ⟨0, by omega, rfl, rfl, rfl, by rw [hW]; rfl, rfl, rfl, rfl, rfl, rfl, rfl, fun j hj => by omega⟩ ?_
      rintro j s ⟨hj, t0, t1, t6, b6, t76, t77, t78, b0, b1, b2, hno⟩
      obtain ⟨u, hu⟩ : ∃ u, s.g 8 = u := ⟨_, rfl⟩
      simp (dsimp := false) (maxDischargeDepth := 16) only [go_sem, ↓reduceIte, reduceCtorEq, Nat.reduceEqDiff, Nat.reduceAdd, Nat.reduceMul, Nat.reduceSub, Nat.reduceLT, Nat.reduceLeDiff, Nat.reducePow, Int.reduceLT, Int.reduceLE, Int.reduceNeg, Int.reduceToNat, t0, t1, t6, b6, t76, t77, t78, b0, b1, b2, hu]
      refine condK_dec (fun h9 => ?_) (fun h9 => ?_)
      · simp (dsimp := false) (maxDischargeDepth := 16) only [go_sem, ↓reduceIte, reduceCtorEq, Nat.reduceEqDiff, Nat.reduceAdd, Nat.reduceMul, Nat.reduceSub, Nat.reduceLT, Nat.reduceLeDiff, Nat.reducePow, Int.reduceLT, Int.reduceLE, Int.reduceNeg, Int.reduceToNat, t0, t1, t6, b6, t76, t77, t78, b0, b1, b2, hu, h9, idx_nat]
        have ej : g.e.getD j (0, 0, 0) = g.e[j] := getD_at h9
        have hokj := hok j
        rw [ej] at hokj
        have next : (okX p g l m i j && edgeR p g acc l k (i + 1) (m.set i (j : Int))) = false → ∀ j', j' < j + 1 → (okX p g l m i j' && edgeR p g acc l k (i + 1) (m.set i (j' : Int))) = false := by
          intro h j' hj'
          by_cases e : j' = j
          · subst e; exact h
          · exact hno j' (by omega)
        refine condK_intro (fun h10 => ?_) (fun h10 => ?_)
        · simp (dsimp := false) (maxDischargeDepth := 16) only [go_sem, ↓reduceIte, reduceCtorEq, Nat.reduceEqDiff, Nat.reduceAdd, Nat.reduceMul, Nat.reduceSub, Nat.reduceLT, Nat.reduceLeDiff, Nat.reducePow, Int.reduceLT, Int.reduceLE, Int.reduceNeg, Int.reduceToNat, t0, t1, t6, b6, t76, t77, t78, b0, b1, b2, hu, h9, h10, xcell]
          have hWe : g.e[j] ≠ W := by
            rintro e
            rw [e] at h10
            simp at h10
          exact ⟨j + 1, by omega, by omega, by rw [wrapN _ (by omega)], next (by rw [hokj]; simp [hWe])⟩
        · have hWe : g.e[j] = W := by
            simp only [Bool.not_eq_false', Bool.and_eq_true, beq_iff_eq] at h10
            exact Prod.ext h10.1 (Prod.ext h10.2.1 h10.2.2)
          simp (dsimp := false) (maxDischargeDepth := 16) only [go_sem, ↓reduceIte, reduceCtorEq, Nat.reduceEqDiff, Nat.reduceAdd, Nat.reduceMul, Nat.reduceSub, Nat.reduceLT, Nat.reduceLeDiff, Nat.reducePow, Int.reduceLT, Int.reduceLE, Int.reduceNeg, Int.reduceToNat, t0, t1, t6, b6, t76, t77, t78, b0, b1, b2, hu, h9, h10, xcell, bi_clean, bi_list, bi_len]
          refine thawK_intro (c119 m j) ?_
          simp (dsimp := false) (maxDischargeDepth := 16) only [go_sem, ↓reduceIte, reduceCtorEq, Nat.reduceEqDiff, Nat.reduceAdd, Nat.reduceMul, Nat.reduceSub, Nat.reduceLT, Nat.reduceLeDiff, Nat.reducePow, Int.reduceLT, Int.reduceLE, Int.reduceNeg, Int.reduceToNat, t0, t1, t6, b6, t76, t77, t78, b0, b1, b2, hu, h9, h10, xcell]
          refine condK_intro (fun h11 => ?_) (fun h11 => ?_)
          · simp (dsimp := false) (maxDischargeDepth := 16) only [go_sem, ↓reduceIte, reduceCtorEq, Nat.reduceEqDiff, Nat.reduceAdd, Nat.reduceMul, Nat.reduceSub, Nat.reduceLT, Nat.reduceLeDiff, Nat.reducePow, Int.reduceLT, Int.reduceLE, Int.reduceNeg, Int.reduceToNat, t0, t1, t6, b6, t76, t77, t78, b0, b1, b2, hu, h9, h10, h11, xcell]
            exact ⟨j + 1, by omega, by omega, by rw [wrapN _ (by omega)], next (by rw [hokj, h11]; simp)⟩
          · have hset : (m.set i (j : Int)).set i (-1) = m := by
              rw [List.set_set, ← hmn, List.set_getElem_self]
            simp (dsimp := false) (maxDischargeDepth := 16) only [go_sem, ↓reduceIte, reduceCtorEq, Nat.reduceEqDiff, Nat.reduceAdd, Nat.reduceMul, Nat.reduceSub, Nat.reduceLT, Nat.reduceLeDiff, Nat.reducePow, Int.reduceLT, Int.reduceLE, Int.reduceNeg, Int.reduceToNat, t0, t1, t6, b6, t76, t77, t78, b0, b1, b2, hu, h9, h10, h11, xcell, idx_slI, idx_sl, bi_len, hi2, bi_set1]
            refine ⟨by omega, ?_⟩
            refine stepM_intro (0, 0, 0) (0, 0, 1) (0, 0, 2) (ih (i + 1) (m.set i (j : Int)) (by omega) (by simpa using hm) (low_set hlo i j)) ?_ (by decide) rfl rfl ?_ ?_ ?_ hcl (by simp [clean]) (by decide) ?_
            · simp (dsimp := false) (maxDischargeDepth := 16) only [go_sem, ↓reduceIte, reduceCtorEq, Nat.reduceEqDiff, Nat.reduceAdd, Nat.reduceMul, Nat.reduceSub, Nat.reduceLT, Nat.reduceLeDiff, Nat.reducePow, Int.reduceLT, Int.reduceLE, Int.reduceNeg, Int.reduceToNat, t0, t1, t6, b6, t76, t77, t78, b0, b1, b2, hu, wrapN i (by omega)]
            · rw [List.length_set]
              simp (dsimp := false) (maxDischargeDepth := 16) only [go_sem, ↓reduceIte, reduceCtorEq, Nat.reduceEqDiff, Nat.reduceAdd, Nat.reduceMul, Nat.reduceSub, Nat.reduceLT, Nat.reduceLeDiff, Nat.reducePow, Int.reduceLT, Int.reduceLE, Int.reduceNeg, Int.reduceToNat, t0, t1, t6, b6, t76, t77, t78, b0, b1, b2, hu]
            · simp (dsimp := false) (maxDischargeDepth := 16) only [go_sem, ↓reduceIte, reduceCtorEq, Nat.reduceEqDiff, Nat.reduceAdd, Nat.reduceMul, Nat.reduceSub, Nat.reduceLT, Nat.reduceLeDiff, Nat.reducePow, Int.reduceLT, Int.reduceLE, Int.reduceNeg, Int.reduceToNat, t0, t1, t6, b6, t76, t77, t78, b0, b1, b2, hu]
            · simp (dsimp := false) (maxDischargeDepth := 16) only [go_sem, ↓reduceIte, reduceCtorEq, Nat.reduceEqDiff, Nat.reduceAdd, Nat.reduceMul, Nat.reduceSub, Nat.reduceLT, Nat.reduceLeDiff, Nat.reducePow, Int.reduceLT, Int.reduceLE, Int.reduceNeg, Int.reduceToNat, t0, t1, t6, b6, t76, t77, t78, b0, b1, b2, hu, bi_set1, hi2]
            intro l' m' hl' hm' hbb
            rw [List.length_set] at hm'
            rw [List.length_set]
            cases hE : edgeR p g acc l k (i + 1) (m.set i (j : Int)) with
            | true =>
              simp (dsimp := false) (maxDischargeDepth := 16) only [go_sem, ↓reduceIte, reduceCtorEq, Nat.reduceEqDiff, Nat.reduceAdd, Nat.reduceMul, Nat.reduceSub, Nat.reduceLT, Nat.reduceLeDiff, Nat.reducePow, Int.reduceLT, Int.reduceLE, Int.reduceNeg, Int.reduceToNat, t0, t1, t6, b6, t76, t77, t78, b0, b1, b2, hu, xcell]
              have : ((List.range g.e.length).any fun j => okX p g l m i j && edgeR p g acc l k (i + 1) (m.set i (j : Int))) = true :=
                List.any_eq_true.2 ⟨j, List.mem_range.2 h9, by rw [hE, hokj, h11]; simp [hWe]⟩
              rw [if_neg h6, this]
              exact ⟨rfl, _, _, rfl, rfl, hl', hm', fun h => Bool.noConfusion h⟩
            | false =>
              obtain ⟨rfl, rfl⟩ := hbb hE
              simp (dsimp := false) (maxDischargeDepth := 16) only [go_sem, ↓reduceIte, reduceCtorEq, Nat.reduceEqDiff, Nat.reduceAdd, Nat.reduceMul, Nat.reduceSub, Nat.reduceLT, Nat.reduceLeDiff, Nat.reducePow, Int.reduceLT, Int.reduceLE, Int.reduceNeg, Int.reduceToNat, t0, t1, t6, b6, t76, t77, t78, b0, b1, b2, hu, xcell, idx_slI, idx_sl, bi_len, hi2, List.length_set, bi_set1]
              rw [hset]
              exact ⟨by omega, j + 1, by omega, by omega, by rw [wrapN _ (by omega)], rfl, next (by rw [hE]; simp)⟩
      · simp (dsimp := false) (maxDischargeDepth := 16) only [go_sem, ↓reduceIte, reduceCtorEq, Nat.reduceEqDiff, Nat.reduceAdd, Nat.reduceMul, Nat.reduceSub, Nat.reduceLT, Nat.reduceLeDiff, Nat.reducePow, Int.reduceLT, Int.reduceLE, Int.reduceNeg, Int.reduceToNat, t0, t1, t6, b6, t76, t77, t78, b0, b1, b2, hu, h9]
        have : ((List.range g.e.length).any fun j => okX p g l m i j && edgeR p g acc l k (i + 1) (m.set i (j : Int))) = false := by
          rw [List.any_eq_false]
          intro x hx
          rw [hno x (by have := List.mem_range.1 hx; omega)]
          simp
        rw [if_neg h6, this]
        exact ⟨rfl, _, _, rfl, rfl, rfl, rfl, fun _ => ⟨rfl, rfl⟩⟩
end Go.Sy

/- Contracts: the extender's nodes. -/
set_option linter.unusedSimpArgs false
namespace Go.Sy
open Go Go.Proofs

def okY (p g : Gr) (l : List Int) (i j : Nat) : Bool := decide (g.n.getD j 0 = p.n.getD i 0) && !l.contains (j : Int)
def nodeR (p g : Gr) (acc : Mo → Bool) (m : List Int) : Nat → Nat → List Int → Bool
  | 0, _, l => edgeR p g acc l p.e.length 0 m
  | k + 1, i, l => if 0 ≤ l.getD i 0 then nodeR p g acc m k (i + 1) l else (List.range g.n.length).any fun j => okY p g l i j && nodeR p g acc m k (i + 1) (l.set i (j : Int))
theorem c134 (p g : Gr) (m : List Int) (fa : FuncId) (caps : List AV) (acc : Mo → Bool) (hp : ∀ x ∈ p.e, (0 ≤ x.2.1 ∧ x.2.1.toNat < p.n.length) ∧ 0 ≤ x.2.2 ∧ x.2.2.toNat < p.n.length) (hpn : p.n.length ≤ 1000) (hpe : p.e.length ≤ 1000) (hgn : g.n.length ≤ 1000) (hge : g.e.length ≤ 1000) (hc : caps.all clean = true)
    (hm : m.length = p.e.length) (hlm : ∀ x ∈ m, -1 ≤ x) (h : ∀ l m : List Int, l.length = p.n.length → m.length = p.e.length → (∀ x ∈ l, -1 ≤ x) → (∀ x ∈ m, -1 ≤ x) → Con Try.prog fa (mv ⟨l, m⟩ :: caps) 0 (bv (acc ⟨l, m⟩))) :
    ∀ (k i : Nat) (l : List Int), k + i = p.n.length → l.length = p.n.length → (∀ x ∈ l, -1 ≤ x) → XCon Try.prog 134 [iv i] (gcs p ++ gcs g) (.clo fa caps) l m (nodeR p g acc m k i l) := by
  intro k
  induction k with
  | zero =>
    intro i l hk hl hlo
    obtain rfl : i = p.n.length := by omega
    have K := c154 p g l fa caps acc (by omega) (by rw [hl]; exact hp) hpe hge hc (fun m hm hlm => h l m hl hm hlo hlm) p.e.length 0 m (by omega) hm hlm
    have hcl : ((gcs p ++ gcs g).all clean) = true := rfl
    refine xconT (X := []) (H := [(2, [(1, 2)]), (4, [(3, 2)]), (8, [(16, 1)]), (10, [(3, 2)])]) (rs := [.tmp 4]) Try.func134 (by kernel_rfl) rfl rfl (by kernel_rfl) hcl (by simp [clean, hc]) ?_
    unfold nodeR
    simp (dsimp := false) (maxDischargeDepth := 16) only [go_sem, ↓reduceIte, reduceCtorEq, Nat.reduceEqDiff, Nat.reduceAdd, Nat.reduceMul, Nat.reduceSub, Nat.reduceLT, Nat.reduceLeDiff, Nat.reducePow, Int.reduceLT, Int.reduceLE, Int.reduceNeg, Int.reduceToNat, beq_self_eq_true, xcell]
    refine stepM_intro (0, 0, 0) (0, 0, 1) (0, 0, 2) K ?_ (by decide) rfl rfl rfl rfl rfl hcl (by simp [clean, hc]) (by decide) ?_
    · simp (dsimp := false) (maxDischargeDepth := 16) only [go_sem, ↓reduceIte, reduceCtorEq, Nat.reduceEqDiff, Nat.reduceAdd, Nat.reduceMul, Nat.reduceSub, Nat.reduceLT, Nat.reduceLeDiff, Nat.reducePow, Int.reduceLT, Int.reduceLE, Int.reduceNeg, Int.reduceToNat]
      rfl
    intro l' m' hl' hm' hbb
    simp (dsimp := false) (maxDischargeDepth := 16) only [go_sem, ↓reduceIte, reduceCtorEq, Nat.reduceEqDiff, Nat.reduceAdd, Nat.reduceMul, Nat.reduceSub, Nat.reduceLT, Nat.reduceLeDiff, Nat.reducePow, Int.reduceLT, Int.reduceLE, Int.reduceNeg, Int.reduceToNat, xcell]
    exact ⟨_, _, rfl, rfl, hl', hm', hbb⟩
  | succ k ih =>
    intro i l hk hl hlo
    have hi : i < p.n.length := by omega
    have hi2 : i < l.length := by omega
    have hne : ((i : Int) == (p.n.length : Int)) = false := by simp; omega
    have hcl : ((gcs p ++ gcs g).all clean) = true := rfl
    refine xconT (X := []) (H := [(2, [(1, 2)]), (4, [(3, 2)]), (8, [(16, 1)]), (10, [(3, 2)])]) (rs := [.tmp 4]) Try.func134 (by kernel_rfl) rfl rfl (by kernel_rfl) hcl (by simp [clean, hc]) ?_
    have e1 : l.getD i 0 = l[i] := by simp [List.getD, hi2]
    unfold nodeR
    rw [e1]
    have bh := bi_head hi2 e1
    simp (dsimp := false) (maxDischargeDepth := 16) only [go_sem, ↓reduceIte, reduceCtorEq, Nat.reduceEqDiff, Nat.reduceAdd, Nat.reduceMul, Nat.reduceSub, Nat.reduceLT, Nat.reduceLeDiff, Nat.reducePow, Int.reduceLT, Int.reduceLE, Int.reduceNeg, Int.reduceToNat, hne, idx_slI, idx_sl, hi2, bi_len, xcell, bh]
    refine ⟨by omega, ?_⟩
    refine condK_dec (fun h6 => ?_) (fun h6 => ?_)
    · simp (dsimp := false) (maxDischargeDepth := 16) only [go_sem, ↓reduceIte, reduceCtorEq, Nat.reduceEqDiff, Nat.reduceAdd, Nat.reduceMul, Nat.reduceSub, Nat.reduceLT, Nat.reduceLeDiff, Nat.reducePow, Int.reduceLT, Int.reduceLE, Int.reduceNeg, Int.reduceToNat, hne, idx_slI, idx_sl, hi2, bi_len, xcell, bh, h6]
      refine stepM_intro (0, 0, 0) (0, 0, 1) (0, 0, 2) (ih (i + 1) l (by omega) hl hlo) ?_ (by decide) rfl rfl rfl rfl rfl hcl (by simp [clean, hc]) (by decide) ?_
      · simp (dsimp := false) (maxDischargeDepth := 16) only [go_sem, ↓reduceIte, reduceCtorEq, Nat.reduceEqDiff, Nat.reduceAdd, Nat.reduceMul, Nat.reduceSub, Nat.reduceLT, Nat.reduceLeDiff, Nat.reducePow, Int.reduceLT, Int.reduceLE, Int.reduceNeg, Int.reduceToNat, wrapN i (by omega)]
      intro l' m' hl' hm' hbb
      simp (dsimp := false) (maxDischargeDepth := 16) only [go_sem, ↓reduceIte, reduceCtorEq, Nat.reduceEqDiff, Nat.reduceAdd, Nat.reduceMul, Nat.reduceSub, Nat.reduceLT, Nat.reduceLeDiff, Nat.reducePow, Int.reduceLT, Int.reduceLE, Int.reduceNeg, Int.reduceToNat, xcell]
      exact ⟨_, _, rfl, rfl, hl', hm', hbb⟩
    · simp (dsimp := false) (maxDischargeDepth := 16) only [go_sem, ↓reduceIte, reduceCtorEq, Nat.reduceEqDiff, Nat.reduceAdd, Nat.reduceMul, Nat.reduceSub, Nat.reduceLT, Nat.reduceLeDiff, Nat.reducePow, Int.reduceLT, Int.reduceLE, Int.reduceNeg, Int.reduceToNat, hne, idx_slI, idx_sl, hi2, bi_len, xcell, bh, h6, idx_nat, hi]
      have hmn : l[i] = -1 := low_get hlo hi2 h6
      have ey : p.n.getD i 0 = p.n[i] := getD_at hi
      have hok : ∀ j, okY p g l i j = (decide (g.n.getD j 0 = p.n[i]) && !l.contains (j : Int)) := fun j => by unfold okY; rw [ey]
      refine xloopK_intro (fun (j : Nat) s => j ≤ g.n.length ∧ s.t 0 = .box (0, 0, 0) 0 ∧ s.t 1 = iv i ∧ s.t 33 = lv g.n ∧ s.t 34 = iv g.n.length ∧ s.t 35 = iv j ∧
        s.b (0, 0, 0) = some ⟨xcell (gcs p ++ gcs g) (0, 0, 1) (0, 0, 2) l.length m.length (.clo fa caps), false⟩ ∧ s.b (0, 0, 1) = some ⟨bi l, false⟩ ∧ s.b (0, 0, 2) = some ⟨bi m, false⟩ ∧
        ∀ j', j' < j → (okY p g l i j' && nodeR p g acc m k (i + 1) (l.set i (j' : Int))) = false) (fun j => g.n.length - j) ⟨0, by omega, rfl, rfl, rfl, rfl, rfl, rfl, rfl, rfl, fun j hj => by omega⟩ ?_
      rintro j s ⟨hj, t0, t1, t76, t77, t78, b0, b1, b2, hno⟩
      simp (dsimp := false) (maxDischargeDepth := 16) only [go_sem, ↓reduceIte, reduceCtorEq, Nat.reduceEqDiff, Nat.reduceAdd, Nat.reduceMul, Nat.reduceSub, Nat.reduceLT, Nat.reduceLeDiff, Nat.reducePow, Int.reduceLT, Int.reduceLE, Int.reduceNeg, Int.reduceToNat, t0, t1, t76, t77, t78, b0, b1, b2]
      refine condK_dec (fun h9 => ?_) (fun h9 => ?_)
      · simp (dsimp := false) (maxDischargeDepth := 16) only [go_sem, ↓reduceIte, reduceCtorEq, Nat.reduceEqDiff, Nat.reduceAdd, Nat.reduceMul, Nat.reduceSub, Nat.reduceLT, Nat.reduceLeDiff, Nat.reducePow, Int.reduceLT, Int.reduceLE, Int.reduceNeg, Int.reduceToNat, t0, t1, t76, t77, t78, b0, b1, b2, h9, idx_nat, xcell, hi]
        have ej : g.n.getD j 0 = g.n[j] := getD_at h9
        have hokj := hok j
        rw [ej] at hokj
        have next : (okY p g l i j && nodeR p g acc m k (i + 1) (l.set i (j : Int))) = false → ∀ j', j' < j + 1 → (okY p g l i j' && nodeR p g acc m k (i + 1) (l.set i (j' : Int))) = false := by
          intro h j' hj'
          by_cases e : j' = j
          · subst e; exact h
          · exact hno j' (by omega)
        refine condK_intro (fun h10 => ?_) (fun h10 => ?_)
        · simp (dsimp := false) (maxDischargeDepth := 16) only [go_sem, ↓reduceIte, reduceCtorEq, Nat.reduceEqDiff, Nat.reduceAdd, Nat.reduceMul, Nat.reduceSub, Nat.reduceLT, Nat.reduceLeDiff, Nat.reducePow, Int.reduceLT, Int.reduceLE, Int.reduceNeg, Int.reduceToNat, t0, t1, t76, t77, t78, b0, b1, b2, h9, h10, xcell]
          have hWe : g.n[j] ≠ p.n[i] := by
            rintro e
            rw [e] at h10
            simp at h10
          exact ⟨j + 1, by omega, by omega, by rw [wrapN _ (by omega)], next (by rw [hokj]; simp [hWe])⟩
        · have hWe : g.n[j] = p.n[i] := by
            simpa using h10
          simp (dsimp := false) (maxDischargeDepth := 16) only [go_sem, ↓reduceIte, reduceCtorEq, Nat.reduceEqDiff, Nat.reduceAdd, Nat.reduceMul, Nat.reduceSub, Nat.reduceLT, Nat.reduceLeDiff, Nat.reducePow, Int.reduceLT, Int.reduceLE, Int.reduceNeg, Int.reduceToNat, t0, t1, t76, t77, t78, b0, b1, b2, h9, h10, xcell, bi_clean, bi_list, bi_len]
          refine thawK_intro (c119 l j) ?_
          simp (dsimp := false) (maxDischargeDepth := 16) only [go_sem, ↓reduceIte, reduceCtorEq, Nat.reduceEqDiff, Nat.reduceAdd, Nat.reduceMul, Nat.reduceSub, Nat.reduceLT, Nat.reduceLeDiff, Nat.reducePow, Int.reduceLT, Int.reduceLE, Int.reduceNeg, Int.reduceToNat, t0, t1, t76, t77, t78, b0, b1, b2, h9, h10, xcell]
          refine condK_intro (fun h11 => ?_) (fun h11 => ?_)
          · simp (dsimp := false) (maxDischargeDepth := 16) only [go_sem, ↓reduceIte, reduceCtorEq, Nat.reduceEqDiff, Nat.reduceAdd, Nat.reduceMul, Nat.reduceSub, Nat.reduceLT, Nat.reduceLeDiff, Nat.reducePow, Int.reduceLT, Int.reduceLE, Int.reduceNeg, Int.reduceToNat, t0, t1, t76, t77, t78, b0, b1, b2, h9, h10, h11, xcell]
            exact ⟨j + 1, by omega, by omega, by rw [wrapN _ (by omega)], next (by rw [hokj, h11]; simp)⟩
          · have hset : (l.set i (j : Int)).set i (-1) = l := by
              rw [List.set_set, ← hmn, List.set_getElem_self]
            simp (dsimp := false) (maxDischargeDepth := 16) only [go_sem, ↓reduceIte, reduceCtorEq, Nat.reduceEqDiff, Nat.reduceAdd, Nat.reduceMul, Nat.reduceSub, Nat.reduceLT, Nat.reduceLeDiff, Nat.reducePow, Int.reduceLT, Int.reduceLE, Int.reduceNeg, Int.reduceToNat, t0, t1, t76, t77, t78, b0, b1, b2, h9, h10, h11, xcell, idx_slI, idx_sl, bi_len, hi2, bi_set1]
            refine ⟨by omega, ?_⟩
            refine stepM_intro (0, 0, 0) (0, 0, 1) (0, 0, 2) (ih (i + 1) (l.set i (j : Int)) (by omega) (by simpa using hl) (low_set hlo i j)) ?_ (by decide) rfl rfl ?_ ?_ ?_ hcl (by simp [clean, hc]) (by decide) ?_
            · simp (dsimp := false) (maxDischargeDepth := 16) only [go_sem, ↓reduceIte, reduceCtorEq, Nat.reduceEqDiff, Nat.reduceAdd, Nat.reduceMul, Nat.reduceSub, Nat.reduceLT, Nat.reduceLeDiff, Nat.reducePow, Int.reduceLT, Int.reduceLE, Int.reduceNeg, Int.reduceToNat, t0, t1, t76, t77, t78, b0, b1, b2, wrapN i (by omega)]
            · rw [List.length_set]
              simp (dsimp := false) (maxDischargeDepth := 16) only [go_sem, ↓reduceIte, reduceCtorEq, Nat.reduceEqDiff, Nat.reduceAdd, Nat.reduceMul, Nat.reduceSub, Nat.reduceLT, Nat.reduceLeDiff, Nat.reducePow, Int.reduceLT, Int.reduceLE, Int.reduceNeg, Int.reduceToNat, t0, t1, t76, t77, t78, b0, b1, b2]
            · simp (dsimp := false) (maxDischargeDepth := 16) only [go_sem, ↓reduceIte, reduceCtorEq, Nat.reduceEqDiff, Nat.reduceAdd, Nat.reduceMul, Nat.reduceSub, Nat.reduceLT, Nat.reduceLeDiff, Nat.reducePow, Int.reduceLT, Int.reduceLE, Int.reduceNeg, Int.reduceToNat, t0, t1, t76, t77, t78, b0, b1, b2, bi_set1, hi2]
            · simp (dsimp := false) (maxDischargeDepth := 16) only [go_sem, ↓reduceIte, reduceCtorEq, Nat.reduceEqDiff, Nat.reduceAdd, Nat.reduceMul, Nat.reduceSub, Nat.reduceLT, Nat.reduceLeDiff, Nat.reducePow, Int.reduceLT, Int.reduceLE, Int.reduceNeg, Int.reduceToNat, t0, t1, t76, t77, t78, b0, b1, b2]
            intro l' m' hl' hm' hbb
            rw [List.length_set] at hl'
            rw [List.length_set]
            cases hE : nodeR p g acc m k (i + 1) (l.set i (j : Int)) with
            | true =>
              simp (dsimp := false) (maxDischargeDepth := 16) only [go_sem, ↓reduceIte, reduceCtorEq, Nat.reduceEqDiff, Nat.reduceAdd, Nat.reduceMul, Nat.reduceSub, Nat.reduceLT, Nat.reduceLeDiff, Nat.reducePow, Int.reduceLT, Int.reduceLE, Int.reduceNeg, Int.reduceToNat, t0, t1, t76, t77, t78, b0, b1, b2, xcell]
              have : ((List.range g.n.length).any fun j => okY p g l i j && nodeR p g acc m k (i + 1) (l.set i (j : Int))) = true :=
                List.any_eq_true.2 ⟨j, List.mem_range.2 h9, by rw [hE, hokj, h11]; simp [hWe]⟩
              rw [if_neg h6, this]
              exact ⟨rfl, _, _, rfl, rfl, hl', hm', fun h => Bool.noConfusion h⟩
            | false =>
              obtain ⟨rfl, rfl⟩ := hbb hE
              simp (dsimp := false) (maxDischargeDepth := 16) only [go_sem, ↓reduceIte, reduceCtorEq, Nat.reduceEqDiff, Nat.reduceAdd, Nat.reduceMul, Nat.reduceSub, Nat.reduceLT, Nat.reduceLeDiff, Nat.reducePow, Int.reduceLT, Int.reduceLE, Int.reduceNeg, Int.reduceToNat, t0, t1, t76, t77, t78, b0, b1, b2, xcell, idx_slI, idx_sl, bi_len, hi2, List.length_set, bi_set1]
              rw [hset]
              exact ⟨by omega, j + 1, by omega, by omega, by rw [wrapN _ (by omega)], rfl, next (by rw [hE]; simp)⟩
      · simp (dsimp := false) (maxDischargeDepth := 16) only [go_sem, ↓reduceIte, reduceCtorEq, Nat.reduceEqDiff, Nat.reduceAdd, Nat.reduceMul, Nat.reduceSub, Nat.reduceLT, Nat.reduceLeDiff, Nat.reducePow, Int.reduceLT, Int.reduceLE, Int.reduceNeg, Int.reduceToNat, t0, t1, t76, t77, t78, b0, b1, b2, h9]
        have : ((List.range g.n.length).any fun j => okY p g l i j && nodeR p g acc m k (i + 1) (l.set i (j : Int))) = false := by
          rw [List.any_eq_false]
          intro x hx
          rw [hno x (by have := List.mem_range.1 hx; omega)]
          simp
        rw [if_neg h6, this]
        exact ⟨rfl, _, _, rfl, rfl, rfl, rfl, fun _ => ⟨rfl, rfl⟩⟩
end Go.Sy

/- Contracts: what holds. -/
set_option linter.unusedSimpArgs false
namespace Go.Sy
open Go Go.Proofs

open Go.RowKit in
theorem conX_of {P : Program} {D : List Ap → Array Oper → Bool} (hD : DOK P D) {X : Hints} {H : XHints} {f : FuncId} {fn : Func} {c : Code} {rs : List ResultVar} {args : List AV} {r : AV} (hf : P.funcs[f]? = some fn) (hname : (fn.name == "runtime.NumGoroutine") = false) (hb : fn.body = some c)
    (hrs : fn.results.toList = rs) (hN : (dstOK fn.ntmps c && draws D X c && decide (args.length ≤ fn.ntmps)) = true) (h : xcode P X H c (retQ P rs r) (s0 args)) : Con P f args 0 r := by
  refine ⟨enters_of hf hname hb, ?_⟩
  intro C w vs hC hl hv
  rw [Bool.and_eq_true] at hN
  refine calls_of_wp hf hb (xcode_sound (N := fn.ntmps) (w0 := w) (C0 := C) (E := EX.none) hD c _ _ _ _ _ hN.1 ?_ h ⟨C, noρ, noτ, s0_rep hC hl hv (of_decide_eq_true hN.2)⟩)
  intro e s' a' w' hq hr
  obtain ⟨C', ρ', τ', hr⟩ := hr
  have main : (∃ xs, resAV P s' rs = some xs ∧ fin s' (one xs) r) → a'.defers = [] ∧ ∃ v, (results fn a'.tmps).run P w' = .ok v w' ∧
      ∃ v1 C' τ', Ending.returned v = .returned v1 ∧ Below w.heap.size w w' ∧ (∀ b o v, C b o = some v → C' b o = some v) ∧ (∀ b o v, C' b o = some v → C b o = some v ∨ w.heap.size ≤ b) ∧
      CW C' w' ∧ RV C' noρ τ' v1 r ∧ Toks C' w' τ' 0 w.heap.size := by
    rintro ⟨xs, hxs, hfin⟩
    obtain ⟨v, hrun, hv⟩ := results_run (P := P) (fn := fn) hr (by rw [hrs]; exact hxs)
    refine ⟨hr.df, v, hrun, v, endC C' ρ' s' w', noτ, rfl, ⟨hr.fr.os, hr.fr.tape, hr.fr.output, hr.fr.size, fun k hk => hr.fr.block k hk id⟩, fun b o v h => endC_ge _ _ _ (hr.c0 _ _ _ h), ?_, ?_, fin_rv hr hv hfin, toks_none⟩
    · intro b o v h
      rcases endC_cases h with h | ⟨⟨k, B, hB, hρ⟩, _⟩
      · rcases Nat.lt_or_ge b w.heap.size with hlt | hge
        · exact (hr.c1 _ _ _ hlt h).imp_right fun h => h.elim
        · exact .inr hge
      · obtain ⟨b', hρ', _, hb'⟩ := hr.bx k B hB
        rw [hρ] at hρ'
        cases hρ'
        exact .inr (hb'.resolve_right id)
    · intro b o v h
      rcases endC_cases h with h | ⟨⟨k, B, hB, hρ⟩, hc⟩
      · exact hr.cw _ _ _ h
      · refine ⟨hc, ?_⟩
        obtain ⟨cs, ty, g1, g2, g3, g4⟩ := box_cells hr hB hρ
        simp only [World.cell?, g1] at hc
        exact g3 o v hc
  cases e with
  | ret => exact main hq
  | normal => exact main hq
  | _ => exact hq.elim
theorem conXT {X : Hints} {H : XHints} {f : FuncId} {fn : Func} {c : Code} {rs : List ResultVar} {args : List AV} {r : AV} (hf : Try.prog.funcs[f]? = some fn) (hname : (fn.name == "runtime.NumGoroutine") = false) (hb : fn.body = some c)
    (hrs : fn.results.toList = rs) (hN : (dstOK fn.ntmps c && draws (drawOK Try.prog) X c && decide (args.length ≤ fn.ntmps)) = true) (h : xcode Try.prog X H c (retQ Try.prog rs r) (s0 args)) : Con Try.prog f args 0 r :=
  conX_of (drawOK_ok (by kernel_rfl)) hf hname hb hrs hN h
theorem za_182 : zav Try.prog 182 = some [.list 1 [] .nil, .list 3 [] .nil, .list 1 [] .nil, .list 3 [] .nil, .list 1 [] .nil, .list 1 [] .nil, .v .nilFunc] := by kernel_rfl
attribute [go_sem] za_182
theorem c152 (l : List Cd) (f : FuncId) (caps : List AV) (p : Cd → Bool) (hl : (l.length : Int) ≤ 9223372036854775807) (hp : ∀ x ∈ l, Con Try.prog f (cv x :: caps) 0 (bv (p x))) : Con Try.prog 152 [.list 9 (l.map ccs) .no, .clo f caps] 0 (iv (idxP p l)) := by
  refine conT (X := []) (rs := [.tmp 4]) Try.func152 (by kernel_rfl) rfl rfl (by kernel_rfl) ?_
  simp (dsimp := false) (maxDischargeDepth := 16) only [go_sem, ↓reduceIte, reduceCtorEq, Nat.reduceEqDiff, Nat.reduceAdd, Nat.reduceMul, Nat.reduceSub, Nat.reduceLT, Nat.reduceLeDiff, Nat.reducePow, Int.reduceLT, Int.reduceLE, Int.reduceNeg, Int.reduceToNat]
  refine loopK_intro (fun (i : Nat) s => i ≤ l.length ∧ s.t 0 = .list 9 (l.map ccs) .no ∧ s.t 1 = .clo f caps ∧ s.t 7 = iv l.length ∧ s.t 8 = iv i ∧ ∀ y ∈ l.take i, p y = false) (fun i => l.length - i) ⟨0, by omega, rfl, rfl, rfl, rfl, fun j hj => by simp at hj⟩ ?_
  rintro i s ⟨hi, h0, h1, h7, h8, hn⟩
  simp (dsimp := false) (maxDischargeDepth := 16) only [go_sem, ↓reduceIte, reduceCtorEq, Nat.reduceEqDiff, Nat.reduceAdd, Nat.reduceMul, Nat.reduceSub, Nat.reduceLT, Nat.reduceLeDiff, Nat.reducePow, Int.reduceLT, Int.reduceLE, Int.reduceNeg, Int.reduceToNat, h0, h1, h7, h8]
  refine condK_dec (fun h6 => ?_) (fun h6 => ?_)
  · simp (dsimp := false) (maxDischargeDepth := 16) only [go_sem, ↓reduceIte, reduceCtorEq, Nat.reduceEqDiff, Nat.reduceAdd, Nat.reduceMul, Nat.reduceSub, Nat.reduceLT, Nat.reduceLeDiff, Nat.reducePow, Int.reduceLT, Int.reduceLE, Int.reduceNeg, Int.reduceToNat, h0, h1, h7, h8, h6, idx_nat]
    refine callK_intro (hp _ (List.getElem_mem h6)) ?_
    simp (dsimp := false) (maxDischargeDepth := 16) only [go_sem, ↓reduceIte, reduceCtorEq, Nat.reduceEqDiff, Nat.reduceAdd, Nat.reduceMul, Nat.reduceSub, Nat.reduceLT, Nat.reduceLeDiff, Nat.reducePow, Int.reduceLT, Int.reduceLE, Int.reduceNeg, Int.reduceToNat, h0, h1, h7, h8, h6]
    refine condK_intro (fun h9 => ?_) (fun h9 => ?_)
    · simp (dsimp := false) (maxDischargeDepth := 16) only [go_sem, ↓reduceIte, reduceCtorEq, Nat.reduceEqDiff, Nat.reduceAdd, Nat.reduceMul, Nat.reduceSub, Nat.reduceLT, Nat.reduceLeDiff, Nat.reducePow, Int.reduceLT, Int.reduceLE, Int.reduceNeg, Int.reduceToNat, h0, h1, h7, h8, h6, h9]
      exact finI (idxP_hit h6 hn h9)
    · simp (dsimp := false) (maxDischargeDepth := 16) only [go_sem, ↓reduceIte, reduceCtorEq, Nat.reduceEqDiff, Nat.reduceAdd, Nat.reduceMul, Nat.reduceSub, Nat.reduceLT, Nat.reduceLeDiff, Nat.reducePow, Int.reduceLT, Int.reduceLE, Int.reduceNeg, Int.reduceToNat, h0, h1, h7, h8, h6, h9]
      exact ⟨i + 1, by omega, by omega, by rw [wrapN _ (by omega)], take_all h6 hn h9⟩
  · simp (dsimp := false) (maxDischargeDepth := 16) only [go_sem, ↓reduceIte, reduceCtorEq, Nat.reduceEqDiff, Nat.reduceAdd, Nat.reduceMul, Nat.reduceSub, Nat.reduceLT, Nat.reduceLeDiff, Nat.reducePow, Int.reduceLT, Int.reduceLE, Int.reduceNeg, Int.reduceToNat, h0, h1, h7, h8, h6]
    exact finI (idxP_none (take_full h6 hn))
theorem c131 (l : List Cd) (f : FuncId) (caps : List AV) (p : Cd → Bool) (hl : (l.length : Int) ≤ 9223372036854775807) (hp : ∀ x ∈ l, Con Try.prog f (cv x :: caps) 0 (bv (p x))) : Con Try.prog 131 [.list 9 (l.map ccs) .no, .clo f caps] 0 (bv (l.any p)) := by
  refine conT (X := []) (rs := [.tmp 4]) Try.func131 (by kernel_rfl) rfl rfl (by kernel_rfl) ?_
  simp (dsimp := false) (maxDischargeDepth := 16) only [go_sem, ↓reduceIte, reduceCtorEq, Nat.reduceEqDiff, Nat.reduceAdd, Nat.reduceMul, Nat.reduceSub, Nat.reduceLT, Nat.reduceLeDiff, Nat.reducePow, Int.reduceLT, Int.reduceLE, Int.reduceNeg, Int.reduceToNat]
  refine callK_intro (c152 l f caps p hl hp) ?_
  simp (dsimp := false) (maxDischargeDepth := 16) only [go_sem, ↓reduceIte, reduceCtorEq, Nat.reduceEqDiff, Nat.reduceAdd, Nat.reduceMul, Nat.reduceSub, Nat.reduceLT, Nat.reduceLeDiff, Nat.reducePow, Int.reduceLT, Int.reduceLE, Int.reduceNeg, Int.reduceToNat]
  refine finB ?_
  rw [Bool.eq_iff_iff, ← idxP_any]
  simp
mutual
def hld : Cd → Gr → Mo → Bool
  | .mk k kids m p _ _ _, g, n => if k = 2 then !hldH kids g n else if k = 3 then hldA kids g n else if k = 4 then !hldN kids g n else if k = 5 then nodeR p g (fun q => hldH kids g q) (img p.e.length m.e n.e m.e.length) p.n.length 0 (img p.n.length m.n n.n m.n.length) else true
def hldH : List Cd → Gr → Mo → Bool
  | [], _, _ => true
  | c :: _, g, n => hld c g n
def hldA : List Cd → Gr → Mo → Bool
  | [], _, _ => true
  | c :: l, g, n => hld c g n && hldA l g n
def hldN : List Cd → Gr → Mo → Bool
  | [], _, _ => true
  | c :: l, g, n => !hld c g n && hldN l g n
end
theorem hldA_all (g : Gr) (n : Mo) : ∀ l : List Cd, hldA l g n = l.all fun c => hld c g n
  | [] => by rw [hldA]; rfl
  | c :: l => by rw [hldA, hldA_all g n l]; rfl
theorem hldN_all (g : Gr) (n : Mo) : ∀ l : List Cd, (!hldN l g n) = l.any fun c => hld c g n
  | [] => by rw [hldN]; rfl
  | c :: l => by rw [hldN, List.any_cons, ← hldN_all g n l]; simp
theorem hld_mk (k : Int) (kids : List Cd) (m : Mo) (p : Gr) (sl : List (List AV)) (v : Int) (ts : List (List AV)) (g : Gr) (n : Mo) :
    hld (.mk k kids m p sl v ts) g n = if k = 2 then !hldH kids g n else if k = 3 then kids.all (fun c => hld c g n) else if k = 4 then kids.any (fun c => hld c g n) else if k = 5 then nodeR p g (fun q => hldH kids g q) (img p.e.length m.e n.e m.e.length) p.n.length 0 (img p.n.length m.n n.n m.n.length) else true := by
  rw [hld, hldA_all, hldN_all]
theorem shp_kids {k : Int} {kids : List Cd} {m : Mo} {g : Gr} {sl : List (List AV)} {v : Int} {ts : List (List AV)} (h : shp (.mk k kids m g sl v ts) = 0) : okK k kids.length (unu m g && plnB sl v ts) = true := by
  simp only [shp] at h
  split at h
  · assumption
  · simp at h
theorem idx_lit {P : Program} (t : TypeId) (sz : Nat) (x : List AV) (xs : List (List AV)) (tk : Tok) (k : IntKind) : idxAV P t (.list sz (x :: xs) tk) (.v (.int k 0)) = if slT P t = true ∧ sz = esz P t then some (.ptr x) else none :=
  idx_nat (P := P) t sz (x :: xs) tk k 0 (by simp)
theorem ovr_parts {k : Int} {kids : List Cd} {m : Mo} {p : Gr} {sl : List (List AV)} {v : Int} {ts : List (List AV)} {a : Gr} (h : ovr (.mk k kids m p sl v ts) a = 0) :
    shp (.mk k kids m p sl v ts) = 0 ∧ (k = 5 → mErr a p m = 0 ∧ injR a p m = true ∧ ∀ c ∈ kids, ovr c p = 0) ∧ (k ≠ 5 → ∀ c ∈ kids, ovr c a = 0) := by
  rw [ovr_mk] at h
  split at h
  · rename_i h1; exact absurd h h1
  rename_i h1
  refine ⟨by simpa using h1, fun hk => ?_, fun hk => ?_⟩
  · rw [if_pos hk] at h
    split at h
    · rename_i h2; exact absurd h h2
    rename_i h2
    split at h
    · rename_i h3
      exact ⟨by simpa using h2, h3, firstI_zero h⟩
    · simp at h
  · rw [if_neg hk] at h
    exact firstI_zero h
theorem gErr_parts {g : Gr} (h : gErr g = 0) : g.n.length ≤ 40 ∧ g.e.length ≤ 80 ∧ gIn g := by
  unfold gErr at h
  split at h
  · rename_i h1
    split at h
    · rename_i h2; exact ⟨h1.1, h1.2, h2⟩
    · simp at h
  · simp at h
theorem nodeErr_in {a b : Gr} {m : Mo} {i : Nat} (h : nodeErr a b m i = 0) : 0 ≤ m.n.getD i 0 ∧ m.n.getD i 0 < b.n.length := by
  unfold nodeErr at h
  split at h
  · simp at h
  · omega
theorem edgeErr_in {a b : Gr} {m : Mo} {i : Nat} (h : edgeErr a b m i = 0) : 0 ≤ m.e.getD i 0 ∧ m.e.getD i 0 < b.e.length := by
  unfold edgeErr at h
  split at h
  · simp at h
  · omega
theorem mErr_in {a b : Gr} {m : Mo} (h : mErr a b m = 0) : inR b.n.length m.n ∧ inR b.e.length m.e := by
  obtain ⟨_, _, h1, h2, h3, h4⟩ := mErr_ok h
  constructor
  · intro x hx
    obtain ⟨i, hi, rfl⟩ := List.getElem_of_mem hx
    have := nodeErr_in (h3 i (by omega))
    rwa [getD_at hi] at this
  · intro x hx
    obtain ⟨i, hi, rfl⟩ := List.getElem_of_mem hx
    have := edgeErr_in (h4 i (by omega))
    rwa [getD_at hi] at this
theorem img_low {n : Nat} {b m : List Int} (hm : ∀ x ∈ m, -1 ≤ x) (i : Nat) : ∀ x ∈ img n b m i, -1 ≤ x := by
  induction i with
  | zero => intro x hx; rw [img, List.mem_replicate] at hx; omega
  | succ i ih =>
    intro x hx
    rw [img] at hx
    rcases List.mem_or_eq_of_mem_set hx with hx | rfl
    · exact ih x hx
    · by_cases h : i < m.length
      · rw [getD_at h]; exact hm _ (List.getElem_mem h)
      · rw [List.getD, List.getElem?_eq_none (by omega)]; decide
theorem c129 (c : Cd) (g : Gr) (n : Mo) (h : Con Try.prog 88 [cv c, gv g, mv n] 0 (bv (hld c g n))) : Con Try.prog 129 [cv c, .ptr (gcs g), .ptr (mcs n)] 0 (bv (hld c g n)) := by
  refine conT (X := []) (rs := [.tmp 4]) Try.func129 (by kernel_rfl) rfl rfl (by kernel_rfl) ?_
  cases c
  rw [cv_mk] at h ⊢
  simp (dsimp := false) (maxDischargeDepth := 16) only [go_sem, ↓reduceIte, reduceCtorEq, Nat.reduceEqDiff, Nat.reduceAdd, Nat.reduceMul, Nat.reduceSub, Nat.reduceLT, Nat.reduceLeDiff, Nat.reducePow, Int.reduceLT, Int.reduceLE, Int.reduceNeg, Int.reduceToNat]
  refine callK_intro h ?_
  simp (dsimp := false) (maxDischargeDepth := 16) only [go_sem, ↓reduceIte, reduceCtorEq, Nat.reduceEqDiff, Nat.reduceAdd, Nat.reduceMul, Nat.reduceSub, Nat.reduceLT, Nat.reduceLeDiff, Nat.reducePow, Int.reduceLT, Int.reduceLE, Int.reduceNeg, Int.reduceToNat]
  exact finB rfl
theorem c130 (c : Cd) (g : Gr) (n : Mo) (h : Con Try.prog 88 [cv c, gv g, mv n] 0 (bv (hld c g n))) : Con Try.prog 130 [cv c, .ptr (gcs g), .ptr (mcs n)] 0 (bv (!hld c g n)) := by
  refine conT (X := []) (rs := [.tmp 4]) Try.func130 (by kernel_rfl) rfl rfl (by kernel_rfl) ?_
  cases c
  rw [cv_mk] at h ⊢
  simp (dsimp := false) (maxDischargeDepth := 16) only [go_sem, ↓reduceIte, reduceCtorEq, Nat.reduceEqDiff, Nat.reduceAdd, Nat.reduceMul, Nat.reduceSub, Nat.reduceLT, Nat.reduceLeDiff, Nat.reducePow, Int.reduceLT, Int.reduceLE, Int.reduceNeg, Int.reduceToNat]
  refine callK_intro h ?_
  simp (dsimp := false) (maxDischargeDepth := 16) only [go_sem, ↓reduceIte, reduceCtorEq, Nat.reduceEqDiff, Nat.reduceAdd, Nat.reduceMul, Nat.reduceSub, Nat.reduceLT, Nat.reduceLeDiff, Nat.reducePow, Int.reduceLT, Int.reduceLE, Int.reduceNeg, Int.reduceToNat]
  exact finB rfl
theorem c133 (k : Int) (c : Cd) (m : Mo) (p : Gr) (sl : List (List AV)) (v : Int) (ts : List (List AV)) (g : Gr) (n : Mo) (h : Con Try.prog 88 [cv c, gv g, mv n] 0 (bv (hld c g n))) : Con Try.prog 133 [mv n, .ptr (ccs (.mk k [c] m p sl v ts)), .ptr (gcs g)] 0 (bv (hld c g n)) := by
  refine conT (X := []) (rs := [.tmp 4]) Try.func133 (by kernel_rfl) rfl rfl (by kernel_rfl) ?_
  simp (dsimp := false) (maxDischargeDepth := 16) only [go_sem, ↓reduceIte, reduceCtorEq, Nat.reduceEqDiff, Nat.reduceAdd, Nat.reduceMul, Nat.reduceSub, Nat.reduceLT, Nat.reduceLeDiff, Nat.reducePow, Int.reduceLT, Int.reduceLE, Int.reduceNeg, Int.reduceToNat, List.map_cons, List.map_nil, idx_lit]
  refine callK_intro h ?_
  simp (dsimp := false) (maxDischargeDepth := 16) only [go_sem, ↓reduceIte, reduceCtorEq, Nat.reduceEqDiff, Nat.reduceAdd, Nat.reduceMul, Nat.reduceSub, Nat.reduceLT, Nat.reduceLeDiff, Nat.reducePow, Int.reduceLT, Int.reduceLE, Int.reduceNeg, Int.reduceToNat]
  exact finB rfl
theorem c88 (g : Gr) (hgn : g.n.length ≤ 1000) (hge : g.e.length ≤ 1000) (c : Cd) : ∀ (a : Gr) (n : Mo), gErr a = 0 → ovr c a = 0 → n.n.length = a.n.length → n.e.length = a.e.length → (∀ x ∈ n.n, -1 ≤ x) → (∀ x ∈ n.e, -1 ≤ x) → Con Try.prog 88 [cv c, gv g, mv n] 0 (bv (hld c g n)) := by
  induction c using Cd.ind
  rename_i k kids m p sl v ts ih
  intro a n hga ho hn he hln hle
  refine Con.assume (enters_of Try.func88 (by kernel_rfl) rfl) fun hb => ?_
  have hlen := bnd_cv (hb _ (List.mem_cons_self ..))
  clear hb
  obtain ⟨hs, h5, h4⟩ := ovr_parts ho
  have hk := shp_kids hs
  clear hs ho
  rw [hld_mk]
  have hno : ∀ (h : k ≠ 5), ∀ x ∈ kids, Con Try.prog 130 [cv x, .ptr (gcs g), .ptr (mcs n)] 0 (bv (!hld x g n)) := fun h x hx => c130 x g n (ih x hx a n hga (h4 h x hx) hn he hln hle)
  have hyes : ∀ (h : k ≠ 5), ∀ x ∈ kids, Con Try.prog 129 [cv x, .ptr (gcs g), .ptr (mcs n)] 0 (bv (hld x g n)) := fun h x hx => c129 x g n (ih x hx a n hga (h4 h x hx) hn he hln hle)
  refine conXT (X := [(1, [4, 5], []), (13, [3], [])]) (H := [(14, [(1, 2)])]) (rs := [.tmp 6]) Try.func88 (by kernel_rfl) rfl rfl (by kernel_rfl) ?_
  simp (dsimp := false) (maxDischargeDepth := 16) only [go_sem, ↓reduceIte, reduceCtorEq, Nat.reduceEqDiff, Nat.reduceAdd, Nat.reduceMul, Nat.reduceSub, Nat.reduceLT, Nat.reduceLeDiff, Nat.reducePow, Int.reduceLT, Int.reduceLE, Int.reduceNeg, Int.reduceToNat]
  refine condK_intro (fun q2 => ?_) (fun q2 => ?_)
  · obtain rfl : k = 2 := eq_of_beq q2
    obtain ⟨c, rfl⟩ : ∃ c, kids = [c] := by
      simp [okK] at hk
      exact List.length_eq_one_iff.1 (by omega)
    simp (dsimp := false) (maxDischargeDepth := 16) only [go_sem, ↓reduceIte, reduceCtorEq, Nat.reduceEqDiff, Nat.reduceAdd, Nat.reduceMul, Nat.reduceSub, Nat.reduceLT, Nat.reduceLeDiff, Nat.reducePow, Int.reduceLT, Int.reduceLE, Int.reduceNeg, Int.reduceToNat, q2, List.map_cons, List.map_nil, idx_lit]
    refine callK_intro (hno (by decide) c (by simp)) ?_
    simp (dsimp := false) (maxDischargeDepth := 16) only [go_sem, ↓reduceIte, reduceCtorEq, Nat.reduceEqDiff, Nat.reduceAdd, Nat.reduceMul, Nat.reduceSub, Nat.reduceLT, Nat.reduceLeDiff, Nat.reducePow, Int.reduceLT, Int.reduceLE, Int.reduceNeg, Int.reduceToNat]
    exact finB (by simp [hldH])
  have n2 : k ≠ 2 := by simpa using q2
  rw [if_neg n2]
  simp (dsimp := false) (maxDischargeDepth := 16) only [go_sem, ↓reduceIte, reduceCtorEq, Nat.reduceEqDiff, Nat.reduceAdd, Nat.reduceMul, Nat.reduceSub, Nat.reduceLT, Nat.reduceLeDiff, Nat.reducePow, Int.reduceLT, Int.reduceLE, Int.reduceNeg, Int.reduceToNat, q2]
  refine condK_intro (fun q3 => ?_) (fun q3 => ?_)
  · obtain rfl : k = 3 := eq_of_beq q3
    simp (dsimp := false) (maxDischargeDepth := 16) only [go_sem, ↓reduceIte, reduceCtorEq, Nat.reduceEqDiff, Nat.reduceAdd, Nat.reduceMul, Nat.reduceSub, Nat.reduceLT, Nat.reduceLeDiff, Nat.reducePow, Int.reduceLT, Int.reduceLE, Int.reduceNeg, Int.reduceToNat, q2, q3]
    refine callK_intro (c131 kids 130 [.ptr (gcs g), .ptr (mcs n)] (fun x => !hld x g n) hlen (hno (by decide))) ?_
    simp (dsimp := false) (maxDischargeDepth := 16) only [go_sem, ↓reduceIte, reduceCtorEq, Nat.reduceEqDiff, Nat.reduceAdd, Nat.reduceMul, Nat.reduceSub, Nat.reduceLT, Nat.reduceLeDiff, Nat.reducePow, Int.reduceLT, Int.reduceLE, Int.reduceNeg, Int.reduceToNat]
    refine finB ?_
    simp [List.all_eq_not_any_not]
  have n3 : k ≠ 3 := by simpa using q3
  rw [if_neg n3]
  simp (dsimp := false) (maxDischargeDepth := 16) only [go_sem, ↓reduceIte, reduceCtorEq, Nat.reduceEqDiff, Nat.reduceAdd, Nat.reduceMul, Nat.reduceSub, Nat.reduceLT, Nat.reduceLeDiff, Nat.reducePow, Int.reduceLT, Int.reduceLE, Int.reduceNeg, Int.reduceToNat, q2, q3]
  refine condK_intro (fun q4 => ?_) (fun q4 => ?_)
  · obtain rfl : k = 4 := eq_of_beq q4
    simp (dsimp := false) (maxDischargeDepth := 16) only [go_sem, ↓reduceIte, reduceCtorEq, Nat.reduceEqDiff, Nat.reduceAdd, Nat.reduceMul, Nat.reduceSub, Nat.reduceLT, Nat.reduceLeDiff, Nat.reducePow, Int.reduceLT, Int.reduceLE, Int.reduceNeg, Int.reduceToNat, q2, q3, q4]
    refine callK_intro (c131 kids 129 [.ptr (gcs g), .ptr (mcs n)] (fun x => hld x g n) hlen (hyes (by decide))) ?_
    simp (dsimp := false) (maxDischargeDepth := 16) only [go_sem, ↓reduceIte, reduceCtorEq, Nat.reduceEqDiff, Nat.reduceAdd, Nat.reduceMul, Nat.reduceSub, Nat.reduceLT, Nat.reduceLeDiff, Nat.reducePow, Int.reduceLT, Int.reduceLE, Int.reduceNeg, Int.reduceToNat]
    exact finB (by simp)
  have n4 : k ≠ 4 := by simpa using q4
  rw [if_neg n4]
  simp (dsimp := false) (maxDischargeDepth := 16) only [go_sem, ↓reduceIte, reduceCtorEq, Nat.reduceEqDiff, Nat.reduceAdd, Nat.reduceMul, Nat.reduceSub, Nat.reduceLT, Nat.reduceLeDiff, Nat.reducePow, Int.reduceLT, Int.reduceLE, Int.reduceNeg, Int.reduceToNat, q2, q3, q4]
  refine condK_intro (fun q5 => ?_) (fun q5 => ?_)
  · obtain rfl : k = 5 := eq_of_beq q5
    obtain ⟨c, rfl⟩ : ∃ c, kids = [c] := by
      simp [okK] at hk
      exact List.length_eq_one_iff.1 (by omega)
    obtain ⟨hm0, hinj, hov⟩ := h5 rfl
    have hmo := mErr_ok hm0
    obtain ⟨hgp, hpn, hpe, hpi⟩ : gErr p = 0 ∧ p.n.length ≤ 40 ∧ p.e.length ≤ 80 ∧ gIn p := ⟨hmo.2.1, gErr_parts hmo.2.1⟩
    obtain ⟨i1, i2⟩ := mErr_in hm0
    have K1 := c132 p.n.length m.n n.n (by omega) i1 (by omega) (by have := gErr_parts hga; omega)
    have K2 := c132 p.e.length m.e n.e (by omega) i2 (by omega) (by have := gErr_parts hga; omega)
    have hl1 := img_len p.n.length m.n n.n m.n.length
    have hl2 := img_len p.e.length m.e n.e m.e.length
    have hx : ∀ x ∈ p.e, (0 ≤ x.2.1 ∧ x.2.1.toNat < p.n.length) ∧ 0 ≤ x.2.2 ∧ x.2.2.toNat < p.n.length := fun x hx => by
      have := hpi.2 x hx
      unfold edOK at this
      omega
    have K := c134 p g (img p.e.length m.e n.e m.e.length) 133 [.ptr (ccs (.mk 5 [c] m p sl v ts)), .ptr (gcs g)] (fun q => hld c g q) hx (by omega) (by omega) hgn hge (by simp [clean]) hl2 (img_low hle _)
      (fun l1 m1 h1 h2 h3 h4 => c133 5 c m p sl v ts g ⟨l1, m1⟩ (ih c (by simp) p ⟨l1, m1⟩ hgp (hov c (by simp)) h1 h2 h3 h4)) p.n.length 0 (img p.n.length m.n n.n m.n.length) (by omega) hl1 (img_low hln _)
    generalize img p.n.length m.n n.n m.n.length = z1 at *
    generalize img p.e.length m.e n.e m.e.length = z2 at *
    simp (dsimp := false) (maxDischargeDepth := 16) only [go_sem, ↓reduceIte, reduceCtorEq, Nat.reduceEqDiff, Nat.reduceAdd, Nat.reduceMul, Nat.reduceSub, Nat.reduceLT, Nat.reduceLeDiff, Nat.reducePow, Int.reduceLT, Int.reduceLE, Int.reduceNeg, Int.reduceToNat, q2, q3, q4, q5, List.map_cons, List.map_nil]
    refine callB_intro (m := 1) K1 ?_
    simp (dsimp := false) (maxDischargeDepth := 16) only [go_sem, ↓reduceIte, reduceCtorEq, Nat.reduceEqDiff, Nat.reduceAdd, Nat.reduceMul, Nat.reduceSub, Nat.reduceLT, Nat.reduceLeDiff, Nat.reducePow, Int.reduceLT, Int.reduceLE, Int.reduceNeg, Int.reduceToNat, List.map_cons, List.map_nil]
    refine callB_intro (m := 1) K2 ?_
    simp (dsimp := false) (maxDischargeDepth := 16) only [go_sem, ↓reduceIte, reduceCtorEq, Nat.reduceEqDiff, Nat.reduceAdd, Nat.reduceMul, Nat.reduceSub, Nat.reduceLT, Nat.reduceLeDiff, Nat.reducePow, Int.reduceLT, Int.reduceLE, Int.reduceNeg, Int.reduceToNat, List.map_cons, List.map_nil]
    refine ⟨⟨by kernel_rfl, by kernel_rfl⟩, ?_⟩
    refine stepM_intro (62, 0, 0) (51, 0, 0) (60, 0, 0) K ?_ (by decide) rfl ?_ ?_ ?_ ?_ rfl (by simp [clean]) (by decide) ?_
    · simp (dsimp := false) (maxDischargeDepth := 16) only [go_sem, ↓reduceIte, reduceCtorEq, Nat.reduceEqDiff, Nat.reduceAdd, Nat.reduceMul, Nat.reduceSub, Nat.reduceLT, Nat.reduceLeDiff, Nat.reducePow, Int.reduceLT, Int.reduceLE, Int.reduceNeg, Int.reduceToNat]
      rfl
    · simp (dsimp := false) (maxDischargeDepth := 16) only [go_sem, ↓reduceIte, reduceCtorEq, Nat.reduceEqDiff, Nat.reduceAdd, Nat.reduceMul, Nat.reduceSub, Nat.reduceLT, Nat.reduceLeDiff, Nat.reducePow, Int.reduceLT, Int.reduceLE, Int.reduceNeg, Int.reduceToNat]
    · simp (dsimp := false) (maxDischargeDepth := 16) only [go_sem, ↓reduceIte, reduceCtorEq, Nat.reduceEqDiff, Nat.reduceAdd, Nat.reduceMul, Nat.reduceSub, Nat.reduceLT, Nat.reduceLeDiff, Nat.reducePow, Int.reduceLT, Int.reduceLE, Int.reduceNeg, Int.reduceToNat]
      rw [xcell, hl1, hl2]
      rfl
    · simp (dsimp := false) (maxDischargeDepth := 16) only [go_sem, ↓reduceIte, reduceCtorEq, Nat.reduceEqDiff, Nat.reduceAdd, Nat.reduceMul, Nat.reduceSub, Nat.reduceLT, Nat.reduceLeDiff, Nat.reducePow, Int.reduceLT, Int.reduceLE, Int.reduceNeg, Int.reduceToNat]
    · simp (dsimp := false) (maxDischargeDepth := 16) only [go_sem, ↓reduceIte, reduceCtorEq, Nat.reduceEqDiff, Nat.reduceAdd, Nat.reduceMul, Nat.reduceSub, Nat.reduceLT, Nat.reduceLeDiff, Nat.reducePow, Int.reduceLT, Int.reduceLE, Int.reduceNeg, Int.reduceToNat]
    intro l' m' hl' hm' hbb
    simp (dsimp := false) (maxDischargeDepth := 16) only [go_sem, ↓reduceIte, reduceCtorEq, Nat.reduceEqDiff, Nat.reduceAdd, Nat.reduceMul, Nat.reduceSub, Nat.reduceLT, Nat.reduceLeDiff, Nat.reducePow, Int.reduceLT, Int.reduceLE, Int.reduceNeg, Int.reduceToNat, xcell]
    exact finB rfl
  have n5 : k ≠ 5 := by simpa using q5
  rw [if_neg n5]
  simp (dsimp := false) (maxDischargeDepth := 16) only [go_sem, ↓reduceIte, reduceCtorEq, Nat.reduceEqDiff, Nat.reduceAdd, Nat.reduceMul, Nat.reduceSub, Nat.reduceLT, Nat.reduceLeDiff, Nat.reducePow, Int.reduceLT, Int.reduceLE, Int.reduceNeg, Int.reduceToNat, q2, q3, q4, q5]
  exact finB rfl
/-- Satisfies. -/
def satR (a : Gr) (c : Cd) (g : Gr) (n : Mo) : Bool × Int := if injE a g n ≠ 0 then (false, injE a g n) else if vld a c ≠ 0 then (false, vld a c) else (hld c g n, 0)
theorem injE_ok {a b : Gr} {m : Mo} (h : injE a b m = 0) : mErr a b m = 0 ∧ injR a b m = true := by
  unfold injE at h
  split at h
  · rename_i h1; exact absurd h h1
  rename_i h1
  split at h
  · rename_i h2; exact ⟨by simpa using h1, h2⟩
  · simp at h
theorem vld_ok {a : Gr} {c : Cd} (h : vld a c = 0) : gErr a = 0 ∧ ovr c a = 0 ∧ lrg c = 0 := by
  unfold vld at h
  split at h
  · rename_i h1; exact absurd h h1
  rename_i h1
  split at h
  · rename_i h2; exact absurd h h2
  rename_i h2
  exact ⟨by simpa using h1, by simpa using h2, h⟩
theorem c40 (a : Gr) (c : Cd) (g : Gr) (n : Mo) : Con Try.prog 40 [gv a, cv c, gv g, mv n] 0 (.tup [bv (satR a c g n).1, iv (satR a c g n).2]) := by
  refine conT (X := []) (rs := [.tmp 8, .tmp 9]) Try.func40 (by kernel_rfl) rfl rfl (by kernel_rfl) ?_
  have K1 := c87 a g n
  have K2 := c54 a c
  have K3 : injE a g n = 0 → vld a c = 0 → Con Try.prog 88 [cv c, gv g, mv n] 0 (bv (hld c g n)) := fun h1 h2 => by
    obtain ⟨m1, _⟩ := injE_ok h1
    obtain ⟨v1, v2, _⟩ := vld_ok h2
    have o := mErr_ok m1
    have hg := gErr_parts o.2.1
    obtain ⟨i1, i2⟩ := mErr_in m1
    exact c88 g (by omega) (by omega) c a n v1 v2 o.2.2.1 o.2.2.2.1 (fun x hx => by have := (i1 x hx).1; omega) (fun x hx => by have := (i2 x hx).1; omega)
  have es : satR a c g n = if injE a g n ≠ 0 then (false, injE a g n) else if vld a c ≠ 0 then (false, vld a c) else (hld c g n, 0) := rfl
  rw [es]
  clear es
  generalize injE a g n = e1 at *
  generalize vld a c = e2 at *
  cases c
  rw [cv_mk] at K2 K3 ⊢
  simp (dsimp := false) (maxDischargeDepth := 16) only [go_sem, ↓reduceIte, reduceCtorEq, Nat.reduceEqDiff, Nat.reduceAdd, Nat.reduceMul, Nat.reduceSub, Nat.reduceLT, Nat.reduceLeDiff, Nat.reducePow, Int.reduceLT, Int.reduceLE, Int.reduceNeg, Int.reduceToNat]
  refine callK_intro K1 ?_
  simp (dsimp := false) (maxDischargeDepth := 16) only [go_sem, ↓reduceIte, reduceCtorEq, Nat.reduceEqDiff, Nat.reduceAdd, Nat.reduceMul, Nat.reduceSub, Nat.reduceLT, Nat.reduceLeDiff, Nat.reducePow, Int.reduceLT, Int.reduceLE, Int.reduceNeg, Int.reduceToNat]
  refine condK_intro (fun q1 => ?_) (fun q1 => ?_)
  · simp (dsimp := false) (maxDischargeDepth := 16) only [go_sem, ↓reduceIte, reduceCtorEq, Nat.reduceEqDiff, Nat.reduceAdd, Nat.reduceMul, Nat.reduceSub, Nat.reduceLT, Nat.reduceLeDiff, Nat.reducePow, Int.reduceLT, Int.reduceLE, Int.reduceNeg, Int.reduceToNat, q1]
    rw [if_pos (ne0_T q1)]
    exact finK ⟨rfl, rfl⟩
  rw [if_neg (by simp [ne0_F q1])]
  simp (dsimp := false) (maxDischargeDepth := 16) only [go_sem, ↓reduceIte, reduceCtorEq, Nat.reduceEqDiff, Nat.reduceAdd, Nat.reduceMul, Nat.reduceSub, Nat.reduceLT, Nat.reduceLeDiff, Nat.reducePow, Int.reduceLT, Int.reduceLE, Int.reduceNeg, Int.reduceToNat, q1]
  refine callK_intro K2 ?_
  simp (dsimp := false) (maxDischargeDepth := 16) only [go_sem, ↓reduceIte, reduceCtorEq, Nat.reduceEqDiff, Nat.reduceAdd, Nat.reduceMul, Nat.reduceSub, Nat.reduceLT, Nat.reduceLeDiff, Nat.reducePow, Int.reduceLT, Int.reduceLE, Int.reduceNeg, Int.reduceToNat]
  refine condK_intro (fun q2 => ?_) (fun q2 => ?_)
  · simp (dsimp := false) (maxDischargeDepth := 16) only [go_sem, ↓reduceIte, reduceCtorEq, Nat.reduceEqDiff, Nat.reduceAdd, Nat.reduceMul, Nat.reduceSub, Nat.reduceLT, Nat.reduceLeDiff, Nat.reducePow, Int.reduceLT, Int.reduceLE, Int.reduceNeg, Int.reduceToNat, q1, q2]
    rw [if_pos (ne0_T q2)]
    exact finK ⟨rfl, rfl⟩
  rw [if_neg (by simp [ne0_F q2])]
  simp (dsimp := false) (maxDischargeDepth := 16) only [go_sem, ↓reduceIte, reduceCtorEq, Nat.reduceEqDiff, Nat.reduceAdd, Nat.reduceMul, Nat.reduceSub, Nat.reduceLT, Nat.reduceLeDiff, Nat.reducePow, Int.reduceLT, Int.reduceLE, Int.reduceNeg, Int.reduceToNat, q1, q2]
  refine callK_intro (K3 (ne0_F q1) (ne0_F q2)) ?_
  simp (dsimp := false) (maxDischargeDepth := 16) only [go_sem, ↓reduceIte, reduceCtorEq, Nat.reduceEqDiff, Nat.reduceAdd, Nat.reduceMul, Nat.reduceSub, Nat.reduceLT, Nat.reduceLeDiff, Nat.reducePow, Int.reduceLT, Int.reduceLE, Int.reduceNeg, Int.reduceToNat]
  exact finK ⟨rfl, rfl⟩
/-- Two ways lead to the same elements. -/
def agr (a b c d : List Int) : Bool := (List.range a.length).all fun i => b.getD (a.getD i 0).toNat 0 == d.getD (c.getD i 0).toNat 0
theorem c151 (a b c d : List Int) (ha : inR b.length a) (hc : inR d.length c) (hl : a.length ≤ c.length) (hb : a.length ≤ 1000) : Con Try.prog 151 [lv a, lv b, lv c, lv d] 0 (bv (agr a b c d)) := by
  refine conT (X := []) (rs := [.tmp 8]) Try.func151 (by kernel_rfl) rfl rfl (by kernel_rfl) ?_
  simp (dsimp := false) (maxDischargeDepth := 16) only [go_sem, ↓reduceIte, reduceCtorEq, Nat.reduceEqDiff, Nat.reduceAdd, Nat.reduceMul, Nat.reduceSub, Nat.reduceLT, Nat.reduceLeDiff, Nat.reducePow, Int.reduceLT, Int.reduceLE, Int.reduceNeg, Int.reduceToNat]
  refine loopK_intro (fun (i : Nat) s => i ≤ a.length ∧ s.t 0 = lv a ∧ s.t 1 = lv b ∧ s.t 2 = lv c ∧ s.t 3 = lv d ∧ s.t 11 = iv a.length ∧ s.t 12 = iv i ∧ ∀ j, j < i → (b.getD (a.getD j 0).toNat 0 == d.getD (c.getD j 0).toNat 0) = true) (fun i => a.length - i) ⟨0, by omega, rfl, rfl, rfl, rfl, rfl, rfl, fun j hj => by omega⟩ ?_
  rintro i s ⟨hi, t0, t1, t2, t3, t11, t12, hall⟩
  simp (dsimp := false) (maxDischargeDepth := 16) only [go_sem, ↓reduceIte, reduceCtorEq, Nat.reduceEqDiff, Nat.reduceAdd, Nat.reduceMul, Nat.reduceSub, Nat.reduceLT, Nat.reduceLeDiff, Nat.reducePow, Int.reduceLT, Int.reduceLE, Int.reduceNeg, Int.reduceToNat, t0, t1, t2, t3, t11, t12]
  refine condK_dec (fun h6 => ?_) (fun h6 => ?_)
  · have h7 : i < c.length := by omega
    have x1 := ha _ (List.getElem_mem h6)
    have x2 := hc _ (List.getElem_mem h7)
    have y1 : a[i].toNat < b.length := by omega
    have y2 : c[i].toNat < d.length := by omega
    have eb : (b.getD (a.getD i 0).toNat 0 == d.getD (c.getD i 0).toNat 0) = (b[a[i].toNat] == d[c[i].toNat]) := by rw [getD_at h6, getD_at h7, getD_at y1, getD_at y2]
    simp (dsimp := false) (maxDischargeDepth := 16) only [go_sem, ↓reduceIte, reduceCtorEq, Nat.reduceEqDiff, Nat.reduceAdd, Nat.reduceMul, Nat.reduceSub, Nat.reduceLT, Nat.reduceLeDiff, Nat.reducePow, Int.reduceLT, Int.reduceLE, Int.reduceNeg, Int.reduceToNat, t0, t1, t2, t3, t11, t12, h6, h7, idx_nat, idx_int, x1.1, x2.1, y1, y2]
    refine condK_intro (fun h8 => ?_) (fun h8 => ?_)
    · simp (dsimp := false) (maxDischargeDepth := 16) only [go_sem, ↓reduceIte, reduceCtorEq, Nat.reduceEqDiff, Nat.reduceAdd, Nat.reduceMul, Nat.reduceSub, Nat.reduceLT, Nat.reduceLeDiff, Nat.reducePow, Int.reduceLT, Int.reduceLE, Int.reduceNeg, Int.reduceToNat, t0, t1, t2, t3, t11, t12, h6, h8]
      refine finB ?_
      unfold agr
      rw [List.all_eq_false]
      exact ⟨i, List.mem_range.2 h6, by rw [eb]; simpa using h8⟩
    · simp (dsimp := false) (maxDischargeDepth := 16) only [go_sem, ↓reduceIte, reduceCtorEq, Nat.reduceEqDiff, Nat.reduceAdd, Nat.reduceMul, Nat.reduceSub, Nat.reduceLT, Nat.reduceLeDiff, Nat.reducePow, Int.reduceLT, Int.reduceLE, Int.reduceNeg, Int.reduceToNat, t0, t1, t2, t3, t11, t12, h6, h8]
      refine ⟨i + 1, by omega, by omega, by rw [wrapN _ (by omega)], fun j hj => ?_⟩
      by_cases e : j = i
      · subst e; rw [eb]; simpa using h8
      · exact hall j (by omega)
  · simp (dsimp := false) (maxDischargeDepth := 16) only [go_sem, ↓reduceIte, reduceCtorEq, Nat.reduceEqDiff, Nat.reduceAdd, Nat.reduceMul, Nat.reduceSub, Nat.reduceLT, Nat.reduceLeDiff, Nat.reducePow, Int.reduceLT, Int.reduceLE, Int.reduceNeg, Int.reduceToNat, t0, t1, t2, t3, t11, t12, h6]
    refine finB ?_
    unfold agr
    rw [List.all_eq_true]
    intro j hj
    exact hall j (by have := List.mem_range.1 hj; omega)
end Go.Sy

/- Contracts: shifting. -/
set_option linter.unusedSimpArgs false
namespace Go.Sy
open Go Go.Proofs

def zc (k : Int) : Cd := .mk k [] ⟨[], []⟩ ⟨[], []⟩ [] 0 []
def kc (k : Int) (l : List Cd) : Cd := .mk k l ⟨[], []⟩ ⟨[], []⟩ [] 0 []
def xc (o : Ov) (c : Cd) : Cd := .mk 5 [c] o.l o.g [] 0 []

mutual
def szN : Cd → Nat
  | .mk _ kids _ _ _ _ _ => szNL kids + 1
def szNL : List Cd → Nat
  | [] => 0
  | c :: l => szN c + szNL l
end
mutual
def shf : Cd → Gr → Mo → Int × Int → Cd × Int × Int
  | .mk k kids m0 p _ _ _, b, m, s =>
    if (if 2000 < IntKind.i64.wrap (s.1 + 1) then 3 else s.2) ≠ 0 then (zc k, IntKind.i64.wrap (s.1 + 1), if 2000 < IntKind.i64.wrap (s.1 + 1) then 3 else s.2) else
    if k ≠ 5 then (kc k (shfL kids b m ([], IntKind.i64.wrap (s.1 + 1), 0)).1, (shfL kids b m ([], IntKind.i64.wrap (s.1 + 1), 0)).2) else
    if (ovS b p).2 ≠ 0 then (zc 4, IntKind.i64.wrap (s.1 + 1), (ovS b p).2) else
      (kc 4 ((ovS b p).1.foldl (fun acc o => if agr m.n o.l.n m0.n o.r.n && agr m.e o.l.e m0.e o.r.e then (acc.1 ++ [xc o (shfH kids o.g o.r (IntKind.i64.wrap (acc.2.1 + 1), acc.2.2)).1], (shfH kids o.g o.r (IntKind.i64.wrap (acc.2.1 + 1), acc.2.2)).2) else acc) ([], IntKind.i64.wrap (s.1 + 1), 0)).1,
        ((ovS b p).1.foldl (fun acc o => if agr m.n o.l.n m0.n o.r.n && agr m.e o.l.e m0.e o.r.e then (acc.1 ++ [xc o (shfH kids o.g o.r (IntKind.i64.wrap (acc.2.1 + 1), acc.2.2)).1], (shfH kids o.g o.r (IntKind.i64.wrap (acc.2.1 + 1), acc.2.2)).2) else acc) ([], IntKind.i64.wrap (s.1 + 1), 0)).2)
def shfL : List Cd → Gr → Mo → List Cd × Int × Int → List Cd × Int × Int
  | [], _, _, acc => acc
  | c :: l, b, m, acc => shfL l b m (acc.1 ++ [(shf c b m acc.2).1], (shf c b m acc.2).2)
def shfH : List Cd → Gr → Mo → Int × Int → Cd × Int × Int
  | [], _, _, s => (zc 0, s)
  | c :: _, b, m, s => shf c b m s
end
def shfF (b : Gr) (m : Mo) (acc : List Cd × Int × Int) (c : Cd) : List Cd × Int × Int := (acc.1 ++ [(shf c b m acc.2).1], (shf c b m acc.2).2)
def agrO (m m0 : Mo) (o : Ov) : Bool := agr m.n o.l.n m0.n o.r.n && agr m.e o.l.e m0.e o.r.e
def shfO (m m0 : Mo) (kids : List Cd) (acc : List Cd × Int × Int) (o : Ov) : List Cd × Int × Int :=
  if agrO m m0 o then (acc.1 ++ [xc o (shfH kids o.g o.r (IntKind.i64.wrap (acc.2.1 + 1), acc.2.2)).1], (shfH kids o.g o.r (IntKind.i64.wrap (acc.2.1 + 1), acc.2.2)).2) else acc
theorem shfL_fold (b : Gr) (m : Mo) : ∀ (l : List Cd) (acc : List Cd × Int × Int), shfL l b m acc = l.foldl (shfF b m) acc
  | [], _ => by rw [shfL]; rfl
  | c :: l, acc => by rw [shfL, shfL_fold b m l]; rfl
def inc (n : Int) : Int := IntKind.i64.wrap (n + 1)
def big (n e : Int) : Int := if 2000 < n then 3 else e
theorem shf_mk (k : Int) (kids : List Cd) (m0 : Mo) (p : Gr) (sl : List (List AV)) (v : Int) (ts : List (List AV)) (b : Gr) (m : Mo) (n e : Int) :
    shf (.mk k kids m0 p sl v ts) b m (n, e) = if big (inc n) e ≠ 0 then (zc k, inc n, big (inc n) e) else if k ≠ 5 then (kc k (kids.foldl (shfF b m) ([], inc n, 0)).1, (kids.foldl (shfF b m) ([], inc n, 0)).2) else
      if (ovS b p).2 ≠ 0 then (zc 4, inc n, (ovS b p).2) else (kc 4 ((ovS b p).1.foldl (shfO m m0 kids) ([], inc n, 0)).1, ((ovS b p).1.foldl (shfO m m0 kids) ([], inc n, 0)).2) := by
  rw [shf, shfL_fold]
  rfl
theorem szN_kid {k : Int} {kids : List Cd} {m0 : Mo} {p : Gr} {sl : List (List AV)} {v : Int} {ts : List (List AV)} {N : Nat} (h : szN (.mk k kids m0 p sl v ts) ≤ N) : kids.length ≤ N ∧ ∀ c ∈ kids, szN c ≤ N := by
  rw [szN] at h
  have g : ∀ l : List Cd, l.length ≤ szNL l ∧ ∀ c ∈ l, szN c ≤ szNL l := by
    intro l
    induction l with
    | nil => simp
    | cons c l ih =>
      rw [szNL]
      have : 1 ≤ szN c := by cases c; rw [szN]; omega
      refine ⟨by simp; omega, fun d hd => ?_⟩
      rcases List.mem_cons.1 hd with rfl | hd
      · omega
      · have := ih.2 d hd; omega
  have := g kids
  exact ⟨by omega, fun c hc => by have := this.2 c hc; omega⟩
theorem ovS_ok {a b : Gr} (ha : gErr a = 0) (hb : gErr b = 0) (he : (ovS a b).2 = 0) : (a.n.length + b.n.length ≤ 40 ∧ a.e.length + b.e.length ≤ 80) ∧ (ovS a b).1 = (ovP a b).map (fun p => glue a b p.1 p.2) ∧ (ovS a b).1.length ≤ 2000 := by
  have hs : a.n.length + b.n.length ≤ 40 ∧ a.e.length + b.e.length ≤ 80 := by
    rw [ovS, if_neg (by simp [ha]), if_neg (by simp [hb])] at he
    split at he
    · simp at he
    · omega
  rw [ovS_eq ha hb hs] at he ⊢
  split at he
  · simp at he
  · rename_i h1
    rw [if_neg h1]
    exact ⟨hs, rfl, by simpa using h1⟩
theorem ovS_mem {a b : Gr} (ha : gErr a = 0) (hb : gErr b = 0) (he : (ovS a b).2 = 0) {o : Ov} (ho : o ∈ (ovS a b).1) : injR a o.g o.l = true ∧ injR b o.g o.r = true ∧ mErr a o.g o.l = 0 ∧ mErr b o.g o.r = 0 := by
  obtain ⟨hs, h1, _⟩ := ovS_ok ha hb he
  rw [h1] at ho
  obtain ⟨p, hp, rfl⟩ := List.mem_map.1 ho
  have hM := (memP a b p).1 hp
  have hg := glue_small hs hM
  obtain ⟨i1, i2, _⟩ := glue_all ha hb hg hM
  exact ⟨i1, i2, glue_left ha hb hg hM, glue_right ha hb hg hM⟩
theorem shfF_len (b : Gr) (m : Mo) (kids : List Cd) : ∀ (i : Nat) (s : Int × Int), i ≤ kids.length → ((kids.take i).foldl (shfF b m) ([], s)).1.length = i
  | 0, _, _ => rfl
  | i + 1, s, h => by
    rw [foldl_take h]
    simp [shfF, shfF_len b m kids i s (by omega)]
theorem ccs_cf (c : Cd) : ((ccs c).all fun x => clean (fgt x)) = true := by
  cases c
  rw [ccs_mk]
  rfl
theorem ccs_kc (k : Int) (l : List Cd) : ccs (kc k l) = [iv k, .list 9 (l.map ccs) .no, lv [], lv [], lv [], elv [], .list 4 [] .no, iv 0, .list 5 [] .no] := by rw [kc, ccs_mk]
theorem lastKey_v (v : Value) : lastKey (.v v) = none := rfl
theorem tokOK_ecall {s : St} {dst : Option Nat} {k : Key} {v : AV} {c : List AV} {tk : Tok} (h : tokOK s tk = true) : tokOK (s.ecall dst k v c none) tk = true := by
  cases tk with
  | no => exact h
  | nil => rfl
  | own k' =>
    simp only [tokOK, Bool.not_eq_true'] at h ⊢
    show upd s.d (k.1, s.g k.1, 0) false k' = false
    unfold upd
    split
    · rfl
    · exact h
theorem c128 (c : Cd) : ∀ (a b : Gr) (m : Mo) (n e : Int), szN c ≤ 1000000 → mErr a b m = 0 → ovr c a = 0 → ECon Try.prog 128 [gv b, mv m, cv c] [iv n] (iv e) (cv (shf c b m (n, e)).1) [iv (shf c b m (n, e)).2.1] (iv (shf c b m (n, e)).2.2) := by
  induction c using Cd.ind
  rename_i k kids m0 p sl v ts ih
  intro a b m n e hN hm ho
  obtain ⟨hs, h5, h4⟩ := ovr_parts ho
  obtain ⟨hNk, hNc⟩ := szN_kid hN
  have hk := shp_kids hs
  have hmo := mErr_ok hm
  rw [shf_mk]
  refine econT (X := [(11, [], [(53, [51], [51, 52, 53, 54, 55, 56, 57, 58, 59, 60])]), (24, [], [(120, [], [120, 121, 122, 123, 124, 125, 126, 127, 128, 129, 16])])]) (rs := [.cell 8 69]) Try.func128 (by kernel_rfl) rfl rfl (by kernel_rfl) ?_
  simp (dsimp := false) (maxDischargeDepth := 16) only [go_sem, ↓reduceIte, reduceCtorEq, Nat.reduceEqDiff, Nat.reduceAdd, Nat.reduceMul, Nat.reduceSub, Nat.reduceLT, Nat.reduceLeDiff, Nat.reducePow, Int.reduceLT, Int.reduceLE, Int.reduceNeg, Int.reduceToNat]
  have n30 : ((3 : Int) != 0) = true := rfl
  refine condK_dec (fun h1 => ?_) (fun h1 => ?_)
  · have eb : big (inc n) e = 3 := if_pos h1
    rw [eb, if_pos (by decide)]
    simp (dsimp := false) (maxDischargeDepth := 16) only [go_sem, ↓reduceIte, reduceCtorEq, Nat.reduceEqDiff, Nat.reduceAdd, Nat.reduceMul, Nat.reduceSub, Nat.reduceLT, Nat.reduceLeDiff, Nat.reducePow, Int.reduceLT, Int.reduceLE, Int.reduceNeg, Int.reduceToNat, h1, n30]
    exact ⟨.inr rfl, _, rfl, rfl, rfl⟩
  have eb : big (inc n) e = e := if_neg h1
  rw [eb]
  simp (dsimp := false) (maxDischargeDepth := 16) only [go_sem, ↓reduceIte, reduceCtorEq, Nat.reduceEqDiff, Nat.reduceAdd, Nat.reduceMul, Nat.reduceSub, Nat.reduceLT, Nat.reduceLeDiff, Nat.reducePow, Int.reduceLT, Int.reduceLE, Int.reduceNeg, Int.reduceToNat, h1]
  refine condK_intro (fun q1 => ?_) (fun q1 => ?_)
  · rw [if_pos (ne0_T q1)]
    simp (dsimp := false) (maxDischargeDepth := 16) only [go_sem, ↓reduceIte, reduceCtorEq, Nat.reduceEqDiff, Nat.reduceAdd, Nat.reduceMul, Nat.reduceSub, Nat.reduceLT, Nat.reduceLeDiff, Nat.reducePow, Int.reduceLT, Int.reduceLE, Int.reduceNeg, Int.reduceToNat, h1, q1]
    exact ⟨.inr rfl, _, rfl, rfl, rfl⟩
  obtain rfl : e = 0 := ne0_F q1
  rw [if_neg (by simp)]
  simp (dsimp := false) (maxDischargeDepth := 16) only [go_sem, ↓reduceIte, reduceCtorEq, Nat.reduceEqDiff, Nat.reduceAdd, Nat.reduceMul, Nat.reduceSub, Nat.reduceLT, Nat.reduceLeDiff, Nat.reducePow, Int.reduceLT, Int.reduceLE, Int.reduceNeg, Int.reduceToNat, h1]
  refine condK_intro (fun q2 => ?_) (fun q2 => ?_)
  · have hk5 : k ≠ 5 := by simpa using q2
    rw [if_pos hk5]
    simp (dsimp := false) (maxDischargeDepth := 16) only [go_sem, ↓reduceIte, reduceCtorEq, Nat.reduceEqDiff, Nat.reduceAdd, Nat.reduceMul, Nat.reduceSub, Nat.reduceLT, Nat.reduceLeDiff, Nat.reducePow, Int.reduceLT, Int.reduceLE, Int.reduceNeg, Int.reduceToNat, h1, q2]
    refine loopK_intro (fun (i : Nat) s => i ≤ kids.length ∧ s.t 0 = .box (0, 0, 0) 0 ∧ s.b (0, 0, 0) = some ⟨[iv ((kids.take i).foldl (shfF b m) ([], inc n, 0)).2.1, iv ((kids.take i).foldl (shfF b m) ([], inc n, 0)).2.2], false⟩ ∧
      s.t 5 = .box (5, 0, 0) 0 ∧ s.b (5, 0, 0) = some ⟨gcs b, false⟩ ∧ s.t 6 = .box (6, 0, 0) 0 ∧ s.b (6, 0, 0) = some ⟨mcs m, false⟩ ∧ s.t 8 = .box (8, 0, 0) 0 ∧
      s.b (8, 0, 0) = some ⟨[iv 0, .list 9 [] .nil, .list 1 [] .nil, .list 1 [] .nil, .list 1 [] .nil, .list 3 [] .nil, .list 4 [] .nil, iv 0, .list 5 [] .nil], false⟩ ∧ s.t 9 = .box (9, 0, 0) 0 ∧
      s.t 45 = .list 9 (kids.map ccs) .no ∧ s.t 46 = iv kids.length ∧ s.t 47 = iv i ∧
      ∃ tk, s.b (9, 0, 0) = some ⟨[iv k, .list 9 (((kids.take i).foldl (shfF b m) ([], inc n, 0)).1.map ccs) tk, .list 1 [] .nil, .list 1 [] .nil, .list 1 [] .nil, .list 3 [] .nil, .list 4 [] .nil, iv 0, .list 5 [] .nil], false⟩ ∧ tokOK s tk = true) (fun i => kids.length - i) ?_ ?_
    · refine ⟨0, by omega, rfl, rfl, rfl, rfl, rfl, rfl, rfl, ?_, rfl, rfl, rfl, rfl, .nil, ?_, rfl⟩
      · simp (dsimp := false) (maxDischargeDepth := 16) only [go_sem, ↓reduceIte, reduceCtorEq, Nat.reduceEqDiff, Nat.reduceAdd, Nat.reduceMul, Nat.reduceSub, Nat.reduceLT, Nat.reduceLeDiff, Nat.reducePow, Int.reduceLT, Int.reduceLE, Int.reduceNeg, Int.reduceToNat]
      · simp (dsimp := false) (maxDischargeDepth := 16) only [go_sem, ↓reduceIte, reduceCtorEq, Nat.reduceEqDiff, Nat.reduceAdd, Nat.reduceMul, Nat.reduceSub, Nat.reduceLT, Nat.reduceLeDiff, Nat.reducePow, Int.reduceLT, Int.reduceLE, Int.reduceNeg, Int.reduceToNat]
    rintro i s ⟨hi, t0, b0, t5, b5, t6, b6, t8, b8, t9, t45, t46, t47, tk, b9, d9⟩
    obtain ⟨u, hu⟩ : ∃ u, s.g 11 = u := ⟨_, rfl⟩
    simp (dsimp := false) (maxDischargeDepth := 16) only [go_sem, ↓reduceIte, reduceCtorEq, Nat.reduceEqDiff, Nat.reduceAdd, Nat.reduceMul, Nat.reduceSub, Nat.reduceLT, Nat.reduceLeDiff, Nat.reducePow, Int.reduceLT, Int.reduceLE, Int.reduceNeg, Int.reduceToNat, t0, b0, t5, b5, t6, b6, t8, b8, t9, t45, t46, t47, b9, d9, hu]
    refine condK_dec (fun h6 => ?_) (fun h6 => ?_)
    · have hfo := foldl_take (f := shfF b m) (a := ([], inc n, 0)) h6
      have hfl : ((kids.take i).foldl (shfF b m) ([], inc n, 0)).1.length = i := shfF_len b m kids i _ hi
      have IH := ih _ (List.getElem_mem h6) a b m ((kids.take i).foldl (shfF b m) ([], inc n, 0)).2.1 ((kids.take i).foldl (shfF b m) ([], inc n, 0)).2.2 (hNc _ (List.getElem_mem h6)) hm (h4 hk5 _ (List.getElem_mem h6))
      generalize (kids.take i).foldl (shfF b m) ([], inc n, 0) = acc at *
      simp (dsimp := false) (maxDischargeDepth := 16) only [go_sem, ↓reduceIte, reduceCtorEq, Nat.reduceEqDiff, Nat.reduceAdd, Nat.reduceMul, Nat.reduceSub, Nat.reduceLT, Nat.reduceLeDiff, Nat.reducePow, Int.reduceLT, Int.reduceLE, Int.reduceNeg, Int.reduceToNat, t0, b0, t5, b5, t6, b6, t8, b8, t9, t45, t46, t47, b9, d9, hu, h6, idx_nat]
      refine ecallK_intro (pre := [iv acc.2.1]) (x := iv acc.2.2) rfl rfl IH ?_
      simp (dsimp := false) (maxDischargeDepth := 16) only [go_sem, ↓reduceIte, reduceCtorEq, Nat.reduceEqDiff, Nat.reduceAdd, Nat.reduceMul, Nat.reduceSub, Nat.reduceLT, Nat.reduceLeDiff, Nat.reducePow, Int.reduceLT, Int.reduceLE, Int.reduceNeg, Int.reduceToNat, ccs_cf, hfl, lastKey_v, tokOK_ecall, t0, b0, t5, b5, t6, b6, t8, b8, t9, t45, t46, t47, b9, d9, hu, h6]
      refine ⟨⟨by omega, by omega⟩, by decide, i + 1, by omega, by omega, by rw [hfo]; rfl, by rw [wrapN _ (by omega)], .own (59, s.g 59, 0), ?_, ?_⟩
      · rw [hfo]
        simp [shfF]
      · simp (dsimp := false) (maxDischargeDepth := 16) only [go_sem, ↓reduceIte, reduceCtorEq, Nat.reduceEqDiff, Nat.reduceAdd, Nat.reduceMul, Nat.reduceSub, Nat.reduceLT, Nat.reduceLeDiff, Nat.reducePow, Int.reduceLT, Int.reduceLE, Int.reduceNeg, Int.reduceToNat, d9, ccs_cf, lastKey_v, tokOK_ecall]
    · simp (dsimp := false) (maxDischargeDepth := 16) only [go_sem, ↓reduceIte, reduceCtorEq, Nat.reduceEqDiff, Nat.reduceAdd, Nat.reduceMul, Nat.reduceSub, Nat.reduceLT, Nat.reduceLeDiff, Nat.reducePow, Int.reduceLT, Int.reduceLE, Int.reduceNeg, Int.reduceToNat, t0, b0, t5, b5, t6, b6, t8, b8, t9, t45, t46, t47, b9, d9, hu, h6]
      have hin : i = kids.length := by omega
      subst hin
      rw [List.take_length]
      exact ⟨.inr (by rw [ccs_kc]; rfl), _, rfl, rfl, rfl⟩
  obtain rfl : k = 5 := by simpa using q2
  simp (dsimp := false) (maxDischargeDepth := 16) only [go_sem, ↓reduceIte, reduceCtorEq, Nat.reduceEqDiff, Nat.reduceAdd, Nat.reduceMul, Nat.reduceSub, Nat.reduceLT, Nat.reduceLeDiff, Nat.reducePow, Int.reduceLT, Int.reduceLE, Int.reduceNeg, Int.reduceToNat, h1]
  obtain ⟨hm0, _, hov⟩ := h5 rfl
  have hmo2 := mErr_ok hm0
  obtain ⟨c, rfl⟩ : ∃ c, kids = [c] := by
    simp [okK] at hk
    exact List.length_eq_one_iff.1 (by omega)
  have hmem : (ovS b p).2 = 0 → ∀ o ∈ (ovS b p).1, mErr b o.g o.l = 0 ∧ mErr p o.g o.r = 0 := fun he o ho => (ovS_mem hmo.2.1 hmo2.2.1 he ho).2.2
  have hlen : (ovS b p).2 = 0 → (ovS b p).1.length ≤ 2000 := fun he => (ovS_ok hmo.2.1 hmo2.2.1 he).2.2
  have KO := c18 b p
  generalize (ovS b p).2 = f at *
  generalize (ovS b p).1 = os at *
  rw [if_neg (by simp)]
  refine callK_intro KO ?_
  simp (dsimp := false) (maxDischargeDepth := 16) only [go_sem, ↓reduceIte, reduceCtorEq, Nat.reduceEqDiff, Nat.reduceAdd, Nat.reduceMul, Nat.reduceSub, Nat.reduceLT, Nat.reduceLeDiff, Nat.reducePow, Int.reduceLT, Int.reduceLE, Int.reduceNeg, Int.reduceToNat, h1]
  refine condK_intro (fun q3 => ?_) (fun q3 => ?_)
  · rw [if_pos (ne0_T q3)]
    simp (dsimp := false) (maxDischargeDepth := 16) only [go_sem, ↓reduceIte, reduceCtorEq, Nat.reduceEqDiff, Nat.reduceAdd, Nat.reduceMul, Nat.reduceSub, Nat.reduceLT, Nat.reduceLeDiff, Nat.reducePow, Int.reduceLT, Int.reduceLE, Int.reduceNeg, Int.reduceToNat, h1, q3]
    exact ⟨.inr rfl, _, rfl, rfl, rfl⟩
  obtain rfl : f = 0 := ne0_F q3
  rw [if_neg (by simp)]
  have hmem := hmem rfl
  have hlen := hlen rfl
  simp (dsimp := false) (maxDischargeDepth := 16) only [go_sem, ↓reduceIte, reduceCtorEq, Nat.reduceEqDiff, Nat.reduceAdd, Nat.reduceMul, Nat.reduceSub, Nat.reduceLT, Nat.reduceLeDiff, Nat.reducePow, Int.reduceLT, Int.reduceLE, Int.reduceNeg, Int.reduceToNat, h1]
  obtain ⟨in1, in2⟩ := mErr_in hm
  obtain ⟨in3, in4⟩ := mErr_in hm0
  have sa := gErr_parts hmo.1
  refine loopK_intro (fun (i : Nat) s => i ≤ os.length ∧ s.t 0 = .box (0, 0, 0) 0 ∧ s.b (0, 0, 0) = some ⟨[iv ((os.take i).foldl (shfO m m0 [c]) ([], inc n, 0)).2.1, iv ((os.take i).foldl (shfO m m0 [c]) ([], inc n, 0)).2.2], false⟩ ∧
      s.t 6 = .box (6, 0, 0) 0 ∧ s.b (6, 0, 0) = some ⟨mcs m, false⟩ ∧ s.t 7 = .box (7, 0, 0) 0 ∧ s.b (7, 0, 0) = some ⟨[iv 5, .list 9 [ccs c] .no, lv m0.n, lv m0.e, lv p.n, elv p.e, .list 4 sl .no, iv v, .list 5 ts .no], false⟩ ∧ s.t 8 = .box (8, 0, 0) 0 ∧
      s.b (8, 0, 0) = some ⟨[iv 0, .list 9 [] .nil, .list 1 [] .nil, .list 1 [] .nil, .list 1 [] .nil, .list 3 [] .nil, .list 4 [] .nil, iv 0, .list 5 [] .nil], false⟩ ∧ s.t 9 = .box (9, 0, 0) 0 ∧
      s.t 79 = olv os ∧ s.t 80 = iv os.length ∧ s.t 81 = iv i ∧ ((os.take i).foldl (shfO m m0 [c]) ([], inc n, 0)).1.length ≤ i ∧
      ∃ tk, s.b (9, 0, 0) = some ⟨[iv 4, .list 9 (((os.take i).foldl (shfO m m0 [c]) ([], inc n, 0)).1.map ccs) tk, .list 1 [] .nil, .list 1 [] .nil, .list 1 [] .nil, .list 3 [] .nil, .list 4 [] .nil, iv 0, .list 5 [] .nil], false⟩ ∧ tokOK s tk = true) (fun i => os.length - i) ?_ ?_
  · refine ⟨0, by omega, rfl, rfl, rfl, rfl, rfl, rfl, rfl, ?_, rfl, rfl, rfl, rfl, Nat.le_refl _, .nil, ?_, rfl⟩
    · simp (dsimp := false) (maxDischargeDepth := 16) only [go_sem, ↓reduceIte, reduceCtorEq, Nat.reduceEqDiff, Nat.reduceAdd, Nat.reduceMul, Nat.reduceSub, Nat.reduceLT, Nat.reduceLeDiff, Nat.reducePow, Int.reduceLT, Int.reduceLE, Int.reduceNeg, Int.reduceToNat]
    · simp (dsimp := false) (maxDischargeDepth := 16) only [go_sem, ↓reduceIte, reduceCtorEq, Nat.reduceEqDiff, Nat.reduceAdd, Nat.reduceMul, Nat.reduceSub, Nat.reduceLT, Nat.reduceLeDiff, Nat.reducePow, Int.reduceLT, Int.reduceLE, Int.reduceNeg, Int.reduceToNat]
  rintro i s ⟨hi, t0, b0, t6, b6, t7, b7, t8, b8, t9, t79, t80, t81, hal, tk, b9, d9⟩
  obtain ⟨u, hu⟩ : ∃ u, s.g 15 = u := ⟨_, rfl⟩
  obtain ⟨u2, hu2⟩ : ∃ u, s.g 16 = u := ⟨_, rfl⟩
  simp (dsimp := false) (maxDischargeDepth := 16) only [go_sem, ↓reduceIte, reduceCtorEq, Nat.reduceEqDiff, Nat.reduceAdd, Nat.reduceMul, Nat.reduceSub, Nat.reduceLT, Nat.reduceLeDiff, Nat.reducePow, Int.reduceLT, Int.reduceLE, Int.reduceNeg, Int.reduceToNat, t0, b0, t6, b6, t7, b7, t8, b8, t9, t79, t80, t81, b9, d9, hu, hu2]
  refine condK_dec (fun h6 => ?_) (fun h6 => ?_)
  · have hfo := foldl_take (f := shfO m m0 [c]) (a := ([], inc n, 0)) h6
    obtain ⟨w1, w2⟩ := hmem _ (List.getElem_mem h6)
    have v1 := mErr_ok w1
    have v2 := mErr_ok w2
    generalize (os.take i).foldl (shfO m m0 [c]) ([], inc n, 0) = acc at *
    have G1 := c151 m.n os[i].l.n m0.n os[i].r.n (by rw [v1.2.2.1]; exact in1) (by rw [v2.2.2.1]; exact in3) (by omega) (by omega)
    have G2 := c151 m.e os[i].l.e m0.e os[i].r.e (by rw [v1.2.2.2.1]; exact in2) (by rw [v2.2.2.2.1]; exact in4) (by omega) (by omega)
    have hst : shfO m m0 [c] acc os[i] = if (agr m.n os[i].l.n m0.n os[i].r.n && agr m.e os[i].l.e m0.e os[i].r.e) = true then (acc.1 ++ [xc os[i] (shf c os[i].g os[i].r (inc acc.2.1, acc.2.2)).1], (shf c os[i].g os[i].r (inc acc.2.1, acc.2.2)).2) else acc := by
      unfold shfO agrO
      rw [shfH]
      rfl
    generalize agr m.n os[i].l.n m0.n os[i].r.n = x1 at *
    generalize agr m.e os[i].l.e m0.e os[i].r.e = x2 at *
    simp (dsimp := false) (maxDischargeDepth := 16) only [go_sem, ↓reduceIte, reduceCtorEq, Nat.reduceEqDiff, Nat.reduceAdd, Nat.reduceMul, Nat.reduceSub, Nat.reduceLT, Nat.reduceLeDiff, Nat.reducePow, Int.reduceLT, Int.reduceLE, Int.reduceNeg, Int.reduceToNat, t0, b0, t6, b6, t7, b7, t8, b8, t9, t79, t80, t81, b9, d9, hu, hu2, h6, idx_nat]
    refine callK_intro G1 ?_
    cases x1 with
    | false =>
      rw [if_neg (by simp)] at hst
      simp (dsimp := false) (maxDischargeDepth := 16) only [go_sem, ↓reduceIte, reduceCtorEq, Nat.reduceEqDiff, Nat.reduceAdd, Nat.reduceMul, Nat.reduceSub, Nat.reduceLT, Nat.reduceLeDiff, Nat.reducePow, Int.reduceLT, Int.reduceLE, Int.reduceNeg, Int.reduceToNat, t0, b0, t6, b6, t7, b7, t8, b8, t9, t79, t80, t81, b9, d9, hu, hu2, h6, Bool.not_false]
      refine ⟨i + 1, by omega, by omega, by rw [hfo, hst], by rw [wrapN _ (by omega)], by rw [hfo, hst]; omega, tk, by rw [hfo, hst], ?_⟩
      simp (dsimp := false) (maxDischargeDepth := 16) only [go_sem, ↓reduceIte, reduceCtorEq, Nat.reduceEqDiff, Nat.reduceAdd, Nat.reduceMul, Nat.reduceSub, Nat.reduceLT, Nat.reduceLeDiff, Nat.reducePow, Int.reduceLT, Int.reduceLE, Int.reduceNeg, Int.reduceToNat, d9]
    | true =>
      simp (dsimp := false) (maxDischargeDepth := 16) only [go_sem, ↓reduceIte, reduceCtorEq, Nat.reduceEqDiff, Nat.reduceAdd, Nat.reduceMul, Nat.reduceSub, Nat.reduceLT, Nat.reduceLeDiff, Nat.reducePow, Int.reduceLT, Int.reduceLE, Int.reduceNeg, Int.reduceToNat, t0, b0, t6, b6, t7, b7, t8, b8, t9, t79, t80, t81, b9, d9, hu, hu2, h6, Bool.not_true]
      refine callK_intro G2 ?_
      cases x2 with
      | false =>
        rw [if_neg (by simp)] at hst
        simp (dsimp := false) (maxDischargeDepth := 16) only [go_sem, ↓reduceIte, reduceCtorEq, Nat.reduceEqDiff, Nat.reduceAdd, Nat.reduceMul, Nat.reduceSub, Nat.reduceLT, Nat.reduceLeDiff, Nat.reducePow, Int.reduceLT, Int.reduceLE, Int.reduceNeg, Int.reduceToNat, t0, b0, t6, b6, t7, b7, t8, b8, t9, t79, t80, t81, b9, d9, hu, hu2, h6, Bool.not_false]
        refine ⟨i + 1, by omega, by omega, by rw [hfo, hst], by rw [wrapN _ (by omega)], by rw [hfo, hst]; omega, tk, by rw [hfo, hst], ?_⟩
        simp (dsimp := false) (maxDischargeDepth := 16) only [go_sem, ↓reduceIte, reduceCtorEq, Nat.reduceEqDiff, Nat.reduceAdd, Nat.reduceMul, Nat.reduceSub, Nat.reduceLT, Nat.reduceLeDiff, Nat.reducePow, Int.reduceLT, Int.reduceLE, Int.reduceNeg, Int.reduceToNat, d9]
      | true =>
        rw [if_pos (by simp)] at hst
        have IH := ih c (by simp) p os[i].g os[i].r (inc acc.2.1) acc.2.2 (hNc c (by simp)) w2 (hov c (by simp))
        simp (dsimp := false) (maxDischargeDepth := 16) only [go_sem, ↓reduceIte, reduceCtorEq, Nat.reduceEqDiff, Nat.reduceAdd, Nat.reduceMul, Nat.reduceSub, Nat.reduceLT, Nat.reduceLeDiff, Nat.reducePow, Int.reduceLT, Int.reduceLE, Int.reduceNeg, Int.reduceToNat, t0, b0, t6, b6, t7, b7, t8, b8, t9, t79, t80, t81, b9, d9, hu, hu2, h6, idx_lit, Bool.not_true]
        refine ecallK_intro (pre := [iv (inc acc.2.1)]) (x := iv acc.2.2) rfl rfl IH ?_
        simp (dsimp := false) (maxDischargeDepth := 16) only [go_sem, ↓reduceIte, reduceCtorEq, Nat.reduceEqDiff, Nat.reduceAdd, Nat.reduceMul, Nat.reduceSub, Nat.reduceLT, Nat.reduceLeDiff, Nat.reducePow, Int.reduceLT, Int.reduceLE, Int.reduceNeg, Int.reduceToNat, ccs_cf, lastKey_v, tokOK_ecall, t0, b0, t6, b6, t7, b7, t8, b8, t9, t79, t80, t81, b9, d9, hu, hu2, h6, idx_lit]
        refine ⟨by decide, ⟨by omega, by omega⟩, i + 1, by omega, by omega, by rw [hfo, hst], by rw [wrapN _ (by omega)], by rw [hfo, hst]; simp; omega, .own (141, s.g 141, 0), ?_, ?_⟩
        · rw [hfo, hst, List.map_append]
          simp [xc, ccs_mk, lv, lvT, elv, elT', iv]
        · simp (dsimp := false) (maxDischargeDepth := 16) only [go_sem, ↓reduceIte, reduceCtorEq, Nat.reduceEqDiff, Nat.reduceAdd, Nat.reduceMul, Nat.reduceSub, Nat.reduceLT, Nat.reduceLeDiff, Nat.reducePow, Int.reduceLT, Int.reduceLE, Int.reduceNeg, Int.reduceToNat, d9, ccs_cf, lastKey_v, tokOK_ecall]
  · simp (dsimp := false) (maxDischargeDepth := 16) only [go_sem, ↓reduceIte, reduceCtorEq, Nat.reduceEqDiff, Nat.reduceAdd, Nat.reduceMul, Nat.reduceSub, Nat.reduceLT, Nat.reduceLeDiff, Nat.reducePow, Int.reduceLT, Int.reduceLE, Int.reduceNeg, Int.reduceToNat, t0, b0, t6, b6, t7, b7, t8, b8, t9, t79, t80, t81, b9, d9, hu, hu2, h6]
    have hin : i = os.length := by omega
    subst hin
    rw [List.take_length]
    exact ⟨.inr (by rw [ccs_kc]; rfl), _, rfl, rfl, rfl⟩
end Go.Sy

/- Contracts: shifted, Shift, Local. -/
set_option linter.unusedSimpArgs false
namespace Go.Sy
open Go Go.Proofs

def shdR (b : Gr) (m : Mo) (c : Cd) : Cd × Int := if (shf c b m (0, 0)).2.2 ≠ 0 then (zc 0, (shf c b m (0, 0)).2.2) else ((shf c b m (0, 0)).1, 0)
theorem fin_cv (d : Cd) (n : Int) : finC (.tup [.agg (ccs d), iv n]) = true ∧ (AV.tup [.agg (ccs d), iv n]) = finF (.tup [.agg (ccs d), iv n]) := by
  obtain ⟨k, kids, m, g, sl, v, ts⟩ := d
  rw [ccs_mk]
  exact ⟨rfl, rfl⟩
theorem ccs_ren (d : Cd) (a b : Nat) : (ccs d).map (ren0 a b) = ccs d := by
  obtain ⟨k, kids, m, g, sl, v, ts⟩ := d
  rw [ccs_mk]
  rfl
theorem c86 (a b : Gr) (m : Mo) (c : Cd) (hN : szN c ≤ 1000000) (hm : mErr a b m = 0) (ho : ovr c a = 0) : Con Try.prog 86 [gv b, mv m, cv c] 0 (.tup [cv (shdR b m c).1, iv (shdR b m c).2]) := by
  refine conT (X := [(4, [], [(6, [25], [])])]) (rs := [.cell 6 69, .tmp 7]) Try.func86 (by kernel_rfl) rfl rfl (by kernel_rfl) ?_
  have K := c128 c a b m 0 0 hN hm ho
  have es : shdR b m c = if (shf c b m (0, 0)).2.2 ≠ 0 then (zc 0, (shf c b m (0, 0)).2.2) else ((shf c b m (0, 0)).1, 0) := rfl
  rw [es]
  clear es
  generalize (shf c b m (0, 0)).2.2 = e at *
  generalize (shf c b m (0, 0)).2.1 = n at *
  generalize (shf c b m (0, 0)).1 = d at *
  simp (dsimp := false) (maxDischargeDepth := 16) only [go_sem, ↓reduceIte, reduceCtorEq, Nat.reduceEqDiff, Nat.reduceAdd, Nat.reduceMul, Nat.reduceSub, Nat.reduceLT, Nat.reduceLeDiff, Nat.reducePow, Int.reduceLT, Int.reduceLE, Int.reduceNeg, Int.reduceToNat]
  refine ecallK_intro (pre := [iv 0]) (x := iv 0) rfl rfl K ?_
  simp (dsimp := false) (maxDischargeDepth := 16) only [go_sem, ↓reduceIte, reduceCtorEq, Nat.reduceEqDiff, Nat.reduceAdd, Nat.reduceMul, Nat.reduceSub, Nat.reduceLT, Nat.reduceLeDiff, Nat.reducePow, Int.reduceLT, Int.reduceLE, Int.reduceNeg, Int.reduceToNat, ccs_cf]
  refine condK_intro (fun q1 => ?_) (fun q1 => ?_)
  · rw [if_pos (ne0_T q1)]
    simp (dsimp := false) (maxDischargeDepth := 16) only [go_sem, ↓reduceIte, reduceCtorEq, Nat.reduceEqDiff, Nat.reduceAdd, Nat.reduceMul, Nat.reduceSub, Nat.reduceLT, Nat.reduceLeDiff, Nat.reducePow, Int.reduceLT, Int.reduceLE, Int.reduceNeg, Int.reduceToNat, q1]
    exact ⟨by decide, finK ⟨rfl, rfl⟩⟩
  · obtain rfl : e = 0 := ne0_F q1
    rw [if_neg (by simp)]
    simp (dsimp := false) (maxDischargeDepth := 16) only [go_sem, ↓reduceIte, reduceCtorEq, Nat.reduceEqDiff, Nat.reduceAdd, Nat.reduceMul, Nat.reduceSub, Nat.reduceLT, Nat.reduceLeDiff, Nat.reducePow, Int.reduceLT, Int.reduceLE, Int.reduceNeg, Int.reduceToNat]
    exact finK (fin_cv d 0)
def shiR (a b : Gr) (m : Mo) (c : Cd) : Cd × Int := if injE a b m ≠ 0 then (zc 0, injE a b m) else if vld a c ≠ 0 then (zc 0, vld a c) else shdR b m c
theorem c56 (a b : Gr) (m : Mo) (c : Cd) (hN : szN c ≤ 1000000) : Con Try.prog 56 [gv a, gv b, mv m, cv c] 0 (.tup [cv (shiR a b m c).1, iv (shiR a b m c).2]) := by
  refine conT (X := [(99, [], [])]) (rs := [.cell 8 69, .tmp 9]) Try.func56 (by kernel_rfl) rfl rfl (by kernel_rfl) ?_
  have K1 := c87 a b m
  have K2 := c54 a c
  have K3 : injE a b m = 0 → vld a c = 0 → Con Try.prog 86 [gv b, mv m, cv c] 0 (.tup [cv (shdR b m c).1, iv (shdR b m c).2]) := fun h1 h2 => c86 a b m c hN (injE_ok h1).1 (vld_ok h2).2.1
  have es : shiR a b m c = if injE a b m ≠ 0 then (zc 0, injE a b m) else if vld a c ≠ 0 then (zc 0, vld a c) else shdR b m c := rfl
  rw [es]
  clear es
  generalize injE a b m = e1 at *
  generalize vld a c = e2 at *
  generalize (shdR b m c) = r at *
  obtain ⟨d, e⟩ := r
  simp (dsimp := false) (maxDischargeDepth := 16) only [go_sem, ↓reduceIte, reduceCtorEq, Nat.reduceEqDiff, Nat.reduceAdd, Nat.reduceMul, Nat.reduceSub, Nat.reduceLT, Nat.reduceLeDiff, Nat.reducePow, Int.reduceLT, Int.reduceLE, Int.reduceNeg, Int.reduceToNat]
  refine callK_intro K1 ?_
  simp (dsimp := false) (maxDischargeDepth := 16) only [go_sem, ↓reduceIte, reduceCtorEq, Nat.reduceEqDiff, Nat.reduceAdd, Nat.reduceMul, Nat.reduceSub, Nat.reduceLT, Nat.reduceLeDiff, Nat.reducePow, Int.reduceLT, Int.reduceLE, Int.reduceNeg, Int.reduceToNat]
  refine condK_intro (fun q1 => ?_) (fun q1 => ?_)
  · simp (dsimp := false) (maxDischargeDepth := 16) only [go_sem, ↓reduceIte, reduceCtorEq, Nat.reduceEqDiff, Nat.reduceAdd, Nat.reduceMul, Nat.reduceSub, Nat.reduceLT, Nat.reduceLeDiff, Nat.reducePow, Int.reduceLT, Int.reduceLE, Int.reduceNeg, Int.reduceToNat, q1]
    rw [if_pos (ne0_T q1)]
    exact finK ⟨rfl, rfl⟩
  rw [if_neg (by simp [ne0_F q1])]
  simp (dsimp := false) (maxDischargeDepth := 16) only [go_sem, ↓reduceIte, reduceCtorEq, Nat.reduceEqDiff, Nat.reduceAdd, Nat.reduceMul, Nat.reduceSub, Nat.reduceLT, Nat.reduceLeDiff, Nat.reducePow, Int.reduceLT, Int.reduceLE, Int.reduceNeg, Int.reduceToNat, q1]
  refine callK_intro K2 ?_
  simp (dsimp := false) (maxDischargeDepth := 16) only [go_sem, ↓reduceIte, reduceCtorEq, Nat.reduceEqDiff, Nat.reduceAdd, Nat.reduceMul, Nat.reduceSub, Nat.reduceLT, Nat.reduceLeDiff, Nat.reducePow, Int.reduceLT, Int.reduceLE, Int.reduceNeg, Int.reduceToNat]
  refine condK_intro (fun q2 => ?_) (fun q2 => ?_)
  · simp (dsimp := false) (maxDischargeDepth := 16) only [go_sem, ↓reduceIte, reduceCtorEq, Nat.reduceEqDiff, Nat.reduceAdd, Nat.reduceMul, Nat.reduceSub, Nat.reduceLT, Nat.reduceLeDiff, Nat.reducePow, Int.reduceLT, Int.reduceLE, Int.reduceNeg, Int.reduceToNat, q1, q2]
    rw [if_pos (ne0_T q2)]
    exact finK ⟨rfl, rfl⟩
  rw [if_neg (by simp [ne0_F q2])]
  simp (dsimp := false) (maxDischargeDepth := 16) only [go_sem, ↓reduceIte, reduceCtorEq, Nat.reduceEqDiff, Nat.reduceAdd, Nat.reduceMul, Nat.reduceSub, Nat.reduceLT, Nat.reduceLeDiff, Nat.reducePow, Int.reduceLT, Int.reduceLE, Int.reduceNeg, Int.reduceToNat, q1, q2]
  refine callK_intro (K3 (ne0_F q1) (ne0_F q2)) ?_
  simp (dsimp := false) (maxDischargeDepth := 16) only [go_sem, ↓reduceIte, reduceCtorEq, Nat.reduceEqDiff, Nat.reduceAdd, Nat.reduceMul, Nat.reduceSub, Nat.reduceLT, Nat.reduceLeDiff, Nat.reducePow, Int.reduceLT, Int.reduceLE, Int.reduceNeg, Int.reduceToNat, ccs_cf, ccs_ren]
  exact finK (fin_cv d e)
def emp : Gr := ⟨[], []⟩
def emo : Mo := ⟨[], []⟩
def locR (b : Gr) (c : Cd) : Cd × Int := if gErr b ≠ 0 then (zc 0, gErr b) else if vld emp c ≠ 0 then (zc 0, vld emp c) else shdR b emo c
end Go.Sy

/- Contracts: law 33's small functions; awake; ShiftValid. -/
set_option linter.unusedSimpArgs false
namespace Go.Sy
open Go Go.Proofs

theorem c84 (n : Nat) (h : n ≤ 1000) : Con Try.prog 84 [iv n] 0 (gv ⟨List.replicate n 4, []⟩) := by
  refine conT (X := []) (rs := [.cell 2 25]) Try.func84 (by kernel_rfl) rfl rfl (by kernel_rfl) ?_
  simp (dsimp := false) (maxDischargeDepth := 16) only [go_sem, ↓reduceIte, reduceCtorEq, Nat.reduceEqDiff, Nat.reduceAdd, Nat.reduceMul, Nat.reduceSub, Nat.reduceLT, Nat.reduceLeDiff, Nat.reducePow, Int.reduceLT, Int.reduceLE, Int.reduceNeg, Int.reduceToNat]
  refine loopK_intro (fun (i : Nat) s => i ≤ n ∧ s.t 2 = .box (2, 0, 0) 0 ∧ s.b (2, 0, 0) = some ⟨[.list 1 [] .nil, .list 3 [] .nil], false⟩ ∧ s.t 3 = .box (3, 0, 0) 0 ∧ s.t 4 = iv n ∧ s.t 5 = iv i ∧ ∃ tk, s.b (3, 0, 0) = some ⟨[lvT (List.replicate i 4) tk, .list 3 [] .nil], false⟩ ∧ tokOK s tk = true) (fun i => n - i)
    ⟨0, by omega, rfl, rfl, rfl, rfl, rfl, .nil, rfl, rfl⟩ ?_
  rintro i s ⟨hi, t2, b2, t3, t4, t5, tk, b3, d3⟩
  simp (dsimp := false) (maxDischargeDepth := 16) only [go_sem, ↓reduceIte, reduceCtorEq, Nat.reduceEqDiff, Nat.reduceAdd, Nat.reduceMul, Nat.reduceSub, Nat.reduceLT, Nat.reduceLeDiff, Nat.reducePow, Int.reduceLT, Int.reduceLE, Int.reduceNeg, Int.reduceToNat, t2, b2, t3, t4, t5, b3, d3]
  refine condK_dec (fun h6 => ?_) (fun h6 => ?_)
  · simp (dsimp := false) (maxDischargeDepth := 16) only [go_sem, ↓reduceIte, reduceCtorEq, Nat.reduceEqDiff, Nat.reduceAdd, Nat.reduceMul, Nat.reduceSub, Nat.reduceLT, Nat.reduceLeDiff, Nat.reducePow, Int.reduceLT, Int.reduceLE, Int.reduceNeg, Int.reduceToNat, t2, b2, t3, t4, t5, b3, d3, h6, List.length_replicate]
    refine ⟨⟨by omega, by omega⟩, i + 1, by omega, by omega, by rw [wrapN _ (by omega)], .own (10, s.g 10, 0), ?_, ?_⟩
    · rw [List.replicate_succ', List.map_append]
      rfl
    · simp (dsimp := false) (maxDischargeDepth := 16) only [go_sem, ↓reduceIte, reduceCtorEq, Nat.reduceEqDiff, Nat.reduceAdd, Nat.reduceMul, Nat.reduceSub, Nat.reduceLT, Nat.reduceLeDiff, Nat.reducePow, Int.reduceLT, Int.reduceLE, Int.reduceNeg, Int.reduceToNat, d3]
  · simp (dsimp := false) (maxDischargeDepth := 16) only [go_sem, ↓reduceIte, reduceCtorEq, Nat.reduceEqDiff, Nat.reduceAdd, Nat.reduceMul, Nat.reduceSub, Nat.reduceLT, Nat.reduceLeDiff, Nat.reducePow, Int.reduceLT, Int.reduceLE, Int.reduceNeg, Int.reduceToNat, t2, b2, t3, t4, t5, b3, d3, h6]
    have : i = n := by omega
    subst this
    exact finK ⟨rfl, rfl⟩
def ano : Cd := .mk 5 [.mk 1 [] emo emp [] 0 []] ⟨[0], []⟩ ⟨[4, 4], []⟩ [] 0 []
theorem c85 : Con Try.prog 85 [] 0 (cv ano) := by
  refine conT (X := []) (rs := [.cell 0 69]) Try.func85 (by kernel_rfl) rfl rfl (by kernel_rfl) ?_
  have K1 := c84 2 (by decide)
  have K2 := c127
  simp (dsimp := false) (maxDischargeDepth := 16) only [go_sem, ↓reduceIte, reduceCtorEq, Nat.reduceEqDiff, Nat.reduceAdd, Nat.reduceMul, Nat.reduceSub, Nat.reduceLT, Nat.reduceLeDiff, Nat.reducePow, Int.reduceLT, Int.reduceLE, Int.reduceNeg, Int.reduceToNat]
  refine callK_intro K1 ?_
  simp (dsimp := false) (maxDischargeDepth := 16) only [go_sem, ↓reduceIte, reduceCtorEq, Nat.reduceEqDiff, Nat.reduceAdd, Nat.reduceMul, Nat.reduceSub, Nat.reduceLT, Nat.reduceLeDiff, Nat.reducePow, Int.reduceLT, Int.reduceLE, Int.reduceNeg, Int.reduceToNat]
  refine callK_intro K2 ?_
  simp (dsimp := false) (maxDischargeDepth := 16) only [go_sem, ↓reduceIte, reduceCtorEq, Nat.reduceEqDiff, Nat.reduceAdd, Nat.reduceMul, Nat.reduceSub, Nat.reduceLT, Nat.reduceLeDiff, Nat.reducePow, Int.reduceLT, Int.reduceLE, Int.reduceNeg, Int.reduceToNat]
  refine finK ⟨rfl, ?_⟩
  rw [ano, ccs_mk]
  rfl
def n1 : Gr := ⟨[4], []⟩
def n2 : Gr := ⟨[4, 4], []⟩
def awD : Cd := kc 4 [xc ⟨⟨[4, 4, 4], []⟩, ⟨[0, 1], []⟩, ⟨[0, 2], []⟩⟩ (.mk 1 [] emo emp [] 0 []), xc ⟨⟨[4, 4], []⟩, ⟨[0, 1], []⟩, ⟨[0, 1], []⟩⟩ (.mk 1 [] emo emp [] 0 [])]
theorem aw1 : shiR n1 n2 ⟨[0], []⟩ ano = (awD, 0) := by kernel_rfl
theorem aw2 : satR n1 ano n2 ⟨[1], []⟩ = (true, 0) := by kernel_rfl
theorem aw3 : sizR ano = (2, 1, 0) := by kernel_rfl
def tru : Cd := .mk 1 [] emo emp [] 0 []
def awK : Cd := xc ⟨⟨[4, 4, 4], []⟩, ⟨[0, 1], []⟩, ⟨[0, 2], []⟩⟩ tru
theorem cv_ano : cv ano = .agg [iv 5, .list 9 [ccs tru] .no, lv [0], lv [], lv [4, 4], elv [], .list 4 [] .no, iv 0, .list 5 [] .no] := by
  rw [ano, cv_mk]
  rfl
theorem cv_awD : cv awD = .agg [iv 4, .list 9 [ccs awK, [iv 5, .list 9 [ccs tru] .no, lv [0, 1], lv [], lv [4, 4], elv [], .list 4 [] .no, iv 0, .list 5 [] .no]] .no, lv [], lv [], lv [], elv [], .list 4 [] .no, iv 0, .list 5 [] .no] := by
  rw [awD, kc, cv_mk, List.map_cons, List.map_cons, List.map_nil, xc, xc, ccs_mk, ccs_mk]
  rfl
theorem idx_lit1 {P : Program} (t : TypeId) (sz : Nat) (x y : List AV) (xs : List (List AV)) (tk : Tok) (k : IntKind) : idxAV P t (.list sz (x :: y :: xs) tk) (.v (.int k 1)) = if slT P t = true ∧ sz = esz P t then some (.ptr y) else none :=
  idx_nat (P := P) t sz (x :: y :: xs) tk k 1 (by simp)
theorem c38 : Con Try.prog 38 [] 0 (bv true) := by
  have A1 : Con Try.prog 84 [iv 1] 0 (gv n1) := c84 1 (by decide)
  have A2 : Con Try.prog 84 [iv 2] 0 (gv n2) := c84 2 (by decide)
  have A3 := c85
  have A4 := c56 n1 n2 ⟨[0], []⟩ ano (by decide)
  have A5 := c40 n1 ano n2 ⟨[1], []⟩
  have A6 := c52 ano
  rw [aw1] at A4
  rw [aw2] at A5
  rw [aw3] at A6
  rw [cv_ano] at A3 A4 A5 A6
  rw [cv_awD] at A4
  have t2 : (((2 : Nat) : Int) == 2) = true := rfl
  refine conT (X := [(99, [], [])]) (rs := [.tmp 0]) Try.func38 (by kernel_rfl) rfl rfl (by kernel_rfl) ?_
  simp (dsimp := false) (maxDischargeDepth := 16) only [go_sem, ↓reduceIte, reduceCtorEq, Nat.reduceEqDiff, Nat.reduceAdd, Nat.reduceMul, Nat.reduceSub, Nat.reduceLT, Nat.reduceLeDiff, Nat.reducePow, Int.reduceLT, Int.reduceLE, Int.reduceNeg, Int.reduceToNat]
  refine callK_intro A1 ?_
  simp (dsimp := false) (maxDischargeDepth := 16) only [go_sem, ↓reduceIte, reduceCtorEq, Nat.reduceEqDiff, Nat.reduceAdd, Nat.reduceMul, Nat.reduceSub, Nat.reduceLT, Nat.reduceLeDiff, Nat.reducePow, Int.reduceLT, Int.reduceLE, Int.reduceNeg, Int.reduceToNat, n1, n2]
  refine callK_intro A2 ?_
  simp (dsimp := false) (maxDischargeDepth := 16) only [go_sem, ↓reduceIte, reduceCtorEq, Nat.reduceEqDiff, Nat.reduceAdd, Nat.reduceMul, Nat.reduceSub, Nat.reduceLT, Nat.reduceLeDiff, Nat.reducePow, Int.reduceLT, Int.reduceLE, Int.reduceNeg, Int.reduceToNat, n1, n2]
  refine callK_intro A3 ?_
  simp (dsimp := false) (maxDischargeDepth := 16) only [go_sem, ↓reduceIte, reduceCtorEq, Nat.reduceEqDiff, Nat.reduceAdd, Nat.reduceMul, Nat.reduceSub, Nat.reduceLT, Nat.reduceLeDiff, Nat.reducePow, Int.reduceLT, Int.reduceLE, Int.reduceNeg, Int.reduceToNat, n1, n2]
  refine callK_intro A4 ?_
  simp (dsimp := false) (maxDischargeDepth := 16) only [go_sem, ↓reduceIte, reduceCtorEq, Nat.reduceEqDiff, Nat.reduceAdd, Nat.reduceMul, Nat.reduceSub, Nat.reduceLT, Nat.reduceLeDiff, Nat.reducePow, Int.reduceLT, Int.reduceLE, Int.reduceNeg, Int.reduceToNat, n1, n2]
  refine callK_intro A1 ?_
  simp (dsimp := false) (maxDischargeDepth := 16) only [go_sem, ↓reduceIte, reduceCtorEq, Nat.reduceEqDiff, Nat.reduceAdd, Nat.reduceMul, Nat.reduceSub, Nat.reduceLT, Nat.reduceLeDiff, Nat.reducePow, Int.reduceLT, Int.reduceLE, Int.reduceNeg, Int.reduceToNat, n1, n2]
  refine callK_intro A3 ?_
  simp (dsimp := false) (maxDischargeDepth := 16) only [go_sem, ↓reduceIte, reduceCtorEq, Nat.reduceEqDiff, Nat.reduceAdd, Nat.reduceMul, Nat.reduceSub, Nat.reduceLT, Nat.reduceLeDiff, Nat.reducePow, Int.reduceLT, Int.reduceLE, Int.reduceNeg, Int.reduceToNat, n1, n2]
  refine callK_intro A2 ?_
  simp (dsimp := false) (maxDischargeDepth := 16) only [go_sem, ↓reduceIte, reduceCtorEq, Nat.reduceEqDiff, Nat.reduceAdd, Nat.reduceMul, Nat.reduceSub, Nat.reduceLT, Nat.reduceLeDiff, Nat.reducePow, Int.reduceLT, Int.reduceLE, Int.reduceNeg, Int.reduceToNat, n1, n2]
  refine callK_intro A5 ?_
  simp (dsimp := false) (maxDischargeDepth := 16) only [go_sem, ↓reduceIte, reduceCtorEq, Nat.reduceEqDiff, Nat.reduceAdd, Nat.reduceMul, Nat.reduceSub, Nat.reduceLT, Nat.reduceLeDiff, Nat.reducePow, Int.reduceLT, Int.reduceLE, Int.reduceNeg, Int.reduceToNat, n1, n2]
  refine callK_intro A3 ?_
  simp (dsimp := false) (maxDischargeDepth := 16) only [go_sem, ↓reduceIte, reduceCtorEq, Nat.reduceEqDiff, Nat.reduceAdd, Nat.reduceMul, Nat.reduceSub, Nat.reduceLT, Nat.reduceLeDiff, Nat.reducePow, Int.reduceLT, Int.reduceLE, Int.reduceNeg, Int.reduceToNat, n1, n2]
  refine callK_intro A6 ?_
  simp (dsimp := false) (maxDischargeDepth := 16) only [go_sem, ↓reduceIte, reduceCtorEq, Nat.reduceEqDiff, Nat.reduceAdd, Nat.reduceMul, Nat.reduceSub, Nat.reduceLT, Nat.reduceLeDiff, Nat.reducePow, Int.reduceLT, Int.reduceLE, Int.reduceNeg, Int.reduceToNat, n1, n2, beq_self_eq_true, idx_lit1, List.map_cons, List.map_nil, List.length_cons, List.length_nil, t2]
  exact finB rfl
end Go.Sy

/- A list's different numbers, ascending, as the program lists them: an iterator over the list, collected, sorted and compacted. -/
namespace Go.Sy
open Go Go.RowKit Go.Sort Go.Proofs Go.Shelf

attribute [local go_sem] Oper.semAt_some

end Go.Sy

/- Plain law: the factorization of a morphism. -/
namespace Go.Sy
open Go Go.Proofs

/-! ### Onto -/
end Go.Sy

/- Contracts: the factorization of a morphism, as the program and as the document put it. -/
set_option linter.unusedSimpArgs false
namespace Go.Sy
open Go Go.Proofs

def facV (r : Gr × Mo × Mo × Int) : AV := .tup [gv r.1, mv r.2.1, mv r.2.2.1, iv r.2.2.2]
attribute [go_sem] facV
end Go.Sy

/- FactorFactor: the law's contract. -/
set_option linter.unusedSimpArgs false
namespace Go.Sy
open Go Go.Proofs

structure Ar where
  g : Gr
  m : Mo
def arcs (x : Ar) : List AV := gcs x.g ++ mcs x.m
def arv (x : Ar) : AV := .agg (arcs x)
attribute [go_sem] arcs arv
end Go.Sy

/- Contracts: the document's way to put a graph's nodes together as numbers say. -/
set_option linter.unusedSimpArgs false
namespace Go.Sy
open Go Go.Proofs

def lu8 (l : List Int) : AV := .list 1 (l.map fun x => [u8 x]) .no
attribute [go_sem] lu8
end Go.Sy
