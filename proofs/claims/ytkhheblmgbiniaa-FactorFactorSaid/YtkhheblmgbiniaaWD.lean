/- Contracts: partitions. -/
import Derived.Test.YtkhheblmgbiniaaWC
set_option linter.unusedSimpArgs false
namespace Go.Sy
open Go Go.Proofs

abbrev pOK (p : List Int) (i : Nat) : Prop := 0 ≤ p.getD i 0 ∧ p.getD i 0 ≤ i ∧ p.getD (p.getD i 0).toNat 0 = p.getD i 0
abbrev isP (p : List Int) : Prop := ∀ i, i < p.length → pOK p i
theorem c161 (p : List Int) : Con Try.prog 161 [lv p] 0 (bv (decide (isP p))) := by
  refine Con.assume (enters_of Try.func161 (by kernel_rfl) rfl) fun hb => ?_
  have hlen := bnd_lv (hb _ (List.mem_cons_self ..))
  refine conT (X := []) (rs := [.tmp 2]) Try.func161 (by kernel_rfl) rfl rfl (by kernel_rfl) ?_
  simp (dsimp := false) (maxDischargeDepth := 16) only [go_sem, ↓reduceIte, reduceCtorEq, Nat.reduceEqDiff, Nat.reduceAdd, Nat.reduceMul, Nat.reduceSub, Nat.reduceLT, Nat.reduceLeDiff, Nat.reducePow, Int.reduceLT, Int.reduceLE, Int.reduceNeg, Int.reduceToNat]
  refine loopK_intro (fun (i : Nat) s => i ≤ p.length ∧ s.t 0 = lv p ∧ s.t 5 = lv p ∧ s.t 6 = iv p.length ∧ s.t 7 = iv i ∧ ∀ j, j < i → pOK p j) (fun i => p.length - i) ⟨0, by omega, rfl, rfl, rfl, rfl, fun j hj => by omega⟩ ?_
  rintro i s ⟨hi, t0, t5, t6, t7, hn⟩
  simp (dsimp := false) (maxDischargeDepth := 16) only [go_sem, ↓reduceIte, reduceCtorEq, Nat.reduceEqDiff, Nat.reduceAdd, Nat.reduceMul, Nat.reduceSub, Nat.reduceLT, Nat.reduceLeDiff, Nat.reducePow, Int.reduceLT, Int.reduceLE, Int.reduceNeg, Int.reduceToNat, t0, t5, t6, t7]
  refine condK_dec (fun h6 => ?_) (fun h6 => ?_)
  · have e0 : p.getD i 0 = p[i] := getD_at h6
    have no : ¬ pOK p i → ¬ isP p := fun h h2 => h (h2 i h6)
    simp (dsimp := false) (maxDischargeDepth := 16) only [go_sem, ↓reduceIte, reduceCtorEq, Nat.reduceEqDiff, Nat.reduceAdd, Nat.reduceMul, Nat.reduceSub, Nat.reduceLT, Nat.reduceLeDiff, Nat.reducePow, Int.reduceLT, Int.reduceLE, Int.reduceNeg, Int.reduceToNat, t0, t5, t6, t7, h6, idx_nat]
    refine condK_dec (fun h8 => ?_) (fun h8 => ?_)
    · simp (dsimp := false) (maxDischargeDepth := 16) only [go_sem, ↓reduceIte, reduceCtorEq, Nat.reduceEqDiff, Nat.reduceAdd, Nat.reduceMul, Nat.reduceSub, Nat.reduceLT, Nat.reduceLeDiff, Nat.reducePow, Int.reduceLT, Int.reduceLE, Int.reduceNeg, Int.reduceToNat, t0, t5, t6, t7, h6, h8]
      exact finF' (no fun h => by have := h.1; omega)
    simp (dsimp := false) (maxDischargeDepth := 16) only [go_sem, ↓reduceIte, reduceCtorEq, Nat.reduceEqDiff, Nat.reduceAdd, Nat.reduceMul, Nat.reduceSub, Nat.reduceLT, Nat.reduceLeDiff, Nat.reducePow, Int.reduceLT, Int.reduceLE, Int.reduceNeg, Int.reduceToNat, t0, t5, t6, t7, h6, h8]
    refine condK_dec (fun h9 => ?_) (fun h9 => ?_)
    · simp (dsimp := false) (maxDischargeDepth := 16) only [go_sem, ↓reduceIte, reduceCtorEq, Nat.reduceEqDiff, Nat.reduceAdd, Nat.reduceMul, Nat.reduceSub, Nat.reduceLT, Nat.reduceLeDiff, Nat.reducePow, Int.reduceLT, Int.reduceLE, Int.reduceNeg, Int.reduceToNat, t0, t5, t6, t7, h6, h8, h9]
      exact finF' (no fun h => by have := h.2.1; omega)
    have r1 : 0 ≤ p[i] := by omega
    have r2 : p[i].toNat < p.length := by omega
    simp (dsimp := false) (maxDischargeDepth := 16) only [go_sem, ↓reduceIte, reduceCtorEq, Nat.reduceEqDiff, Nat.reduceAdd, Nat.reduceMul, Nat.reduceSub, Nat.reduceLT, Nat.reduceLeDiff, Nat.reducePow, Int.reduceLT, Int.reduceLE, Int.reduceNeg, Int.reduceToNat, t0, t5, t6, t7, h6, h8, h9, idx_int, r1, r2]
    refine condK_intro (fun h10 => ?_) (fun h10 => ?_)
    · simp (dsimp := false) (maxDischargeDepth := 16) only [go_sem, ↓reduceIte, reduceCtorEq, Nat.reduceEqDiff, Nat.reduceAdd, Nat.reduceMul, Nat.reduceSub, Nat.reduceLT, Nat.reduceLeDiff, Nat.reducePow, Int.reduceLT, Int.reduceLE, Int.reduceNeg, Int.reduceToNat, t0, t5, t6, t7, h6, h8, h9, h10]
      exact finF' (no fun h => by have h3 := h.2.2; rw [e0, getD_at r2] at h3; exact ineq h10 h3)
    · simp (dsimp := false) (maxDischargeDepth := 16) only [go_sem, ↓reduceIte, reduceCtorEq, Nat.reduceEqDiff, Nat.reduceAdd, Nat.reduceMul, Nat.reduceSub, Nat.reduceLT, Nat.reduceLeDiff, Nat.reducePow, Int.reduceLT, Int.reduceLE, Int.reduceNeg, Int.reduceToNat, t0, t5, t6, t7, h6, h8, h9, h10]
      refine ⟨i + 1, by omega, by omega, by rw [wrapN _ (by omega)], fun j hj => ?_⟩
      by_cases hji : j = i
      · subst hji
        refine ⟨by omega, by omega, ?_⟩
        rw [e0, getD_at r2]
        exact ieq h10
      · exact hn j (by omega)
  · simp (dsimp := false) (maxDischargeDepth := 16) only [go_sem, ↓reduceIte, reduceCtorEq, Nat.reduceEqDiff, Nat.reduceAdd, Nat.reduceMul, Nat.reduceSub, Nat.reduceLT, Nat.reduceLeDiff, Nat.reducePow, Int.reduceLT, Int.reduceLE, Int.reduceNeg, Int.reduceToNat, t0, t5, t6, t7, h6]
    refine finT ?_
    intro j hj
    exact hn j (by omega)
theorem c146 (p : List Int) : Con Try.prog 146 [lv p] 0 (iv (if p.length ≤ 80 then (if isP p then 0 else 1) else 3)) := by
  refine conT (X := []) (rs := [.tmp 2]) Try.func146 (by kernel_rfl) rfl rfl (by kernel_rfl) ?_
  simp (dsimp := false) (maxDischargeDepth := 16) only [go_sem, ↓reduceIte, reduceCtorEq, Nat.reduceEqDiff, Nat.reduceAdd, Nat.reduceMul, Nat.reduceSub, Nat.reduceLT, Nat.reduceLeDiff, Nat.reducePow, Int.reduceLT, Int.reduceLE, Int.reduceNeg, Int.reduceToNat]
  refine condK_dec (fun h1 => ?_) (fun h1 => ?_)
  · simp (dsimp := false) (maxDischargeDepth := 16) only [go_sem, ↓reduceIte, reduceCtorEq, Nat.reduceEqDiff, Nat.reduceAdd, Nat.reduceMul, Nat.reduceSub, Nat.reduceLT, Nat.reduceLeDiff, Nat.reducePow, Int.reduceLT, Int.reduceLE, Int.reduceNeg, Int.reduceToNat, h1]
    exact finI (if_neg (by omega))
  simp (dsimp := false) (maxDischargeDepth := 16) only [go_sem, ↓reduceIte, reduceCtorEq, Nat.reduceEqDiff, Nat.reduceAdd, Nat.reduceMul, Nat.reduceSub, Nat.reduceLT, Nat.reduceLeDiff, Nat.reducePow, Int.reduceLT, Int.reduceLE, Int.reduceNeg, Int.reduceToNat, h1]
  refine callK_intro (c161 p) ?_
  simp (dsimp := false) (maxDischargeDepth := 16) only [go_sem, ↓reduceIte, reduceCtorEq, Nat.reduceEqDiff, Nat.reduceAdd, Nat.reduceMul, Nat.reduceSub, Nat.reduceLT, Nat.reduceLeDiff, Nat.reducePow, Int.reduceLT, Int.reduceLE, Int.reduceNeg, Int.reduceToNat, h1]
  refine condK_intro (fun h2 => ?_) (fun h2 => ?_)
  · simp (dsimp := false) (maxDischargeDepth := 16) only [go_sem, ↓reduceIte, reduceCtorEq, Nat.reduceEqDiff, Nat.reduceAdd, Nat.reduceMul, Nat.reduceSub, Nat.reduceLT, Nat.reduceLeDiff, Nat.reducePow, Int.reduceLT, Int.reduceLE, Int.reduceNeg, Int.reduceToNat, h1, h2]
    exact finI (by rw [if_pos (by omega), if_neg (ndec h2)])
  · simp (dsimp := false) (maxDischargeDepth := 16) only [go_sem, ↓reduceIte, reduceCtorEq, Nat.reduceEqDiff, Nat.reduceAdd, Nat.reduceMul, Nat.reduceSub, Nat.reduceLT, Nat.reduceLeDiff, Nat.reducePow, Int.reduceLT, Int.reduceLE, Int.reduceNeg, Int.reduceToNat, h1, h2]
    exact finI (by rw [if_pos (by omega), if_pos (ydec h2)])
/-- The numbers of the classes of the first elements, and how many classes these have. -/
def nq (p : List Int) : Nat → List Int × Int
  | 0 => ([], 0)
  | i + 1 => if p.getD i 0 = i then ((nq p i).1 ++ [(nq p i).2], (nq p i).2 + 1) else ((nq p i).1 ++ [(nq p i).1.getD (p.getD i 0).toNat 0], (nq p i).2)
theorem nq_len (p : List Int) (i : Nat) : (nq p i).1.length = i := by
  induction i with
  | zero => rfl
  | succ i ih => unfold nq; split <;> simp [ih]
theorem nq_bound (p : List Int) (i : Nat) : 0 ≤ (nq p i).2 ∧ (nq p i).2 ≤ i := by
  induction i with
  | zero => simp [nq]
  | succ i ih => unfold nq; split <;> simp <;> omega
theorem nq_root {p : List Int} {i : Nat} (h : i < p.length) (h1 : p[i] = i) : nq p (i + 1) = ((nq p i).1 ++ [(nq p i).2], (nq p i).2 + 1) := by rw [nq, getD_at h, if_pos h1]
theorem nq_kid {p : List Int} {i : Nat} (h : i < p.length) (h1 : p[i] ≠ i) (h2 : p[i].toNat < (nq p i).1.length) : nq p (i + 1) = ((nq p i).1 ++ [(nq p i).1[p[i].toNat]], (nq p i).2) := by
  rw [nq, getD_at h, if_neg h1, getD_at h2]
theorem c121 (p : List Int) (hl : p.length ≤ 80) (hp : isP p) : Con Try.prog 121 [lv p] 0 (.tup [lv (nq p p.length).1, iv (nq p p.length).2, iv 0]) := by
  refine conT (X := []) (rs := [.tmp 2, .tmp 3, .tmp 4]) Try.func121 (by kernel_rfl) rfl rfl (by kernel_rfl) ?_
  simp (dsimp := false) (maxDischargeDepth := 16) only [go_sem, ↓reduceIte, reduceCtorEq, Nat.reduceEqDiff, Nat.reduceAdd, Nat.reduceMul, Nat.reduceSub, Nat.reduceLT, Nat.reduceLeDiff, Nat.reducePow, Int.reduceLT, Int.reduceLE, Int.reduceNeg, Int.reduceToNat]
  refine callK_intro (c146 p) ?_
  have e0 : (if p.length ≤ 80 then (if isP p then 0 else 1) else 3 : Int) = 0 := by rw [if_pos hl, if_pos hp]
  rw [e0]
  simp (dsimp := false) (maxDischargeDepth := 16) only [go_sem, ↓reduceIte, reduceCtorEq, Nat.reduceEqDiff, Nat.reduceAdd, Nat.reduceMul, Nat.reduceSub, Nat.reduceLT, Nat.reduceLeDiff, Nat.reducePow, Int.reduceLT, Int.reduceLE, Int.reduceNeg, Int.reduceToNat]
  refine condK_intro (fun h1 => absurd h1 (by decide)) (fun h1 => ?_)
  simp (dsimp := false) (maxDischargeDepth := 16) only [go_sem, ↓reduceIte, reduceCtorEq, Nat.reduceEqDiff, Nat.reduceAdd, Nat.reduceMul, Nat.reduceSub, Nat.reduceLT, Nat.reduceLeDiff, Nat.reducePow, Int.reduceLT, Int.reduceLE, Int.reduceNeg, Int.reduceToNat, h1]
  refine loopK_intro (fun (i : Nat) s => i ≤ p.length ∧ s.t 15 = lv p ∧ s.t 16 = iv p.length ∧ s.t 17 = iv i ∧ s.t 7 = iv (nq p i).2 ∧ ∃ tk, s.t 6 = lvT (nq p i).1 tk ∧ tokOK s tk = true) (fun i => p.length - i)
    ?_ ?_
  · exact ⟨0, by omega, rfl, rfl, rfl, rfl, .nil, rfl, rfl⟩
  rintro i s ⟨hi, t15, t16, t17, t7, tk, t6, htk⟩
  have hnl := nq_len p i
  have hnb := nq_bound p i
  simp (dsimp := false) (maxDischargeDepth := 16) only [go_sem, ↓reduceIte, reduceCtorEq, Nat.reduceEqDiff, Nat.reduceAdd, Nat.reduceMul, Nat.reduceSub, Nat.reduceLT, Nat.reduceLeDiff, Nat.reducePow, Int.reduceLT, Int.reduceLE, Int.reduceNeg, Int.reduceToNat, t15, t16, t17, t7, t6]
  refine condK_dec (fun h6 => ?_) (fun h6 => ?_)
  · simp (dsimp := false) (maxDischargeDepth := 16) only [go_sem, ↓reduceIte, reduceCtorEq, Nat.reduceEqDiff, Nat.reduceAdd, Nat.reduceMul, Nat.reduceSub, Nat.reduceLT, Nat.reduceLeDiff, Nat.reducePow, Int.reduceLT, Int.reduceLE, Int.reduceNeg, Int.reduceToNat, t15, t16, t17, t7, t6, h6, idx_nat]
    refine condK_intro (fun h8 => ?_) (fun h8 => ?_)
    · simp (dsimp := false) (maxDischargeDepth := 16) only [go_sem, ↓reduceIte, reduceCtorEq, Nat.reduceEqDiff, Nat.reduceAdd, Nat.reduceMul, Nat.reduceSub, Nat.reduceLT, Nat.reduceLeDiff, Nat.reducePow, Int.reduceLT, Int.reduceLE, Int.reduceNeg, Int.reduceToNat, t15, t16, t17, t7, t6, h6, h8, htk]
      refine ⟨⟨by omega, by omega⟩, i + 1, by omega, by omega, by rw [wrapN _ (by omega)], ?_, .own (28, s.g 28, 0), ?_, ?_⟩
      · rw [nq_root h6 (beqT h8), wrap_i64 _ (by omega) (by omega)]
      · rw [nq_root h6 (beqT h8)]
        simp only [map1_app]
      · simp (dsimp := false) (maxDischargeDepth := 16) only [go_sem, ↓reduceIte, reduceCtorEq, Nat.reduceEqDiff, Nat.reduceAdd, Nat.reduceMul, Nat.reduceSub, Nat.reduceLT, Nat.reduceLeDiff, Nat.reducePow, Int.reduceLT, Int.reduceLE, Int.reduceNeg, Int.reduceToNat]
    · have h9 := hp i h6
      rw [pOK, getD_at h6] at h9
      have h10 : p[i].toNat < (nq p i).1.length := by
        have := beqF h8
        rw [hnl]
        omega
      simp (dsimp := false) (maxDischargeDepth := 16) only [go_sem, ↓reduceIte, reduceCtorEq, Nat.reduceEqDiff, Nat.reduceAdd, Nat.reduceMul, Nat.reduceSub, Nat.reduceLT, Nat.reduceLeDiff, Nat.reducePow, Int.reduceLT, Int.reduceLE, Int.reduceNeg, Int.reduceToNat, t15, t16, t17, t7, t6, h6, h8, htk, idx_int, h9.1, h10]
      refine ⟨⟨by omega, by omega⟩, i + 1, by omega, by omega, by rw [wrapN _ (by omega)], ?_, .own (37, s.g 37, 0), ?_, ?_⟩
      · rw [nq_kid h6 (beqF h8) h10]
      · rw [nq_kid h6 (beqF h8) h10]
        simp only [map1_app]
      · simp (dsimp := false) (maxDischargeDepth := 16) only [go_sem, ↓reduceIte, reduceCtorEq, Nat.reduceEqDiff, Nat.reduceAdd, Nat.reduceMul, Nat.reduceSub, Nat.reduceLT, Nat.reduceLeDiff, Nat.reducePow, Int.reduceLT, Int.reduceLE, Int.reduceNeg, Int.reduceToNat]
  · simp (dsimp := false) (maxDischargeDepth := 16) only [go_sem, ↓reduceIte, reduceCtorEq, Nat.reduceEqDiff, Nat.reduceAdd, Nat.reduceMul, Nat.reduceSub, Nat.reduceLT, Nat.reduceLeDiff, Nat.reducePow, Int.reduceLT, Int.reduceLE, Int.reduceNeg, Int.reduceToNat, t15, t16, t17, t7, t6, h6]
    have : i = p.length := by omega
    subst this
    exact finK ⟨rfl, rfl⟩
theorem c162 (p : List Int) (hl : p.length ≤ 80) (hp : isP p) : Con Try.prog 162 [lv p] 0 (lv (nq p p.length).1) := by
  refine conT (X := []) (rs := [.tmp 2]) Try.func162 (by kernel_rfl) rfl rfl (by kernel_rfl) ?_
  simp (dsimp := false) (maxDischargeDepth := 16) only [go_sem, ↓reduceIte, reduceCtorEq, Nat.reduceEqDiff, Nat.reduceAdd, Nat.reduceMul, Nat.reduceSub, Nat.reduceLT, Nat.reduceLeDiff, Nat.reducePow, Int.reduceLT, Int.reduceLE, Int.reduceNeg, Int.reduceToNat]
  refine loopK_intro (fun (i : Nat) s => i ≤ p.length ∧ s.t 0 = lv p ∧ s.t 5 = iv i ∧ s.t 4 = iv (nq p i).2 ∧ ∃ tk, s.t 3 = lvT (nq p i).1 tk ∧ tokOK s tk = true) (fun i => p.length - i)
    ?_ ?_
  · exact ⟨0, by omega, rfl, rfl, rfl, .nil, rfl, rfl⟩
  rintro i s ⟨hi, t0, t5, t4, tk, t3, htk⟩
  have hnl := nq_len p i
  have hnb := nq_bound p i
  simp (dsimp := false) (maxDischargeDepth := 16) only [go_sem, ↓reduceIte, reduceCtorEq, Nat.reduceEqDiff, Nat.reduceAdd, Nat.reduceMul, Nat.reduceSub, Nat.reduceLT, Nat.reduceLeDiff, Nat.reducePow, Int.reduceLT, Int.reduceLE, Int.reduceNeg, Int.reduceToNat, t0, t5, t4, t3]
  refine condK_dec (fun h6 => ?_) (fun h6 => ?_)
  · simp (dsimp := false) (maxDischargeDepth := 16) only [go_sem, ↓reduceIte, reduceCtorEq, Nat.reduceEqDiff, Nat.reduceAdd, Nat.reduceMul, Nat.reduceSub, Nat.reduceLT, Nat.reduceLeDiff, Nat.reducePow, Int.reduceLT, Int.reduceLE, Int.reduceNeg, Int.reduceToNat, t0, t5, t4, t3, h6, idx_nat]
    refine condK_intro (fun h8 => ?_) (fun h8 => ?_)
    · simp (dsimp := false) (maxDischargeDepth := 16) only [go_sem, ↓reduceIte, reduceCtorEq, Nat.reduceEqDiff, Nat.reduceAdd, Nat.reduceMul, Nat.reduceSub, Nat.reduceLT, Nat.reduceLeDiff, Nat.reducePow, Int.reduceLT, Int.reduceLE, Int.reduceNeg, Int.reduceToNat, t0, t5, t4, t3, h6, h8, htk]
      refine ⟨⟨by omega, by omega⟩, i + 1, by omega, by omega, by rw [wrapN _ (by omega)], ?_, .own (21, s.g 21, 0), ?_, ?_⟩
      · rw [nq_root h6 (beqT h8), wrap_i64 _ (by omega) (by omega)]
      · rw [nq_root h6 (beqT h8)]
        simp only [map1_app]
      · simp (dsimp := false) (maxDischargeDepth := 16) only [go_sem, ↓reduceIte, reduceCtorEq, Nat.reduceEqDiff, Nat.reduceAdd, Nat.reduceMul, Nat.reduceSub, Nat.reduceLT, Nat.reduceLeDiff, Nat.reducePow, Int.reduceLT, Int.reduceLE, Int.reduceNeg, Int.reduceToNat]
    · have h9 := hp i h6
      rw [pOK, getD_at h6] at h9
      have h10 : p[i].toNat < (nq p i).1.length := by
        have := beqF h8
        rw [hnl]
        omega
      simp (dsimp := false) (maxDischargeDepth := 16) only [go_sem, ↓reduceIte, reduceCtorEq, Nat.reduceEqDiff, Nat.reduceAdd, Nat.reduceMul, Nat.reduceSub, Nat.reduceLT, Nat.reduceLeDiff, Nat.reducePow, Int.reduceLT, Int.reduceLE, Int.reduceNeg, Int.reduceToNat, t0, t5, t4, t3, h6, h8, htk, idx_nat, idx_int, h9.1, h10]
      refine ⟨⟨by omega, by omega⟩, i + 1, by omega, by omega, by rw [wrapN _ (by omega)], ?_, .own (33, s.g 33, 0), ?_, ?_⟩
      · rw [nq_kid h6 (beqF h8) h10]
      · rw [nq_kid h6 (beqF h8) h10]
        simp only [map1_app]
      · simp (dsimp := false) (maxDischargeDepth := 16) only [go_sem, ↓reduceIte, reduceCtorEq, Nat.reduceEqDiff, Nat.reduceAdd, Nat.reduceMul, Nat.reduceSub, Nat.reduceLT, Nat.reduceLeDiff, Nat.reducePow, Int.reduceLT, Int.reduceLE, Int.reduceNeg, Int.reduceToNat]
  · simp (dsimp := false) (maxDischargeDepth := 16) only [go_sem, ↓reduceIte, reduceCtorEq, Nat.reduceEqDiff, Nat.reduceAdd, Nat.reduceMul, Nat.reduceSub, Nat.reduceLT, Nat.reduceLeDiff, Nat.reducePow, Int.reduceLT, Int.reduceLE, Int.reduceNeg, Int.reduceToNat, t0, t5, t4, t3, h6]
    have : i = p.length := by omega
    subst this
    exact finK ⟨rfl, rfl⟩
end Go.Sy
