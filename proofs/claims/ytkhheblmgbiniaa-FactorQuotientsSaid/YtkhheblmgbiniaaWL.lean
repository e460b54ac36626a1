/- FactorQuotients: the law's contract. -/
import Derived.Test.YtkhheblmgbiniaaWK
import Derived.Test.YtkhheblmgbiniaaM1
set_option linter.unusedSimpArgs false
namespace Go.Sy
open Go Go.Proofs

set_option maxHeartbeats 1000000 in
theorem c4 (a : Gr) : Con Try.prog 4 [gv a] 0 (bv true) := by
  refine conT (X := []) (rs := [.tmp 2]) Try.func4 (by kernel_rfl) rfl rfl (by kernel_rfl) ?_
  simp (dsimp := false) (maxDischargeDepth := 16) only [go_sem, ↓reduceIte, reduceCtorEq, Nat.reduceEqDiff, Nat.reduceAdd, Nat.reduceMul, Nat.reduceSub, Nat.reduceLT, Nat.reduceLeDiff, Nat.reducePow, Int.reduceLT, Int.reduceLE, Int.reduceNeg, Int.reduceToNat]
  refine callK_intro c16 ?_
  simp (dsimp := false) (maxDischargeDepth := 16) only [go_sem, ↓reduceIte, reduceCtorEq, Nat.reduceEqDiff, Nat.reduceAdd, Nat.reduceMul, Nat.reduceSub, Nat.reduceLT, Nat.reduceLeDiff, Nat.reducePow, Int.reduceLT, Int.reduceLE, Int.reduceNeg, Int.reduceToNat]
  refine callK_intro (c17 a 5 4) ?_
  simp (dsimp := false) (maxDischargeDepth := 16) only [go_sem, ↓reduceIte, reduceCtorEq, Nat.reduceEqDiff, Nat.reduceAdd, Nat.reduceMul, Nat.reduceSub, Nat.reduceLT, Nat.reduceLeDiff, Nat.reducePow, Int.reduceLT, Int.reduceLE, Int.reduceNeg, Int.reduceToNat]
  refine condK_intro (fun h1 => ?_) (fun h1 => ?_)
  rotate_left
  · simp (dsimp := false) (maxDischargeDepth := 16) only [go_sem, ↓reduceIte, reduceCtorEq, Nat.reduceEqDiff, Nat.reduceAdd, Nat.reduceMul, Nat.reduceSub, Nat.reduceLT, Nat.reduceLeDiff, Nat.reducePow, Int.reduceLT, Int.reduceLE, Int.reduceNeg, Int.reduceToNat, h1]
    refine callK_intro (c22 a) ?_
    simp (dsimp := false) (maxDischargeDepth := 16) only [go_sem, ↓reduceIte, reduceCtorEq, Nat.reduceEqDiff, Nat.reduceAdd, Nat.reduceMul, Nat.reduceSub, Nat.reduceLT, Nat.reduceLeDiff, Nat.reducePow, Int.reduceLT, Int.reduceLE, Int.reduceNeg, Int.reduceToNat, h1]
    refine condK_intro (fun hf => ?_) (fun hf => ?_)
    · simp (dsimp := false) (maxDischargeDepth := 16) only [go_sem, ↓reduceIte, reduceCtorEq, Nat.reduceEqDiff, Nat.reduceAdd, Nat.reduceMul, Nat.reduceSub, Nat.reduceLT, Nat.reduceLeDiff, Nat.reducePow, Int.reduceLT, Int.reduceLE, Int.reduceNeg, Int.reduceToNat, h1, hf]
      refine callK_intro c16 ?_
      simp (dsimp := false) (maxDischargeDepth := 16) only [go_sem, ↓reduceIte, reduceCtorEq, Nat.reduceEqDiff, Nat.reduceAdd, Nat.reduceMul, Nat.reduceSub, Nat.reduceLT, Nat.reduceLeDiff, Nat.reducePow, Int.reduceLT, Int.reduceLE, Int.reduceNeg, Int.reduceToNat, h1, hf]
      exact finB rfl
    have gf := ydec hf
    simp (dsimp := false) (maxDischargeDepth := 16) only [go_sem, ↓reduceIte, reduceCtorEq, Nat.reduceEqDiff, Nat.reduceAdd, Nat.reduceMul, Nat.reduceSub, Nat.reduceLT, Nat.reduceLeDiff, Nat.reducePow, Int.reduceLT, Int.reduceLE, Int.reduceNeg, Int.reduceToNat, h1, hf]
    refine callK_intro (c19 a (by omega) (by omega)) ?_
    simp (dsimp := false) (maxDischargeDepth := 16) only [go_sem, ↓reduceIte, reduceCtorEq, Nat.reduceEqDiff, Nat.reduceAdd, Nat.reduceMul, Nat.reduceSub, Nat.reduceLT, Nat.reduceLeDiff, Nat.reducePow, Int.reduceLT, Int.reduceLE, Int.reduceNeg, Int.reduceToNat, h1, hf, gvo]
    refine callK_intro (c23 a) ?_
    simp (dsimp := false) (maxDischargeDepth := 16) only [go_sem, ↓reduceIte, reduceCtorEq, Nat.reduceEqDiff, Nat.reduceAdd, Nat.reduceMul, Nat.reduceSub, Nat.reduceLT, Nat.reduceLeDiff, Nat.reducePow, Int.reduceLT, Int.reduceLE, Int.reduceNeg, Int.reduceToNat, h1, hf]
    refine callK_intro (c24 a) ?_
    rw [quP_quS a]
    simp (dsimp := false) (maxDischargeDepth := 16) only [go_sem, ↓reduceIte, reduceCtorEq, Nat.reduceEqDiff, Nat.reduceAdd, Nat.reduceMul, Nat.reduceSub, Nat.reduceLT, Nat.reduceLeDiff, Nat.reducePow, Int.reduceLT, Int.reduceLE, Int.reduceNeg, Int.reduceToNat, h1, hf]
    refine condK_intro (fun he => ?_) (fun he => by simp at he)
    simp (dsimp := false) (maxDischargeDepth := 16) only [go_sem, ↓reduceIte, reduceCtorEq, Nat.reduceEqDiff, Nat.reduceAdd, Nat.reduceMul, Nat.reduceSub, Nat.reduceLT, Nat.reduceLeDiff, Nat.reducePow, Int.reduceLT, Int.reduceLE, Int.reduceNeg, Int.reduceToNat, h1, hf, he]
    refine callK_intro (c25 _ _) ?_
    simp (dsimp := false) (maxDischargeDepth := 16) only [go_sem, ↓reduceIte, reduceCtorEq, Nat.reduceEqDiff, Nat.reduceAdd, Nat.reduceMul, Nat.reduceSub, Nat.reduceLT, Nat.reduceLeDiff, Nat.reducePow, Int.reduceLT, Int.reduceLE, Int.reduceNeg, Int.reduceToNat, h1, hf, he]
    exact finB rfl
  simp (dsimp := false) (maxDischargeDepth := 16) only [go_sem, ↓reduceIte, reduceCtorEq, Nat.reduceEqDiff, Nat.reduceAdd, Nat.reduceMul, Nat.reduceSub, Nat.reduceLT, Nat.reduceLeDiff, Nat.reducePow, Int.reduceLT, Int.reduceLE, Int.reduceNeg, Int.reduceToNat, h1]
  refine condK_dec (fun h2 => ?_) (fun h2 => ?_)
  rotate_left
  · simp (dsimp := false) (maxDischargeDepth := 16) only [go_sem, ↓reduceIte, reduceCtorEq, Nat.reduceEqDiff, Nat.reduceAdd, Nat.reduceMul, Nat.reduceSub, Nat.reduceLT, Nat.reduceLeDiff, Nat.reducePow, Int.reduceLT, Int.reduceLE, Int.reduceNeg, Int.reduceToNat, h1, h2]
    refine callK_intro (c22 a) ?_
    simp (dsimp := false) (maxDischargeDepth := 16) only [go_sem, ↓reduceIte, reduceCtorEq, Nat.reduceEqDiff, Nat.reduceAdd, Nat.reduceMul, Nat.reduceSub, Nat.reduceLT, Nat.reduceLeDiff, Nat.reducePow, Int.reduceLT, Int.reduceLE, Int.reduceNeg, Int.reduceToNat, h1, h2]
    refine condK_intro (fun hf => ?_) (fun hf => ?_)
    · simp (dsimp := false) (maxDischargeDepth := 16) only [go_sem, ↓reduceIte, reduceCtorEq, Nat.reduceEqDiff, Nat.reduceAdd, Nat.reduceMul, Nat.reduceSub, Nat.reduceLT, Nat.reduceLeDiff, Nat.reducePow, Int.reduceLT, Int.reduceLE, Int.reduceNeg, Int.reduceToNat, h1, h2, hf]
      refine callK_intro c16 ?_
      simp (dsimp := false) (maxDischargeDepth := 16) only [go_sem, ↓reduceIte, reduceCtorEq, Nat.reduceEqDiff, Nat.reduceAdd, Nat.reduceMul, Nat.reduceSub, Nat.reduceLT, Nat.reduceLeDiff, Nat.reducePow, Int.reduceLT, Int.reduceLE, Int.reduceNeg, Int.reduceToNat, h1, h2, hf]
      exact finB rfl
    have gf := ydec hf
    simp (dsimp := false) (maxDischargeDepth := 16) only [go_sem, ↓reduceIte, reduceCtorEq, Nat.reduceEqDiff, Nat.reduceAdd, Nat.reduceMul, Nat.reduceSub, Nat.reduceLT, Nat.reduceLeDiff, Nat.reducePow, Int.reduceLT, Int.reduceLE, Int.reduceNeg, Int.reduceToNat, h1, h2, hf]
    refine callK_intro (c19 a (by omega) (by omega)) ?_
    simp (dsimp := false) (maxDischargeDepth := 16) only [go_sem, ↓reduceIte, reduceCtorEq, Nat.reduceEqDiff, Nat.reduceAdd, Nat.reduceMul, Nat.reduceSub, Nat.reduceLT, Nat.reduceLeDiff, Nat.reducePow, Int.reduceLT, Int.reduceLE, Int.reduceNeg, Int.reduceToNat, h1, h2, hf, gvo]
    refine callK_intro (c23 a) ?_
    simp (dsimp := false) (maxDischargeDepth := 16) only [go_sem, ↓reduceIte, reduceCtorEq, Nat.reduceEqDiff, Nat.reduceAdd, Nat.reduceMul, Nat.reduceSub, Nat.reduceLT, Nat.reduceLeDiff, Nat.reducePow, Int.reduceLT, Int.reduceLE, Int.reduceNeg, Int.reduceToNat, h1, h2, hf]
    refine callK_intro (c24 a) ?_
    rw [quP_quS a]
    simp (dsimp := false) (maxDischargeDepth := 16) only [go_sem, ↓reduceIte, reduceCtorEq, Nat.reduceEqDiff, Nat.reduceAdd, Nat.reduceMul, Nat.reduceSub, Nat.reduceLT, Nat.reduceLeDiff, Nat.reducePow, Int.reduceLT, Int.reduceLE, Int.reduceNeg, Int.reduceToNat, h1, h2, hf]
    refine condK_intro (fun he => ?_) (fun he => by simp at he)
    simp (dsimp := false) (maxDischargeDepth := 16) only [go_sem, ↓reduceIte, reduceCtorEq, Nat.reduceEqDiff, Nat.reduceAdd, Nat.reduceMul, Nat.reduceSub, Nat.reduceLT, Nat.reduceLeDiff, Nat.reducePow, Int.reduceLT, Int.reduceLE, Int.reduceNeg, Int.reduceToNat, h1, h2, hf, he]
    refine callK_intro (c25 _ _) ?_
    simp (dsimp := false) (maxDischargeDepth := 16) only [go_sem, ↓reduceIte, reduceCtorEq, Nat.reduceEqDiff, Nat.reduceAdd, Nat.reduceMul, Nat.reduceSub, Nat.reduceLT, Nat.reduceLeDiff, Nat.reducePow, Int.reduceLT, Int.reduceLE, Int.reduceNeg, Int.reduceToNat, h1, h2, hf, he]
    exact finB rfl
  simp (dsimp := false) (maxDischargeDepth := 16) only [go_sem, ↓reduceIte, reduceCtorEq, Nat.reduceEqDiff, Nat.reduceAdd, Nat.reduceMul, Nat.reduceSub, Nat.reduceLT, Nat.reduceLeDiff, Nat.reducePow, Int.reduceLT, Int.reduceLE, Int.reduceNeg, Int.reduceToNat, h1, h2]
  refine condK_dec (fun h3 => ?_) (fun h3 => ?_)
  rotate_left
  · simp (dsimp := false) (maxDischargeDepth := 16) only [go_sem, ↓reduceIte, reduceCtorEq, Nat.reduceEqDiff, Nat.reduceAdd, Nat.reduceMul, Nat.reduceSub, Nat.reduceLT, Nat.reduceLeDiff, Nat.reducePow, Int.reduceLT, Int.reduceLE, Int.reduceNeg, Int.reduceToNat, h1, h2, h3]
    refine callK_intro (c22 a) ?_
    simp (dsimp := false) (maxDischargeDepth := 16) only [go_sem, ↓reduceIte, reduceCtorEq, Nat.reduceEqDiff, Nat.reduceAdd, Nat.reduceMul, Nat.reduceSub, Nat.reduceLT, Nat.reduceLeDiff, Nat.reducePow, Int.reduceLT, Int.reduceLE, Int.reduceNeg, Int.reduceToNat, h1, h2, h3]
    refine condK_intro (fun hf => ?_) (fun hf => ?_)
    · simp (dsimp := false) (maxDischargeDepth := 16) only [go_sem, ↓reduceIte, reduceCtorEq, Nat.reduceEqDiff, Nat.reduceAdd, Nat.reduceMul, Nat.reduceSub, Nat.reduceLT, Nat.reduceLeDiff, Nat.reducePow, Int.reduceLT, Int.reduceLE, Int.reduceNeg, Int.reduceToNat, h1, h2, h3, hf]
      refine callK_intro c16 ?_
      simp (dsimp := false) (maxDischargeDepth := 16) only [go_sem, ↓reduceIte, reduceCtorEq, Nat.reduceEqDiff, Nat.reduceAdd, Nat.reduceMul, Nat.reduceSub, Nat.reduceLT, Nat.reduceLeDiff, Nat.reducePow, Int.reduceLT, Int.reduceLE, Int.reduceNeg, Int.reduceToNat, h1, h2, h3, hf]
      exact finB rfl
    have gf := ydec hf
    simp (dsimp := false) (maxDischargeDepth := 16) only [go_sem, ↓reduceIte, reduceCtorEq, Nat.reduceEqDiff, Nat.reduceAdd, Nat.reduceMul, Nat.reduceSub, Nat.reduceLT, Nat.reduceLeDiff, Nat.reducePow, Int.reduceLT, Int.reduceLE, Int.reduceNeg, Int.reduceToNat, h1, h2, h3, hf]
    refine callK_intro (c19 a (by omega) (by omega)) ?_
    simp (dsimp := false) (maxDischargeDepth := 16) only [go_sem, ↓reduceIte, reduceCtorEq, Nat.reduceEqDiff, Nat.reduceAdd, Nat.reduceMul, Nat.reduceSub, Nat.reduceLT, Nat.reduceLeDiff, Nat.reducePow, Int.reduceLT, Int.reduceLE, Int.reduceNeg, Int.reduceToNat, h1, h2, h3, hf, gvo]
    refine callK_intro (c23 a) ?_
    simp (dsimp := false) (maxDischargeDepth := 16) only [go_sem, ↓reduceIte, reduceCtorEq, Nat.reduceEqDiff, Nat.reduceAdd, Nat.reduceMul, Nat.reduceSub, Nat.reduceLT, Nat.reduceLeDiff, Nat.reducePow, Int.reduceLT, Int.reduceLE, Int.reduceNeg, Int.reduceToNat, h1, h2, h3, hf]
    refine callK_intro (c24 a) ?_
    rw [quP_quS a]
    simp (dsimp := false) (maxDischargeDepth := 16) only [go_sem, ↓reduceIte, reduceCtorEq, Nat.reduceEqDiff, Nat.reduceAdd, Nat.reduceMul, Nat.reduceSub, Nat.reduceLT, Nat.reduceLeDiff, Nat.reducePow, Int.reduceLT, Int.reduceLE, Int.reduceNeg, Int.reduceToNat, h1, h2, h3, hf]
    refine condK_intro (fun he => ?_) (fun he => by simp at he)
    simp (dsimp := false) (maxDischargeDepth := 16) only [go_sem, ↓reduceIte, reduceCtorEq, Nat.reduceEqDiff, Nat.reduceAdd, Nat.reduceMul, Nat.reduceSub, Nat.reduceLT, Nat.reduceLeDiff, Nat.reducePow, Int.reduceLT, Int.reduceLE, Int.reduceNeg, Int.reduceToNat, h1, h2, h3, hf, he]
    refine callK_intro (c25 _ _) ?_
    simp (dsimp := false) (maxDischargeDepth := 16) only [go_sem, ↓reduceIte, reduceCtorEq, Nat.reduceEqDiff, Nat.reduceAdd, Nat.reduceMul, Nat.reduceSub, Nat.reduceLT, Nat.reduceLeDiff, Nat.reducePow, Int.reduceLT, Int.reduceLE, Int.reduceNeg, Int.reduceToNat, h1, h2, h3, hf, he]
    exact finB rfl
  simp (dsimp := false) (maxDischargeDepth := 16) only [go_sem, ↓reduceIte, reduceCtorEq, Nat.reduceEqDiff, Nat.reduceAdd, Nat.reduceMul, Nat.reduceSub, Nat.reduceLT, Nat.reduceLeDiff, Nat.reducePow, Int.reduceLT, Int.reduceLE, Int.reduceNeg, Int.reduceToNat, h1, h2, h3]
  refine callK_intro c16 ?_
  simp (dsimp := false) (maxDischargeDepth := 16) only [go_sem, ↓reduceIte, reduceCtorEq, Nat.reduceEqDiff, Nat.reduceAdd, Nat.reduceMul, Nat.reduceSub, Nat.reduceLT, Nat.reduceLeDiff, Nat.reducePow, Int.reduceLT, Int.reduceLE, Int.reduceNeg, Int.reduceToNat, h1, h2, h3]
  exact finB rfl
end Go.Sy
