/- Contracts: factor.Overlaps. -/
import Derived.Test.YtkhheblmgbiniaaWB
set_option linter.unusedSimpArgs false
namespace Go.Sy
open Go Go.Proofs

theorem c18 (a b : Gr) : Con Try.prog 18 [gv a, gv b] 0 (.tup [olv (ovS a b).1, iv (ovS a b).2]) := by
  refine conT (X := []) (rs := [.tmp 4, .tmp 5]) Try.func18 (by kernel_rfl) rfl rfl (by kernel_rfl) ?_
  simp (dsimp := false) (maxDischargeDepth := 16) only [go_sem, ↓reduceIte, reduceCtorEq, Nat.reduceEqDiff, Nat.reduceAdd, Nat.reduceMul, Nat.reduceSub, Nat.reduceLT, Nat.reduceLeDiff, Nat.reducePow, Int.reduceLT, Int.reduceLE, Int.reduceNeg, Int.reduceToNat]
  refine loopK_intro (fun (i : Nat) s => s.t 2 = .box (2, 0, 0) 0 ∧ s.b (2, 0, 0) = some ⟨gcs a, false⟩ ∧ s.t 3 = .box (3, 0, 0) 0 ∧ s.b (3, 0, 0) = some ⟨gcs b, false⟩ ∧ (∃ tk, s.t 12 = .list 2 [gcs a, gcs b] tk) ∧ s.t 13 = iv 2 ∧
    (i = 0 ∧ s.t 14 = iv 0 ∨ i = 1 ∧ s.t 14 = iv 1 ∧ gErr a = 0 ∨ i = 2 ∧ s.t 14 = iv 2 ∧ gErr a = 0 ∧ gErr b = 0)) (fun i => 2 - i) ⟨0, rfl, rfl, rfl, rfl, ⟨_, rfl⟩, rfl, .inl ⟨rfl, rfl⟩⟩ ?_
  rintro i s ⟨t2, b2, t3, b3, ⟨tk, t12⟩, t13, h⟩
  rcases h with ⟨rfl, t14⟩ | ⟨rfl, t14, g1⟩ | ⟨rfl, t14, g1, g2⟩
  · simp (dsimp := false) (maxDischargeDepth := 16) only [go_sem, ↓reduceIte, reduceCtorEq, Nat.reduceEqDiff, Nat.reduceAdd, Nat.reduceMul, Nat.reduceSub, Nat.reduceLT, Nat.reduceLeDiff, Nat.reducePow, Int.reduceLT, Int.reduceLE, Int.reduceNeg, Int.reduceToNat, t2, b2, t3, b3, t12, t13, t14, idx_int, List.getElem_cons_zero]
    refine callK_intro (c61 a) ?_
    simp (dsimp := false) (maxDischargeDepth := 16) only [go_sem, ↓reduceIte, reduceCtorEq, Nat.reduceEqDiff, Nat.reduceAdd, Nat.reduceMul, Nat.reduceSub, Nat.reduceLT, Nat.reduceLeDiff, Nat.reducePow, Int.reduceLT, Int.reduceLE, Int.reduceNeg, Int.reduceToNat, t2, b2, t3, b3, t12, t13, t14]
    refine condK_intro (fun h1 => ?_) (fun h1 => ?_)
    · simp (dsimp := false) (maxDischargeDepth := 16) only [go_sem, ↓reduceIte, reduceCtorEq, Nat.reduceEqDiff, Nat.reduceAdd, Nat.reduceMul, Nat.reduceSub, Nat.reduceLT, Nat.reduceLeDiff, Nat.reducePow, Int.reduceLT, Int.reduceLE, Int.reduceNeg, Int.reduceToNat, t2, b2, t3, b3, t12, t13, t14, h1]
      have h : ovS a b = ([], gErr a) := if_pos (ineq h1)
      rw [h]
      exact finK ⟨rfl, rfl⟩
    · simp (dsimp := false) (maxDischargeDepth := 16) only [go_sem, ↓reduceIte, reduceCtorEq, Nat.reduceEqDiff, Nat.reduceAdd, Nat.reduceMul, Nat.reduceSub, Nat.reduceLT, Nat.reduceLeDiff, Nat.reducePow, Int.reduceLT, Int.reduceLE, Int.reduceNeg, Int.reduceToNat, t2, b2, t3, b3, t12, t13, t14, h1]
      exact ⟨1, by decide, ⟨tk, rfl⟩, .inr (.inl ⟨rfl, by rw [wrap_i64 _ (by decide) (by decide)]; rfl, ieq h1⟩)⟩
  · simp (dsimp := false) (maxDischargeDepth := 16) only [go_sem, ↓reduceIte, reduceCtorEq, Nat.reduceEqDiff, Nat.reduceAdd, Nat.reduceMul, Nat.reduceSub, Nat.reduceLT, Nat.reduceLeDiff, Nat.reducePow, Int.reduceLT, Int.reduceLE, Int.reduceNeg, Int.reduceToNat, t2, b2, t3, b3, t12, t13, t14, idx_int, List.getElem_cons_zero, List.getElem_cons_succ]
    refine callK_intro (c61 b) ?_
    simp (dsimp := false) (maxDischargeDepth := 16) only [go_sem, ↓reduceIte, reduceCtorEq, Nat.reduceEqDiff, Nat.reduceAdd, Nat.reduceMul, Nat.reduceSub, Nat.reduceLT, Nat.reduceLeDiff, Nat.reducePow, Int.reduceLT, Int.reduceLE, Int.reduceNeg, Int.reduceToNat, t2, b2, t3, b3, t12, t13, t14]
    refine condK_intro (fun h1 => ?_) (fun h1 => ?_)
    · simp (dsimp := false) (maxDischargeDepth := 16) only [go_sem, ↓reduceIte, reduceCtorEq, Nat.reduceEqDiff, Nat.reduceAdd, Nat.reduceMul, Nat.reduceSub, Nat.reduceLT, Nat.reduceLeDiff, Nat.reducePow, Int.reduceLT, Int.reduceLE, Int.reduceNeg, Int.reduceToNat, t2, b2, t3, b3, t12, t13, t14, h1]
      have h : ovS a b = ([], gErr b) := by rw [ovS, if_neg (by simp [g1]), if_pos (ineq h1)]
      rw [h]
      exact finK ⟨rfl, rfl⟩
    · simp (dsimp := false) (maxDischargeDepth := 16) only [go_sem, ↓reduceIte, reduceCtorEq, Nat.reduceEqDiff, Nat.reduceAdd, Nat.reduceMul, Nat.reduceSub, Nat.reduceLT, Nat.reduceLeDiff, Nat.reducePow, Int.reduceLT, Int.reduceLE, Int.reduceNeg, Int.reduceToNat, t2, b2, t3, b3, t12, t13, t14, h1]
      exact ⟨2, by decide, ⟨tk, rfl⟩, .inr (.inr ⟨rfl, by rw [wrap_i64 _ (by decide) (by decide)]; rfl, g1, ieq h1⟩)⟩
  obtain ⟨⟨p1, p2⟩, p3⟩ := gErr_small g1
  obtain ⟨⟨p4, p5⟩, p6⟩ := gErr_small g2
  have w1 : IntKind.i64.wrap ((a.n.length : Int) + b.n.length) = (a.n.length : Int) + b.n.length := wrap_i64 _ (by omega) (by omega)
  have w2 : IntKind.i64.wrap ((a.e.length : Int) + b.e.length) = (a.e.length : Int) + b.e.length := wrap_i64 _ (by omega) (by omega)
  simp (dsimp := false) (maxDischargeDepth := 16) only [go_sem, ↓reduceIte, reduceCtorEq, Nat.reduceEqDiff, Nat.reduceAdd, Nat.reduceMul, Nat.reduceSub, Nat.reduceLT, Nat.reduceLeDiff, Nat.reducePow, Int.reduceLT, Int.reduceLE, Int.reduceNeg, Int.reduceToNat, t2, b2, t3, b3, t12, t13, t14, w1]
  have hbig : ∀ o, (40 < a.n.length + b.n.length ∨ 80 < a.e.length + b.e.length) → o = ovS a b → o = ([], 3) := fun o h ho => by
    rw [ho, ovS, if_neg (by simp [g1]), if_neg (by simp [g2]), if_pos h]
  refine condK_dec (fun h3 => ?_) (fun h3 => ?_)
  · simp (dsimp := false) (maxDischargeDepth := 16) only [go_sem, ↓reduceIte, reduceCtorEq, Nat.reduceEqDiff, Nat.reduceAdd, Nat.reduceMul, Nat.reduceSub, Nat.reduceLT, Nat.reduceLeDiff, Nat.reducePow, Int.reduceLT, Int.reduceLE, Int.reduceNeg, Int.reduceToNat, t2, b2, t3, b3, h3]
    rw [hbig _ (by omega) rfl]
    exact finK ⟨rfl, rfl⟩
  simp (dsimp := false) (maxDischargeDepth := 16) only [go_sem, ↓reduceIte, reduceCtorEq, Nat.reduceEqDiff, Nat.reduceAdd, Nat.reduceMul, Nat.reduceSub, Nat.reduceLT, Nat.reduceLeDiff, Nat.reducePow, Int.reduceLT, Int.reduceLE, Int.reduceNeg, Int.reduceToNat, t2, b2, t3, b3, h3, w2]
  refine condK_dec (fun h4 => ?_) (fun h4 => ?_)
  · simp (dsimp := false) (maxDischargeDepth := 16) only [go_sem, ↓reduceIte, reduceCtorEq, Nat.reduceEqDiff, Nat.reduceAdd, Nat.reduceMul, Nat.reduceSub, Nat.reduceLT, Nat.reduceLeDiff, Nat.reducePow, Int.reduceLT, Int.reduceLE, Int.reduceNeg, Int.reduceToNat, t2, b2, t3, b3, h3, h4]
    rw [hbig _ (by omega) rfl]
    exact finK ⟨rfl, rfl⟩
  simp (dsimp := false) (maxDischargeDepth := 16) only [go_sem, ↓reduceIte, reduceCtorEq, Nat.reduceEqDiff, Nat.reduceAdd, Nat.reduceMul, Nat.reduceSub, Nat.reduceLT, Nat.reduceLeDiff, Nat.reducePow, Int.reduceLT, Int.reduceLE, Int.reduceNeg, Int.reduceToNat, t2, b2, t3, b3, h3, h4]
  have ic := c62 a b g1 (by omega) (by omega) (by omega) (by omega) (fun x hx => (p6.2 x hx).2) b.n.length [] [] (by simp) (by simp)
  simp only [lv, lvT, iv, List.map_nil] at ic
  refine ecallK_intro (pre := gcs a ++ gcs b) (x := olvT [] .nil) rfl ?_ ic ?_
  · simp (dsimp := false) (maxDischargeDepth := 16) only [go_sem, ↓reduceIte, reduceCtorEq, Nat.reduceEqDiff, Nat.reduceAdd, Nat.reduceMul, Nat.reduceSub, Nat.reduceLT, Nat.reduceLeDiff, Nat.reducePow, Int.reduceLT, Int.reduceLE, Int.reduceNeg, Int.reduceToNat]
  have hl := ovN_len a b b.n.length [] [] (by simp)
  generalize hO : ovN a b b.n.length [] [] = O at *
  simp (dsimp := false) (maxDischargeDepth := 16) only [go_sem, ↓reduceIte, reduceCtorEq, Nat.reduceEqDiff, Nat.reduceAdd, Nat.reduceMul, Nat.reduceSub, Nat.reduceLT, Nat.reduceLeDiff, Nat.reducePow, Int.reduceLT, Int.reduceLE, Int.reduceNeg, Int.reduceToNat, h3, h4]
  refine condK_dec (fun h5 => ?_) (fun h5 => ?_)
  · simp (dsimp := false) (maxDischargeDepth := 16) only [go_sem, ↓reduceIte, reduceCtorEq, Nat.reduceEqDiff, Nat.reduceAdd, Nat.reduceMul, Nat.reduceSub, Nat.reduceLT, Nat.reduceLeDiff, Nat.reducePow, Int.reduceLT, Int.reduceLE, Int.reduceNeg, Int.reduceToNat, h3, h4, h5]
    have h : ovS a b = ([], 3) := by rw [ovS, if_neg (by simp [g1]), if_neg (by simp [g2]), if_neg (by omega), hO, if_pos (by omega)]
    rw [h]
    exact finK ⟨rfl, rfl⟩
  · simp (dsimp := false) (maxDischargeDepth := 16) only [go_sem, ↓reduceIte, reduceCtorEq, Nat.reduceEqDiff, Nat.reduceAdd, Nat.reduceMul, Nat.reduceSub, Nat.reduceLT, Nat.reduceLeDiff, Nat.reducePow, Int.reduceLT, Int.reduceLE, Int.reduceNeg, Int.reduceToNat, h3, h4, h5]
    have h : ovS a b = (O, 0) := by rw [ovS, if_neg (by simp [g1]), if_neg (by simp [g2]), if_neg (by omega), hO, if_neg (by omega)]
    rw [h]
    exact finK ⟨rfl, rfl⟩
end Go.Sy
