/- Contracts of small functions. -/
import Derived.Test.YtkhheblmgbiniaaMG2
set_option linter.unusedSimpArgs false
namespace Go.Sy
open Go Go.Proofs

theorem c110 (n : Int) : Con Try.prog 110 [iv n] 0 (bv (decide (0 ≤ n ∧ n ≤ 99))) := by
  refine conT (X := []) (rs := [.tmp 2]) Try.func110 (by kernel_rfl) rfl rfl (by kernel_rfl) ?_
  simp (dsimp := false) (maxDischargeDepth := 16) only [go_sem, ↓reduceIte, reduceCtorEq, Nat.reduceEqDiff, Nat.reduceAdd, Nat.reduceMul, Nat.reduceSub, Nat.reduceLT, Nat.reduceLeDiff, Nat.reducePow, Int.reduceLT, Int.reduceLE, Int.reduceNeg, Int.reduceToNat]
  refine condK_dec (fun h1 => ?_) (fun h1 => ?_)
  · simp (dsimp := false) (maxDischargeDepth := 16) only [go_sem, ↓reduceIte, reduceCtorEq, Nat.reduceEqDiff, Nat.reduceAdd, Nat.reduceMul, Nat.reduceSub, Nat.reduceLT, Nat.reduceLeDiff, Nat.reducePow, Int.reduceLT, Int.reduceLE, Int.reduceNeg, Int.reduceToNat, h1]; exact finP (by omega)
  · simp (dsimp := false) (maxDischargeDepth := 16) only [go_sem, ↓reduceIte, reduceCtorEq, Nat.reduceEqDiff, Nat.reduceAdd, Nat.reduceMul, Nat.reduceSub, Nat.reduceLT, Nat.reduceLeDiff, Nat.reducePow, Int.reduceLT, Int.reduceLE, Int.reduceNeg, Int.reduceToNat, h1]; first | exact finB rfl | exact finF' (by omega)

theorem c22 (g : Gr) : Con Try.prog 22 [gv g] 0 (bv (decide (g.n.length ≤ 45 ∧ g.e.length ≤ 90))) := by
  refine conT (X := []) (rs := [.tmp 2]) Try.func22 (by kernel_rfl) rfl rfl (by kernel_rfl) ?_
  simp (dsimp := false) (maxDischargeDepth := 16) only [go_sem, ↓reduceIte, reduceCtorEq, Nat.reduceEqDiff, Nat.reduceAdd, Nat.reduceMul, Nat.reduceSub, Nat.reduceLT, Nat.reduceLeDiff, Nat.reducePow, Int.reduceLT, Int.reduceLE, Int.reduceNeg, Int.reduceToNat]
  refine condK_dec (fun h1 => ?_) (fun h1 => ?_)
  · simp (dsimp := false) (maxDischargeDepth := 16) only [go_sem, ↓reduceIte, reduceCtorEq, Nat.reduceEqDiff, Nat.reduceAdd, Nat.reduceMul, Nat.reduceSub, Nat.reduceLT, Nat.reduceLeDiff, Nat.reducePow, Int.reduceLT, Int.reduceLE, Int.reduceNeg, Int.reduceToNat, h1]; exact finP (by omega)
  · simp (dsimp := false) (maxDischargeDepth := 16) only [go_sem, ↓reduceIte, reduceCtorEq, Nat.reduceEqDiff, Nat.reduceAdd, Nat.reduceMul, Nat.reduceSub, Nat.reduceLT, Nat.reduceLeDiff, Nat.reducePow, Int.reduceLT, Int.reduceLE, Int.reduceNeg, Int.reduceToNat, h1]; first | exact finB rfl | exact finF' (by omega)

theorem c111 (x : Ed) (n : Int) : Con Try.prog 111 [.agg (ecs x), iv n] 0 (bv (decide ((0 ≤ x.1 ∧ x.1 ≤ 99) ∧ 0 ≤ x.2.1 ∧ x.2.1 < n ∧ 0 ≤ x.2.2 ∧ x.2.2 < n))) := by
  refine conT (X := []) (rs := [.tmp 4]) Try.func111 (by kernel_rfl) rfl rfl (by kernel_rfl) ?_
  simp (dsimp := false) (maxDischargeDepth := 16) only [go_sem, ↓reduceIte, reduceCtorEq, Nat.reduceEqDiff, Nat.reduceAdd, Nat.reduceMul, Nat.reduceSub, Nat.reduceLT, Nat.reduceLeDiff, Nat.reducePow, Int.reduceLT, Int.reduceLE, Int.reduceNeg, Int.reduceToNat]
  refine callK_intro (c110 _) ?_
  simp (dsimp := false) (maxDischargeDepth := 16) only [go_sem, ↓reduceIte, reduceCtorEq, Nat.reduceEqDiff, Nat.reduceAdd, Nat.reduceMul, Nat.reduceSub, Nat.reduceLT, Nat.reduceLeDiff, Nat.reducePow, Int.reduceLT, Int.reduceLE, Int.reduceNeg, Int.reduceToNat]
  refine condK_dec (fun h1 => ?_) (fun h1 => ?_)
  rotate_left
  · simp (dsimp := false) (maxDischargeDepth := 16) only [go_sem, ↓reduceIte, reduceCtorEq, Nat.reduceEqDiff, Nat.reduceAdd, Nat.reduceMul, Nat.reduceSub, Nat.reduceLT, Nat.reduceLeDiff, Nat.reducePow, Int.reduceLT, Int.reduceLE, Int.reduceNeg, Int.reduceToNat, h1]; first | exact finB rfl | exact finF' (by omega)
  simp (dsimp := false) (maxDischargeDepth := 16) only [go_sem, ↓reduceIte, reduceCtorEq, Nat.reduceEqDiff, Nat.reduceAdd, Nat.reduceMul, Nat.reduceSub, Nat.reduceLT, Nat.reduceLeDiff, Nat.reducePow, Int.reduceLT, Int.reduceLE, Int.reduceNeg, Int.reduceToNat, h1]
  refine condK_dec (fun h2 => ?_) (fun h2 => ?_)
  rotate_left
  · simp (dsimp := false) (maxDischargeDepth := 16) only [go_sem, ↓reduceIte, reduceCtorEq, Nat.reduceEqDiff, Nat.reduceAdd, Nat.reduceMul, Nat.reduceSub, Nat.reduceLT, Nat.reduceLeDiff, Nat.reducePow, Int.reduceLT, Int.reduceLE, Int.reduceNeg, Int.reduceToNat, h1, h2]; first | exact finB rfl | exact finF' (by omega)
  simp (dsimp := false) (maxDischargeDepth := 16) only [go_sem, ↓reduceIte, reduceCtorEq, Nat.reduceEqDiff, Nat.reduceAdd, Nat.reduceMul, Nat.reduceSub, Nat.reduceLT, Nat.reduceLeDiff, Nat.reducePow, Int.reduceLT, Int.reduceLE, Int.reduceNeg, Int.reduceToNat, h1, h2]
  refine condK_dec (fun h3 => ?_) (fun h3 => ?_)
  rotate_left
  · simp (dsimp := false) (maxDischargeDepth := 16) only [go_sem, ↓reduceIte, reduceCtorEq, Nat.reduceEqDiff, Nat.reduceAdd, Nat.reduceMul, Nat.reduceSub, Nat.reduceLT, Nat.reduceLeDiff, Nat.reducePow, Int.reduceLT, Int.reduceLE, Int.reduceNeg, Int.reduceToNat, h1, h2, h3]; first | exact finB rfl | exact finF' (by omega)
  simp (dsimp := false) (maxDischargeDepth := 16) only [go_sem, ↓reduceIte, reduceCtorEq, Nat.reduceEqDiff, Nat.reduceAdd, Nat.reduceMul, Nat.reduceSub, Nat.reduceLT, Nat.reduceLeDiff, Nat.reducePow, Int.reduceLT, Int.reduceLE, Int.reduceNeg, Int.reduceToNat, h1, h2, h3]
  refine condK_dec (fun h4 => ?_) (fun h4 => ?_)
  rotate_left
  · simp (dsimp := false) (maxDischargeDepth := 16) only [go_sem, ↓reduceIte, reduceCtorEq, Nat.reduceEqDiff, Nat.reduceAdd, Nat.reduceMul, Nat.reduceSub, Nat.reduceLT, Nat.reduceLeDiff, Nat.reducePow, Int.reduceLT, Int.reduceLE, Int.reduceNeg, Int.reduceToNat, h1, h2, h3, h4]; first | exact finB rfl | exact finF' (by omega)
  simp (dsimp := false) (maxDischargeDepth := 16) only [go_sem, ↓reduceIte, reduceCtorEq, Nat.reduceEqDiff, Nat.reduceAdd, Nat.reduceMul, Nat.reduceSub, Nat.reduceLT, Nat.reduceLeDiff, Nat.reducePow, Int.reduceLT, Int.reduceLE, Int.reduceNeg, Int.reduceToNat, h1, h2, h3, h4]
  exact finP (by omega)

theorem c95 (a b : List Int) : Con Try.prog 95 [lv a, lv b] 0 (bv (decide (a = b))) := by
  refine Con.assume (enters_of Try.func95 (by kernel_rfl) rfl) fun hb => ?_
  have hlen := bnd_lv (hb _ (List.mem_cons_self ..))
  refine conT (X := []) (rs := [.tmp 4]) Try.func95 (by kernel_rfl) rfl rfl (by kernel_rfl) ?_
  simp (dsimp := false) (maxDischargeDepth := 16) only [go_sem, ↓reduceIte, reduceCtorEq, Nat.reduceEqDiff, Nat.reduceAdd, Nat.reduceMul, Nat.reduceSub, Nat.reduceLT, Nat.reduceLeDiff, Nat.reducePow, Int.reduceLT, Int.reduceLE, Int.reduceNeg, Int.reduceToNat]
  refine condK_intro (fun h1 => ?_) (fun h1 => ?_)
  · simp (dsimp := false) (maxDischargeDepth := 16) only [go_sem, ↓reduceIte, reduceCtorEq, Nat.reduceEqDiff, Nat.reduceAdd, Nat.reduceMul, Nat.reduceSub, Nat.reduceLT, Nat.reduceLeDiff, Nat.reducePow, Int.reduceLT, Int.reduceLE, Int.reduceNeg, Int.reduceToNat, h1]
    exact finF' (fun h => by simp [h] at h1)
  have h1' : a.length = b.length := by have : (a.length : Int) = b.length := by simpa using h1
                                       omega
  simp (dsimp := false) (maxDischargeDepth := 16) only [go_sem, ↓reduceIte, reduceCtorEq, Nat.reduceEqDiff, Nat.reduceAdd, Nat.reduceMul, Nat.reduceSub, Nat.reduceLT, Nat.reduceLeDiff, Nat.reducePow, Int.reduceLT, Int.reduceLE, Int.reduceNeg, Int.reduceToNat, h1]
  refine loopK_intro (fun (i : Nat) s => i ≤ a.length ∧ s.t 0 = lv a ∧ s.t 1 = lv b ∧ s.t 5 = iv i ∧ ∀ j, j < i → a[j]? = b[j]?) (fun i => a.length - i) ⟨0, by omega, rfl, rfl, rfl, fun j hj => by omega⟩ ?_
  rintro i s ⟨hi, h0, h1, h5, hn⟩
  simp (dsimp := false) (maxDischargeDepth := 16) only [go_sem, ↓reduceIte, reduceCtorEq, Nat.reduceEqDiff, Nat.reduceAdd, Nat.reduceMul, Nat.reduceSub, Nat.reduceLT, Nat.reduceLeDiff, Nat.reducePow, Int.reduceLT, Int.reduceLE, Int.reduceNeg, Int.reduceToNat, h0, h1, h5]
  refine condK_dec (fun h6 => ?_) (fun h6 => ?_)
  · have h7 : i < b.length := by omega
    simp (dsimp := false) (maxDischargeDepth := 16) only [go_sem, ↓reduceIte, reduceCtorEq, Nat.reduceEqDiff, Nat.reduceAdd, Nat.reduceMul, Nat.reduceSub, Nat.reduceLT, Nat.reduceLeDiff, Nat.reducePow, Int.reduceLT, Int.reduceLE, Int.reduceNeg, Int.reduceToNat, h0, h1, h5, h6, h7, idx_nat]
    refine condK_intro (fun h8 => ?_) (fun h8 => ?_)
    · simp (dsimp := false) (maxDischargeDepth := 16) only [go_sem, ↓reduceIte, reduceCtorEq, Nat.reduceEqDiff, Nat.reduceAdd, Nat.reduceMul, Nat.reduceSub, Nat.reduceLT, Nat.reduceLeDiff, Nat.reducePow, Int.reduceLT, Int.reduceLE, Int.reduceNeg, Int.reduceToNat, h0, h1, h5, h6, h7, h8]
      refine finF' (fun h => ?_)
      subst h
      simp at h8
    · simp (dsimp := false) (maxDischargeDepth := 16) only [go_sem, ↓reduceIte, reduceCtorEq, Nat.reduceEqDiff, Nat.reduceAdd, Nat.reduceMul, Nat.reduceSub, Nat.reduceLT, Nat.reduceLeDiff, Nat.reducePow, Int.reduceLT, Int.reduceLE, Int.reduceNeg, Int.reduceToNat, h0, h1, h5, h6, h7, h8]
      refine ⟨i + 1, by omega, by omega, by rw [wrapN _ (by omega)], fun j hj => ?_⟩
      by_cases hji : j = i
      · subst hji
        rw [List.getElem?_eq_getElem h6, List.getElem?_eq_getElem h7]
        simpa using h8
      · exact hn j (by omega)
  · simp (dsimp := false) (maxDischargeDepth := 16) only [go_sem, ↓reduceIte, reduceCtorEq, Nat.reduceEqDiff, Nat.reduceAdd, Nat.reduceMul, Nat.reduceSub, Nat.reduceLT, Nat.reduceLeDiff, Nat.reducePow, Int.reduceLT, Int.reduceLE, Int.reduceNeg, Int.reduceToNat, h0, h1, h5, h6]
    refine finT (List.ext_getElem? fun j => ?_)
    by_cases hj : j < i
    · exact hn j hj
    · rw [List.getElem?_eq_none (by omega), List.getElem?_eq_none (by omega)]

theorem c98 (n : Nat) (hn : n ≤ 1000000) : Con Try.prog 98 [iv n] 0 (lv ((List.range n).map fun (i : Nat) => (i : Int))) := by
  refine conT (X := []) (rs := [.tmp 2]) Try.func98 (by kernel_rfl) rfl rfl (by kernel_rfl) ?_
  simp (dsimp := false) (maxDischargeDepth := 16) only [go_sem, ↓reduceIte, reduceCtorEq, Nat.reduceEqDiff, Nat.reduceAdd, Nat.reduceMul, Nat.reduceSub, Nat.reduceLT, Nat.reduceLeDiff, Nat.reducePow, Int.reduceLT, Int.reduceLE, Int.reduceNeg, Int.reduceToNat]
  refine loopK_intro (fun (i : Nat) s => i ≤ n ∧ s.t 0 = iv n ∧ s.t 4 = iv i ∧ ∃ tk, s.t 3 = lvT ((List.range i).map fun (i : Nat) => (i : Int)) tk ∧ tokOK s tk = true) (fun i => n - i) ⟨0, by omega, rfl, rfl, .nil, rfl, rfl⟩ ?_
  rintro i s ⟨hi, h0, h4, tk, h3, htk⟩
  simp (dsimp := false) (maxDischargeDepth := 16) only [go_sem, ↓reduceIte, reduceCtorEq, Nat.reduceEqDiff, Nat.reduceAdd, Nat.reduceMul, Nat.reduceSub, Nat.reduceLT, Nat.reduceLeDiff, Nat.reducePow, Int.reduceLT, Int.reduceLE, Int.reduceNeg, Int.reduceToNat, h0, h4, h3]
  refine condK_dec (fun h6 => ?_) (fun h6 => ?_)
  · simp (dsimp := false) (maxDischargeDepth := 16) only [go_sem, ↓reduceIte, reduceCtorEq, Nat.reduceEqDiff, Nat.reduceAdd, Nat.reduceMul, Nat.reduceSub, Nat.reduceLT, Nat.reduceLeDiff, Nat.reducePow, Int.reduceLT, Int.reduceLE, Int.reduceNeg, Int.reduceToNat, h0, h4, h3, h6, htk, List.length_range]
    refine ⟨⟨by omega, by omega⟩, i + 1, by omega, by omega, by rw [wrapN _ (by omega)], _, by rw [List.range_succ, List.map_append, List.map_append]; rfl, ?_⟩
    simp (dsimp := false) (maxDischargeDepth := 16) only [go_sem, ↓reduceIte, reduceCtorEq, Nat.reduceEqDiff, Nat.reduceAdd, Nat.reduceMul, Nat.reduceSub, Nat.reduceLT, Nat.reduceLeDiff, Nat.reducePow, Int.reduceLT, Int.reduceLE, Int.reduceNeg, Int.reduceToNat]
  · simp (dsimp := false) (maxDischargeDepth := 16) only [go_sem, ↓reduceIte, reduceCtorEq, Nat.reduceEqDiff, Nat.reduceAdd, Nat.reduceMul, Nat.reduceSub, Nat.reduceLT, Nat.reduceLeDiff, Nat.reducePow, Int.reduceLT, Int.reduceLE, Int.reduceNeg, Int.reduceToNat, h0, h4, h3, h6]
    refine finL ?_
    have : i = n := by omega
    rw [this]
theorem c57 (g : Gr) (hn : g.n.length ≤ 1000000) (he : g.e.length ≤ 1000000) : Con Try.prog 57 [gv g] 0 (mv ⟨(List.range g.n.length).map fun (i : Nat) => (i : Int), (List.range g.e.length).map fun (i : Nat) => (i : Int)⟩) := by
  refine conT (X := []) (rs := [.cell 2 41]) Try.func57 (by kernel_rfl) rfl rfl (by kernel_rfl) ?_
  simp (dsimp := false) (maxDischargeDepth := 16) only [go_sem, ↓reduceIte, reduceCtorEq, Nat.reduceEqDiff, Nat.reduceAdd, Nat.reduceMul, Nat.reduceSub, Nat.reduceLT, Nat.reduceLeDiff, Nat.reducePow, Int.reduceLT, Int.reduceLE, Int.reduceNeg, Int.reduceToNat]
  refine callK_intro (c98 _ hn) ?_
  simp (dsimp := false) (maxDischargeDepth := 16) only [go_sem, ↓reduceIte, reduceCtorEq, Nat.reduceEqDiff, Nat.reduceAdd, Nat.reduceMul, Nat.reduceSub, Nat.reduceLT, Nat.reduceLeDiff, Nat.reducePow, Int.reduceLT, Int.reduceLE, Int.reduceNeg, Int.reduceToNat]
  refine callK_intro (c98 _ he) ?_
  simp (dsimp := false) (maxDischargeDepth := 16) only [go_sem, ↓reduceIte, reduceCtorEq, Nat.reduceEqDiff, Nat.reduceAdd, Nat.reduceMul, Nat.reduceSub, Nat.reduceLT, Nat.reduceLeDiff, Nat.reducePow, Int.reduceLT, Int.reduceLE, Int.reduceNeg, Int.reduceToNat]
  exact finK ⟨rfl, rfl⟩

/-- A graph whose lists the call made. -/
def gvo (g : Gr) : AV := .agg [lvT g.n (.own (0, 0, 0)), elT' g.e (.own (0, 0, 1))]
attribute [go_sem] gvo
theorem c19 (g : Gr) (hn : g.n.length ≤ 1000000) (he : g.e.length ≤ 1000000) : Con Try.prog 19 [gv g] 2 (gvo g) := by
  refine conTN (X := []) (rs := [.cell 2 25]) Try.func19 (by kernel_rfl) rfl rfl (by kernel_rfl) ?_
  simp (dsimp := false) (maxDischargeDepth := 16) only [go_sem, ↓reduceIte, reduceCtorEq, Nat.reduceEqDiff, Nat.reduceAdd, Nat.reduceMul, Nat.reduceSub, Nat.reduceLT, Nat.reduceLeDiff, Nat.reducePow, Int.reduceLT, Int.reduceLE, Int.reduceNeg, Int.reduceToNat, gvo]
  refine ⟨⟨by omega, by omega⟩, ⟨by omega, by omega⟩, [(6, 0, 0), (10, 0, 0)], rfl, by decide, ?_, rfl, rfl⟩
  simp (dsimp := false) (maxDischargeDepth := 16) only [go_sem, ↓reduceIte, reduceCtorEq, Nat.reduceEqDiff, Nat.reduceAdd, Nat.reduceMul, Nat.reduceSub, Nat.reduceLT, Nat.reduceLeDiff, Nat.reducePow, Int.reduceLT, Int.reduceLE, Int.reduceNeg, Int.reduceToNat]
end Go.Sy

/- Contracts: equality. -/
set_option linter.unusedSimpArgs false
namespace Go.Sy
open Go Go.Proofs

theorem c81 (a b : List Int) : Con Try.prog 81 [lv a, lv b] 0 (bv (decide (a = b))) := by
  refine Con.assume (enters_of Try.func81 (by kernel_rfl) rfl) fun hb => ?_
  have hlen := bnd_lv (hb _ (List.mem_cons_self ..))
  refine conT (X := []) (rs := [.tmp 4]) Try.func81 (by kernel_rfl) rfl rfl (by kernel_rfl) ?_
  simp (dsimp := false) (maxDischargeDepth := 16) only [go_sem, ↓reduceIte, reduceCtorEq, Nat.reduceEqDiff, Nat.reduceAdd, Nat.reduceMul, Nat.reduceSub, Nat.reduceLT, Nat.reduceLeDiff, Nat.reducePow, Int.reduceLT, Int.reduceLE, Int.reduceNeg, Int.reduceToNat]
  refine condK_intro (fun h1 => ?_) (fun h1 => ?_)
  · simp (dsimp := false) (maxDischargeDepth := 16) only [go_sem, ↓reduceIte, reduceCtorEq, Nat.reduceEqDiff, Nat.reduceAdd, Nat.reduceMul, Nat.reduceSub, Nat.reduceLT, Nat.reduceLeDiff, Nat.reducePow, Int.reduceLT, Int.reduceLE, Int.reduceNeg, Int.reduceToNat, h1]
    exact finF' (fun h => by simp [h] at h1)
  have h1' : a.length = b.length := by have : (a.length : Int) = b.length := by simpa using h1
                                       omega
  simp (dsimp := false) (maxDischargeDepth := 16) only [go_sem, ↓reduceIte, reduceCtorEq, Nat.reduceEqDiff, Nat.reduceAdd, Nat.reduceMul, Nat.reduceSub, Nat.reduceLT, Nat.reduceLeDiff, Nat.reducePow, Int.reduceLT, Int.reduceLE, Int.reduceNeg, Int.reduceToNat, h1]
  refine loopK_intro (fun (i : Nat) s => i ≤ a.length ∧ s.t 0 = lv a ∧ s.t 1 = lv b ∧ s.t 5 = iv i ∧ ∀ j, j < i → a[j]? = b[j]?) (fun i => a.length - i) ⟨0, by omega, rfl, rfl, rfl, fun j hj => by omega⟩ ?_
  rintro i s ⟨hi, h0, h1, h5, hn⟩
  simp (dsimp := false) (maxDischargeDepth := 16) only [go_sem, ↓reduceIte, reduceCtorEq, Nat.reduceEqDiff, Nat.reduceAdd, Nat.reduceMul, Nat.reduceSub, Nat.reduceLT, Nat.reduceLeDiff, Nat.reducePow, Int.reduceLT, Int.reduceLE, Int.reduceNeg, Int.reduceToNat, h0, h1, h5]
  refine condK_dec (fun h6 => ?_) (fun h6 => ?_)
  · have h7 : i < b.length := by omega
    simp (dsimp := false) (maxDischargeDepth := 16) only [go_sem, ↓reduceIte, reduceCtorEq, Nat.reduceEqDiff, Nat.reduceAdd, Nat.reduceMul, Nat.reduceSub, Nat.reduceLT, Nat.reduceLeDiff, Nat.reducePow, Int.reduceLT, Int.reduceLE, Int.reduceNeg, Int.reduceToNat, h0, h1, h5, h6, h7, idx_nat]
    refine condK_intro (fun h8 => ?_) (fun h8 => ?_)
    · simp (dsimp := false) (maxDischargeDepth := 16) only [go_sem, ↓reduceIte, reduceCtorEq, Nat.reduceEqDiff, Nat.reduceAdd, Nat.reduceMul, Nat.reduceSub, Nat.reduceLT, Nat.reduceLeDiff, Nat.reducePow, Int.reduceLT, Int.reduceLE, Int.reduceNeg, Int.reduceToNat, h0, h1, h5, h6, h7, h8]
      refine finF' (fun h => ?_)
      subst h
      simp at h8
    · simp (dsimp := false) (maxDischargeDepth := 16) only [go_sem, ↓reduceIte, reduceCtorEq, Nat.reduceEqDiff, Nat.reduceAdd, Nat.reduceMul, Nat.reduceSub, Nat.reduceLT, Nat.reduceLeDiff, Nat.reducePow, Int.reduceLT, Int.reduceLE, Int.reduceNeg, Int.reduceToNat, h0, h1, h5, h6, h7, h8]
      refine ⟨i + 1, by omega, by omega, by rw [wrapN _ (by omega)], fun j hj => ?_⟩
      by_cases hji : j = i
      · subst hji
        rw [List.getElem?_eq_getElem h6, List.getElem?_eq_getElem h7]
        simpa using h8
      · exact hn j (by omega)
  · simp (dsimp := false) (maxDischargeDepth := 16) only [go_sem, ↓reduceIte, reduceCtorEq, Nat.reduceEqDiff, Nat.reduceAdd, Nat.reduceMul, Nat.reduceSub, Nat.reduceLT, Nat.reduceLeDiff, Nat.reducePow, Int.reduceLT, Int.reduceLE, Int.reduceNeg, Int.reduceToNat, h0, h1, h5, h6]
    refine finT (List.ext_getElem? fun j => ?_)
    by_cases hj : j < i
    · exact hn j hj
    · rw [List.getElem?_eq_none (by omega), List.getElem?_eq_none (by omega)]

theorem c35 (a b : Mo) : Con Try.prog 35 [mv a, mv b] 0 (bv (decide (a = b))) := by
  obtain ⟨an, ae⟩ := a
  obtain ⟨bn, be⟩ := b
  refine conT (X := []) (rs := [.tmp 4]) Try.func35 (by kernel_rfl) rfl rfl (by kernel_rfl) ?_
  simp (dsimp := false) (maxDischargeDepth := 16) only [go_sem, ↓reduceIte, reduceCtorEq, Nat.reduceEqDiff, Nat.reduceAdd, Nat.reduceMul, Nat.reduceSub, Nat.reduceLT, Nat.reduceLeDiff, Nat.reducePow, Int.reduceLT, Int.reduceLE, Int.reduceNeg, Int.reduceToNat]
  refine callK_intro (c81 an bn) ?_
  simp (dsimp := false) (maxDischargeDepth := 16) only [go_sem, ↓reduceIte, reduceCtorEq, Nat.reduceEqDiff, Nat.reduceAdd, Nat.reduceMul, Nat.reduceSub, Nat.reduceLT, Nat.reduceLeDiff, Nat.reducePow, Int.reduceLT, Int.reduceLE, Int.reduceNeg, Int.reduceToNat]
  refine condK_dec (fun h1 => ?_) (fun h1 => ?_)
  · simp (dsimp := false) (maxDischargeDepth := 16) only [go_sem, ↓reduceIte, reduceCtorEq, Nat.reduceEqDiff, Nat.reduceAdd, Nat.reduceMul, Nat.reduceSub, Nat.reduceLT, Nat.reduceLeDiff, Nat.reducePow, Int.reduceLT, Int.reduceLE, Int.reduceNeg, Int.reduceToNat, h1]
    refine callK_intro (c81 ae be) ?_
    simp (dsimp := false) (maxDischargeDepth := 16) only [go_sem, ↓reduceIte, reduceCtorEq, Nat.reduceEqDiff, Nat.reduceAdd, Nat.reduceMul, Nat.reduceSub, Nat.reduceLT, Nat.reduceLeDiff, Nat.reducePow, Int.reduceLT, Int.reduceLE, Int.reduceNeg, Int.reduceToNat, h1]
    exact finP (by simp)
  · simp (dsimp := false) (maxDischargeDepth := 16) only [go_sem, ↓reduceIte, reduceCtorEq, Nat.reduceEqDiff, Nat.reduceAdd, Nat.reduceMul, Nat.reduceSub, Nat.reduceLT, Nat.reduceLeDiff, Nat.reducePow, Int.reduceLT, Int.reduceLE, Int.reduceNeg, Int.reduceToNat, h1]
    first | exact finB rfl | exact finF' (by simp [h1])

theorem c47 (a b : Gr) : Con Try.prog 47 [gv a, gv b] 0 (bv (decide (a = b))) := by
  refine Con.assume (enters_of Try.func47 (by kernel_rfl) rfl) fun hb => ?_
  have hlen : (a.e.length : Int) ≤ 9223372036854775807 := bnd_elv (n := 7) (hb (gv a) (List.mem_cons_self ..) (elv a.e) (by simp [gv, gcs]))
  refine conT (X := []) (rs := [.tmp 4]) Try.func47 (by kernel_rfl) rfl rfl (by kernel_rfl) ?_
  simp (dsimp := false) (maxDischargeDepth := 16) only [go_sem, ↓reduceIte, reduceCtorEq, Nat.reduceEqDiff, Nat.reduceAdd, Nat.reduceMul, Nat.reduceSub, Nat.reduceLT, Nat.reduceLeDiff, Nat.reducePow, Int.reduceLT, Int.reduceLE, Int.reduceNeg, Int.reduceToNat]
  refine callK_intro (c95 a.n b.n) ?_
  simp (dsimp := false) (maxDischargeDepth := 16) only [go_sem, ↓reduceIte, reduceCtorEq, Nat.reduceEqDiff, Nat.reduceAdd, Nat.reduceMul, Nat.reduceSub, Nat.reduceLT, Nat.reduceLeDiff, Nat.reducePow, Int.reduceLT, Int.reduceLE, Int.reduceNeg, Int.reduceToNat]
  refine condK_intro (fun h1 => ?_) (fun h1 => ?_)
  · have h1' : a.n ≠ b.n := by simpa using h1
    simp (dsimp := false) (maxDischargeDepth := 16) only [go_sem, ↓reduceIte, reduceCtorEq, Nat.reduceEqDiff, Nat.reduceAdd, Nat.reduceMul, Nat.reduceSub, Nat.reduceLT, Nat.reduceLeDiff, Nat.reducePow, Int.reduceLT, Int.reduceLE, Int.reduceNeg, Int.reduceToNat, h1, h1']
    refine finF' (fun h => h1' (by rw [h]))
  have h1' : a.n = b.n := by simpa using h1
  simp (dsimp := false) (maxDischargeDepth := 16) only [go_sem, ↓reduceIte, reduceCtorEq, Nat.reduceEqDiff, Nat.reduceAdd, Nat.reduceMul, Nat.reduceSub, Nat.reduceLT, Nat.reduceLeDiff, Nat.reducePow, Int.reduceLT, Int.reduceLE, Int.reduceNeg, Int.reduceToNat, h1, h1']
  refine condK_intro (fun h2 => ?_) (fun h2 => ?_)
  · simp (dsimp := false) (maxDischargeDepth := 16) only [go_sem, ↓reduceIte, reduceCtorEq, Nat.reduceEqDiff, Nat.reduceAdd, Nat.reduceMul, Nat.reduceSub, Nat.reduceLT, Nat.reduceLeDiff, Nat.reducePow, Int.reduceLT, Int.reduceLE, Int.reduceNeg, Int.reduceToNat, h2]
    exact finF' (fun h => by simp [h] at h2)
  have h2' : a.e.length = b.e.length := by have : (a.e.length : Int) = b.e.length := by simpa using h2
                                           omega
  simp (dsimp := false) (maxDischargeDepth := 16) only [go_sem, ↓reduceIte, reduceCtorEq, Nat.reduceEqDiff, Nat.reduceAdd, Nat.reduceMul, Nat.reduceSub, Nat.reduceLT, Nat.reduceLeDiff, Nat.reducePow, Int.reduceLT, Int.reduceLE, Int.reduceNeg, Int.reduceToNat, h2]
  refine loopK_intro (fun (i : Nat) s => i ≤ a.e.length ∧ s.t 2 = .box (2, 0, 0) 0 ∧ s.t 3 = .box (3, 0, 0) 0 ∧ s.b (2, 0, 0) = some ⟨gcs a, false⟩ ∧ s.b (3, 0, 0) = some ⟨gcs b, false⟩ ∧ s.t 5 = iv i ∧ ∀ j, j < i → a.e[j]? = b.e[j]?) (fun i => a.e.length - i) ⟨0, by omega, rfl, rfl, rfl, rfl, rfl, fun j hj => by omega⟩ ?_
  rintro i s ⟨hi, t2, t3, b2, b3, t5, hn⟩
  simp (dsimp := false) (maxDischargeDepth := 16) only [go_sem, ↓reduceIte, reduceCtorEq, Nat.reduceEqDiff, Nat.reduceAdd, Nat.reduceMul, Nat.reduceSub, Nat.reduceLT, Nat.reduceLeDiff, Nat.reducePow, Int.reduceLT, Int.reduceLE, Int.reduceNeg, Int.reduceToNat, t2, t3, b2, b3, t5]
  refine condK_dec (fun h6 => ?_) (fun h6 => ?_)
  · have h7 : i < b.e.length := by omega
    simp (dsimp := false) (maxDischargeDepth := 16) only [go_sem, ↓reduceIte, reduceCtorEq, Nat.reduceEqDiff, Nat.reduceAdd, Nat.reduceMul, Nat.reduceSub, Nat.reduceLT, Nat.reduceLeDiff, Nat.reducePow, Int.reduceLT, Int.reduceLE, Int.reduceNeg, Int.reduceToNat, t2, t3, b2, b3, t5, h6, h7, idx_nat]
    refine condK_intro (fun h8 => ?_) (fun h8 => ?_)
    · simp (dsimp := false) (maxDischargeDepth := 16) only [go_sem, ↓reduceIte, reduceCtorEq, Nat.reduceEqDiff, Nat.reduceAdd, Nat.reduceMul, Nat.reduceSub, Nat.reduceLT, Nat.reduceLeDiff, Nat.reducePow, Int.reduceLT, Int.reduceLE, Int.reduceNeg, Int.reduceToNat, t2, t3, b2, b3, t5, h6, h7, h8]
      refine finF' (fun h => ?_)
      subst h
      simp at h8
    · simp (dsimp := false) (maxDischargeDepth := 16) only [go_sem, ↓reduceIte, reduceCtorEq, Nat.reduceEqDiff, Nat.reduceAdd, Nat.reduceMul, Nat.reduceSub, Nat.reduceLT, Nat.reduceLeDiff, Nat.reducePow, Int.reduceLT, Int.reduceLE, Int.reduceNeg, Int.reduceToNat, t2, t3, b2, b3, t5, h6, h7, h8]
      refine ⟨i + 1, by omega, by omega, by rw [wrapN _ (by omega)], fun j hj => ?_⟩
      by_cases hji : j = i
      · subst hji
        rw [List.getElem?_eq_getElem h6, List.getElem?_eq_getElem h7]
        simp at h8
        rw [Prod.ext h8.1 (Prod.ext h8.2.1 h8.2.2)]
      · exact hn j (by omega)
  · simp (dsimp := false) (maxDischargeDepth := 16) only [go_sem, ↓reduceIte, reduceCtorEq, Nat.reduceEqDiff, Nat.reduceAdd, Nat.reduceMul, Nat.reduceSub, Nat.reduceLT, Nat.reduceLeDiff, Nat.reducePow, Int.reduceLT, Int.reduceLE, Int.reduceNeg, Int.reduceToNat, t2, t3, b2, b3, t5, h6]
    refine finT ?_
    have : a.e = b.e := List.ext_getElem? fun j => by
      by_cases hj : j < i
      · exact hn j hj
      · rw [List.getElem?_eq_none (by omega), List.getElem?_eq_none (by omega)]
    cases a; cases b
    simp at h1' this
    rw [h1', this]

theorem c32 (a b : Ov) : Con Try.prog 32 [ov a, ov b] 0 (bv (decide (a = b))) := by
  obtain ⟨ag, al, ar⟩ := a
  obtain ⟨bg, bl, br⟩ := b
  refine conT (X := []) (rs := [.tmp 4]) Try.func32 (by kernel_rfl) rfl rfl (by kernel_rfl) ?_
  simp (dsimp := false) (maxDischargeDepth := 16) only [go_sem, ↓reduceIte, reduceCtorEq, Nat.reduceEqDiff, Nat.reduceAdd, Nat.reduceMul, Nat.reduceSub, Nat.reduceLT, Nat.reduceLeDiff, Nat.reducePow, Int.reduceLT, Int.reduceLE, Int.reduceNeg, Int.reduceToNat]
  refine callK_intro (c47 ag bg) ?_
  simp (dsimp := false) (maxDischargeDepth := 16) only [go_sem, ↓reduceIte, reduceCtorEq, Nat.reduceEqDiff, Nat.reduceAdd, Nat.reduceMul, Nat.reduceSub, Nat.reduceLT, Nat.reduceLeDiff, Nat.reducePow, Int.reduceLT, Int.reduceLE, Int.reduceNeg, Int.reduceToNat]
  refine condK_dec (fun h1 => ?_) (fun h1 => ?_)
  · simp (dsimp := false) (maxDischargeDepth := 16) only [go_sem, ↓reduceIte, reduceCtorEq, Nat.reduceEqDiff, Nat.reduceAdd, Nat.reduceMul, Nat.reduceSub, Nat.reduceLT, Nat.reduceLeDiff, Nat.reducePow, Int.reduceLT, Int.reduceLE, Int.reduceNeg, Int.reduceToNat, h1]
    refine callK_intro (c35 al bl) ?_
    simp (dsimp := false) (maxDischargeDepth := 16) only [go_sem, ↓reduceIte, reduceCtorEq, Nat.reduceEqDiff, Nat.reduceAdd, Nat.reduceMul, Nat.reduceSub, Nat.reduceLT, Nat.reduceLeDiff, Nat.reducePow, Int.reduceLT, Int.reduceLE, Int.reduceNeg, Int.reduceToNat, h1]
    refine condK_dec (fun h2 => ?_) (fun h2 => ?_)
    · simp (dsimp := false) (maxDischargeDepth := 16) only [go_sem, ↓reduceIte, reduceCtorEq, Nat.reduceEqDiff, Nat.reduceAdd, Nat.reduceMul, Nat.reduceSub, Nat.reduceLT, Nat.reduceLeDiff, Nat.reducePow, Int.reduceLT, Int.reduceLE, Int.reduceNeg, Int.reduceToNat, h1, h2]
      refine callK_intro (c35 ar br) ?_
      simp (dsimp := false) (maxDischargeDepth := 16) only [go_sem, ↓reduceIte, reduceCtorEq, Nat.reduceEqDiff, Nat.reduceAdd, Nat.reduceMul, Nat.reduceSub, Nat.reduceLT, Nat.reduceLeDiff, Nat.reducePow, Int.reduceLT, Int.reduceLE, Int.reduceNeg, Int.reduceToNat, h1, h2]
      exact finP (by simp)
    · simp (dsimp := false) (maxDischargeDepth := 16) only [go_sem, ↓reduceIte, reduceCtorEq, Nat.reduceEqDiff, Nat.reduceAdd, Nat.reduceMul, Nat.reduceSub, Nat.reduceLT, Nat.reduceLeDiff, Nat.reducePow, Int.reduceLT, Int.reduceLE, Int.reduceNeg, Int.reduceToNat, h1, h2]
      first | exact finB rfl | exact finF' (by simp [h1, h2])
  · simp (dsimp := false) (maxDischargeDepth := 16) only [go_sem, ↓reduceIte, reduceCtorEq, Nat.reduceEqDiff, Nat.reduceAdd, Nat.reduceMul, Nat.reduceSub, Nat.reduceLT, Nat.reduceLeDiff, Nat.reducePow, Int.reduceLT, Int.reduceLE, Int.reduceNeg, Int.reduceToNat, h1]
    first | exact finB rfl | exact finF' (by simp [h1])

end Go.Sy

/- Contracts: what is valid. -/
set_option linter.unusedSimpArgs false
namespace Go.Sy
open Go Go.Proofs

/-- An edge has a type, and ends among n nodes. -/
abbrev edOK (n : Int) (x : Ed) : Prop := (0 ≤ x.1 ∧ x.1 ≤ 99) ∧ 0 ≤ x.2.1 ∧ x.2.1 < n ∧ 0 ≤ x.2.2 ∧ x.2.2 < n
abbrev gIn (g : Gr) : Prop := (∀ t ∈ g.n, 0 ≤ t ∧ t ≤ 99) ∧ ∀ x ∈ g.e, edOK g.n.length x
def gErr (g : Gr) : Int := if g.n.length ≤ 40 ∧ g.e.length ≤ 80 then (if gIn g then 0 else 6) else 3

theorem c60 (g : Gr) : Con Try.prog 60 [gv g] 0 (iv (gErr g)) := by
  refine conT (X := []) (rs := [.tmp 2]) Try.func60 (by kernel_rfl) rfl rfl (by kernel_rfl) ?_
  simp (dsimp := false) (maxDischargeDepth := 16) only [go_sem, ↓reduceIte, reduceCtorEq, Nat.reduceEqDiff, Nat.reduceAdd, Nat.reduceMul, Nat.reduceSub, Nat.reduceLT, Nat.reduceLeDiff, Nat.reducePow, Int.reduceLT, Int.reduceLE, Int.reduceNeg, Int.reduceToNat]
  refine condK_dec (fun h1 => ?_) (fun h1 => ?_)
  · simp (dsimp := false) (maxDischargeDepth := 16) only [go_sem, ↓reduceIte, reduceCtorEq, Nat.reduceEqDiff, Nat.reduceAdd, Nat.reduceMul, Nat.reduceSub, Nat.reduceLT, Nat.reduceLeDiff, Nat.reducePow, Int.reduceLT, Int.reduceLE, Int.reduceNeg, Int.reduceToNat, h1]
    exact finI (if_neg (by omega))
  simp (dsimp := false) (maxDischargeDepth := 16) only [go_sem, ↓reduceIte, reduceCtorEq, Nat.reduceEqDiff, Nat.reduceAdd, Nat.reduceMul, Nat.reduceSub, Nat.reduceLT, Nat.reduceLeDiff, Nat.reducePow, Int.reduceLT, Int.reduceLE, Int.reduceNeg, Int.reduceToNat, h1]
  refine condK_dec (fun h2 => ?_) (fun h2 => ?_)
  · simp (dsimp := false) (maxDischargeDepth := 16) only [go_sem, ↓reduceIte, reduceCtorEq, Nat.reduceEqDiff, Nat.reduceAdd, Nat.reduceMul, Nat.reduceSub, Nat.reduceLT, Nat.reduceLeDiff, Nat.reducePow, Int.reduceLT, Int.reduceLE, Int.reduceNeg, Int.reduceToNat, h1, h2]
    exact finI (if_neg (by omega))
  have hs : g.n.length ≤ 40 ∧ g.e.length ≤ 80 := by omega
  simp (dsimp := false) (maxDischargeDepth := 16) only [go_sem, ↓reduceIte, reduceCtorEq, Nat.reduceEqDiff, Nat.reduceAdd, Nat.reduceMul, Nat.reduceSub, Nat.reduceLT, Nat.reduceLeDiff, Nat.reducePow, Int.reduceLT, Int.reduceLE, Int.reduceNeg, Int.reduceToNat, h1, h2]
  refine loopK_intro (fun (i : Nat) s => i ≤ g.n.length ∧ s.t 1 = .box (1, 0, 0) 0 ∧ s.b (1, 0, 0) = some ⟨gcs g, false⟩ ∧ s.t 3 = iv i ∧ ∀ t ∈ g.n.take i, 0 ≤ t ∧ t ≤ 99) (fun i => g.n.length - i) ⟨0, by omega, rfl, rfl, rfl, fun j hj => by simp at hj⟩ ?_
  rintro i s ⟨hi, t1, b1, t3, hn⟩
  simp (dsimp := false) (maxDischargeDepth := 16) only [go_sem, ↓reduceIte, reduceCtorEq, Nat.reduceEqDiff, Nat.reduceAdd, Nat.reduceMul, Nat.reduceSub, Nat.reduceLT, Nat.reduceLeDiff, Nat.reducePow, Int.reduceLT, Int.reduceLE, Int.reduceNeg, Int.reduceToNat, t1, b1, t3]
  refine condK_dec (fun h6 => ?_) (fun h6 => ?_)
  · simp (dsimp := false) (maxDischargeDepth := 16) only [go_sem, ↓reduceIte, reduceCtorEq, Nat.reduceEqDiff, Nat.reduceAdd, Nat.reduceMul, Nat.reduceSub, Nat.reduceLT, Nat.reduceLeDiff, Nat.reducePow, Int.reduceLT, Int.reduceLE, Int.reduceNeg, Int.reduceToNat, t1, b1, t3, h6, idx_nat]
    refine callK_intro (c110 _) ?_
    simp (dsimp := false) (maxDischargeDepth := 16) only [go_sem, ↓reduceIte, reduceCtorEq, Nat.reduceEqDiff, Nat.reduceAdd, Nat.reduceMul, Nat.reduceSub, Nat.reduceLT, Nat.reduceLeDiff, Nat.reducePow, Int.reduceLT, Int.reduceLE, Int.reduceNeg, Int.reduceToNat, t1, b1, t3, h6]
    refine condK_intro (fun h8 => ?_) (fun h8 => ?_)
    · simp (dsimp := false) (maxDischargeDepth := 16) only [go_sem, ↓reduceIte, reduceCtorEq, Nat.reduceEqDiff, Nat.reduceAdd, Nat.reduceMul, Nat.reduceSub, Nat.reduceLT, Nat.reduceLeDiff, Nat.reducePow, Int.reduceLT, Int.reduceLE, Int.reduceNeg, Int.reduceToNat, t1, b1, t3, h6, h8]
      refine finI ?_
      have h9 : ¬ (0 ≤ g.n[i] ∧ g.n[i] ≤ 99) := ndec h8
      rw [gErr, if_pos hs, if_neg]
      intro h
      exact h9 (h.1 _ (List.getElem_mem h6))
    · simp (dsimp := false) (maxDischargeDepth := 16) only [go_sem, ↓reduceIte, reduceCtorEq, Nat.reduceEqDiff, Nat.reduceAdd, Nat.reduceMul, Nat.reduceSub, Nat.reduceLT, Nat.reduceLeDiff, Nat.reducePow, Int.reduceLT, Int.reduceLE, Int.reduceNeg, Int.reduceToNat, t1, b1, t3, h6, h8]
      refine ⟨i + 1, by omega, by omega, by rw [wrapN _ (by omega)], take_all h6 hn (ydec h8)⟩
  · simp (dsimp := false) (maxDischargeDepth := 16) only [go_sem, ↓reduceIte, reduceCtorEq, Nat.reduceEqDiff, Nat.reduceAdd, Nat.reduceMul, Nat.reduceSub, Nat.reduceLT, Nat.reduceLeDiff, Nat.reducePow, Int.reduceLT, Int.reduceLE, Int.reduceNeg, Int.reduceToNat, t1, b1, t3, h6]
    have hn' := take_full h6 hn
    refine loopK_intro (fun (i : Nat) s => i ≤ g.e.length ∧ s.t 1 = .box (1, 0, 0) 0 ∧ s.b (1, 0, 0) = some ⟨gcs g, false⟩ ∧ s.t 4 = iv i ∧ ∀ x ∈ g.e.take i, edOK g.n.length x) (fun i => g.e.length - i) ⟨0, by omega, t1, b1, rfl, fun j hj => by simp at hj⟩ ?_
    clear t1 b1 t3 h6 hi hn
    rintro i s ⟨hi, t1, b1, t4, hn⟩
    simp (dsimp := false) (maxDischargeDepth := 16) only [go_sem, ↓reduceIte, reduceCtorEq, Nat.reduceEqDiff, Nat.reduceAdd, Nat.reduceMul, Nat.reduceSub, Nat.reduceLT, Nat.reduceLeDiff, Nat.reducePow, Int.reduceLT, Int.reduceLE, Int.reduceNeg, Int.reduceToNat, t1, b1, t4]
    refine condK_dec (fun h6 => ?_) (fun h6 => ?_)
    · simp (dsimp := false) (maxDischargeDepth := 16) only [go_sem, ↓reduceIte, reduceCtorEq, Nat.reduceEqDiff, Nat.reduceAdd, Nat.reduceMul, Nat.reduceSub, Nat.reduceLT, Nat.reduceLeDiff, Nat.reducePow, Int.reduceLT, Int.reduceLE, Int.reduceNeg, Int.reduceToNat, t1, b1, t4, h6, idx_nat]
      refine callK_intro (c111 _ _) ?_
      simp (dsimp := false) (maxDischargeDepth := 16) only [go_sem, ↓reduceIte, reduceCtorEq, Nat.reduceEqDiff, Nat.reduceAdd, Nat.reduceMul, Nat.reduceSub, Nat.reduceLT, Nat.reduceLeDiff, Nat.reducePow, Int.reduceLT, Int.reduceLE, Int.reduceNeg, Int.reduceToNat, t1, b1, t4, h6]
      refine condK_intro (fun h8 => ?_) (fun h8 => ?_)
      · simp (dsimp := false) (maxDischargeDepth := 16) only [go_sem, ↓reduceIte, reduceCtorEq, Nat.reduceEqDiff, Nat.reduceAdd, Nat.reduceMul, Nat.reduceSub, Nat.reduceLT, Nat.reduceLeDiff, Nat.reducePow, Int.reduceLT, Int.reduceLE, Int.reduceNeg, Int.reduceToNat, t1, b1, t4, h6, h8]
        refine finI ?_
        have h9 : ¬ edOK g.n.length g.e[i] := ndec h8
        rw [gErr, if_pos hs, if_neg]
        intro h
        exact h9 (h.2 _ (List.getElem_mem h6))
      · simp (dsimp := false) (maxDischargeDepth := 16) only [go_sem, ↓reduceIte, reduceCtorEq, Nat.reduceEqDiff, Nat.reduceAdd, Nat.reduceMul, Nat.reduceSub, Nat.reduceLT, Nat.reduceLeDiff, Nat.reducePow, Int.reduceLT, Int.reduceLE, Int.reduceNeg, Int.reduceToNat, t1, b1, t4, h6, h8]
        refine ⟨i + 1, by omega, by omega, by rw [wrapN _ (by omega)], take_all h6 hn (ydec h8)⟩
    · simp (dsimp := false) (maxDischargeDepth := 16) only [go_sem, ↓reduceIte, reduceCtorEq, Nat.reduceEqDiff, Nat.reduceAdd, Nat.reduceMul, Nat.reduceSub, Nat.reduceLT, Nat.reduceLeDiff, Nat.reducePow, Int.reduceLT, Int.reduceLE, Int.reduceNeg, Int.reduceToNat, t1, b1, t4, h6]
      refine finI ?_
      rw [gErr, if_pos hs, if_pos]
      exact ⟨hn', take_full h6 hn⟩

theorem c26 (m : Mo) (n : Int) : Con Try.prog 26 [mv m, iv n] 0 (bv (decide (IntKind.i64.wrap (m.n.length + m.e.length) ≤ n))) := by
  refine conT (X := []) (rs := [.tmp 4]) Try.func26 (by kernel_rfl) rfl rfl (by kernel_rfl) ?_
  simp (dsimp := false) (maxDischargeDepth := 16) only [go_sem, ↓reduceIte, reduceCtorEq, Nat.reduceEqDiff, Nat.reduceAdd, Nat.reduceMul, Nat.reduceSub, Nat.reduceLT, Nat.reduceLeDiff, Nat.reducePow, Int.reduceLT, Int.reduceLE, Int.reduceNeg, Int.reduceToNat]
  exact finP Iff.rfl

theorem c17 (g : Gr) (n m : Int) : Con Try.prog 17 [gv g, iv n, iv m] 0 (bv (decide ((g.n.length ≤ 45 ∧ g.e.length ≤ 90) ∧ (gErr g ≠ 0 ∨ (g.n.length ≤ n ∧ g.e.length ≤ m))))) := by
  refine conT (X := []) (rs := [.tmp 6]) Try.func17 (by kernel_rfl) rfl rfl (by kernel_rfl) ?_
  simp (dsimp := false) (maxDischargeDepth := 16) only [go_sem, ↓reduceIte, reduceCtorEq, Nat.reduceEqDiff, Nat.reduceAdd, Nat.reduceMul, Nat.reduceSub, Nat.reduceLT, Nat.reduceLeDiff, Nat.reducePow, Int.reduceLT, Int.reduceLE, Int.reduceNeg, Int.reduceToNat]
  refine callK_intro (c22 g) ?_
  simp (dsimp := false) (maxDischargeDepth := 16) only [go_sem, ↓reduceIte, reduceCtorEq, Nat.reduceEqDiff, Nat.reduceAdd, Nat.reduceMul, Nat.reduceSub, Nat.reduceLT, Nat.reduceLeDiff, Nat.reducePow, Int.reduceLT, Int.reduceLE, Int.reduceNeg, Int.reduceToNat]
  refine condK_dec (fun h1 => ?_) (fun h1 => ?_)
  · simp (dsimp := false) (maxDischargeDepth := 16) only [go_sem, ↓reduceIte, reduceCtorEq, Nat.reduceEqDiff, Nat.reduceAdd, Nat.reduceMul, Nat.reduceSub, Nat.reduceLT, Nat.reduceLeDiff, Nat.reducePow, Int.reduceLT, Int.reduceLE, Int.reduceNeg, Int.reduceToNat, h1]
    refine callK_intro (c60 g) ?_
    simp (dsimp := false) (maxDischargeDepth := 16) only [go_sem, ↓reduceIte, reduceCtorEq, Nat.reduceEqDiff, Nat.reduceAdd, Nat.reduceMul, Nat.reduceSub, Nat.reduceLT, Nat.reduceLeDiff, Nat.reducePow, Int.reduceLT, Int.reduceLE, Int.reduceNeg, Int.reduceToNat, h1]
    refine condK_intro (fun h2 => ?_) (fun h2 => ?_)
    · simp (dsimp := false) (maxDischargeDepth := 16) only [go_sem, ↓reduceIte, reduceCtorEq, Nat.reduceEqDiff, Nat.reduceAdd, Nat.reduceMul, Nat.reduceSub, Nat.reduceLT, Nat.reduceLeDiff, Nat.reducePow, Int.reduceLT, Int.reduceLE, Int.reduceNeg, Int.reduceToNat, h1, h2]
      first | exact finB rfl | exact finT (by simp [ineq h2, h1])
    simp (dsimp := false) (maxDischargeDepth := 16) only [go_sem, ↓reduceIte, reduceCtorEq, Nat.reduceEqDiff, Nat.reduceAdd, Nat.reduceMul, Nat.reduceSub, Nat.reduceLT, Nat.reduceLeDiff, Nat.reducePow, Int.reduceLT, Int.reduceLE, Int.reduceNeg, Int.reduceToNat, h1, h2]
    refine condK_dec (fun h3 => ?_) (fun h3 => ?_)
    · simp (dsimp := false) (maxDischargeDepth := 16) only [go_sem, ↓reduceIte, reduceCtorEq, Nat.reduceEqDiff, Nat.reduceAdd, Nat.reduceMul, Nat.reduceSub, Nat.reduceLT, Nat.reduceLeDiff, Nat.reducePow, Int.reduceLT, Int.reduceLE, Int.reduceNeg, Int.reduceToNat, h1, h2, h3]
      refine finP ?_
      have := ieq h2
      simp [this]
    · simp (dsimp := false) (maxDischargeDepth := 16) only [go_sem, ↓reduceIte, reduceCtorEq, Nat.reduceEqDiff, Nat.reduceAdd, Nat.reduceMul, Nat.reduceSub, Nat.reduceLT, Nat.reduceLeDiff, Nat.reducePow, Int.reduceLT, Int.reduceLE, Int.reduceNeg, Int.reduceToNat, h1, h2, h3]
      have := ieq h2
      first | exact finB rfl | exact finF' (by simp [this])
  · simp (dsimp := false) (maxDischargeDepth := 16) only [go_sem, ↓reduceIte, reduceCtorEq, Nat.reduceEqDiff, Nat.reduceAdd, Nat.reduceMul, Nat.reduceSub, Nat.reduceLT, Nat.reduceLeDiff, Nat.reducePow, Int.reduceLT, Int.reduceLE, Int.reduceNeg, Int.reduceToNat, h1]
    first | exact finB rfl | exact finF' (fun h => h1 h.1)
end Go.Sy

/- Contracts: overlaps. -/
set_option linter.unusedSimpArgs false
namespace Go.Sy
open Go Go.Proofs

def rng (n : Nat) : List Int := (List.range n).map fun (i : Nat) => (i : Int)
/-- The nodes of an overlap, and where those of b go. -/
def gN (a bn nodes : List Int) : Nat → List Int × List Int
  | 0 => (a, [])
  | i + 1 => if nodes.getD i 0 < 0 then ((gN a bn nodes i).1 ++ [bn.getD i 0], (gN a bn nodes i).2 ++ [((gN a bn nodes i).1.length : Int)]) else ((gN a bn nodes i).1, (gN a bn nodes i).2 ++ [nodes.getD i 0])
def gE (a be : List Ed) (R edges : List Int) : Nat → List Ed × List Int
  | 0 => (a, [])
  | i + 1 => if edges.getD i 0 < 0 then ((gE a be R edges i).1 ++ [((be.getD i (0, 0, 0)).1, R.getD (be.getD i (0, 0, 0)).2.1.toNat 0, R.getD (be.getD i (0, 0, 0)).2.2.toNat 0)], (gE a be R edges i).2 ++ [((gE a be R edges i).1.length : Int)])
    else ((gE a be R edges i).1, (gE a be R edges i).2 ++ [edges.getD i 0])
def glue (a b : Gr) (nodes edges : List Int) : Ov :=
  ⟨⟨(gN a.n b.n nodes nodes.length).1, (gE a.e b.e (gN a.n b.n nodes nodes.length).2 edges edges.length).1⟩, ⟨rng a.n.length, rng a.e.length⟩,
    ⟨(gN a.n b.n nodes nodes.length).2, (gE a.e b.e (gN a.n b.n nodes nodes.length).2 edges edges.length).2⟩⟩
theorem gN_len1 (a bn nodes : List Int) (i : Nat) : (gN a bn nodes i).1.length ≤ a.length + i := by
  induction i with
  | zero => simp [gN]
  | succ i ih => unfold gN; split <;> simp <;> omega
theorem gN_len2 (a bn nodes : List Int) (i : Nat) : (gN a bn nodes i).2.length = i := by
  induction i with
  | zero => simp [gN]
  | succ i ih => unfold gN; split <;> simp <;> omega

theorem gN_neg {a bn nodes : List Int} {i : Nat} (h : i < nodes.length) (h7 : i < bn.length) (h8 : nodes[i] < 0) : gN a bn nodes (i + 1) = ((gN a bn nodes i).1 ++ [bn[i]], (gN a bn nodes i).2 ++ [((gN a bn nodes i).1.length : Int)]) := by
  have e : nodes.getD i 0 = nodes[i] := by simp [h]
  have e2 : bn.getD i 0 = bn[i] := by simp [h7]
  rw [gN, e, e2, if_pos h8]
theorem gN_pos {a bn nodes : List Int} {i : Nat} (h : i < nodes.length) (h8 : ¬ nodes[i] < 0) : gN a bn nodes (i + 1) = ((gN a bn nodes i).1, (gN a bn nodes i).2 ++ [nodes[i]]) := by
  have e : nodes.getD i 0 = nodes[i] := by simp [h]
  rw [gN, e, if_neg h8]
theorem map1_app (l : List Int) (x : Int) : (l ++ [x]).map (fun n => [AV.v (.int .i64 n)]) = l.map (fun n => [AV.v (.int .i64 n)]) ++ [[AV.v (.int .i64 x)]] := by simp
theorem gE_neg {a be : List Ed} {R edges : List Int} {i : Nat} (h : i < edges.length) (h7 : i < be.length) (h8 : edges[i] < 0) (r1 : be[i].2.1.toNat < R.length) (r2 : be[i].2.2.toNat < R.length) :
    gE a be R edges (i + 1) = ((gE a be R edges i).1 ++ [(be[i].1, R[be[i].2.1.toNat], R[be[i].2.2.toNat])], (gE a be R edges i).2 ++ [((gE a be R edges i).1.length : Int)]) := by
  have e : edges.getD i 0 = edges[i] := by simp [h]
  have e2 : be.getD i (0, 0, 0) = be[i] := by simp [h7]
  rw [gE, e, e2, if_pos h8]
  simp [r1, r2]
theorem gE_pos {a be : List Ed} {R edges : List Int} {i : Nat} (h : i < edges.length) (h8 : ¬ edges[i] < 0) : gE a be R edges (i + 1) = ((gE a be R edges i).1, (gE a be R edges i).2 ++ [edges[i]]) := by
  have e : edges.getD i 0 = edges[i] := by simp [h]
  rw [gE, e, if_neg h8]
theorem gE_len1 (a be : List Ed) (R edges : List Int) (i : Nat) : (gE a be R edges i).1.length ≤ a.length + i := by
  induction i with
  | zero => simp [gE]
  | succ i ih => unfold gE; split <;> simp <;> omega
theorem gE_len2 (a be : List Ed) (R edges : List Int) (i : Nat) : (gE a be R edges i).2.length = i := by
  induction i with
  | zero => simp [gE]
  | succ i ih => unfold gE; split <;> simp <;> omega
theorem map3_app (l : List Ed) (x : Ed) : (l ++ [x]).map ecs = l.map ecs ++ [ecs x] := by simp
set_option maxHeartbeats 1000000 in
theorem c80 (a b : Gr) (nodes edges : List Int) (ha : a.n.length ≤ 1000) (hae : a.e.length ≤ 1000) (hn : nodes.length ≤ b.n.length) (he : edges.length ≤ b.e.length) (hb : b.n.length ≤ 1000) (hbe : b.e.length ≤ 1000)
    (hR : ∀ x ∈ b.e, 0 ≤ x.2.1 ∧ x.2.1 < nodes.length ∧ 0 ≤ x.2.2 ∧ x.2.2 < nodes.length) : Con Try.prog 80 [gv a, gv b, lv nodes, lv edges] 0 (ov (glue a b nodes edges)) := by
  refine conT (X := []) (rs := [.cell 8 43]) Try.func80 (by kernel_rfl) rfl rfl (by kernel_rfl) ?_
  simp (dsimp := false) (maxDischargeDepth := 16) only [go_sem, ↓reduceIte, reduceCtorEq, Nat.reduceEqDiff, Nat.reduceAdd, Nat.reduceMul, Nat.reduceSub, Nat.reduceLT, Nat.reduceLeDiff, Nat.reducePow, Int.reduceLT, Int.reduceLE, Int.reduceNeg, Int.reduceToNat]
  refine callK_intro (c19 a (by omega) (by omega)) ?_
  simp (dsimp := false) (maxDischargeDepth := 16) only [go_sem, ↓reduceIte, reduceCtorEq, Nat.reduceEqDiff, Nat.reduceAdd, Nat.reduceMul, Nat.reduceSub, Nat.reduceLT, Nat.reduceLeDiff, Nat.reducePow, Int.reduceLT, Int.reduceLE, Int.reduceNeg, Int.reduceToNat, gvo]
  refine callK_intro (c57 a (by omega) (by omega)) ?_
  simp (dsimp := false) (maxDischargeDepth := 16) only [go_sem, ↓reduceIte, reduceCtorEq, Nat.reduceEqDiff, Nat.reduceAdd, Nat.reduceMul, Nat.reduceSub, Nat.reduceLT, Nat.reduceLeDiff, Nat.reducePow, Int.reduceLT, Int.reduceLE, Int.reduceNeg, Int.reduceToNat]
  refine loopK_intro (fun (i : Nat) s => i ≤ nodes.length ∧ s.t 2 = lv nodes ∧ s.t 3 = lv edges ∧ s.t 5 = .box (5, 0, 0) 0 ∧ s.b (5, 0, 0) = some ⟨gcs b, false⟩ ∧ s.t 8 = .box (8, 0, 0) 0 ∧ (∃ z1 z2 z3 z4 z5 z6, s.b (8, 0, 0) = some ⟨[z1, z2, z3, z4, z5, z6], false⟩) ∧
    s.t 9 = .box (9, 0, 0) 0 ∧ s.t 10 = iv i ∧ ∃ t1 t2 t3, s.b (9, 0, 0) = some ⟨[lvT (gN a.n b.n nodes i).1 t1, elT' a.e t3, lv (rng a.n.length), lv (rng a.e.length), lvT (gN a.n b.n nodes i).2 t2, .list 1 [] .nil], false⟩ ∧
    tokOK s t1 = true ∧ tokOK s t2 = true ∧ tokOK s t3 = true ∧ tkIn [(16, 0), (45, 0)] t1 = true ∧ tkIn [(53, 0)] t2 = true ∧ tkIn [(16, 1)] t3 = true) (fun i => nodes.length - i)
    ?_ ?_
  · refine ⟨0, by omega, rfl, rfl, rfl, rfl, rfl, ⟨_, _, _, _, _, _, rfl⟩, rfl, rfl, .own (16, 0, 0), .nil, .own (16, 0, 1), rfl, ?_, rfl, ?_, rfl, rfl, rfl⟩
    · simp (dsimp := false) (maxDischargeDepth := 16) only [go_sem, ↓reduceIte, reduceCtorEq, Nat.reduceEqDiff, Nat.reduceAdd, Nat.reduceMul, Nat.reduceSub, Nat.reduceLT, Nat.reduceLeDiff, Nat.reducePow, Int.reduceLT, Int.reduceLE, Int.reduceNeg, Int.reduceToNat]
    · simp (dsimp := false) (maxDischargeDepth := 16) only [go_sem, ↓reduceIte, reduceCtorEq, Nat.reduceEqDiff, Nat.reduceAdd, Nat.reduceMul, Nat.reduceSub, Nat.reduceLT, Nat.reduceLeDiff, Nat.reducePow, Int.reduceLT, Int.reduceLE, Int.reduceNeg, Int.reduceToNat]
  rintro i s ⟨hi, t2, t3, t5, b5, t8, ⟨z1, z2, z3, z4, z5, z6, b8⟩, t9, t10, k1, k2, k3, b9, a1, a2, a3, i1, i2, i3⟩
  simp (dsimp := false) (maxDischargeDepth := 16) only [go_sem, ↓reduceIte, reduceCtorEq, Nat.reduceEqDiff, Nat.reduceAdd, Nat.reduceMul, Nat.reduceSub, Nat.reduceLT, Nat.reduceLeDiff, Nat.reducePow, Int.reduceLT, Int.reduceLE, Int.reduceNeg, Int.reduceToNat, t2, t3, t5, b5, t8, b8, t9, t10, b9]
  refine condK_dec (fun h6 => ?_) (fun h6 => ?_)
  · have h7 : i < b.n.length := by omega
    simp (dsimp := false) (maxDischargeDepth := 16) only [go_sem, ↓reduceIte, reduceCtorEq, Nat.reduceEqDiff, Nat.reduceAdd, Nat.reduceMul, Nat.reduceSub, Nat.reduceLT, Nat.reduceLeDiff, Nat.reducePow, Int.reduceLT, Int.reduceLE, Int.reduceNeg, Int.reduceToNat, t2, t3, t5, b5, t8, b8, t9, t10, b9, h6, idx_nat]
    refine condK_dec (fun h8 => ?_) (fun h8 => ?_)
    · have k12 : ∀ (s : St) (d n : Nat) (x : AV), tokOK s k2 = true → tokOK (s.ntok d n x (tokKey k1)) k2 = true := fun s d n x h => tk_kill i1 i2 rfl h
      have k13 : ∀ (s : St) (d n : Nat) (x : AV), tokOK s k3 = true → tokOK (s.ntok d n x (tokKey k1)) k3 = true := fun s d n x h => tk_kill i1 i3 rfl h
      have k23 : ∀ (s : St) (d n : Nat) (x : AV), tokOK s k3 = true → tokOK (s.ntok d n x (tokKey k2)) k3 = true := fun s d n x h => tk_kill i2 i3 rfl h
      have q2 : ∀ (f : Key → Bool) (g : Nat), killO f (tokKey k2) (45, g, 0) = f (45, g, 0) := fun f g => kill_tk i2 rfl f
      have l1 := gN_len1 a.n b.n nodes i
      have l2 := gN_len2 a.n b.n nodes i
      simp (dsimp := false) (maxDischargeDepth := 16) only [go_sem, ↓reduceIte, reduceCtorEq, Nat.reduceEqDiff, Nat.reduceAdd, Nat.reduceMul, Nat.reduceSub, Nat.reduceLT, Nat.reduceLeDiff, Nat.reducePow, Int.reduceLT, Int.reduceLE, Int.reduceNeg, Int.reduceToNat, t2, t3, t5, b5, t8, b8, t9, t10, b9, h6, h7, h8, idx_nat, a1, a2, a3, k12, k13, k23]
      refine ⟨⟨by omega, by omega⟩, ⟨by omega, by omega⟩, i + 1, by omega, by omega, ⟨_, _, _, _, _, _, rfl⟩, by rw [wrapN _ (by omega)], .own (45, s.g 45, 0), .own (53, s.g 53, 0), k3, ?_, ?_, ?_, ?_, rfl, rfl, i3⟩
      · rw [gN_neg h6 h7 h8]
        simp only [map1_app]
      all_goals simp (dsimp := false) (maxDischargeDepth := 16) only [go_sem, ↓reduceIte, reduceCtorEq, Nat.reduceEqDiff, Nat.reduceAdd, Nat.reduceMul, Nat.reduceSub, Nat.reduceLT, Nat.reduceLeDiff, Nat.reducePow, Int.reduceLT, Int.reduceLE, Int.reduceNeg, Int.reduceToNat, a1, a2, a3, k12, k13, k23, q2]
    · have k23 : ∀ (s : St) (d n : Nat) (x : AV), tokOK s k3 = true → tokOK (s.ntok d n x (tokKey k2)) k3 = true := fun s d n x h => tk_kill i2 i3 rfl h
      have k21 : ∀ (s : St) (d n : Nat) (x : AV), tokOK s k1 = true → tokOK (s.ntok d n x (tokKey k2)) k1 = true := fun s d n x h => tk_kill i2 i1 rfl h
      have l2 := gN_len2 a.n b.n nodes i
      simp (dsimp := false) (maxDischargeDepth := 16) only [go_sem, ↓reduceIte, reduceCtorEq, Nat.reduceEqDiff, Nat.reduceAdd, Nat.reduceMul, Nat.reduceSub, Nat.reduceLT, Nat.reduceLeDiff, Nat.reducePow, Int.reduceLT, Int.reduceLE, Int.reduceNeg, Int.reduceToNat, t2, t3, t5, b5, t8, b8, t9, t10, b9, h6, h7, h8, idx_nat, a1, a2, a3, k21, k23]
      refine ⟨⟨by omega, by omega⟩, i + 1, by omega, by omega, ⟨_, _, _, _, _, _, rfl⟩, by rw [wrapN _ (by omega)], k1, .own (53, s.g 53, 0), k3, ?_, ?_, ?_, ?_, i1, rfl, i3⟩
      · rw [gN_pos h6 h8]
        simp only [map1_app]
      all_goals simp (dsimp := false) (maxDischargeDepth := 16) only [go_sem, ↓reduceIte, reduceCtorEq, Nat.reduceEqDiff, Nat.reduceAdd, Nat.reduceMul, Nat.reduceSub, Nat.reduceLT, Nat.reduceLeDiff, Nat.reducePow, Int.reduceLT, Int.reduceLE, Int.reduceNeg, Int.reduceToNat, a1, a2, a3, k21, k23]
  · simp (dsimp := false) (maxDischargeDepth := 16) only [go_sem, ↓reduceIte, reduceCtorEq, Nat.reduceEqDiff, Nat.reduceAdd, Nat.reduceMul, Nat.reduceSub, Nat.reduceLT, Nat.reduceLeDiff, Nat.reducePow, Int.reduceLT, Int.reduceLE, Int.reduceNeg, Int.reduceToNat, t2, t3, t5, b5, t8, b8, t9, t10, b9, h6]
    have hin : i = nodes.length := by omega
    subst hin
    have l2 := gN_len2 a.n b.n nodes nodes.length
    have hRR : ∀ R, R = (gN a.n b.n nodes nodes.length).2 → R.length = nodes.length := fun R h => by rw [h, l2]
    unfold glue
    generalize hR0 : (gN a.n b.n nodes nodes.length).2 = R at *
    generalize (gN a.n b.n nodes nodes.length).1 = G at *
    refine loopK_intro (fun (i : Nat) s => i ≤ edges.length ∧ s.t 3 = lv edges ∧ s.t 5 = .box (5, 0, 0) 0 ∧ s.b (5, 0, 0) = some ⟨gcs b, false⟩ ∧ s.t 8 = .box (8, 0, 0) 0 ∧ s.b (8, 0, 0) = some ⟨[z1, z2, z3, z4, z5, z6], false⟩ ∧
      s.t 9 = .box (9, 0, 0) 0 ∧ s.t 12 = iv i ∧ ∃ t3 t4, s.b (9, 0, 0) = some ⟨[lvT G k1, elT' (gE a.e b.e R edges i).1 t3, lv (rng a.n.length), lv (rng a.e.length), lvT R k2, lvT (gE a.e b.e R edges i).2 t4], false⟩ ∧
      tokOK s t3 = true ∧ tokOK s t4 = true ∧ tkIn [(16, 1), (98, 0)] t3 = true ∧ tkIn [(106, 0)] t4 = true) (fun i => edges.length - i) ?_ ?_
    · refine ⟨0, by omega, t3, t5, b5, t8, b8, t9, rfl, k3, .nil, ?_, ?_, rfl, ?_, rfl⟩
      · simp (dsimp := false) (maxDischargeDepth := 16) only [go_sem, ↓reduceIte, reduceCtorEq, Nat.reduceEqDiff, Nat.reduceAdd, Nat.reduceMul, Nat.reduceSub, Nat.reduceLT, Nat.reduceLeDiff, Nat.reducePow, Int.reduceLT, Int.reduceLE, Int.reduceNeg, Int.reduceToNat, b9, gE]
      · simp (dsimp := false) (maxDischargeDepth := 16) only [go_sem, ↓reduceIte, reduceCtorEq, Nat.reduceEqDiff, Nat.reduceAdd, Nat.reduceMul, Nat.reduceSub, Nat.reduceLT, Nat.reduceLeDiff, Nat.reducePow, Int.reduceLT, Int.reduceLE, Int.reduceNeg, Int.reduceToNat, a3]
      · revert i3
        cases k3 <;> simp [tkIn]
        intro h1 h2
        exact .inl ⟨h1, h2⟩
    clear t2 t3 t5 b5 t8 b8 t9 t10 b9 a1 a2 a3 i1 i2 i3 h6 hi
    rintro i s ⟨hi, t3, t5, b5, t8, b8, t9, t12, q3, q4, b9, a3, a4, i3, i4⟩
    simp (dsimp := false) (maxDischargeDepth := 16) only [go_sem, ↓reduceIte, reduceCtorEq, Nat.reduceEqDiff, Nat.reduceAdd, Nat.reduceMul, Nat.reduceSub, Nat.reduceLT, Nat.reduceLeDiff, Nat.reducePow, Int.reduceLT, Int.reduceLE, Int.reduceNeg, Int.reduceToNat, t3, t5, b5, t8, b8, t9, t12, b9]
    have m1 := gE_len1 a.e b.e R edges i
    have m2 := gE_len2 a.e b.e R edges i
    refine condK_dec (fun h6 => ?_) (fun h6 => ?_)
    · have h7 : i < b.e.length := by omega
      have hx := hR _ (List.getElem_mem h7)
      have r1 : b.e[i].2.1.toNat < R.length := by omega
      have r2 : b.e[i].2.2.toNat < R.length := by omega
      have r3 := hx.1
      have r4 := hx.2.2.1
      simp (dsimp := false) (maxDischargeDepth := 16) only [go_sem, ↓reduceIte, reduceCtorEq, Nat.reduceEqDiff, Nat.reduceAdd, Nat.reduceMul, Nat.reduceSub, Nat.reduceLT, Nat.reduceLeDiff, Nat.reducePow, Int.reduceLT, Int.reduceLE, Int.reduceNeg, Int.reduceToNat, t3, t5, b5, t8, b8, t9, t12, b9, h6, idx_nat]
      refine condK_dec (fun h8 => ?_) (fun h8 => ?_)
      · have k34 : ∀ (s : St) (d n : Nat) (x : AV), tokOK s q4 = true → tokOK (s.ntok d n x (tokKey q3)) q4 = true := fun s d n x h => tk_kill i3 i4 rfl h
        have q5 : ∀ (f : Key → Bool) (g : Nat), killO f (tokKey q4) (98, g, 0) = f (98, g, 0) := fun f g => kill_tk i4 rfl f
        simp (dsimp := false) (maxDischargeDepth := 16) only [go_sem, ↓reduceIte, reduceCtorEq, Nat.reduceEqDiff, Nat.reduceAdd, Nat.reduceMul, Nat.reduceSub, Nat.reduceLT, Nat.reduceLeDiff, Nat.reducePow, Int.reduceLT, Int.reduceLE, Int.reduceNeg, Int.reduceToNat, t3, t5, b5, t8, b8, t9, t12, b9, h6, h7, h8, idx_nat, idx_int, r1, r2, r3, r4, a3, a4, k34]
        refine ⟨⟨by omega, by omega⟩, ⟨by omega, by omega⟩, i + 1, by omega, by omega, by rw [wrapN _ (by omega)], .own (98, s.g 98, 0), .own (106, s.g 106, 0), ?_, ?_, ?_, rfl, rfl⟩
        · rw [gE_neg h6 h7 h8 r1 r2]
          simp only [map1_app, map3_app]
          rfl
        all_goals simp (dsimp := false) (maxDischargeDepth := 16) only [go_sem, ↓reduceIte, reduceCtorEq, Nat.reduceEqDiff, Nat.reduceAdd, Nat.reduceMul, Nat.reduceSub, Nat.reduceLT, Nat.reduceLeDiff, Nat.reducePow, Int.reduceLT, Int.reduceLE, Int.reduceNeg, Int.reduceToNat, a3, a4, k34, q5]
      · have k43 : ∀ (s : St) (d n : Nat) (x : AV), tokOK s q3 = true → tokOK (s.ntok d n x (tokKey q4)) q3 = true := fun s d n x h => tk_kill i4 i3 rfl h
        simp (dsimp := false) (maxDischargeDepth := 16) only [go_sem, ↓reduceIte, reduceCtorEq, Nat.reduceEqDiff, Nat.reduceAdd, Nat.reduceMul, Nat.reduceSub, Nat.reduceLT, Nat.reduceLeDiff, Nat.reducePow, Int.reduceLT, Int.reduceLE, Int.reduceNeg, Int.reduceToNat, t3, t5, b5, t8, b8, t9, t12, b9, h6, h7, h8, idx_nat, a3, a4, k43]
        refine ⟨⟨by omega, by omega⟩, i + 1, by omega, by omega, by rw [wrapN _ (by omega)], q3, .own (106, s.g 106, 0), ?_, ?_, ?_, i3, rfl⟩
        · rw [gE_pos h6 h8]
          simp only [map1_app]
        all_goals simp (dsimp := false) (maxDischargeDepth := 16) only [go_sem, ↓reduceIte, reduceCtorEq, Nat.reduceEqDiff, Nat.reduceAdd, Nat.reduceMul, Nat.reduceSub, Nat.reduceLT, Nat.reduceLeDiff, Nat.reducePow, Int.reduceLT, Int.reduceLE, Int.reduceNeg, Int.reduceToNat, a3, a4, k43]
    · simp (dsimp := false) (maxDischargeDepth := 16) only [go_sem, ↓reduceIte, reduceCtorEq, Nat.reduceEqDiff, Nat.reduceAdd, Nat.reduceMul, Nat.reduceSub, Nat.reduceLT, Nat.reduceLeDiff, Nat.reducePow, Int.reduceLT, Int.reduceLE, Int.reduceNeg, Int.reduceToNat, t3, t5, b5, t8, b8, t9, t12, b9, h6]
      have : i = edges.length := by omega
      subst this
      exact finK ⟨rfl, rfl⟩
end Go.Sy

/- Contracts: the reference's overlaps. -/
set_option linter.unusedSimpArgs false
namespace Go.Sy
open Go Go.Proofs

theorem c93 (l : List Int) (n : Int) : Con Try.prog 93 [lv l, iv n] 0 (bv (l.contains n)) := by
  refine Con.assume (enters_of Try.func93 (by kernel_rfl) rfl) fun hb => ?_
  have hlen := bnd_lv (hb _ (List.mem_cons_self ..))
  refine conT (X := []) (rs := [.tmp 4]) Try.func93 (by kernel_rfl) rfl rfl (by kernel_rfl) ?_
  simp (dsimp := false) (maxDischargeDepth := 16) only [go_sem, ↓reduceIte, reduceCtorEq, Nat.reduceEqDiff, Nat.reduceAdd, Nat.reduceMul, Nat.reduceSub, Nat.reduceLT, Nat.reduceLeDiff, Nat.reducePow, Int.reduceLT, Int.reduceLE, Int.reduceNeg, Int.reduceToNat]
  refine loopK_intro (fun (i : Nat) s => i ≤ l.length ∧ s.t 0 = lv l ∧ s.t 1 = iv n ∧ s.t 5 = iv i ∧ ∀ x ∈ l.take i, x ≠ n) (fun i => l.length - i) ⟨0, by omega, rfl, rfl, rfl, fun j hj => by simp at hj⟩ ?_
  rintro i s ⟨hi, h0, h1, h5, hn⟩
  simp (dsimp := false) (maxDischargeDepth := 16) only [go_sem, ↓reduceIte, reduceCtorEq, Nat.reduceEqDiff, Nat.reduceAdd, Nat.reduceMul, Nat.reduceSub, Nat.reduceLT, Nat.reduceLeDiff, Nat.reducePow, Int.reduceLT, Int.reduceLE, Int.reduceNeg, Int.reduceToNat, h0, h1, h5]
  refine condK_dec (fun h6 => ?_) (fun h6 => ?_)
  · simp (dsimp := false) (maxDischargeDepth := 16) only [go_sem, ↓reduceIte, reduceCtorEq, Nat.reduceEqDiff, Nat.reduceAdd, Nat.reduceMul, Nat.reduceSub, Nat.reduceLT, Nat.reduceLeDiff, Nat.reducePow, Int.reduceLT, Int.reduceLE, Int.reduceNeg, Int.reduceToNat, h0, h1, h5, h6, idx_nat]
    refine condK_intro (fun h7 => ?_) (fun h7 => ?_)
    · simp (dsimp := false) (maxDischargeDepth := 16) only [go_sem, ↓reduceIte, reduceCtorEq, Nat.reduceEqDiff, Nat.reduceAdd, Nat.reduceMul, Nat.reduceSub, Nat.reduceLT, Nat.reduceLeDiff, Nat.reducePow, Int.reduceLT, Int.reduceLE, Int.reduceNeg, Int.reduceToNat, h0, h1, h5, h6, h7]
      refine finB ?_
      rw [List.contains_iff_mem]
      have := List.getElem_mem h6
      rwa [beqT h7] at this
    · simp (dsimp := false) (maxDischargeDepth := 16) only [go_sem, ↓reduceIte, reduceCtorEq, Nat.reduceEqDiff, Nat.reduceAdd, Nat.reduceMul, Nat.reduceSub, Nat.reduceLT, Nat.reduceLeDiff, Nat.reducePow, Int.reduceLT, Int.reduceLE, Int.reduceNeg, Int.reduceToNat, h0, h1, h5, h6, h7]
      exact ⟨i + 1, by omega, by omega, by rw [wrapN _ (by omega)], take_all h6 hn (beqF h7)⟩
  · simp (dsimp := false) (maxDischargeDepth := 16) only [go_sem, ↓reduceIte, reduceCtorEq, Nat.reduceEqDiff, Nat.reduceAdd, Nat.reduceMul, Nat.reduceSub, Nat.reduceLT, Nat.reduceLeDiff, Nat.reducePow, Int.reduceLT, Int.reduceLE, Int.reduceNeg, Int.reduceToNat, h0, h1, h5, h6]
    refine finB ?_
    rw [← Bool.not_eq_true, List.contains_iff_mem]
    intro hm
    exact take_full h6 hn _ hm rfl
def olvT (l : List Ov) (tk : Tok) : AV := .list 6 (l.map ocs) tk
theorem lastOK_own {s : St} (sz : Nat) (xs : List (List AV)) (k : Key) : lastOK s (.list sz xs (.own k)) = !s.d k := rfl
theorem lastOK_nil {s : St} (sz : Nat) (xs : List (List AV)) : lastOK s (.list sz xs .nil) = true := rfl
theorem canonX_own (sz : Nat) (xs : List (List AV)) (k : Key) : canonX (.list sz xs (.own k)) = .list sz xs (.own (0, 0, 0)) := rfl
theorem canonX_nil (sz : Nat) (xs : List (List AV)) : canonX (.list sz xs .nil) = .list sz xs (.own (0, 0, 0)) := rfl
theorem lastKey_own (sz : Nat) (xs : List (List AV)) (k : Key) : lastKey (.list sz xs (.own k)) = some k := rfl
theorem lastKey_nil (sz : Nat) (xs : List (List AV)) : lastKey (.list sz xs .nil) = none := rfl
attribute [go_sem] olvT lastOK_own lastOK_nil canonX_own canonX_nil lastKey_own lastKey_nil
def okE (a : Gr) (nodes l : List Int) (e : Ed) (n : Int) : Bool := decide (n < 0) || (!l.contains n && decide (a.e.getD n.toNat (0, 0, 0) = (e.1, nodes.getD e.2.1.toNat 0, nodes.getD e.2.2.toNat 0)))
/-- What 'edges' appends: k edges are left. -/
def ovE (a b : Gr) (nodes : List Int) : Nat → List Int → List Ov → List Ov
  | 0, l, out => if out.length > 2000 then out else out ++ [glue a b nodes l]
  | k + 1, l, out => if out.length > 2000 then out else
    (List.range (a.e.length + 1)).foldl (fun out (j : Nat) => if okE a nodes l (b.e.getD l.length (0, 0, 0)) ((j : Int) - 1) then ovE a b nodes k (l ++ [(j : Int) - 1]) out else out) out

theorem okE_at {a : Gr} {nodes l : List Int} {e : Ed} {n : Int} (h7 : ¬ n < 0) (h10 : n.toNat < a.e.length) (r1 : e.2.1.toNat < nodes.length) (r2 : e.2.2.toNat < nodes.length) :
    okE a nodes l e n = (!l.contains n && (a.e[n.toNat].1 == e.1 && (a.e[n.toNat].2.1 == nodes[e.2.1.toNat] && a.e[n.toNat].2.2 == nodes[e.2.2.toNat]))) := by
  have e0 : a.e.getD n.toNat (0, 0, 0) = a.e[n.toNat] := by simp [h10]
  have e1 : nodes.getD e.2.1.toNat 0 = nodes[e.2.1.toNat] := by simp [r1]
  have e2 : nodes.getD e.2.2.toNat 0 = nodes[e.2.2.toNat] := by simp [r2]
  rw [okE, decide_eq_false h7, Bool.false_or, e0, e1, e2]
  congr 1
  rw [Bool.eq_iff_iff]
  simp [Prod.ext_iff]
theorem getD_at {α : Type} {l : List α} {i : Nat} {d : α} (h : i < l.length) : l.getD i d = l[i] := by simp [h]

theorem foldl_le {α β : Type} {f : List α → β → List α} {m : Nat} (h : ∀ o x, o.length ≤ m → (f o x).length ≤ m) : ∀ (l : List β) (o : List α), o.length ≤ m → (l.foldl f o).length ≤ m
  | [], _, ho => ho
  | x :: l, o, ho => foldl_le h l _ (h o x ho)
theorem ovE_len (a b : Gr) (nodes : List Int) : ∀ (k : Nat) (l : List Int) (out : List Ov), out.length ≤ 2001 → (ovE a b nodes k l out).length ≤ 2001
  | 0, l, out, h => by
    rw [ovE]
    split
    · exact h
    · simp; omega
  | k + 1, l, out, h => by
    rw [ovE]
    split
    · exact h
    · refine foldl_le (fun o x ho => ?_) _ _ h
      split
      · exact ovE_len a b nodes k _ _ ho
      · exact ho
theorem range_fold {α : Type} (f : α → Nat → α) (o : α) (j : Nat) : (List.range (j + 1)).foldl f o = f ((List.range j).foldl f o) j := by
  rw [List.range_succ, List.foldl_append]
  rfl
theorem wrapJ (j : Nat) (h : j ≤ 1000000) : AV.v (.int .i64 (IntKind.i64.wrap ((j : Int) - 1 + 1))) = AV.v (.int .i64 (((j + 1 : Nat) : Int) - 1)) := by
  rw [wrap_i64 _ (by omega) (by omega)]
  congr 2
  omega
set_option maxRecDepth 20000 in
set_option maxHeartbeats 4000000 in
theorem c120 (a b : Gr) (nodes : List Int) (ha : a.n.length ≤ 1000) (hae : a.e.length ≤ 1000) (hn : nodes.length = b.n.length) (hb : b.n.length ≤ 1000) (hbe : b.e.length ≤ 1000)
    (hR : ∀ x ∈ b.e, 0 ≤ x.2.1 ∧ x.2.1 < nodes.length ∧ 0 ≤ x.2.2 ∧ x.2.2 < nodes.length) :
    ∀ (k : Nat) (l : List Int) (out : List Ov), l.length + k = b.e.length → out.length ≤ 2001 →
      ECon Try.prog 120 [lv nodes, lv l] (gcs a ++ gcs b) (olvT out (.own (0, 0, 0))) .any (gcs a ++ gcs b) (olvT (ovE a b nodes k l out) (.own (0, 0, 0)))
  | 0, l, out, hk, hout => by
    refine econT (X := []) (rs := []) Try.func120 (by kernel_rfl) rfl rfl (by kernel_rfl) ?_
    simp (dsimp := false) (maxDischargeDepth := 16) only [go_sem, ↓reduceIte, reduceCtorEq, Nat.reduceEqDiff, Nat.reduceAdd, Nat.reduceMul, Nat.reduceSub, Nat.reduceLT, Nat.reduceLeDiff, Nat.reducePow, Int.reduceLT, Int.reduceLE, Int.reduceNeg, Int.reduceToNat]
    refine condK_dec (fun h1 => ?_) (fun h1 => ?_)
    · simp (dsimp := false) (maxDischargeDepth := 16) only [go_sem, ↓reduceIte, reduceCtorEq, Nat.reduceEqDiff, Nat.reduceAdd, Nat.reduceMul, Nat.reduceSub, Nat.reduceLT, Nat.reduceLeDiff, Nat.reducePow, Int.reduceLT, Int.reduceLE, Int.reduceNeg, Int.reduceToNat, h1]
      refine ⟨.inl trivial, _, rfl, ?_, ?_⟩
      · simp (dsimp := false) (maxDischargeDepth := 16) only [go_sem, ↓reduceIte, reduceCtorEq, Nat.reduceEqDiff, Nat.reduceAdd, Nat.reduceMul, Nat.reduceSub, Nat.reduceLT, Nat.reduceLeDiff, Nat.reducePow, Int.reduceLT, Int.reduceLE, Int.reduceNeg, Int.reduceToNat]
      · simp (dsimp := false) (maxDischargeDepth := 16) only [go_sem, ↓reduceIte, reduceCtorEq, Nat.reduceEqDiff, Nat.reduceAdd, Nat.reduceMul, Nat.reduceSub, Nat.reduceLT, Nat.reduceLeDiff, Nat.reducePow, Int.reduceLT, Int.reduceLE, Int.reduceNeg, Int.reduceToNat]
        rw [ovE, if_pos (by omega)]
    simp (dsimp := false) (maxDischargeDepth := 16) only [go_sem, ↓reduceIte, reduceCtorEq, Nat.reduceEqDiff, Nat.reduceAdd, Nat.reduceMul, Nat.reduceSub, Nat.reduceLT, Nat.reduceLeDiff, Nat.reducePow, Int.reduceLT, Int.reduceLE, Int.reduceNeg, Int.reduceToNat, h1]
    refine condK_intro (fun h2 => ?_) (fun h2 => ?_)
    · simp (dsimp := false) (maxDischargeDepth := 16) only [go_sem, ↓reduceIte, reduceCtorEq, Nat.reduceEqDiff, Nat.reduceAdd, Nat.reduceMul, Nat.reduceSub, Nat.reduceLT, Nat.reduceLeDiff, Nat.reducePow, Int.reduceLT, Int.reduceLE, Int.reduceNeg, Int.reduceToNat, h1, h2]
      have h3 : l.length = b.e.length := by omega
      refine callK_intro (c80 a b nodes l ha hae (by omega) (by omega) hb hbe hR) ?_
      simp (dsimp := false) (maxDischargeDepth := 16) only [go_sem, ↓reduceIte, reduceCtorEq, Nat.reduceEqDiff, Nat.reduceAdd, Nat.reduceMul, Nat.reduceSub, Nat.reduceLT, Nat.reduceLeDiff, Nat.reducePow, Int.reduceLT, Int.reduceLE, Int.reduceNeg, Int.reduceToNat, h1, h2]
      refine ⟨⟨by omega, by omega⟩, .inl trivial, _, rfl, ?_, ?_⟩
      · simp (dsimp := false) (maxDischargeDepth := 16) only [go_sem, ↓reduceIte, reduceCtorEq, Nat.reduceEqDiff, Nat.reduceAdd, Nat.reduceMul, Nat.reduceSub, Nat.reduceLT, Nat.reduceLeDiff, Nat.reducePow, Int.reduceLT, Int.reduceLE, Int.reduceNeg, Int.reduceToNat]
      · simp (dsimp := false) (maxDischargeDepth := 16) only [go_sem, ↓reduceIte, reduceCtorEq, Nat.reduceEqDiff, Nat.reduceAdd, Nat.reduceMul, Nat.reduceSub, Nat.reduceLT, Nat.reduceLeDiff, Nat.reducePow, Int.reduceLT, Int.reduceLE, Int.reduceNeg, Int.reduceToNat]
        rw [ovE, if_neg (by omega), List.map_append]
        rfl
    · exact absurd (beqF h2) (by simp; omega)
  | k + 1, l, out, hk, hout => by
    have ih := c120 a b nodes ha hae hn hb hbe hR k
    refine econT (X := []) (rs := []) Try.func120 (by kernel_rfl) rfl rfl (by kernel_rfl) ?_
    simp (dsimp := false) (maxDischargeDepth := 16) only [go_sem, ↓reduceIte, reduceCtorEq, Nat.reduceEqDiff, Nat.reduceAdd, Nat.reduceMul, Nat.reduceSub, Nat.reduceLT, Nat.reduceLeDiff, Nat.reducePow, Int.reduceLT, Int.reduceLE, Int.reduceNeg, Int.reduceToNat]
    refine condK_dec (fun h1 => ?_) (fun h1 => ?_)
    · simp (dsimp := false) (maxDischargeDepth := 16) only [go_sem, ↓reduceIte, reduceCtorEq, Nat.reduceEqDiff, Nat.reduceAdd, Nat.reduceMul, Nat.reduceSub, Nat.reduceLT, Nat.reduceLeDiff, Nat.reducePow, Int.reduceLT, Int.reduceLE, Int.reduceNeg, Int.reduceToNat, h1]
      refine ⟨.inl trivial, _, rfl, ?_, ?_⟩
      · simp (dsimp := false) (maxDischargeDepth := 16) only [go_sem, ↓reduceIte, reduceCtorEq, Nat.reduceEqDiff, Nat.reduceAdd, Nat.reduceMul, Nat.reduceSub, Nat.reduceLT, Nat.reduceLeDiff, Nat.reducePow, Int.reduceLT, Int.reduceLE, Int.reduceNeg, Int.reduceToNat]
      · simp (dsimp := false) (maxDischargeDepth := 16) only [go_sem, ↓reduceIte, reduceCtorEq, Nat.reduceEqDiff, Nat.reduceAdd, Nat.reduceMul, Nat.reduceSub, Nat.reduceLT, Nat.reduceLeDiff, Nat.reducePow, Int.reduceLT, Int.reduceLE, Int.reduceNeg, Int.reduceToNat]
        rw [ovE, if_pos (by omega)]
    simp (dsimp := false) (maxDischargeDepth := 16) only [go_sem, ↓reduceIte, reduceCtorEq, Nat.reduceEqDiff, Nat.reduceAdd, Nat.reduceMul, Nat.reduceSub, Nat.reduceLT, Nat.reduceLeDiff, Nat.reducePow, Int.reduceLT, Int.reduceLE, Int.reduceNeg, Int.reduceToNat, h1]
    refine condK_intro (fun h2 => ?_) (fun h2 => ?_)
    · have := beqT h2
      omega
    have h3 : l.length < b.e.length := by omega
    simp (dsimp := false) (maxDischargeDepth := 16) only [go_sem, ↓reduceIte, reduceCtorEq, Nat.reduceEqDiff, Nat.reduceAdd, Nat.reduceMul, Nat.reduceSub, Nat.reduceLT, Nat.reduceLeDiff, Nat.reducePow, Int.reduceLT, Int.reduceLE, Int.reduceNeg, Int.reduceToNat, h1, h2, idx_nat, h3]
    let st : List Ov → Nat → List Ov := fun out j => if okE a nodes l (b.e.getD l.length (0, 0, 0)) ((j : Int) - 1) then ovE a b nodes k (l ++ [(j : Int) - 1]) out else out
    have hsp : ovE a b nodes (k + 1) l out = (List.range (a.e.length + 1)).foldl st out := by rw [ovE, if_neg (by omega)]
    rw [hsp]
    generalize hF : (List.range (a.e.length + 1)).foldl st out = F
    refine loopK_intro (fun (j : Nat) s => j ≤ a.e.length + 1 ∧ s.t 0 = .box (0, 0, 0) 0 ∧ s.t 1 = lv nodes ∧ s.t 2 = lv l ∧ s.t 7 = .box (7, 0, 0) 0 ∧ s.b (7, 0, 0) = some ⟨ecs b.e[l.length], false⟩ ∧ s.t 8 = iv ((j : Int) - 1) ∧
      ((List.range j).foldl st out).length ≤ 2001 ∧ ∃ γ, s.b (0, 0, 0) = some ⟨gcs a ++ gcs b ++ [olvT ((List.range j).foldl st out) (.own (0, γ, 0))], false⟩ ∧ s.d (0, γ, 0) = false) (fun j => a.e.length + 1 - j) ?_ ?_
    · refine ⟨0, by omega, rfl, rfl, rfl, rfl, rfl, rfl, hout, 0, rfl, ?_⟩
      simp (dsimp := false) (maxDischargeDepth := 16) only [go_sem, ↓reduceIte, reduceCtorEq, Nat.reduceEqDiff, Nat.reduceAdd, Nat.reduceMul, Nat.reduceSub, Nat.reduceLT, Nat.reduceLeDiff, Nat.reducePow, Int.reduceLT, Int.reduceLE, Int.reduceNeg, Int.reduceToNat]
    clear h1 h2
    rintro j s ⟨hj, t0, t1, t2, t7, b7, t8, hc, γ, b0, d0⟩
    simp (dsimp := false) (maxDischargeDepth := 16) only [go_sem, ↓reduceIte, reduceCtorEq, Nat.reduceEqDiff, Nat.reduceAdd, Nat.reduceMul, Nat.reduceSub, Nat.reduceLT, Nat.reduceLeDiff, Nat.reducePow, Int.reduceLT, Int.reduceLE, Int.reduceNeg, Int.reduceToNat, t0, t1, t2, t7, b7, t8, b0, d0]
    refine condK_dec (fun h6 => ?_) (fun h6 => ?_)
    · simp (dsimp := false) (maxDischargeDepth := 16) only [go_sem, ↓reduceIte, reduceCtorEq, Nat.reduceEqDiff, Nat.reduceAdd, Nat.reduceMul, Nat.reduceSub, Nat.reduceLT, Nat.reduceLeDiff, Nat.reducePow, Int.reduceLT, Int.reduceLE, Int.reduceNeg, Int.reduceToNat, t0, t1, t2, t7, b7, t8, b0, d0, h6]
      refine condK_dec (fun h7 => ?_) (fun h7 => ?_)
      · simp (dsimp := false) (maxDischargeDepth := 16) only [go_sem, ↓reduceIte, reduceCtorEq, Nat.reduceEqDiff, Nat.reduceAdd, Nat.reduceMul, Nat.reduceSub, Nat.reduceLT, Nat.reduceLeDiff, Nat.reducePow, Int.reduceLT, Int.reduceLE, Int.reduceNeg, Int.reduceToNat, t0, t1, t2, t7, b7, t8, b0, d0, h6, h7]
        refine ⟨⟨by omega, by omega⟩, ⟨by omega, by omega⟩, ?_⟩
        have ih2 := ih (l ++ [(j : Int) - 1]) ((List.range j).foldl st out) (by simp; omega) hc
        simp only [lv, lvT, iv, map1_app] at ih2
        refine ecallK_intro (pre := gcs a ++ gcs b) (x := olvT ((List.range j).foldl st out) (.own (0, γ, 0))) rfl ?_ ih2 ?_
        · simp (dsimp := false) (maxDischargeDepth := 16) only [go_sem, ↓reduceIte, reduceCtorEq, Nat.reduceEqDiff, Nat.reduceAdd, Nat.reduceMul, Nat.reduceSub, Nat.reduceLT, Nat.reduceLeDiff, Nat.reducePow, Int.reduceLT, Int.reduceLE, Int.reduceNeg, Int.reduceToNat, d0]
        · simp (dsimp := false) (maxDischargeDepth := 16) only [go_sem, ↓reduceIte, reduceCtorEq, Nat.reduceEqDiff, Nat.reduceAdd, Nat.reduceMul, Nat.reduceSub, Nat.reduceLT, Nat.reduceLeDiff, Nat.reducePow, Int.reduceLT, Int.reduceLE, Int.reduceNeg, Int.reduceToNat, t0, t1, t2, t7, b7, t8, b0, d0, h6, h7]
          have hst : (List.range (j + 1)).foldl st out = ovE a b nodes k (l ++ [(j : Int) - 1]) ((List.range j).foldl st out) := by
            rw [range_fold]
            exact if_pos (by simp [okE, h7])
          refine ⟨j + 1, by omega, by omega, wrapJ j (by omega), ?_, s.g 0, ?_, ?_⟩
          · rw [hst]; exact ovE_len _ _ _ _ _ _ hc
          · rw [hst]
          · simp
      · simp (dsimp := false) (maxDischargeDepth := 16) only [go_sem, ↓reduceIte, reduceCtorEq, Nat.reduceEqDiff, Nat.reduceAdd, Nat.reduceMul, Nat.reduceSub, Nat.reduceLT, Nat.reduceLeDiff, Nat.reducePow, Int.reduceLT, Int.reduceLE, Int.reduceNeg, Int.reduceToNat, t0, t1, t2, t7, b7, t8, b0, d0, h6, h7]
        refine callK_intro (c93 l ((j : Int) - 1)) ?_
        simp (dsimp := false) (maxDischargeDepth := 16) only [go_sem, ↓reduceIte, reduceCtorEq, Nat.reduceEqDiff, Nat.reduceAdd, Nat.reduceMul, Nat.reduceSub, Nat.reduceLT, Nat.reduceLeDiff, Nat.reducePow, Int.reduceLT, Int.reduceLE, Int.reduceNeg, Int.reduceToNat, t0, t1, t2, t7, b7, t8, b0, d0, h6, h7]
        refine condK_intro (fun h8 => ?_) (fun h8 => ?_)
        · have hx := hR _ (List.getElem_mem h3)
          have r1 : b.e[l.length].2.1.toNat < nodes.length := by omega
          have r2 : b.e[l.length].2.2.toNat < nodes.length := by omega
          have r3 := hx.1
          have r4 := hx.2.2.1
          have h9 : (0 : Int) ≤ (j : Int) - 1 := by omega
          have h10 : ((j : Int) - 1).toNat < a.e.length := by omega
          simp (dsimp := false) (maxDischargeDepth := 16) only [go_sem, ↓reduceIte, reduceCtorEq, Nat.reduceEqDiff, Nat.reduceAdd, Nat.reduceMul, Nat.reduceSub, Nat.reduceLT, Nat.reduceLeDiff, Nat.reducePow, Int.reduceLT, Int.reduceLE, Int.reduceNeg, Int.reduceToNat, t0, t1, t2, t7, b7, t8, b0, d0, h6, h7, h8, idx_int, h9, h10, r1, r2, r3, r4]
          refine condK_intro (fun h11 => ?_) (fun h11 => ?_)
          · simp (dsimp := false) (maxDischargeDepth := 16) only [go_sem, ↓reduceIte, reduceCtorEq, Nat.reduceEqDiff, Nat.reduceAdd, Nat.reduceMul, Nat.reduceSub, Nat.reduceLT, Nat.reduceLeDiff, Nat.reducePow, Int.reduceLT, Int.reduceLE, Int.reduceNeg, Int.reduceToNat, t0, t1, t2, t7, b7, t8, b0, d0, h6, h7, h8, h11]
            refine ⟨⟨by omega, by omega⟩, ⟨by omega, by omega⟩, ?_⟩
            have ih2 := ih (l ++ [(j : Int) - 1]) ((List.range j).foldl st out) (by simp; omega) hc
            simp only [lv, lvT, iv, map1_app] at ih2
            refine ecallK_intro (pre := gcs a ++ gcs b) (x := olvT ((List.range j).foldl st out) (.own (0, γ, 0))) rfl ?_ ih2 ?_
            · simp (dsimp := false) (maxDischargeDepth := 16) only [go_sem, ↓reduceIte, reduceCtorEq, Nat.reduceEqDiff, Nat.reduceAdd, Nat.reduceMul, Nat.reduceSub, Nat.reduceLT, Nat.reduceLeDiff, Nat.reducePow, Int.reduceLT, Int.reduceLE, Int.reduceNeg, Int.reduceToNat, d0]
            · simp (dsimp := false) (maxDischargeDepth := 16) only [go_sem, ↓reduceIte, reduceCtorEq, Nat.reduceEqDiff, Nat.reduceAdd, Nat.reduceMul, Nat.reduceSub, Nat.reduceLT, Nat.reduceLeDiff, Nat.reducePow, Int.reduceLT, Int.reduceLE, Int.reduceNeg, Int.reduceToNat, t0, t1, t2, t7, b7, t8, b0, d0, h6, h7, h8, h11]
              have hst : (List.range (j + 1)).foldl st out = ovE a b nodes k (l ++ [(j : Int) - 1]) ((List.range j).foldl st out) := by
                rw [range_fold]
                exact if_pos (by rw [getD_at h3, okE_at h7 h10 r1 r2, h8, h11]; rfl)
              refine ⟨j + 1, by omega, by omega, wrapJ j (by omega), ?_, s.g 0, ?_, ?_⟩
              · rw [hst]; exact ovE_len _ _ _ _ _ _ hc
              · rw [hst]
              · simp
          · simp (dsimp := false) (maxDischargeDepth := 16) only [go_sem, ↓reduceIte, reduceCtorEq, Nat.reduceEqDiff, Nat.reduceAdd, Nat.reduceMul, Nat.reduceSub, Nat.reduceLT, Nat.reduceLeDiff, Nat.reducePow, Int.reduceLT, Int.reduceLE, Int.reduceNeg, Int.reduceToNat, t0, t1, t2, t7, b7, t8, b0, d0, h6, h7, h8, h11]
            have hst : (List.range (j + 1)).foldl st out = (List.range j).foldl st out := by
              rw [range_fold]
              exact if_neg (by rw [getD_at h3, okE_at h7 h10 r1 r2, h8, h11]; simp)
            exact ⟨j + 1, by omega, by omega, wrapJ j (by omega), by rw [hst]; exact hc, γ, by rw [hst], d0⟩
        · simp (dsimp := false) (maxDischargeDepth := 16) only [go_sem, ↓reduceIte, reduceCtorEq, Nat.reduceEqDiff, Nat.reduceAdd, Nat.reduceMul, Nat.reduceSub, Nat.reduceLT, Nat.reduceLeDiff, Nat.reducePow, Int.reduceLT, Int.reduceLE, Int.reduceNeg, Int.reduceToNat, t0, t1, t2, t7, b7, t8, b0, d0, h6, h7, h8]
          have hst : (List.range (j + 1)).foldl st out = (List.range j).foldl st out := by
            rw [range_fold]
            exact if_neg (by simp at h8; simp [okE, h7, h8])
          exact ⟨j + 1, by omega, by omega, wrapJ j (by omega), by rw [hst]; exact hc, γ, by rw [hst], d0⟩
    · simp (dsimp := false) (maxDischargeDepth := 16) only [go_sem, ↓reduceIte, reduceCtorEq, Nat.reduceEqDiff, Nat.reduceAdd, Nat.reduceMul, Nat.reduceSub, Nat.reduceLT, Nat.reduceLeDiff, Nat.reducePow, Int.reduceLT, Int.reduceLE, Int.reduceNeg, Int.reduceToNat, t0, t1, t2, t7, b7, t8, b0, d0, h6]
      have hj1 : j = a.e.length + 1 := by omega
      subst hj1
      rw [hF]
      refine ⟨.inl trivial, _, rfl, ?_, rfl⟩
      simp (dsimp := false) (maxDischargeDepth := 16) only [go_sem, ↓reduceIte, reduceCtorEq, Nat.reduceEqDiff, Nat.reduceAdd, Nat.reduceMul, Nat.reduceSub, Nat.reduceLT, Nat.reduceLeDiff, Nat.reducePow, Int.reduceLT, Int.reduceLE, Int.reduceNeg, Int.reduceToNat, d0]
end Go.Sy

/- Contracts: the reference's overlaps, by nodes. -/
set_option linter.unusedSimpArgs false
namespace Go.Sy
open Go Go.Proofs

def okN (a : Gr) (t : Int) (l : List Int) (n : Int) : Bool := decide (n < 0) || (!l.contains n && decide (a.n.getD n.toNat 0 = t))
theorem okN_at {a : Gr} {t : Int} {l : List Int} {n : Int} (h7 : ¬ n < 0) (h10 : n.toNat < a.n.length) : okN a t l n = (!l.contains n && a.n[n.toNat] == t) := by
  rw [okN, decide_eq_false h7, Bool.false_or, getD_at h10]
  rfl
/-- What 'nodes' appends: k nodes are left. -/
def ovN (a b : Gr) : Nat → List Int → List Ov → List Ov
  | 0, l, out => if out.length > 2000 then out else ovE a b l b.e.length [] out
  | k + 1, l, out => if out.length > 2000 then out else
    (List.range (a.n.length + 1)).foldl (fun out (j : Nat) => if okN a (b.n.getD l.length 0) l ((j : Int) - 1) then ovN a b k (l ++ [(j : Int) - 1]) out else out) out
theorem ovN_len (a b : Gr) : ∀ (k : Nat) (l : List Int) (out : List Ov), out.length ≤ 2001 → (ovN a b k l out).length ≤ 2001
  | 0, l, out, h => by
    rw [ovN]
    split
    · exact h
    · exact ovE_len _ _ _ _ _ _ h
  | k + 1, l, out, h => by
    rw [ovN]
    split
    · exact h
    · refine foldl_le (fun o x ho => ?_) _ _ h
      split
      · exact ovN_len a b k _ _ ho
      · exact ho
set_option maxRecDepth 20000 in
set_option maxHeartbeats 4000000 in
theorem c63 (a b : Gr) (ha : a.n.length ≤ 1000) (hae : a.e.length ≤ 1000) (hb : b.n.length ≤ 1000) (hbe : b.e.length ≤ 1000)
    (hR : ∀ x ∈ b.e, 0 ≤ x.2.1 ∧ x.2.1 < b.n.length ∧ 0 ≤ x.2.2 ∧ x.2.2 < b.n.length) :
    ∀ (k : Nat) (l : List Int) (out : List Ov), l.length + k = b.n.length → out.length ≤ 2001 →
      ECon Try.prog 63 [lv l] (gcs a ++ gcs b) (olvT out (.own (0, 0, 0))) .any (gcs a ++ gcs b) (olvT (ovN a b k l out) (.own (0, 0, 0)))
  | 0, l, out, hk, hout => by
    refine econT (X := []) (rs := []) Try.func63 (by kernel_rfl) rfl rfl (by kernel_rfl) ?_
    simp (dsimp := false) (maxDischargeDepth := 16) only [go_sem, ↓reduceIte, reduceCtorEq, Nat.reduceEqDiff, Nat.reduceAdd, Nat.reduceMul, Nat.reduceSub, Nat.reduceLT, Nat.reduceLeDiff, Nat.reducePow, Int.reduceLT, Int.reduceLE, Int.reduceNeg, Int.reduceToNat]
    refine condK_dec (fun h1 => ?_) (fun h1 => ?_)
    · simp (dsimp := false) (maxDischargeDepth := 16) only [go_sem, ↓reduceIte, reduceCtorEq, Nat.reduceEqDiff, Nat.reduceAdd, Nat.reduceMul, Nat.reduceSub, Nat.reduceLT, Nat.reduceLeDiff, Nat.reducePow, Int.reduceLT, Int.reduceLE, Int.reduceNeg, Int.reduceToNat, h1]
      refine ⟨.inl trivial, _, rfl, ?_, ?_⟩
      · simp (dsimp := false) (maxDischargeDepth := 16) only [go_sem, ↓reduceIte, reduceCtorEq, Nat.reduceEqDiff, Nat.reduceAdd, Nat.reduceMul, Nat.reduceSub, Nat.reduceLT, Nat.reduceLeDiff, Nat.reducePow, Int.reduceLT, Int.reduceLE, Int.reduceNeg, Int.reduceToNat]
      · simp (dsimp := false) (maxDischargeDepth := 16) only [go_sem, ↓reduceIte, reduceCtorEq, Nat.reduceEqDiff, Nat.reduceAdd, Nat.reduceMul, Nat.reduceSub, Nat.reduceLT, Nat.reduceLeDiff, Nat.reducePow, Int.reduceLT, Int.reduceLE, Int.reduceNeg, Int.reduceToNat]
        rw [ovN, if_pos (by omega)]
    simp (dsimp := false) (maxDischargeDepth := 16) only [go_sem, ↓reduceIte, reduceCtorEq, Nat.reduceEqDiff, Nat.reduceAdd, Nat.reduceMul, Nat.reduceSub, Nat.reduceLT, Nat.reduceLeDiff, Nat.reducePow, Int.reduceLT, Int.reduceLE, Int.reduceNeg, Int.reduceToNat, h1]
    refine condK_intro (fun h2 => ?_) (fun h2 => ?_)
    · simp (dsimp := false) (maxDischargeDepth := 16) only [go_sem, ↓reduceIte, reduceCtorEq, Nat.reduceEqDiff, Nat.reduceAdd, Nat.reduceMul, Nat.reduceSub, Nat.reduceLT, Nat.reduceLeDiff, Nat.reducePow, Int.reduceLT, Int.reduceLE, Int.reduceNeg, Int.reduceToNat, h1, h2]
      have h3 : l.length = b.n.length := by omega
      have ic := c120 a b l ha hae h3 hb hbe (by rw [h3]; exact hR) b.e.length [] out (by simp) hout
      simp only [lv, lvT, iv, List.map_nil] at ic
      refine ecallK_intro (pre := gcs a ++ gcs b) (x := olvT out (.own (0, 0, 0))) rfl ?_ ic ?_
      · simp (dsimp := false) (maxDischargeDepth := 16) only [go_sem, ↓reduceIte, reduceCtorEq, Nat.reduceEqDiff, Nat.reduceAdd, Nat.reduceMul, Nat.reduceSub, Nat.reduceLT, Nat.reduceLeDiff, Nat.reducePow, Int.reduceLT, Int.reduceLE, Int.reduceNeg, Int.reduceToNat]
      · simp (dsimp := false) (maxDischargeDepth := 16) only [go_sem, ↓reduceIte, reduceCtorEq, Nat.reduceEqDiff, Nat.reduceAdd, Nat.reduceMul, Nat.reduceSub, Nat.reduceLT, Nat.reduceLeDiff, Nat.reducePow, Int.reduceLT, Int.reduceLE, Int.reduceNeg, Int.reduceToNat, h1, h2]
        refine ⟨.inl trivial, _, rfl, ?_, ?_⟩
        · simp (dsimp := false) (maxDischargeDepth := 16) only [go_sem, ↓reduceIte, reduceCtorEq, Nat.reduceEqDiff, Nat.reduceAdd, Nat.reduceMul, Nat.reduceSub, Nat.reduceLT, Nat.reduceLeDiff, Nat.reducePow, Int.reduceLT, Int.reduceLE, Int.reduceNeg, Int.reduceToNat]
        · simp (dsimp := false) (maxDischargeDepth := 16) only [go_sem, ↓reduceIte, reduceCtorEq, Nat.reduceEqDiff, Nat.reduceAdd, Nat.reduceMul, Nat.reduceSub, Nat.reduceLT, Nat.reduceLeDiff, Nat.reducePow, Int.reduceLT, Int.reduceLE, Int.reduceNeg, Int.reduceToNat]
          rw [ovN, if_neg (by omega)]
    · exact absurd (beqF h2) (by simp; omega)
  | k + 1, l, out, hk, hout => by
    have ih := c63 a b ha hae hb hbe hR k
    refine econT (X := []) (rs := []) Try.func63 (by kernel_rfl) rfl rfl (by kernel_rfl) ?_
    simp (dsimp := false) (maxDischargeDepth := 16) only [go_sem, ↓reduceIte, reduceCtorEq, Nat.reduceEqDiff, Nat.reduceAdd, Nat.reduceMul, Nat.reduceSub, Nat.reduceLT, Nat.reduceLeDiff, Nat.reducePow, Int.reduceLT, Int.reduceLE, Int.reduceNeg, Int.reduceToNat]
    refine condK_dec (fun h1 => ?_) (fun h1 => ?_)
    · simp (dsimp := false) (maxDischargeDepth := 16) only [go_sem, ↓reduceIte, reduceCtorEq, Nat.reduceEqDiff, Nat.reduceAdd, Nat.reduceMul, Nat.reduceSub, Nat.reduceLT, Nat.reduceLeDiff, Nat.reducePow, Int.reduceLT, Int.reduceLE, Int.reduceNeg, Int.reduceToNat, h1]
      refine ⟨.inl trivial, _, rfl, ?_, ?_⟩
      · simp (dsimp := false) (maxDischargeDepth := 16) only [go_sem, ↓reduceIte, reduceCtorEq, Nat.reduceEqDiff, Nat.reduceAdd, Nat.reduceMul, Nat.reduceSub, Nat.reduceLT, Nat.reduceLeDiff, Nat.reducePow, Int.reduceLT, Int.reduceLE, Int.reduceNeg, Int.reduceToNat]
      · simp (dsimp := false) (maxDischargeDepth := 16) only [go_sem, ↓reduceIte, reduceCtorEq, Nat.reduceEqDiff, Nat.reduceAdd, Nat.reduceMul, Nat.reduceSub, Nat.reduceLT, Nat.reduceLeDiff, Nat.reducePow, Int.reduceLT, Int.reduceLE, Int.reduceNeg, Int.reduceToNat]
        rw [ovN, if_pos (by omega)]
    simp (dsimp := false) (maxDischargeDepth := 16) only [go_sem, ↓reduceIte, reduceCtorEq, Nat.reduceEqDiff, Nat.reduceAdd, Nat.reduceMul, Nat.reduceSub, Nat.reduceLT, Nat.reduceLeDiff, Nat.reducePow, Int.reduceLT, Int.reduceLE, Int.reduceNeg, Int.reduceToNat, h1]
    refine condK_intro (fun h2 => ?_) (fun h2 => ?_)
    · have := beqT h2
      omega
    have h3 : l.length < b.n.length := by omega
    simp (dsimp := false) (maxDischargeDepth := 16) only [go_sem, ↓reduceIte, reduceCtorEq, Nat.reduceEqDiff, Nat.reduceAdd, Nat.reduceMul, Nat.reduceSub, Nat.reduceLT, Nat.reduceLeDiff, Nat.reducePow, Int.reduceLT, Int.reduceLE, Int.reduceNeg, Int.reduceToNat, h1, h2]
    let st : List Ov → Nat → List Ov := fun out j => if okN a (b.n.getD l.length 0) l ((j : Int) - 1) then ovN a b k (l ++ [(j : Int) - 1]) out else out
    have hsp : ovN a b (k + 1) l out = (List.range (a.n.length + 1)).foldl st out := by rw [ovN, if_neg (by omega)]
    rw [hsp]
    generalize hF : (List.range (a.n.length + 1)).foldl st out = F
    refine loopK_intro (fun (j : Nat) s => j ≤ a.n.length + 1 ∧ s.t 0 = .box (0, 0, 0) 0 ∧ s.t 1 = lv l ∧ s.t 4 = iv l.length ∧ s.t 5 = iv ((j : Int) - 1) ∧
      ((List.range j).foldl st out).length ≤ 2001 ∧ ∃ γ, s.b (0, 0, 0) = some ⟨gcs a ++ gcs b ++ [olvT ((List.range j).foldl st out) (.own (0, γ, 0))], false⟩ ∧ s.d (0, γ, 0) = false) (fun j => a.n.length + 1 - j) ?_ ?_
    · refine ⟨0, by omega, rfl, rfl, rfl, rfl, hout, 0, rfl, ?_⟩
      simp (dsimp := false) (maxDischargeDepth := 16) only [go_sem, ↓reduceIte, reduceCtorEq, Nat.reduceEqDiff, Nat.reduceAdd, Nat.reduceMul, Nat.reduceSub, Nat.reduceLT, Nat.reduceLeDiff, Nat.reducePow, Int.reduceLT, Int.reduceLE, Int.reduceNeg, Int.reduceToNat]
    clear h1 h2
    rintro j s ⟨hj, t0, t1, t4, t5, hc, γ, b0, d0⟩
    simp (dsimp := false) (maxDischargeDepth := 16) only [go_sem, ↓reduceIte, reduceCtorEq, Nat.reduceEqDiff, Nat.reduceAdd, Nat.reduceMul, Nat.reduceSub, Nat.reduceLT, Nat.reduceLeDiff, Nat.reducePow, Int.reduceLT, Int.reduceLE, Int.reduceNeg, Int.reduceToNat, t0, t1, t4, t5, b0, d0]
    refine condK_dec (fun h6 => ?_) (fun h6 => ?_)
    · simp (dsimp := false) (maxDischargeDepth := 16) only [go_sem, ↓reduceIte, reduceCtorEq, Nat.reduceEqDiff, Nat.reduceAdd, Nat.reduceMul, Nat.reduceSub, Nat.reduceLT, Nat.reduceLeDiff, Nat.reducePow, Int.reduceLT, Int.reduceLE, Int.reduceNeg, Int.reduceToNat, t0, t1, t4, t5, b0, d0, h6]
      refine condK_dec (fun h7 => ?_) (fun h7 => ?_)
      · simp (dsimp := false) (maxDischargeDepth := 16) only [go_sem, ↓reduceIte, reduceCtorEq, Nat.reduceEqDiff, Nat.reduceAdd, Nat.reduceMul, Nat.reduceSub, Nat.reduceLT, Nat.reduceLeDiff, Nat.reducePow, Int.reduceLT, Int.reduceLE, Int.reduceNeg, Int.reduceToNat, t0, t1, t4, t5, b0, d0, h6, h7]
        refine ⟨⟨by omega, by omega⟩, ⟨by omega, by omega⟩, ?_⟩
        have ih2 := ih (l ++ [(j : Int) - 1]) ((List.range j).foldl st out) (by simp; omega) hc
        simp only [lv, lvT, iv, map1_app] at ih2
        refine ecallK_intro (pre := gcs a ++ gcs b) (x := olvT ((List.range j).foldl st out) (.own (0, γ, 0))) rfl ?_ ih2 ?_
        · simp (dsimp := false) (maxDischargeDepth := 16) only [go_sem, ↓reduceIte, reduceCtorEq, Nat.reduceEqDiff, Nat.reduceAdd, Nat.reduceMul, Nat.reduceSub, Nat.reduceLT, Nat.reduceLeDiff, Nat.reducePow, Int.reduceLT, Int.reduceLE, Int.reduceNeg, Int.reduceToNat, d0]
        · simp (dsimp := false) (maxDischargeDepth := 16) only [go_sem, ↓reduceIte, reduceCtorEq, Nat.reduceEqDiff, Nat.reduceAdd, Nat.reduceMul, Nat.reduceSub, Nat.reduceLT, Nat.reduceLeDiff, Nat.reducePow, Int.reduceLT, Int.reduceLE, Int.reduceNeg, Int.reduceToNat, t0, t1, t4, t5, b0, d0, h6, h7]
          have hst : (List.range (j + 1)).foldl st out = ovN a b k (l ++ [(j : Int) - 1]) ((List.range j).foldl st out) := by
            rw [range_fold]
            exact if_pos (by simp [okN, h7])
          refine ⟨j + 1, by omega, by omega, wrapJ j (by omega), ?_, s.g 0, ?_, ?_⟩
          · rw [hst]; exact ovN_len _ _ _ _ _ hc
          · rw [hst]
          · simp
      · simp (dsimp := false) (maxDischargeDepth := 16) only [go_sem, ↓reduceIte, reduceCtorEq, Nat.reduceEqDiff, Nat.reduceAdd, Nat.reduceMul, Nat.reduceSub, Nat.reduceLT, Nat.reduceLeDiff, Nat.reducePow, Int.reduceLT, Int.reduceLE, Int.reduceNeg, Int.reduceToNat, t0, t1, t4, t5, b0, d0, h6, h7]
        refine callK_intro (c93 l ((j : Int) - 1)) ?_
        simp (dsimp := false) (maxDischargeDepth := 16) only [go_sem, ↓reduceIte, reduceCtorEq, Nat.reduceEqDiff, Nat.reduceAdd, Nat.reduceMul, Nat.reduceSub, Nat.reduceLT, Nat.reduceLeDiff, Nat.reducePow, Int.reduceLT, Int.reduceLE, Int.reduceNeg, Int.reduceToNat, t0, t1, t4, t5, b0, d0, h6, h7]
        refine condK_intro (fun h8 => ?_) (fun h8 => ?_)
        · have h9 : (0 : Int) ≤ (j : Int) - 1 := by omega
          have h10 : ((j : Int) - 1).toNat < a.n.length := by omega
          simp (dsimp := false) (maxDischargeDepth := 16) only [go_sem, ↓reduceIte, reduceCtorEq, Nat.reduceEqDiff, Nat.reduceAdd, Nat.reduceMul, Nat.reduceSub, Nat.reduceLT, Nat.reduceLeDiff, Nat.reducePow, Int.reduceLT, Int.reduceLE, Int.reduceNeg, Int.reduceToNat, t0, t1, t4, t5, b0, d0, h6, h7, h8, idx_int, idx_nat, h9, h10, h3]
          refine condK_intro (fun h11 => ?_) (fun h11 => ?_)
          · simp (dsimp := false) (maxDischargeDepth := 16) only [go_sem, ↓reduceIte, reduceCtorEq, Nat.reduceEqDiff, Nat.reduceAdd, Nat.reduceMul, Nat.reduceSub, Nat.reduceLT, Nat.reduceLeDiff, Nat.reducePow, Int.reduceLT, Int.reduceLE, Int.reduceNeg, Int.reduceToNat, t0, t1, t4, t5, b0, d0, h6, h7, h8, h11]
            refine ⟨⟨by omega, by omega⟩, ⟨by omega, by omega⟩, ?_⟩
            have ih2 := ih (l ++ [(j : Int) - 1]) ((List.range j).foldl st out) (by simp; omega) hc
            simp only [lv, lvT, iv, map1_app] at ih2
            refine ecallK_intro (pre := gcs a ++ gcs b) (x := olvT ((List.range j).foldl st out) (.own (0, γ, 0))) rfl ?_ ih2 ?_
            · simp (dsimp := false) (maxDischargeDepth := 16) only [go_sem, ↓reduceIte, reduceCtorEq, Nat.reduceEqDiff, Nat.reduceAdd, Nat.reduceMul, Nat.reduceSub, Nat.reduceLT, Nat.reduceLeDiff, Nat.reducePow, Int.reduceLT, Int.reduceLE, Int.reduceNeg, Int.reduceToNat, d0]
            · simp (dsimp := false) (maxDischargeDepth := 16) only [go_sem, ↓reduceIte, reduceCtorEq, Nat.reduceEqDiff, Nat.reduceAdd, Nat.reduceMul, Nat.reduceSub, Nat.reduceLT, Nat.reduceLeDiff, Nat.reducePow, Int.reduceLT, Int.reduceLE, Int.reduceNeg, Int.reduceToNat, t0, t1, t4, t5, b0, d0, h6, h7, h8, h11]
              have hst : (List.range (j + 1)).foldl st out = ovN a b k (l ++ [(j : Int) - 1]) ((List.range j).foldl st out) := by
                rw [range_fold]
                exact if_pos (by rw [getD_at h3, okN_at h7 h10, h8, h11]; rfl)
              refine ⟨j + 1, by omega, by omega, wrapJ j (by omega), ?_, s.g 0, ?_, ?_⟩
              · rw [hst]; exact ovN_len _ _ _ _ _ hc
              · rw [hst]
              · simp
          · simp (dsimp := false) (maxDischargeDepth := 16) only [go_sem, ↓reduceIte, reduceCtorEq, Nat.reduceEqDiff, Nat.reduceAdd, Nat.reduceMul, Nat.reduceSub, Nat.reduceLT, Nat.reduceLeDiff, Nat.reducePow, Int.reduceLT, Int.reduceLE, Int.reduceNeg, Int.reduceToNat, t0, t1, t4, t5, b0, d0, h6, h7, h8, h11]
            have hst : (List.range (j + 1)).foldl st out = (List.range j).foldl st out := by
              rw [range_fold]
              exact if_neg (by rw [getD_at h3, okN_at h7 h10, h8, h11]; simp)
            exact ⟨j + 1, by omega, by omega, wrapJ j (by omega), by rw [hst]; exact hc, γ, by rw [hst], d0⟩
        · simp (dsimp := false) (maxDischargeDepth := 16) only [go_sem, ↓reduceIte, reduceCtorEq, Nat.reduceEqDiff, Nat.reduceAdd, Nat.reduceMul, Nat.reduceSub, Nat.reduceLT, Nat.reduceLeDiff, Nat.reducePow, Int.reduceLT, Int.reduceLE, Int.reduceNeg, Int.reduceToNat, t0, t1, t4, t5, b0, d0, h6, h7, h8]
          have hst : (List.range (j + 1)).foldl st out = (List.range j).foldl st out := by
            rw [range_fold]
            exact if_neg (by simp at h8; simp [okN, h7, h8])
          exact ⟨j + 1, by omega, by omega, wrapJ j (by omega), by rw [hst]; exact hc, γ, by rw [hst], d0⟩
    · simp (dsimp := false) (maxDischargeDepth := 16) only [go_sem, ↓reduceIte, reduceCtorEq, Nat.reduceEqDiff, Nat.reduceAdd, Nat.reduceMul, Nat.reduceSub, Nat.reduceLT, Nat.reduceLeDiff, Nat.reducePow, Int.reduceLT, Int.reduceLE, Int.reduceNeg, Int.reduceToNat, t0, t1, t4, t5, b0, d0, h6]
      have hj1 : j = a.n.length + 1 := by omega
      subst hj1
      rw [hF]
      refine ⟨.inl trivial, _, rfl, ?_, rfl⟩
      simp (dsimp := false) (maxDischargeDepth := 16) only [go_sem, ↓reduceIte, reduceCtorEq, Nat.reduceEqDiff, Nat.reduceAdd, Nat.reduceMul, Nat.reduceSub, Nat.reduceLT, Nat.reduceLeDiff, Nat.reducePow, Int.reduceLT, Int.reduceLE, Int.reduceNeg, Int.reduceToNat, d0]
end Go.Sy

/- Contracts: Go's library: clone, index, contains. -/
set_option linter.unusedSimpArgs false
namespace Go.Sy
open Go Go.Proofs

theorem conZ {f : FuncId} {fn : Func} {i0 i1 : Nat} {o0 : Array Oper} {op1 op2 : Oper} {c : Operand} {A B G : Code} {rs : List ResultVar} {args : List AV} {n : Nat} {r : AV}
    (hf : Try.prog.funcs[f]? = some fn) (hname : (fn.name == "runtime.NumGoroutine") = false)
    (hb : fn.body = some ((Code.region i0 o0 false).seq (((Code.region i1 #[op1, op2] false).seq (.cond c A B)).seq G)))
    (hrs : fn.results.toList = rs)
    (hN : (dstOK fn.ntmps (((Code.region i0 o0 false).seq (((Code.region i1 #[op1, op2] false).seq (.cond c A B)).seq G))) && draws (drawOK Try.prog) [] ((Code.cond c A B).seq G) && decide (args.length ≤ fn.ntmps)) = true)
    (h : acode Try.prog [] (.region i0 o0 false) (fun e s => e = .normal ∧ aops Try.prog #[op1, op2] [op1] s fun s => nilK Try.prog s op2 fun s => acode Try.prog [] ((Code.cond c A B).seq G) (retC Try.prog rs n r) s) (s0 args)) : Con Try.prog f args n r :=
  con_nil (drawOK_ok (by kernel_rfl)) hf hname hb hrs hN h
theorem nilK_intro {P : Program} {s : St} {d : Nat} {t u ty : TypeId} {x : Operand} {pos : String} {aft : Array Edge} {sz : Nat} {xs : List (List AV)} {tk : Tok} {K : St → Prop} (ht : slT P t = true) (hx : s.o P t x = .list sz xs tk)
    (hK : ∀ β, (β = true → xs = []) → K (s.set d (.v (.bool β)))) : nilK P s ⟨some d, .binOp .eql t x (.const (.slice none 0 0)) u, ty, pos, aft, none⟩ K := ⟨ht, rfl, d, sz, xs, tk, rfl, hx, hK⟩
section
variable {P : Program} {s : St} {K : Eff → Prop} {dst : Option Nat} {ty : TypeId} {p : String} {af : Array Edge} {gd : Option (Nat × Bool)}
/-- A call of what a slot holds. -/
def cloK (x : AV) (K : FuncId → List AV → Prop) (_ : Tag K) : Prop := match x with | .clo f l => K f l | _ => False
theorem cloK_clo (f : FuncId) (l : List AV) (K : FuncId → List AV → Prop) : cloK (.clo f l) K (.mk _) = K f l := rfl
theorem stepF_callV (t : Nat) (args : List Operand) (ts : List TypeId) : stepF P s ⟨dst, .call { callee := .value (.tmp t), args := args.toArray, argTypes := ts.toArray }, ty, p, af, gd⟩ K =
    cloK (s.t t) (fun f caps => (args.length ≤ ts.length ∧ (argsAV P s args ts).all cleanV = true) ∧ callK P f (argsAV P s args ts ++ caps) (dst.getD 0) (s.g (dst.getD 0)) K (.mk _)) (.mk _) := by
  unfold stepF callK cloK
  show (match s.t t with | .clo f caps => _ | _ => False) = _
  cases s.t t <;> simp [and_assoc]
theorem boxArg_callV (t : Nat) (x0 : Operand) (xs : List Operand) (t0 : TypeId) (ts : List TypeId) : boxArg P s ⟨dst, .call { callee := .value (.tmp t), args := (x0 :: xs).toArray, argTypes := (t0 :: ts).toArray }, ty, p, af, gd⟩ = pbox (isPtrT P t0) (s.o P t0 x0) := rfl
theorem boxArg_callV0 (t : Nat) : boxArg P s ⟨dst, .call { callee := .value (.tmp t), args := #[], argTypes := #[] }, ty, p, af, gd⟩ = none := rfl
end
attribute [go_sem] cloK_clo boxArg_callV boxArg_callV0
attribute [go_sem ↓] stepF_callV
theorem c78 (l : List Int) (h : l.length ≤ 1000000) : Con Try.prog 78 [lv l] 1 (lvT l (.own (0, 0, 0))) := by
  refine conZ (rs := [.tmp 2]) Try.func78 (by kernel_rfl) rfl rfl (by kernel_rfl) ?_
  simp (dsimp := false) (maxDischargeDepth := 16) only [go_sem, ↓reduceIte, reduceCtorEq, Nat.reduceEqDiff, Nat.reduceAdd, Nat.reduceMul, Nat.reduceSub, Nat.reduceLT, Nat.reduceLeDiff, Nat.reducePow, Int.reduceLT, Int.reduceLE, Int.reduceNeg, Int.reduceToNat]
  refine nilK_intro (sz := 1) (xs := l.map fun n => [AV.v (.int .i64 n)]) (tk := .no) (by kernel_rfl) rfl fun β hβ => ?_
  simp (dsimp := false) (maxDischargeDepth := 16) only [go_sem, ↓reduceIte, reduceCtorEq, Nat.reduceEqDiff, Nat.reduceAdd, Nat.reduceMul, Nat.reduceSub, Nat.reduceLT, Nat.reduceLeDiff, Nat.reducePow, Int.reduceLT, Int.reduceLE, Int.reduceNeg, Int.reduceToNat]
  refine condK_intro (fun h1 => ?_) (fun h1 => ?_)
  · have hl : l = [] := by simpa using hβ h1
    subst hl
    simp (dsimp := false) (maxDischargeDepth := 16) only [go_sem, ↓reduceIte, reduceCtorEq, Nat.reduceEqDiff, Nat.reduceAdd, Nat.reduceMul, Nat.reduceSub, Nat.reduceLT, Nat.reduceLeDiff, Nat.reducePow, Int.reduceLT, Int.reduceLE, Int.reduceNeg, Int.reduceToNat, h1]
    refine .inr ⟨_, rfl, rfl, ?_⟩
    simp (dsimp := false) (maxDischargeDepth := 16) only [go_sem, ↓reduceIte, reduceCtorEq, Nat.reduceEqDiff, Nat.reduceAdd, Nat.reduceMul, Nat.reduceSub, Nat.reduceLT, Nat.reduceLeDiff, Nat.reducePow, Int.reduceLT, Int.reduceLE, Int.reduceNeg, Int.reduceToNat]
    exact ⟨[], rfl, .nil, rfl, rfl, rfl⟩
  · simp (dsimp := false) (maxDischargeDepth := 16) only [go_sem, ↓reduceIte, reduceCtorEq, Nat.reduceEqDiff, Nat.reduceAdd, Nat.reduceMul, Nat.reduceSub, Nat.reduceLT, Nat.reduceLeDiff, Nat.reducePow, Int.reduceLT, Int.reduceLE, Int.reduceNeg, Int.reduceToNat, h1]
    refine ⟨⟨by omega, by omega⟩, .inl ?_⟩
    simp (dsimp := false) (maxDischargeDepth := 16) only [go_sem, ↓reduceIte, reduceCtorEq, Nat.reduceEqDiff, Nat.reduceAdd, Nat.reduceMul, Nat.reduceSub, Nat.reduceLT, Nat.reduceLeDiff, Nat.reducePow, Int.reduceLT, Int.reduceLE, Int.reduceNeg, Int.reduceToNat]
    refine ⟨[(7, 0, 0)], rfl, by decide, ?_, rfl, rfl⟩
    simp (dsimp := false) (maxDischargeDepth := 16) only [go_sem, ↓reduceIte, reduceCtorEq, Nat.reduceEqDiff, Nat.reduceAdd, Nat.reduceMul, Nat.reduceSub, Nat.reduceLT, Nat.reduceLeDiff, Nat.reducePow, Int.reduceLT, Int.reduceLE, Int.reduceNeg, Int.reduceToNat]
theorem c125 (l : List Ed) (h : l.length ≤ 1000000) : Con Try.prog 125 [elv l] 1 (elT' l (.own (0, 0, 0))) := by
  refine conZ (rs := [.tmp 2]) Try.func125 (by kernel_rfl) rfl rfl (by kernel_rfl) ?_
  simp (dsimp := false) (maxDischargeDepth := 16) only [go_sem, ↓reduceIte, reduceCtorEq, Nat.reduceEqDiff, Nat.reduceAdd, Nat.reduceMul, Nat.reduceSub, Nat.reduceLT, Nat.reduceLeDiff, Nat.reducePow, Int.reduceLT, Int.reduceLE, Int.reduceNeg, Int.reduceToNat]
  refine nilK_intro (sz := 3) (xs := l.map ecs) (tk := .no) (by kernel_rfl) rfl fun β hβ => ?_
  simp (dsimp := false) (maxDischargeDepth := 16) only [go_sem, ↓reduceIte, reduceCtorEq, Nat.reduceEqDiff, Nat.reduceAdd, Nat.reduceMul, Nat.reduceSub, Nat.reduceLT, Nat.reduceLeDiff, Nat.reducePow, Int.reduceLT, Int.reduceLE, Int.reduceNeg, Int.reduceToNat]
  refine condK_intro (fun h1 => ?_) (fun h1 => ?_)
  · have hl : l = [] := by simpa using hβ h1
    subst hl
    simp (dsimp := false) (maxDischargeDepth := 16) only [go_sem, ↓reduceIte, reduceCtorEq, Nat.reduceEqDiff, Nat.reduceAdd, Nat.reduceMul, Nat.reduceSub, Nat.reduceLT, Nat.reduceLeDiff, Nat.reducePow, Int.reduceLT, Int.reduceLE, Int.reduceNeg, Int.reduceToNat, h1]
    refine .inr ⟨_, rfl, rfl, ?_⟩
    simp (dsimp := false) (maxDischargeDepth := 16) only [go_sem, ↓reduceIte, reduceCtorEq, Nat.reduceEqDiff, Nat.reduceAdd, Nat.reduceMul, Nat.reduceSub, Nat.reduceLT, Nat.reduceLeDiff, Nat.reducePow, Int.reduceLT, Int.reduceLE, Int.reduceNeg, Int.reduceToNat]
    exact ⟨[], rfl, .nil, rfl, rfl, rfl⟩
  · simp (dsimp := false) (maxDischargeDepth := 16) only [go_sem, ↓reduceIte, reduceCtorEq, Nat.reduceEqDiff, Nat.reduceAdd, Nat.reduceMul, Nat.reduceSub, Nat.reduceLT, Nat.reduceLeDiff, Nat.reducePow, Int.reduceLT, Int.reduceLE, Int.reduceNeg, Int.reduceToNat, h1]
    refine ⟨⟨by omega, by omega⟩, .inl ?_⟩
    simp (dsimp := false) (maxDischargeDepth := 16) only [go_sem, ↓reduceIte, reduceCtorEq, Nat.reduceEqDiff, Nat.reduceAdd, Nat.reduceMul, Nat.reduceSub, Nat.reduceLT, Nat.reduceLeDiff, Nat.reducePow, Int.reduceLT, Int.reduceLE, Int.reduceNeg, Int.reduceToNat]
    refine ⟨[(7, 0, 0)], rfl, by decide, ?_, rfl, rfl⟩
    simp (dsimp := false) (maxDischargeDepth := 16) only [go_sem, ↓reduceIte, reduceCtorEq, Nat.reduceEqDiff, Nat.reduceAdd, Nat.reduceMul, Nat.reduceSub, Nat.reduceLT, Nat.reduceLeDiff, Nat.reducePow, Int.reduceLT, Int.reduceLE, Int.reduceNeg, Int.reduceToNat]
/-- The place of the first element that p is true of, or -1. -/
def idxP {α : Type} (p : α → Bool) : List α → Int
  | [] => -1
  | x :: l => if p x then 0 else if idxP p l < 0 then -1 else idxP p l + 1
theorem idxP_ge {α : Type} (p : α → Bool) (l : List α) : -1 ≤ idxP p l := by
  induction l with
  | nil => simp [idxP]
  | cons x l ih => unfold idxP; split <;> (try split) <;> omega
theorem idxP_hit {α : Type} {p : α → Bool} : ∀ {l : List α} {i : Nat} (h : i < l.length), (∀ x ∈ l.take i, p x = false) → p l[i] = true → idxP p l = i
  | x :: l, 0, _, _, h2 => by simp at h2; simp [idxP, h2]
  | x :: l, i + 1, h, h1, h2 => by
    have hx : p x = false := h1 x (by simp)
    have := idxP_hit (l := l) (i := i) (by simpa using h) (fun y hy => h1 y (by simp [hy])) (by simpa using h2)
    simp only [idxP, hx, Bool.false_eq_true, if_false, this]
    rw [if_neg (by omega)]
    rfl
theorem idxP_none {α : Type} {p : α → Bool} : ∀ {l : List α}, (∀ x ∈ l, p x = false) → idxP p l = -1
  | [], _ => rfl
  | x :: l, h => by
    have hx : p x = false := h x (by simp)
    have := idxP_none (l := l) (fun y hy => h y (by simp [hy]))
    simp [idxP, hx, this]
theorem idxP_any {α : Type} {p : α → Bool} : ∀ (l : List α), (0 ≤ idxP p l) ↔ l.any p = true
  | [] => by simp [idxP]
  | x :: l => by
    have ih := idxP_any (p := p) l
    have := idxP_ge p l
    unfold idxP
    by_cases hx : p x = true
    · simp [hx]
    · rw [if_neg hx]
      simp only [List.any_cons, hx, Bool.false_or]
      rw [← ih]
      split <;> omega
theorem c92 (l : List Int) (x : Int) : Con Try.prog 92 [lv l, iv x] 0 (iv (idxP (fun y => x == y) l)) := by
  refine Con.assume (enters_of Try.func92 (by kernel_rfl) rfl) fun hb => ?_
  have hlen := bnd_lv (hb _ (List.mem_cons_self ..))
  refine conT (X := []) (rs := [.tmp 4]) Try.func92 (by kernel_rfl) rfl rfl (by kernel_rfl) ?_
  simp (dsimp := false) (maxDischargeDepth := 16) only [go_sem, ↓reduceIte, reduceCtorEq, Nat.reduceEqDiff, Nat.reduceAdd, Nat.reduceMul, Nat.reduceSub, Nat.reduceLT, Nat.reduceLeDiff, Nat.reducePow, Int.reduceLT, Int.reduceLE, Int.reduceNeg, Int.reduceToNat]
  refine loopK_intro (fun (i : Nat) s => i ≤ l.length ∧ s.t 0 = lv l ∧ s.t 1 = iv x ∧ s.t 7 = iv l.length ∧ s.t 8 = iv i ∧ ∀ y ∈ l.take i, (x == y) = false) (fun i => l.length - i) ⟨0, by omega, rfl, rfl, rfl, rfl, fun j hj => by simp at hj⟩ ?_
  rintro i s ⟨hi, h0, h1, h7, h8, hn⟩
  simp (dsimp := false) (maxDischargeDepth := 16) only [go_sem, ↓reduceIte, reduceCtorEq, Nat.reduceEqDiff, Nat.reduceAdd, Nat.reduceMul, Nat.reduceSub, Nat.reduceLT, Nat.reduceLeDiff, Nat.reducePow, Int.reduceLT, Int.reduceLE, Int.reduceNeg, Int.reduceToNat, h0, h1, h7, h8]
  refine condK_dec (fun h6 => ?_) (fun h6 => ?_)
  · simp (dsimp := false) (maxDischargeDepth := 16) only [go_sem, ↓reduceIte, reduceCtorEq, Nat.reduceEqDiff, Nat.reduceAdd, Nat.reduceMul, Nat.reduceSub, Nat.reduceLT, Nat.reduceLeDiff, Nat.reducePow, Int.reduceLT, Int.reduceLE, Int.reduceNeg, Int.reduceToNat, h0, h1, h7, h8, h6, idx_nat]
    refine condK_intro (fun h9 => ?_) (fun h9 => ?_)
    · simp (dsimp := false) (maxDischargeDepth := 16) only [go_sem, ↓reduceIte, reduceCtorEq, Nat.reduceEqDiff, Nat.reduceAdd, Nat.reduceMul, Nat.reduceSub, Nat.reduceLT, Nat.reduceLeDiff, Nat.reducePow, Int.reduceLT, Int.reduceLE, Int.reduceNeg, Int.reduceToNat, h0, h1, h7, h8, h6, h9]
      exact finI (idxP_hit h6 hn h9)
    · simp (dsimp := false) (maxDischargeDepth := 16) only [go_sem, ↓reduceIte, reduceCtorEq, Nat.reduceEqDiff, Nat.reduceAdd, Nat.reduceMul, Nat.reduceSub, Nat.reduceLT, Nat.reduceLeDiff, Nat.reducePow, Int.reduceLT, Int.reduceLE, Int.reduceNeg, Int.reduceToNat, h0, h1, h7, h8, h6, h9]
      exact ⟨i + 1, by omega, by omega, by rw [wrapN _ (by omega)], take_all h6 hn h9⟩
  · simp (dsimp := false) (maxDischargeDepth := 16) only [go_sem, ↓reduceIte, reduceCtorEq, Nat.reduceEqDiff, Nat.reduceAdd, Nat.reduceMul, Nat.reduceSub, Nat.reduceLT, Nat.reduceLeDiff, Nat.reducePow, Int.reduceLT, Int.reduceLE, Int.reduceNeg, Int.reduceToNat, h0, h1, h7, h8, h6]
    exact finI (idxP_none (take_full h6 hn))
theorem c119 (l : List Int) (x : Int) : Con Try.prog 119 [lv l, iv x] 0 (bv (l.contains x)) := by
  refine conT (X := []) (rs := [.tmp 4]) Try.func119 (by kernel_rfl) rfl rfl (by kernel_rfl) ?_
  simp (dsimp := false) (maxDischargeDepth := 16) only [go_sem, ↓reduceIte, reduceCtorEq, Nat.reduceEqDiff, Nat.reduceAdd, Nat.reduceMul, Nat.reduceSub, Nat.reduceLT, Nat.reduceLeDiff, Nat.reducePow, Int.reduceLT, Int.reduceLE, Int.reduceNeg, Int.reduceToNat]
  refine callK_intro (c92 l x) ?_
  simp (dsimp := false) (maxDischargeDepth := 16) only [go_sem, ↓reduceIte, reduceCtorEq, Nat.reduceEqDiff, Nat.reduceAdd, Nat.reduceMul, Nat.reduceSub, Nat.reduceLT, Nat.reduceLeDiff, Nat.reducePow, Int.reduceLT, Int.reduceLE, Int.reduceNeg, Int.reduceToNat]
  refine finB ?_
  rw [Bool.eq_iff_iff]
  simp only [decide_eq_true_eq]
  rw [idxP_any, List.any_beq]
theorem c144 (l : List Int) (f : FuncId) (caps : List AV) (p : Int → Bool) (hp : ∀ x ∈ l, Con Try.prog f (iv x :: caps) 0 (bv (p x))) : Con Try.prog 144 [lv l, .clo f caps] 0 (iv (idxP p l)) := by
  refine Con.assume (enters_of Try.func144 (by kernel_rfl) rfl) fun hb => ?_
  have hlen := bnd_lv (hb _ (List.mem_cons_self ..))
  refine conT (X := []) (rs := [.tmp 4]) Try.func144 (by kernel_rfl) rfl rfl (by kernel_rfl) ?_
  simp (dsimp := false) (maxDischargeDepth := 16) only [go_sem, ↓reduceIte, reduceCtorEq, Nat.reduceEqDiff, Nat.reduceAdd, Nat.reduceMul, Nat.reduceSub, Nat.reduceLT, Nat.reduceLeDiff, Nat.reducePow, Int.reduceLT, Int.reduceLE, Int.reduceNeg, Int.reduceToNat]
  refine loopK_intro (fun (i : Nat) s => i ≤ l.length ∧ s.t 0 = lv l ∧ s.t 1 = .clo f caps ∧ s.t 7 = iv l.length ∧ s.t 8 = iv i ∧ ∀ y ∈ l.take i, p y = false) (fun i => l.length - i) ⟨0, by omega, rfl, rfl, rfl, rfl, fun j hj => by simp at hj⟩ ?_
  rintro i s ⟨hi, h0, h1, h7, h8, hn⟩
  simp (dsimp := false) (maxDischargeDepth := 16) only [go_sem, ↓reduceIte, reduceCtorEq, Nat.reduceEqDiff, Nat.reduceAdd, Nat.reduceMul, Nat.reduceSub, Nat.reduceLT, Nat.reduceLeDiff, Nat.reducePow, Int.reduceLT, Int.reduceLE, Int.reduceNeg, Int.reduceToNat, h0, h1, h7, h8]
  refine condK_dec (fun h6 => ?_) (fun h6 => ?_)
  · simp (dsimp := false) (maxDischargeDepth := 16) only [go_sem, ↓reduceIte, reduceCtorEq, Nat.reduceEqDiff, Nat.reduceAdd, Nat.reduceMul, Nat.reduceSub, Nat.reduceLT, Nat.reduceLeDiff, Nat.reducePow, Int.reduceLT, Int.reduceLE, Int.reduceNeg, Int.reduceToNat, h0, h1, h7, h8, h6, idx_nat]
    refine callK_intro (hp _ (List.getElem_mem h6)) ?_
    simp (dsimp := false) (maxDischargeDepth := 16) only [go_sem, ↓reduceIte, reduceCtorEq, Nat.reduceEqDiff, Nat.reduceAdd, Nat.reduceMul, Nat.reduceSub, Nat.reduceLT, Nat.reduceLeDiff, Nat.reducePow, Int.reduceLT, Int.reduceLE, Int.reduceNeg, Int.reduceToNat, h0, h1, h7, h8, h6]
    refine condK_intro (fun h9 => ?_) (fun h9 => ?_)
    · simp (dsimp := false) (maxDischargeDepth := 16) only [go_sem, ↓reduceIte, reduceCtorEq, Nat.reduceEqDiff, Nat.reduceAdd, Nat.reduceMul, Nat.reduceSub, Nat.reduceLT, Nat.reduceLeDiff, Nat.reducePow, Int.reduceLT, Int.reduceLE, Int.reduceNeg, Int.reduceToNat, h0, h1, h7, h8, h6, h9]
      exact finI (idxP_hit h6 hn h9)
    · simp (dsimp := false) (maxDischargeDepth := 16) only [go_sem, ↓reduceIte, reduceCtorEq, Nat.reduceEqDiff, Nat.reduceAdd, Nat.reduceMul, Nat.reduceSub, Nat.reduceLT, Nat.reduceLeDiff, Nat.reducePow, Int.reduceLT, Int.reduceLE, Int.reduceNeg, Int.reduceToNat, h0, h1, h7, h8, h6, h9]
      exact ⟨i + 1, by omega, by omega, by rw [wrapN _ (by omega)], take_all h6 hn h9⟩
  · simp (dsimp := false) (maxDischargeDepth := 16) only [go_sem, ↓reduceIte, reduceCtorEq, Nat.reduceEqDiff, Nat.reduceAdd, Nat.reduceMul, Nat.reduceSub, Nat.reduceLT, Nat.reduceLeDiff, Nat.reducePow, Int.reduceLT, Int.reduceLE, Int.reduceNeg, Int.reduceToNat, h0, h1, h7, h8, h6]
    exact finI (idxP_none (take_full h6 hn))
theorem c112 (l : List Int) (f : FuncId) (caps : List AV) (p : Int → Bool) (hp : ∀ x ∈ l, Con Try.prog f (iv x :: caps) 0 (bv (p x))) : Con Try.prog 112 [lv l, .clo f caps] 0 (bv (l.any p)) := by
  refine conT (X := []) (rs := [.tmp 4]) Try.func112 (by kernel_rfl) rfl rfl (by kernel_rfl) ?_
  simp (dsimp := false) (maxDischargeDepth := 16) only [go_sem, ↓reduceIte, reduceCtorEq, Nat.reduceEqDiff, Nat.reduceAdd, Nat.reduceMul, Nat.reduceSub, Nat.reduceLT, Nat.reduceLeDiff, Nat.reducePow, Int.reduceLT, Int.reduceLE, Int.reduceNeg, Int.reduceToNat]
  refine callK_intro (c144 l f caps p hp) ?_
  simp (dsimp := false) (maxDischargeDepth := 16) only [go_sem, ↓reduceIte, reduceCtorEq, Nat.reduceEqDiff, Nat.reduceAdd, Nat.reduceMul, Nat.reduceSub, Nat.reduceLT, Nat.reduceLeDiff, Nat.reducePow, Int.reduceLT, Int.reduceLE, Int.reduceNeg, Int.reduceToNat]
  refine finB ?_
  rw [Bool.eq_iff_iff, ← idxP_any]
  simp
theorem c145 (l : List Ed) (f : FuncId) (caps : List AV) (p : Ed → Bool) (hp : ∀ x ∈ l, Con Try.prog f (.agg (ecs x) :: caps) 0 (bv (p x))) : Con Try.prog 145 [elv l, .clo f caps] 0 (iv (idxP p l)) := by
  refine Con.assume (enters_of Try.func145 (by kernel_rfl) rfl) fun hb => ?_
  have hlen := bnd_elv (hb _ (List.mem_cons_self ..))
  refine conT (X := []) (rs := [.tmp 4]) Try.func145 (by kernel_rfl) rfl rfl (by kernel_rfl) ?_
  simp (dsimp := false) (maxDischargeDepth := 16) only [go_sem, ↓reduceIte, reduceCtorEq, Nat.reduceEqDiff, Nat.reduceAdd, Nat.reduceMul, Nat.reduceSub, Nat.reduceLT, Nat.reduceLeDiff, Nat.reducePow, Int.reduceLT, Int.reduceLE, Int.reduceNeg, Int.reduceToNat]
  refine loopK_intro (fun (i : Nat) s => i ≤ l.length ∧ s.t 0 = elv l ∧ s.t 1 = .clo f caps ∧ s.t 7 = iv l.length ∧ s.t 8 = iv i ∧ ∀ y ∈ l.take i, p y = false) (fun i => l.length - i) ⟨0, by omega, rfl, rfl, rfl, rfl, fun j hj => by simp at hj⟩ ?_
  rintro i s ⟨hi, h0, h1, h7, h8, hn⟩
  simp (dsimp := false) (maxDischargeDepth := 16) only [go_sem, ↓reduceIte, reduceCtorEq, Nat.reduceEqDiff, Nat.reduceAdd, Nat.reduceMul, Nat.reduceSub, Nat.reduceLT, Nat.reduceLeDiff, Nat.reducePow, Int.reduceLT, Int.reduceLE, Int.reduceNeg, Int.reduceToNat, h0, h1, h7, h8]
  refine condK_dec (fun h6 => ?_) (fun h6 => ?_)
  · simp (dsimp := false) (maxDischargeDepth := 16) only [go_sem, ↓reduceIte, reduceCtorEq, Nat.reduceEqDiff, Nat.reduceAdd, Nat.reduceMul, Nat.reduceSub, Nat.reduceLT, Nat.reduceLeDiff, Nat.reducePow, Int.reduceLT, Int.reduceLE, Int.reduceNeg, Int.reduceToNat, h0, h1, h7, h8, h6, idx_nat]
    refine callK_intro (hp _ (List.getElem_mem h6)) ?_
    simp (dsimp := false) (maxDischargeDepth := 16) only [go_sem, ↓reduceIte, reduceCtorEq, Nat.reduceEqDiff, Nat.reduceAdd, Nat.reduceMul, Nat.reduceSub, Nat.reduceLT, Nat.reduceLeDiff, Nat.reducePow, Int.reduceLT, Int.reduceLE, Int.reduceNeg, Int.reduceToNat, h0, h1, h7, h8, h6]
    refine condK_intro (fun h9 => ?_) (fun h9 => ?_)
    · simp (dsimp := false) (maxDischargeDepth := 16) only [go_sem, ↓reduceIte, reduceCtorEq, Nat.reduceEqDiff, Nat.reduceAdd, Nat.reduceMul, Nat.reduceSub, Nat.reduceLT, Nat.reduceLeDiff, Nat.reducePow, Int.reduceLT, Int.reduceLE, Int.reduceNeg, Int.reduceToNat, h0, h1, h7, h8, h6, h9]
      exact finI (idxP_hit h6 hn h9)
    · simp (dsimp := false) (maxDischargeDepth := 16) only [go_sem, ↓reduceIte, reduceCtorEq, Nat.reduceEqDiff, Nat.reduceAdd, Nat.reduceMul, Nat.reduceSub, Nat.reduceLT, Nat.reduceLeDiff, Nat.reducePow, Int.reduceLT, Int.reduceLE, Int.reduceNeg, Int.reduceToNat, h0, h1, h7, h8, h6, h9]
      exact ⟨i + 1, by omega, by omega, by rw [wrapN _ (by omega)], take_all h6 hn h9⟩
  · simp (dsimp := false) (maxDischargeDepth := 16) only [go_sem, ↓reduceIte, reduceCtorEq, Nat.reduceEqDiff, Nat.reduceAdd, Nat.reduceMul, Nat.reduceSub, Nat.reduceLT, Nat.reduceLeDiff, Nat.reducePow, Int.reduceLT, Int.reduceLE, Int.reduceNeg, Int.reduceToNat, h0, h1, h7, h8, h6]
    exact finI (idxP_none (take_full h6 hn))
theorem c115 (l : List Ed) (f : FuncId) (caps : List AV) (p : Ed → Bool) (hp : ∀ x ∈ l, Con Try.prog f (.agg (ecs x) :: caps) 0 (bv (p x))) : Con Try.prog 115 [elv l, .clo f caps] 0 (bv (l.any p)) := by
  refine conT (X := []) (rs := [.tmp 4]) Try.func115 (by kernel_rfl) rfl rfl (by kernel_rfl) ?_
  simp (dsimp := false) (maxDischargeDepth := 16) only [go_sem, ↓reduceIte, reduceCtorEq, Nat.reduceEqDiff, Nat.reduceAdd, Nat.reduceMul, Nat.reduceSub, Nat.reduceLT, Nat.reduceLeDiff, Nat.reducePow, Int.reduceLT, Int.reduceLE, Int.reduceNeg, Int.reduceToNat]
  refine callK_intro (c145 l f caps p hp) ?_
  simp (dsimp := false) (maxDischargeDepth := 16) only [go_sem, ↓reduceIte, reduceCtorEq, Nat.reduceEqDiff, Nat.reduceAdd, Nat.reduceMul, Nat.reduceSub, Nat.reduceLT, Nat.reduceLeDiff, Nat.reducePow, Int.reduceLT, Int.reduceLE, Int.reduceNeg, Int.reduceToNat]
  refine finB ?_
  rw [Bool.eq_iff_iff, ← idxP_any]
  simp
end Go.Sy

/- Contracts: the program's own validity of graphs; identities. -/
set_option linter.unusedSimpArgs false
namespace Go.Sy
open Go Go.Proofs

def capB (B : Option Box) (r : Option (List AV)) : Option (List AV) := match B with | some ⟨l, true⟩ => if (l.all clean) = true then r.map (.ptr l :: ·) else none | _ => none
theorem capB_some (l : List AV) (r : Option (List AV)) : capB (some ⟨l, true⟩) r = if (l.all clean) = true then r.map (.ptr l :: ·) else none := rfl
theorem capAV_nil (s : St) : capAV s [] = some [] := rfl
theorem capAV_box (s : St) (k : Key) (r : List AV) : capAV s (.box k 0 :: r) = capB (s.b k) (capAV s r) := rfl
theorem capAV_ptr (s : St) (l : List AV) (r : List AV) : capAV s (.ptr l :: r) = (capAV s r).map (.ptr l :: ·) := rfl
attribute [go_sem] List.foldl_nil List.foldl_cons capB_some capAV_nil capAV_box capAV_ptr Option.map_some
theorem c114 (n m : Int) : Con Try.prog 114 [iv n, iv m] 0 (bv (decide (0 ≤ n ∧ n ≤ m))) := by
  refine conT (X := []) (rs := [.tmp 4]) Try.func114 (by kernel_rfl) rfl rfl (by kernel_rfl) ?_
  simp (dsimp := false) (maxDischargeDepth := 16) only [go_sem, ↓reduceIte, reduceCtorEq, Nat.reduceEqDiff, Nat.reduceAdd, Nat.reduceMul, Nat.reduceSub, Nat.reduceLT, Nat.reduceLeDiff, Nat.reducePow, Int.reduceLT, Int.reduceLE, Int.reduceNeg, Int.reduceToNat]
  refine condK_dec (fun h1 => ?_) (fun h1 => ?_)
  · simp (dsimp := false) (maxDischargeDepth := 16) only [go_sem, ↓reduceIte, reduceCtorEq, Nat.reduceEqDiff, Nat.reduceAdd, Nat.reduceMul, Nat.reduceSub, Nat.reduceLT, Nat.reduceLeDiff, Nat.reducePow, Int.reduceLT, Int.reduceLE, Int.reduceNeg, Int.reduceToNat, h1]; exact finP (by omega)
  · simp (dsimp := false) (maxDischargeDepth := 16) only [go_sem, ↓reduceIte, reduceCtorEq, Nat.reduceEqDiff, Nat.reduceAdd, Nat.reduceMul, Nat.reduceSub, Nat.reduceLT, Nat.reduceLeDiff, Nat.reducePow, Int.reduceLT, Int.reduceLE, Int.reduceNeg, Int.reduceToNat, h1]; first | exact finB rfl | exact finF' (by omega)
theorem c113 (n : Int) : Con Try.prog 113 [iv n] 0 (bv (!decide (0 ≤ n ∧ n ≤ 99))) := by
  refine conT (X := []) (rs := [.tmp 2]) Try.func113 (by kernel_rfl) rfl rfl (by kernel_rfl) ?_
  simp (dsimp := false) (maxDischargeDepth := 16) only [go_sem, ↓reduceIte, reduceCtorEq, Nat.reduceEqDiff, Nat.reduceAdd, Nat.reduceMul, Nat.reduceSub, Nat.reduceLT, Nat.reduceLeDiff, Nat.reducePow, Int.reduceLT, Int.reduceLE, Int.reduceNeg, Int.reduceToNat]
  refine callK_intro (c114 _ _) ?_
  simp (dsimp := false) (maxDischargeDepth := 16) only [go_sem, ↓reduceIte, reduceCtorEq, Nat.reduceEqDiff, Nat.reduceAdd, Nat.reduceMul, Nat.reduceSub, Nat.reduceLT, Nat.reduceLeDiff, Nat.reducePow, Int.reduceLT, Int.reduceLE, Int.reduceNeg, Int.reduceToNat]
  exact finB rfl
theorem wrapP (n : Int) (h : 0 ≤ n) (h2 : n ≤ 1000000) : IntKind.i64.wrap (n - 1) = n - 1 := wrap_i64 _ (by omega) (by omega)
theorem c117 (x : Ed) (n : Int) (h : 0 ≤ n) (h2 : n ≤ 1000000) : Con Try.prog 117 [.agg (ecs x), iv n] 0 (bv (decide (edOK n x))) := by
  refine conT (X := []) (rs := [.tmp 4]) Try.func117 (by kernel_rfl) rfl rfl (by kernel_rfl) ?_
  simp (dsimp := false) (maxDischargeDepth := 16) only [go_sem, ↓reduceIte, reduceCtorEq, Nat.reduceEqDiff, Nat.reduceAdd, Nat.reduceMul, Nat.reduceSub, Nat.reduceLT, Nat.reduceLeDiff, Nat.reducePow, Int.reduceLT, Int.reduceLE, Int.reduceNeg, Int.reduceToNat]
  refine callK_intro (c114 _ _) ?_
  simp (dsimp := false) (maxDischargeDepth := 16) only [go_sem, ↓reduceIte, reduceCtorEq, Nat.reduceEqDiff, Nat.reduceAdd, Nat.reduceMul, Nat.reduceSub, Nat.reduceLT, Nat.reduceLeDiff, Nat.reducePow, Int.reduceLT, Int.reduceLE, Int.reduceNeg, Int.reduceToNat]
  refine condK_dec (fun h1 => ?_) (fun h1 => ?_)
  · simp (dsimp := false) (maxDischargeDepth := 16) only [go_sem, ↓reduceIte, reduceCtorEq, Nat.reduceEqDiff, Nat.reduceAdd, Nat.reduceMul, Nat.reduceSub, Nat.reduceLT, Nat.reduceLeDiff, Nat.reducePow, Int.reduceLT, Int.reduceLE, Int.reduceNeg, Int.reduceToNat, h1]
    refine callK_intro (c114 _ _) ?_
    simp (dsimp := false) (maxDischargeDepth := 16) only [go_sem, ↓reduceIte, reduceCtorEq, Nat.reduceEqDiff, Nat.reduceAdd, Nat.reduceMul, Nat.reduceSub, Nat.reduceLT, Nat.reduceLeDiff, Nat.reducePow, Int.reduceLT, Int.reduceLE, Int.reduceNeg, Int.reduceToNat, h1]
    refine condK_dec (fun h3 => ?_) (fun h3 => ?_)
    · simp (dsimp := false) (maxDischargeDepth := 16) only [go_sem, ↓reduceIte, reduceCtorEq, Nat.reduceEqDiff, Nat.reduceAdd, Nat.reduceMul, Nat.reduceSub, Nat.reduceLT, Nat.reduceLeDiff, Nat.reducePow, Int.reduceLT, Int.reduceLE, Int.reduceNeg, Int.reduceToNat, h1, h3]
      refine callK_intro (c114 _ _) ?_
      simp (dsimp := false) (maxDischargeDepth := 16) only [go_sem, ↓reduceIte, reduceCtorEq, Nat.reduceEqDiff, Nat.reduceAdd, Nat.reduceMul, Nat.reduceSub, Nat.reduceLT, Nat.reduceLeDiff, Nat.reducePow, Int.reduceLT, Int.reduceLE, Int.reduceNeg, Int.reduceToNat, h1, h3]
      rw [wrapP n h h2] at *
      exact finP (by simp only [edOK]; omega)
    · simp (dsimp := false) (maxDischargeDepth := 16) only [go_sem, ↓reduceIte, reduceCtorEq, Nat.reduceEqDiff, Nat.reduceAdd, Nat.reduceMul, Nat.reduceSub, Nat.reduceLT, Nat.reduceLeDiff, Nat.reducePow, Int.reduceLT, Int.reduceLE, Int.reduceNeg, Int.reduceToNat, h1, h3]
      rw [wrapP n h h2] at *
      first | exact finB rfl | exact finF' (by simp only [edOK]; omega)
  · simp (dsimp := false) (maxDischargeDepth := 16) only [go_sem, ↓reduceIte, reduceCtorEq, Nat.reduceEqDiff, Nat.reduceAdd, Nat.reduceMul, Nat.reduceSub, Nat.reduceLT, Nat.reduceLeDiff, Nat.reducePow, Int.reduceLT, Int.reduceLE, Int.reduceNeg, Int.reduceToNat, h1]; first | exact finB rfl | exact finF' (by simp only [edOK]; omega)
theorem c116 (x : Ed) (g : Gr) (h : g.n.length ≤ 1000000) : Con Try.prog 116 [.agg (ecs x), .ptr (gcs g)] 0 (bv (!decide (edOK g.n.length x))) := by
  refine conT (X := []) (rs := [.tmp 3]) Try.func116 (by kernel_rfl) rfl rfl (by kernel_rfl) ?_
  simp (dsimp := false) (maxDischargeDepth := 16) only [go_sem, ↓reduceIte, reduceCtorEq, Nat.reduceEqDiff, Nat.reduceAdd, Nat.reduceMul, Nat.reduceSub, Nat.reduceLT, Nat.reduceLeDiff, Nat.reducePow, Int.reduceLT, Int.reduceLE, Int.reduceNeg, Int.reduceToNat]
  refine callK_intro (c117 x g.n.length (by omega) (by omega)) ?_
  simp (dsimp := false) (maxDischargeDepth := 16) only [go_sem, ↓reduceIte, reduceCtorEq, Nat.reduceEqDiff, Nat.reduceAdd, Nat.reduceMul, Nat.reduceSub, Nat.reduceLT, Nat.reduceLeDiff, Nat.reducePow, Int.reduceLT, Int.reduceLE, Int.reduceNeg, Int.reduceToNat]
  exact finB rfl
theorem c61 (g : Gr) : Con Try.prog 61 [gv g] 0 (iv (gErr g)) := by
  refine conT (X := [(5, [1], [])]) (rs := [.tmp 2]) Try.func61 (by kernel_rfl) rfl rfl (by kernel_rfl) ?_
  simp (dsimp := false) (maxDischargeDepth := 16) only [go_sem, ↓reduceIte, reduceCtorEq, Nat.reduceEqDiff, Nat.reduceAdd, Nat.reduceMul, Nat.reduceSub, Nat.reduceLT, Nat.reduceLeDiff, Nat.reducePow, Int.reduceLT, Int.reduceLE, Int.reduceNeg, Int.reduceToNat]
  refine condK_dec (fun h1 => ?_) (fun h1 => ?_)
  · simp (dsimp := false) (maxDischargeDepth := 16) only [go_sem, ↓reduceIte, reduceCtorEq, Nat.reduceEqDiff, Nat.reduceAdd, Nat.reduceMul, Nat.reduceSub, Nat.reduceLT, Nat.reduceLeDiff, Nat.reducePow, Int.reduceLT, Int.reduceLE, Int.reduceNeg, Int.reduceToNat, h1]
    exact finI (if_neg (by omega))
  simp (dsimp := false) (maxDischargeDepth := 16) only [go_sem, ↓reduceIte, reduceCtorEq, Nat.reduceEqDiff, Nat.reduceAdd, Nat.reduceMul, Nat.reduceSub, Nat.reduceLT, Nat.reduceLeDiff, Nat.reducePow, Int.reduceLT, Int.reduceLE, Int.reduceNeg, Int.reduceToNat, h1]
  refine condK_dec (fun h2 => ?_) (fun h2 => ?_)
  · simp (dsimp := false) (maxDischargeDepth := 16) only [go_sem, ↓reduceIte, reduceCtorEq, Nat.reduceEqDiff, Nat.reduceAdd, Nat.reduceMul, Nat.reduceSub, Nat.reduceLT, Nat.reduceLeDiff, Nat.reducePow, Int.reduceLT, Int.reduceLE, Int.reduceNeg, Int.reduceToNat, h1, h2]
    exact finI (if_neg (by omega))
  have hs : g.n.length ≤ 40 ∧ g.e.length ≤ 80 := by omega
  simp (dsimp := false) (maxDischargeDepth := 16) only [go_sem, ↓reduceIte, reduceCtorEq, Nat.reduceEqDiff, Nat.reduceAdd, Nat.reduceMul, Nat.reduceSub, Nat.reduceLT, Nat.reduceLeDiff, Nat.reducePow, Int.reduceLT, Int.reduceLE, Int.reduceNeg, Int.reduceToNat, h1, h2]
  refine callK_intro (c112 g.n 113 [] (fun t => !decide (0 ≤ t ∧ t ≤ 99)) (fun t _ => c113 t)) ?_
  simp (dsimp := false) (maxDischargeDepth := 16) only [go_sem, ↓reduceIte, reduceCtorEq, Nat.reduceEqDiff, Nat.reduceAdd, Nat.reduceMul, Nat.reduceSub, Nat.reduceLT, Nat.reduceLeDiff, Nat.reducePow, Int.reduceLT, Int.reduceLE, Int.reduceNeg, Int.reduceToNat, h1, h2]
  refine condK_intro (fun h3 => ?_) (fun h3 => ?_)
  · simp (dsimp := false) (maxDischargeDepth := 16) only [go_sem, ↓reduceIte, reduceCtorEq, Nat.reduceEqDiff, Nat.reduceAdd, Nat.reduceMul, Nat.reduceSub, Nat.reduceLT, Nat.reduceLeDiff, Nat.reducePow, Int.reduceLT, Int.reduceLE, Int.reduceNeg, Int.reduceToNat, h1, h2, h3]
    refine finI ?_
    rw [gErr, if_pos hs, if_neg]
    rintro ⟨h, _⟩
    obtain ⟨t, ht, h4⟩ := List.any_eq_true.1 h3
    exact ndec h4 (h t ht)
  simp (dsimp := false) (maxDischargeDepth := 16) only [go_sem, ↓reduceIte, reduceCtorEq, Nat.reduceEqDiff, Nat.reduceAdd, Nat.reduceMul, Nat.reduceSub, Nat.reduceLT, Nat.reduceLeDiff, Nat.reducePow, Int.reduceLT, Int.reduceLE, Int.reduceNeg, Int.reduceToNat, h1, h2, h3]
  refine callK_intro (c115 g.e 116 [.ptr (gcs g)] (fun x => !decide (edOK g.n.length x)) (fun x _ => c116 x g (by omega))) ?_
  simp (dsimp := false) (maxDischargeDepth := 16) only [go_sem, ↓reduceIte, reduceCtorEq, Nat.reduceEqDiff, Nat.reduceAdd, Nat.reduceMul, Nat.reduceSub, Nat.reduceLT, Nat.reduceLeDiff, Nat.reducePow, Int.reduceLT, Int.reduceLE, Int.reduceNeg, Int.reduceToNat, h1, h2, h3]
  refine condK_intro (fun h4 => ?_) (fun h4 => ?_)
  · simp (dsimp := false) (maxDischargeDepth := 16) only [go_sem, ↓reduceIte, reduceCtorEq, Nat.reduceEqDiff, Nat.reduceAdd, Nat.reduceMul, Nat.reduceSub, Nat.reduceLT, Nat.reduceLeDiff, Nat.reducePow, Int.reduceLT, Int.reduceLE, Int.reduceNeg, Int.reduceToNat, h1, h2, h3, h4]
    refine finI ?_
    rw [gErr, if_pos hs, if_neg]
    rintro ⟨_, h⟩
    obtain ⟨t, ht, h5⟩ := List.any_eq_true.1 h4
    exact ndec h5 (h t ht)
  · simp (dsimp := false) (maxDischargeDepth := 16) only [go_sem, ↓reduceIte, reduceCtorEq, Nat.reduceEqDiff, Nat.reduceAdd, Nat.reduceMul, Nat.reduceSub, Nat.reduceLT, Nat.reduceLeDiff, Nat.reducePow, Int.reduceLT, Int.reduceLE, Int.reduceNeg, Int.reduceToNat, h1, h2, h3, h4]
    refine finI ?_
    rw [gErr, if_pos hs, if_pos]
    refine ⟨fun t ht => ?_, fun x hx => ?_⟩
    · have := List.any_eq_false.1 h3 t ht
      simpa using this
    · have := List.any_eq_false.1 h4 x hx
      exact ydec (by simpa only [Bool.not_eq_true] using this)
theorem idx_sl {P : Program} (t : TypeId) (key : Key) (n sz : Nat) (k : IntKind) (i : Nat) (h : i < n) : idxAV P t (.sl key n sz) (.v (.int k (i : Int))) = if slT P t = true ∧ sz = esz P t then some (.box key (i * esz P t)) else none := by
  simp only [idxAV]
  have h1 : (0 : Int) ≤ (i : Int) := by omega
  have h2 : (i : Int) < n := by omega
  simp [h, h1, h2]
theorem idx_slI {P : Program} (t : TypeId) (key : Key) (n sz : Nat) (k : IntKind) (i : Int) (h0 : 0 ≤ i) (h : i.toNat < n) : idxAV P t (.sl key n sz) (.v (.int k i)) = if slT P t = true ∧ sz = esz P t then some (.box key (i.toNat * esz P t)) else none := by
  simp only [idxAV]
  have h2 : i < n := by omega
  simp [h, h0, h2]
def bi (zs : List Int) : List AV := zs.map fun n => AV.v (.int .i64 n)
theorem bi_set {zs : List Int} {i : Nat} {x : Int} (h : i < zs.length) : (bi zs).take i ++ [AV.v (.int .i64 x)] ++ (bi zs).drop (i + 1) = bi (zs.set i x) := by
  unfold bi
  rw [List.set_eq_take_append_cons_drop, if_pos h]
  simp [List.map_take, List.map_drop]
theorem bi_len (zs : List Int) : (bi zs).length = zs.length := by simp [bi]
theorem bi_zero (n : Nat) : (List.replicate n [AV.v (.int .i64 0)]).flatten = bi (List.replicate n 0) := by
  induction n with
  | zero => rfl
  | succ n ih => simp [List.replicate_succ, ih, bi]
theorem bi_flat (zs : List Int) : bi zs = (zs.map fun n => [AV.v (.int .i64 n)]).flatten := by
  induction zs with
  | nil => rfl
  | cons z zs ih => simp [bi] at ih ⊢; exact ih
theorem finS {s : St} {k : Key} {n : Nat} {zs : List Int} {b : Bool} (hb : s.b k = some ⟨bi zs, b⟩) (hn : zs.length = n) : fin s (.sl k n 1) (lv zs) := by
  refine .one _ _ (.one _ _ (.inr ⟨k, n, 1, zs.map fun n => [iv n], _, rfl, rfl, hb, bi_flat zs, by simpa using hn, ?_, ?_⟩))
  · intro y hy
    obtain ⟨z, _, rfl⟩ := List.mem_map.1 hy
    rfl
  · intro x hx
    obtain ⟨z, _, rfl⟩ := List.mem_map.1 hx
    rfl
theorem c149 (n : Nat) (h : n ≤ 1000000) : Con Try.prog 149 [iv n] 0 (lv (rng n)) := by
  refine conT (X := []) (rs := [.tmp 2]) Try.func149 (by kernel_rfl) rfl rfl (by kernel_rfl) ?_
  simp (dsimp := false) (maxDischargeDepth := 16) only [go_sem, ↓reduceIte, reduceCtorEq, Nat.reduceEqDiff, Nat.reduceAdd, Nat.reduceMul, Nat.reduceSub, Nat.reduceLT, Nat.reduceLeDiff, Nat.reducePow, Int.reduceLT, Int.reduceLE, Int.reduceNeg, Int.reduceToNat, Int.toNat_natCast, bi_zero]
  refine ⟨⟨by omega, by omega, by omega⟩, ?_⟩
  refine loopK_intro (fun (i : Nat) s => i ≤ n ∧ s.t 3 = .sl (6, 0, 0) n 1 ∧ s.t 8 = iv n ∧ s.t 9 = iv i ∧ ∃ zs : List Int, s.b (6, 0, 0) = some ⟨bi zs, false⟩ ∧ zs.length = n ∧ ∀ j, j < i → zs[j]? = some (j : Int)) (fun i => n - i)
    ⟨0, by omega, rfl, rfl, rfl, _, rfl, by simp, fun j hj => by omega⟩ ?_
  rintro i s ⟨hi, t3, t8, t9, zs, b6, hz, hj⟩
  simp (dsimp := false) (maxDischargeDepth := 16) only [go_sem, ↓reduceIte, reduceCtorEq, Nat.reduceEqDiff, Nat.reduceAdd, Nat.reduceMul, Nat.reduceSub, Nat.reduceLT, Nat.reduceLeDiff, Nat.reducePow, Int.reduceLT, Int.reduceLE, Int.reduceNeg, Int.reduceToNat, t3, t8, t9, b6]
  refine condK_dec (fun h6 => ?_) (fun h6 => ?_)
  · simp (dsimp := false) (maxDischargeDepth := 16) only [go_sem, ↓reduceIte, reduceCtorEq, Nat.reduceEqDiff, Nat.reduceAdd, Nat.reduceMul, Nat.reduceSub, Nat.reduceLT, Nat.reduceLeDiff, Nat.reducePow, Int.reduceLT, Int.reduceLE, Int.reduceNeg, Int.reduceToNat, t3, t8, t9, b6, h6, idx_sl]
    refine ⟨by rw [bi_len]; omega, i + 1, by omega, by omega, by rw [wrapN _ (by omega)], zs.set i i, by rw [Nat.mul_one, bi_set (by omega)], by simpa using hz, fun j hji => ?_⟩
    rw [List.getElem?_set]
    split
    · rename_i e; rw [if_pos (by omega), e]
    · exact hj j (by omega)
  · simp (dsimp := false) (maxDischargeDepth := 16) only [go_sem, ↓reduceIte, reduceCtorEq, Nat.reduceEqDiff, Nat.reduceAdd, Nat.reduceMul, Nat.reduceSub, Nat.reduceLT, Nat.reduceLeDiff, Nat.reducePow, Int.reduceLT, Int.reduceLE, Int.reduceNeg, Int.reduceToNat, t3, t8, t9, b6, h6]
    have : zs = rng n := List.ext_getElem? fun j => by
      unfold rng
      by_cases hji : j < n
      · rw [hj j (by omega)]; simp [hji]
      · rw [List.getElem?_eq_none (by omega), List.getElem?_eq_none (by simp; omega)]
    rw [← this]
    exact finS (b := false) (by simp (dsimp := false) (maxDischargeDepth := 16) only [go_sem, ↓reduceIte, reduceCtorEq, Nat.reduceEqDiff, Nat.reduceAdd, Nat.reduceMul, Nat.reduceSub, Nat.reduceLT, Nat.reduceLeDiff, Nat.reducePow, Int.reduceLT, Int.reduceLE, Int.reduceNeg, Int.reduceToNat, b6]) hz
end Go.Sy

/- Contracts: the program's own glueing. -/
set_option linter.unusedSimpArgs false
namespace Go.Sy
open Go Go.Proofs

theorem c124 (g : Gr) (h : gErr g = 0) (hn : g.n.length ≤ 1000000) (he : g.e.length ≤ 1000000) : Con Try.prog 124 [gv g] 0 (.tup [mv ⟨rng g.n.length, rng g.e.length⟩, iv 0]) := by
  refine conT (X := []) (rs := [.cell 2 41, .tmp 3]) Try.func124 (by kernel_rfl) rfl rfl (by kernel_rfl) ?_
  simp (dsimp := false) (maxDischargeDepth := 16) only [go_sem, ↓reduceIte, reduceCtorEq, Nat.reduceEqDiff, Nat.reduceAdd, Nat.reduceMul, Nat.reduceSub, Nat.reduceLT, Nat.reduceLeDiff, Nat.reducePow, Int.reduceLT, Int.reduceLE, Int.reduceNeg, Int.reduceToNat]
  refine callK_intro (c61 g) ?_
  simp (dsimp := false) (maxDischargeDepth := 16) only [go_sem, ↓reduceIte, reduceCtorEq, Nat.reduceEqDiff, Nat.reduceAdd, Nat.reduceMul, Nat.reduceSub, Nat.reduceLT, Nat.reduceLeDiff, Nat.reducePow, Int.reduceLT, Int.reduceLE, Int.reduceNeg, Int.reduceToNat, h]
  refine condK_intro (fun h1 => absurd h1 (by decide)) (fun h1 => ?_)
  simp (dsimp := false) (maxDischargeDepth := 16) only [go_sem, ↓reduceIte, reduceCtorEq, Nat.reduceEqDiff, Nat.reduceAdd, Nat.reduceMul, Nat.reduceSub, Nat.reduceLT, Nat.reduceLeDiff, Nat.reducePow, Int.reduceLT, Int.reduceLE, Int.reduceNeg, Int.reduceToNat, h, h1]
  refine callK_intro (c149 _ hn) ?_
  simp (dsimp := false) (maxDischargeDepth := 16) only [go_sem, ↓reduceIte, reduceCtorEq, Nat.reduceEqDiff, Nat.reduceAdd, Nat.reduceMul, Nat.reduceSub, Nat.reduceLT, Nat.reduceLeDiff, Nat.reducePow, Int.reduceLT, Int.reduceLE, Int.reduceNeg, Int.reduceToNat, h, h1]
  refine callK_intro (c149 _ he) ?_
  simp (dsimp := false) (maxDischargeDepth := 16) only [go_sem, ↓reduceIte, reduceCtorEq, Nat.reduceEqDiff, Nat.reduceAdd, Nat.reduceMul, Nat.reduceSub, Nat.reduceLT, Nat.reduceLeDiff, Nat.reducePow, Int.reduceLT, Int.reduceLE, Int.reduceNeg, Int.reduceToNat, h, h1]
  exact finK ⟨rfl, rfl⟩
set_option maxHeartbeats 1000000 in
theorem c77 (a b : Gr) (nodes edges : List Int) (hv : gErr a = 0) (ha : a.n.length ≤ 1000) (hae : a.e.length ≤ 1000) (hn : nodes.length ≤ b.n.length) (he : edges.length ≤ b.e.length) (hb : b.n.length ≤ 1000) (hbe : b.e.length ≤ 1000)
    (hR : ∀ x ∈ b.e, 0 ≤ x.2.1 ∧ x.2.1 < nodes.length ∧ 0 ≤ x.2.2 ∧ x.2.2 < nodes.length) : Con Try.prog 77 [gv a, gv b, lv nodes, lv edges] 0 (ov (glue a b nodes edges)) := by
  refine conT (X := []) (rs := [.cell 8 43]) Try.func77 (by kernel_rfl) rfl rfl (by kernel_rfl) ?_
  simp (dsimp := false) (maxDischargeDepth := 16) only [go_sem, ↓reduceIte, reduceCtorEq, Nat.reduceEqDiff, Nat.reduceAdd, Nat.reduceMul, Nat.reduceSub, Nat.reduceLT, Nat.reduceLeDiff, Nat.reducePow, Int.reduceLT, Int.reduceLE, Int.reduceNeg, Int.reduceToNat]
  refine callK_intro (c124 a hv (by omega) (by omega)) ?_
  simp (dsimp := false) (maxDischargeDepth := 16) only [go_sem, ↓reduceIte, reduceCtorEq, Nat.reduceEqDiff, Nat.reduceAdd, Nat.reduceMul, Nat.reduceSub, Nat.reduceLT, Nat.reduceLeDiff, Nat.reducePow, Int.reduceLT, Int.reduceLE, Int.reduceNeg, Int.reduceToNat]
  refine callK_intro (c78 a.n (by omega)) ?_
  simp (dsimp := false) (maxDischargeDepth := 16) only [go_sem, ↓reduceIte, reduceCtorEq, Nat.reduceEqDiff, Nat.reduceAdd, Nat.reduceMul, Nat.reduceSub, Nat.reduceLT, Nat.reduceLeDiff, Nat.reducePow, Int.reduceLT, Int.reduceLE, Int.reduceNeg, Int.reduceToNat]
  refine callK_intro (c125 a.e (by omega)) ?_
  simp (dsimp := false) (maxDischargeDepth := 16) only [go_sem, ↓reduceIte, reduceCtorEq, Nat.reduceEqDiff, Nat.reduceAdd, Nat.reduceMul, Nat.reduceSub, Nat.reduceLT, Nat.reduceLeDiff, Nat.reducePow, Int.reduceLT, Int.reduceLE, Int.reduceNeg, Int.reduceToNat]
  refine loopK_intro (fun (i : Nat) s => i ≤ nodes.length ∧ s.t 3 = lv edges ∧ s.t 5 = .box (5, 0, 0) 0 ∧ s.b (5, 0, 0) = some ⟨gcs b, false⟩ ∧ s.t 8 = .box (8, 0, 0) 0 ∧ (∃ z1 z2 z3 z4 z5 z6, s.b (8, 0, 0) = some ⟨[z1, z2, z3, z4, z5, z6], false⟩) ∧
    s.t 11 = .box (11, 0, 0) 0 ∧ s.t 31 = lv nodes ∧ s.t 32 = iv nodes.length ∧ s.t 33 = iv i ∧ ∃ t1 t2 t3, s.b (11, 0, 0) = some ⟨[lvT (gN a.n b.n nodes i).1 t1, elT' a.e t3, lv (rng a.n.length), lv (rng a.e.length), lvT (gN a.n b.n nodes i).2 t2, .list 1 [] .nil], false⟩ ∧
    tokOK s t1 = true ∧ tokOK s t2 = true ∧ tokOK s t3 = true ∧ tkIn [(24, 0), (53, 0)] t1 = true ∧ tkIn [(61, 0)] t2 = true ∧ tkIn [(27, 0)] t3 = true) (fun i => nodes.length - i)
    ?_ ?_
  · refine ⟨0, by omega, rfl, rfl, rfl, rfl, ⟨_, _, _, _, _, _, rfl⟩, rfl, rfl, rfl, rfl, .own (24, 0, 0), .nil, .own (27, 0, 0), rfl, ?_, rfl, ?_, rfl, rfl, rfl⟩
    · simp (dsimp := false) (maxDischargeDepth := 16) only [go_sem, ↓reduceIte, reduceCtorEq, Nat.reduceEqDiff, Nat.reduceAdd, Nat.reduceMul, Nat.reduceSub, Nat.reduceLT, Nat.reduceLeDiff, Nat.reducePow, Int.reduceLT, Int.reduceLE, Int.reduceNeg, Int.reduceToNat]
    · simp (dsimp := false) (maxDischargeDepth := 16) only [go_sem, ↓reduceIte, reduceCtorEq, Nat.reduceEqDiff, Nat.reduceAdd, Nat.reduceMul, Nat.reduceSub, Nat.reduceLT, Nat.reduceLeDiff, Nat.reducePow, Int.reduceLT, Int.reduceLE, Int.reduceNeg, Int.reduceToNat]
  rintro i s ⟨hi, t3, t5, b5, t8, ⟨z1, z2, z3, z4, z5, z6, b8⟩, t9, t31, t32, t10, k1, k2, k3, b9, a1, a2, a3, i1, i2, i3⟩
  simp (dsimp := false) (maxDischargeDepth := 16) only [go_sem, ↓reduceIte, reduceCtorEq, Nat.reduceEqDiff, Nat.reduceAdd, Nat.reduceMul, Nat.reduceSub, Nat.reduceLT, Nat.reduceLeDiff, Nat.reducePow, Int.reduceLT, Int.reduceLE, Int.reduceNeg, Int.reduceToNat, t3, t5, b5, t8, b8, t9, t31, t32, t10, b9]
  refine condK_dec (fun h6 => ?_) (fun h6 => ?_)
  · have h7 : i < b.n.length := by omega
    simp (dsimp := false) (maxDischargeDepth := 16) only [go_sem, ↓reduceIte, reduceCtorEq, Nat.reduceEqDiff, Nat.reduceAdd, Nat.reduceMul, Nat.reduceSub, Nat.reduceLT, Nat.reduceLeDiff, Nat.reducePow, Int.reduceLT, Int.reduceLE, Int.reduceNeg, Int.reduceToNat, t3, t5, b5, t8, b8, t9, t31, t32, t10, b9, h6, idx_nat]
    refine condK_dec (fun h8 => ?_) (fun h8 => ?_)
    · have k12 : ∀ (s : St) (d n : Nat) (x : AV), tokOK s k2 = true → tokOK (s.ntok d n x (tokKey k1)) k2 = true := fun s d n x h => tk_kill i1 i2 rfl h
      have k13 : ∀ (s : St) (d n : Nat) (x : AV), tokOK s k3 = true → tokOK (s.ntok d n x (tokKey k1)) k3 = true := fun s d n x h => tk_kill i1 i3 rfl h
      have k23 : ∀ (s : St) (d n : Nat) (x : AV), tokOK s k3 = true → tokOK (s.ntok d n x (tokKey k2)) k3 = true := fun s d n x h => tk_kill i2 i3 rfl h
      have q2 : ∀ (f : Key → Bool) (g : Nat), killO f (tokKey k2) (53, g, 0) = f (53, g, 0) := fun f g => kill_tk i2 rfl f
      have l1 := gN_len1 a.n b.n nodes i
      have l2 := gN_len2 a.n b.n nodes i
      simp (dsimp := false) (maxDischargeDepth := 16) only [go_sem, ↓reduceIte, reduceCtorEq, Nat.reduceEqDiff, Nat.reduceAdd, Nat.reduceMul, Nat.reduceSub, Nat.reduceLT, Nat.reduceLeDiff, Nat.reducePow, Int.reduceLT, Int.reduceLE, Int.reduceNeg, Int.reduceToNat, t3, t5, b5, t8, b8, t9, t31, t32, t10, b9, h6, h7, h8, idx_nat, a1, a2, a3, k12, k13, k23]
      refine ⟨⟨by omega, by omega⟩, ⟨by omega, by omega⟩, i + 1, by omega, by omega, ⟨_, _, _, _, _, _, rfl⟩, by rw [wrapN _ (by omega)], .own (53, s.g 53, 0), .own (61, s.g 61, 0), k3, ?_, ?_, ?_, ?_, rfl, rfl, i3⟩
      · rw [gN_neg h6 h7 h8]
        simp only [map1_app]
      all_goals simp (dsimp := false) (maxDischargeDepth := 16) only [go_sem, ↓reduceIte, reduceCtorEq, Nat.reduceEqDiff, Nat.reduceAdd, Nat.reduceMul, Nat.reduceSub, Nat.reduceLT, Nat.reduceLeDiff, Nat.reducePow, Int.reduceLT, Int.reduceLE, Int.reduceNeg, Int.reduceToNat, a1, a2, a3, k12, k13, k23, q2]
    · have k23 : ∀ (s : St) (d n : Nat) (x : AV), tokOK s k3 = true → tokOK (s.ntok d n x (tokKey k2)) k3 = true := fun s d n x h => tk_kill i2 i3 rfl h
      have k21 : ∀ (s : St) (d n : Nat) (x : AV), tokOK s k1 = true → tokOK (s.ntok d n x (tokKey k2)) k1 = true := fun s d n x h => tk_kill i2 i1 rfl h
      have l2 := gN_len2 a.n b.n nodes i
      simp (dsimp := false) (maxDischargeDepth := 16) only [go_sem, ↓reduceIte, reduceCtorEq, Nat.reduceEqDiff, Nat.reduceAdd, Nat.reduceMul, Nat.reduceSub, Nat.reduceLT, Nat.reduceLeDiff, Nat.reducePow, Int.reduceLT, Int.reduceLE, Int.reduceNeg, Int.reduceToNat, t3, t5, b5, t8, b8, t9, t31, t32, t10, b9, h6, h7, h8, idx_nat, a1, a2, a3, k21, k23]
      refine ⟨⟨by omega, by omega⟩, i + 1, by omega, by omega, ⟨_, _, _, _, _, _, rfl⟩, by rw [wrapN _ (by omega)], k1, .own (61, s.g 61, 0), k3, ?_, ?_, ?_, ?_, i1, rfl, i3⟩
      · rw [gN_pos h6 h8]
        simp only [map1_app]
      all_goals simp (dsimp := false) (maxDischargeDepth := 16) only [go_sem, ↓reduceIte, reduceCtorEq, Nat.reduceEqDiff, Nat.reduceAdd, Nat.reduceMul, Nat.reduceSub, Nat.reduceLT, Nat.reduceLeDiff, Nat.reducePow, Int.reduceLT, Int.reduceLE, Int.reduceNeg, Int.reduceToNat, a1, a2, a3, k21, k23]
  · simp (dsimp := false) (maxDischargeDepth := 16) only [go_sem, ↓reduceIte, reduceCtorEq, Nat.reduceEqDiff, Nat.reduceAdd, Nat.reduceMul, Nat.reduceSub, Nat.reduceLT, Nat.reduceLeDiff, Nat.reducePow, Int.reduceLT, Int.reduceLE, Int.reduceNeg, Int.reduceToNat, t3, t5, b5, t8, b8, t9, t31, t32, t10, b9, h6]
    have hin : i = nodes.length := by omega
    subst hin
    have l2 := gN_len2 a.n b.n nodes nodes.length
    have hRR : ∀ R, R = (gN a.n b.n nodes nodes.length).2 → R.length = nodes.length := fun R h => by rw [h, l2]
    unfold glue
    generalize hR0 : (gN a.n b.n nodes nodes.length).2 = R at *
    generalize (gN a.n b.n nodes nodes.length).1 = G at *
    refine loopK_intro (fun (i : Nat) s => i ≤ edges.length ∧ s.t 5 = .box (5, 0, 0) 0 ∧ s.b (5, 0, 0) = some ⟨gcs b, false⟩ ∧ s.t 8 = .box (8, 0, 0) 0 ∧ s.b (8, 0, 0) = some ⟨[z1, z2, z3, z4, z5, z6], false⟩ ∧
      s.t 11 = .box (11, 0, 0) 0 ∧ s.t 65 = lv edges ∧ s.t 66 = iv edges.length ∧ s.t 67 = iv i ∧ ∃ t3 t4, s.b (11, 0, 0) = some ⟨[lvT G k1, elT' (gE a.e b.e R edges i).1 t3, lv (rng a.n.length), lv (rng a.e.length), lvT R k2, lvT (gE a.e b.e R edges i).2 t4], false⟩ ∧
      tokOK s t3 = true ∧ tokOK s t4 = true ∧ tkIn [(27, 0), (104, 0)] t3 = true ∧ tkIn [(112, 0)] t4 = true) (fun i => edges.length - i) ?_ ?_
    · refine ⟨0, by omega, t5, b5, t8, b8, t9, rfl, rfl, rfl, k3, .nil, ?_, ?_, rfl, ?_, rfl⟩
      · simp (dsimp := false) (maxDischargeDepth := 16) only [go_sem, ↓reduceIte, reduceCtorEq, Nat.reduceEqDiff, Nat.reduceAdd, Nat.reduceMul, Nat.reduceSub, Nat.reduceLT, Nat.reduceLeDiff, Nat.reducePow, Int.reduceLT, Int.reduceLE, Int.reduceNeg, Int.reduceToNat, b9, gE]
      · simp (dsimp := false) (maxDischargeDepth := 16) only [go_sem, ↓reduceIte, reduceCtorEq, Nat.reduceEqDiff, Nat.reduceAdd, Nat.reduceMul, Nat.reduceSub, Nat.reduceLT, Nat.reduceLeDiff, Nat.reducePow, Int.reduceLT, Int.reduceLE, Int.reduceNeg, Int.reduceToNat, a3]
      · revert i3
        cases k3 <;> simp [tkIn]
        intro h1 h2
        exact .inl ⟨h1, h2⟩
    clear t3 t5 b5 t8 b8 t9 t10 t31 t32 b9 a1 a2 a3 i1 i2 i3 h6 hi
    rintro i s ⟨hi, t5, b5, t8, b8, t9, t65, t66, t12, q3, q4, b9, a3, a4, i3, i4⟩
    simp (dsimp := false) (maxDischargeDepth := 16) only [go_sem, ↓reduceIte, reduceCtorEq, Nat.reduceEqDiff, Nat.reduceAdd, Nat.reduceMul, Nat.reduceSub, Nat.reduceLT, Nat.reduceLeDiff, Nat.reducePow, Int.reduceLT, Int.reduceLE, Int.reduceNeg, Int.reduceToNat, t5, b5, t8, b8, t9, t65, t66, t12, b9]
    have m1 := gE_len1 a.e b.e R edges i
    have m2 := gE_len2 a.e b.e R edges i
    refine condK_dec (fun h6 => ?_) (fun h6 => ?_)
    · have h7 : i < b.e.length := by omega
      have hx := hR _ (List.getElem_mem h7)
      have r1 : b.e[i].2.1.toNat < R.length := by omega
      have r2 : b.e[i].2.2.toNat < R.length := by omega
      have r3 := hx.1
      have r4 := hx.2.2.1
      simp (dsimp := false) (maxDischargeDepth := 16) only [go_sem, ↓reduceIte, reduceCtorEq, Nat.reduceEqDiff, Nat.reduceAdd, Nat.reduceMul, Nat.reduceSub, Nat.reduceLT, Nat.reduceLeDiff, Nat.reducePow, Int.reduceLT, Int.reduceLE, Int.reduceNeg, Int.reduceToNat, t5, b5, t8, b8, t9, t65, t66, t12, b9, h6, idx_nat]
      refine condK_dec (fun h8 => ?_) (fun h8 => ?_)
      · have k34 : ∀ (s : St) (d n : Nat) (x : AV), tokOK s q4 = true → tokOK (s.ntok d n x (tokKey q3)) q4 = true := fun s d n x h => tk_kill i3 i4 rfl h
        have q5 : ∀ (f : Key → Bool) (g : Nat), killO f (tokKey q4) (104, g, 0) = f (104, g, 0) := fun f g => kill_tk i4 rfl f
        simp (dsimp := false) (maxDischargeDepth := 16) only [go_sem, ↓reduceIte, reduceCtorEq, Nat.reduceEqDiff, Nat.reduceAdd, Nat.reduceMul, Nat.reduceSub, Nat.reduceLT, Nat.reduceLeDiff, Nat.reducePow, Int.reduceLT, Int.reduceLE, Int.reduceNeg, Int.reduceToNat, t5, b5, t8, b8, t9, t65, t66, t12, b9, h6, h7, h8, idx_nat, idx_int, r1, r2, r3, r4, a3, a4, k34]
        refine ⟨⟨by omega, by omega⟩, ⟨by omega, by omega⟩, i + 1, by omega, by omega, by rw [wrapN _ (by omega)], .own (104, s.g 104, 0), .own (112, s.g 112, 0), ?_, ?_, ?_, rfl, rfl⟩
        · rw [gE_neg h6 h7 h8 r1 r2]
          simp only [map1_app, map3_app]
          rfl
        all_goals simp (dsimp := false) (maxDischargeDepth := 16) only [go_sem, ↓reduceIte, reduceCtorEq, Nat.reduceEqDiff, Nat.reduceAdd, Nat.reduceMul, Nat.reduceSub, Nat.reduceLT, Nat.reduceLeDiff, Nat.reducePow, Int.reduceLT, Int.reduceLE, Int.reduceNeg, Int.reduceToNat, a3, a4, k34, q5]
      · have k43 : ∀ (s : St) (d n : Nat) (x : AV), tokOK s q3 = true → tokOK (s.ntok d n x (tokKey q4)) q3 = true := fun s d n x h => tk_kill i4 i3 rfl h
        simp (dsimp := false) (maxDischargeDepth := 16) only [go_sem, ↓reduceIte, reduceCtorEq, Nat.reduceEqDiff, Nat.reduceAdd, Nat.reduceMul, Nat.reduceSub, Nat.reduceLT, Nat.reduceLeDiff, Nat.reducePow, Int.reduceLT, Int.reduceLE, Int.reduceNeg, Int.reduceToNat, t5, b5, t8, b8, t9, t65, t66, t12, b9, h6, h7, h8, idx_nat, a3, a4, k43]
        refine ⟨⟨by omega, by omega⟩, i + 1, by omega, by omega, by rw [wrapN _ (by omega)], q3, .own (112, s.g 112, 0), ?_, ?_, ?_, i3, rfl⟩
        · rw [gE_pos h6 h8]
          simp only [map1_app]
        all_goals simp (dsimp := false) (maxDischargeDepth := 16) only [go_sem, ↓reduceIte, reduceCtorEq, Nat.reduceEqDiff, Nat.reduceAdd, Nat.reduceMul, Nat.reduceSub, Nat.reduceLT, Nat.reduceLeDiff, Nat.reducePow, Int.reduceLT, Int.reduceLE, Int.reduceNeg, Int.reduceToNat, a3, a4, k43]
    · simp (dsimp := false) (maxDischargeDepth := 16) only [go_sem, ↓reduceIte, reduceCtorEq, Nat.reduceEqDiff, Nat.reduceAdd, Nat.reduceMul, Nat.reduceSub, Nat.reduceLT, Nat.reduceLeDiff, Nat.reducePow, Int.reduceLT, Int.reduceLE, Int.reduceNeg, Int.reduceToNat, t5, b5, t8, b8, t9, t65, t66, t12, b9, h6]
      have : i = edges.length := by omega
      subst this
      exact finK ⟨rfl, rfl⟩
end Go.Sy

/- Contracts: the program's own overlaps. -/
set_option linter.unusedSimpArgs false
namespace Go.Sy
open Go Go.Proofs

theorem okE_nat {a : Gr} {nodes l : List Int} {e : Ed} {i : Nat} (h10 : i < a.e.length) (r1 : e.2.1.toNat < nodes.length) (r2 : e.2.2.toNat < nodes.length) :
    okE a nodes l e (((i + 1 : Nat) : Int) - 1) = ((a.e[i].1 == e.1 && (a.e[i].2.1 == nodes[e.2.1.toNat] && a.e[i].2.2 == nodes[e.2.2.toNat])) && !l.contains (i : Int)) := by
  have h : ((i + 1 : Nat) : Int) - 1 = (i : Int) := by omega
  rw [h, okE_at (by omega) (by simpa using h10) r1 r2, Bool.and_comm]
  rfl
theorem okN_nat {a : Gr} {t : Int} {l : List Int} {i : Nat} (h10 : i < a.n.length) : okN a t l (((i + 1 : Nat) : Int) - 1) = (a.n[i] == t && !l.contains (i : Int)) := by
  have h : ((i + 1 : Nat) : Int) - 1 = (i : Int) := by omega
  rw [h, okN_at (by omega) (by simpa using h10), Bool.and_comm]
  rfl
set_option maxRecDepth 20000 in
set_option maxHeartbeats 4000000 in
theorem c118 (a b : Gr) (nodes : List Int) (hv : gErr a = 0) (ha : a.n.length ≤ 1000) (hae : a.e.length ≤ 1000) (hn : nodes.length = b.n.length) (hb : b.n.length ≤ 1000) (hbe : b.e.length ≤ 1000)
    (hR : ∀ x ∈ b.e, 0 ≤ x.2.1 ∧ x.2.1 < nodes.length ∧ 0 ≤ x.2.2 ∧ x.2.2 < nodes.length) :
    ∀ (k : Nat) (l : List Int) (out : List Ov), l.length + k = b.e.length → out.length ≤ 2001 →
      ECon Try.prog 118 [lv nodes, lv l] (gcs a ++ gcs b) (olvT out (.own (0, 0, 0))) .any (gcs a ++ gcs b) (olvT (ovE a b nodes k l out) (.own (0, 0, 0)))
  | 0, l, out, hk, hout => by
    refine econT (X := []) (rs := []) Try.func118 (by kernel_rfl) rfl rfl (by kernel_rfl) ?_
    simp (dsimp := false) (maxDischargeDepth := 16) only [go_sem, ↓reduceIte, reduceCtorEq, Nat.reduceEqDiff, Nat.reduceAdd, Nat.reduceMul, Nat.reduceSub, Nat.reduceLT, Nat.reduceLeDiff, Nat.reducePow, Int.reduceLT, Int.reduceLE, Int.reduceNeg, Int.reduceToNat]
    refine condK_dec (fun h1 => ?_) (fun h1 => ?_)
    · simp (dsimp := false) (maxDischargeDepth := 16) only [go_sem, ↓reduceIte, reduceCtorEq, Nat.reduceEqDiff, Nat.reduceAdd, Nat.reduceMul, Nat.reduceSub, Nat.reduceLT, Nat.reduceLeDiff, Nat.reducePow, Int.reduceLT, Int.reduceLE, Int.reduceNeg, Int.reduceToNat, h1]
      refine ⟨.inl trivial, _, rfl, ?_, ?_⟩
      · simp (dsimp := false) (maxDischargeDepth := 16) only [go_sem, ↓reduceIte, reduceCtorEq, Nat.reduceEqDiff, Nat.reduceAdd, Nat.reduceMul, Nat.reduceSub, Nat.reduceLT, Nat.reduceLeDiff, Nat.reducePow, Int.reduceLT, Int.reduceLE, Int.reduceNeg, Int.reduceToNat]
      · simp (dsimp := false) (maxDischargeDepth := 16) only [go_sem, ↓reduceIte, reduceCtorEq, Nat.reduceEqDiff, Nat.reduceAdd, Nat.reduceMul, Nat.reduceSub, Nat.reduceLT, Nat.reduceLeDiff, Nat.reducePow, Int.reduceLT, Int.reduceLE, Int.reduceNeg, Int.reduceToNat]
        rw [ovE, if_pos (by omega)]
    simp (dsimp := false) (maxDischargeDepth := 16) only [go_sem, ↓reduceIte, reduceCtorEq, Nat.reduceEqDiff, Nat.reduceAdd, Nat.reduceMul, Nat.reduceSub, Nat.reduceLT, Nat.reduceLeDiff, Nat.reducePow, Int.reduceLT, Int.reduceLE, Int.reduceNeg, Int.reduceToNat, h1]
    refine condK_intro (fun h2 => ?_) (fun h2 => ?_)
    · simp (dsimp := false) (maxDischargeDepth := 16) only [go_sem, ↓reduceIte, reduceCtorEq, Nat.reduceEqDiff, Nat.reduceAdd, Nat.reduceMul, Nat.reduceSub, Nat.reduceLT, Nat.reduceLeDiff, Nat.reducePow, Int.reduceLT, Int.reduceLE, Int.reduceNeg, Int.reduceToNat, h1, h2]
      have h3 : l.length = b.e.length := by omega
      refine callK_intro (c77 a b nodes l hv ha hae (by omega) (by omega) hb hbe hR) ?_
      simp (dsimp := false) (maxDischargeDepth := 16) only [go_sem, ↓reduceIte, reduceCtorEq, Nat.reduceEqDiff, Nat.reduceAdd, Nat.reduceMul, Nat.reduceSub, Nat.reduceLT, Nat.reduceLeDiff, Nat.reducePow, Int.reduceLT, Int.reduceLE, Int.reduceNeg, Int.reduceToNat, h1, h2]
      refine ⟨⟨by omega, by omega⟩, .inl trivial, _, rfl, ?_, ?_⟩
      · simp (dsimp := false) (maxDischargeDepth := 16) only [go_sem, ↓reduceIte, reduceCtorEq, Nat.reduceEqDiff, Nat.reduceAdd, Nat.reduceMul, Nat.reduceSub, Nat.reduceLT, Nat.reduceLeDiff, Nat.reducePow, Int.reduceLT, Int.reduceLE, Int.reduceNeg, Int.reduceToNat]
      · simp (dsimp := false) (maxDischargeDepth := 16) only [go_sem, ↓reduceIte, reduceCtorEq, Nat.reduceEqDiff, Nat.reduceAdd, Nat.reduceMul, Nat.reduceSub, Nat.reduceLT, Nat.reduceLeDiff, Nat.reducePow, Int.reduceLT, Int.reduceLE, Int.reduceNeg, Int.reduceToNat]
        rw [ovE, if_neg (by omega), List.map_append]
        rfl
    · exact absurd (beqF h2) (by simp; omega)
  | k + 1, l, out, hk, hout => by
    have ih := c118 a b nodes hv ha hae hn hb hbe hR k
    refine econT (X := []) (rs := []) Try.func118 (by kernel_rfl) rfl rfl (by kernel_rfl) ?_
    simp (dsimp := false) (maxDischargeDepth := 16) only [go_sem, ↓reduceIte, reduceCtorEq, Nat.reduceEqDiff, Nat.reduceAdd, Nat.reduceMul, Nat.reduceSub, Nat.reduceLT, Nat.reduceLeDiff, Nat.reducePow, Int.reduceLT, Int.reduceLE, Int.reduceNeg, Int.reduceToNat]
    refine condK_dec (fun h1 => ?_) (fun h1 => ?_)
    · simp (dsimp := false) (maxDischargeDepth := 16) only [go_sem, ↓reduceIte, reduceCtorEq, Nat.reduceEqDiff, Nat.reduceAdd, Nat.reduceMul, Nat.reduceSub, Nat.reduceLT, Nat.reduceLeDiff, Nat.reducePow, Int.reduceLT, Int.reduceLE, Int.reduceNeg, Int.reduceToNat, h1]
      refine ⟨.inl trivial, _, rfl, ?_, ?_⟩
      · simp (dsimp := false) (maxDischargeDepth := 16) only [go_sem, ↓reduceIte, reduceCtorEq, Nat.reduceEqDiff, Nat.reduceAdd, Nat.reduceMul, Nat.reduceSub, Nat.reduceLT, Nat.reduceLeDiff, Nat.reducePow, Int.reduceLT, Int.reduceLE, Int.reduceNeg, Int.reduceToNat]
      · simp (dsimp := false) (maxDischargeDepth := 16) only [go_sem, ↓reduceIte, reduceCtorEq, Nat.reduceEqDiff, Nat.reduceAdd, Nat.reduceMul, Nat.reduceSub, Nat.reduceLT, Nat.reduceLeDiff, Nat.reducePow, Int.reduceLT, Int.reduceLE, Int.reduceNeg, Int.reduceToNat]
        rw [ovE, if_pos (by omega)]
    simp (dsimp := false) (maxDischargeDepth := 16) only [go_sem, ↓reduceIte, reduceCtorEq, Nat.reduceEqDiff, Nat.reduceAdd, Nat.reduceMul, Nat.reduceSub, Nat.reduceLT, Nat.reduceLeDiff, Nat.reducePow, Int.reduceLT, Int.reduceLE, Int.reduceNeg, Int.reduceToNat, h1]
    refine condK_intro (fun h2 => ?_) (fun h2 => ?_)
    · have := beqT h2
      omega
    have h3 : l.length < b.e.length := by omega
    have hx := hR _ (List.getElem_mem h3)
    have r1 : b.e[l.length].2.1.toNat < nodes.length := by omega
    have r2 : b.e[l.length].2.2.toNat < nodes.length := by omega
    have r3 := hx.1
    have r4 := hx.2.2.1
    simp (dsimp := false) (maxDischargeDepth := 16) only [go_sem, ↓reduceIte, reduceCtorEq, Nat.reduceEqDiff, Nat.reduceAdd, Nat.reduceMul, Nat.reduceSub, Nat.reduceLT, Nat.reduceLeDiff, Nat.reducePow, Int.reduceLT, Int.reduceLE, Int.reduceNeg, Int.reduceToNat, h1, h2, idx_nat, h3, idx_int, r1, r2, r3, r4]
    let st : List Ov → Nat → List Ov := fun out j => if okE a nodes l (b.e.getD l.length (0, 0, 0)) ((j : Int) - 1) then ovE a b nodes k (l ++ [(j : Int) - 1]) out else out
    have hsp : ovE a b nodes (k + 1) l out = (List.range (a.e.length + 1)).foldl st out := by rw [ovE, if_neg (by omega)]
    rw [hsp]
    generalize hF : (List.range (a.e.length + 1)).foldl st out = F
    refine callK_intro (c78 l (by omega)) ?_
    simp (dsimp := false) (maxDischargeDepth := 16) only [go_sem, ↓reduceIte, reduceCtorEq, Nat.reduceEqDiff, Nat.reduceAdd, Nat.reduceMul, Nat.reduceSub, Nat.reduceLT, Nat.reduceLeDiff, Nat.reducePow, Int.reduceLT, Int.reduceLE, Int.reduceNeg, Int.reduceToNat, h1, h2]
    refine ⟨⟨by omega, by omega⟩, ?_⟩
    have ih1 := ih (l ++ [-1]) out (by simp; omega) hout
    simp only [lv, lvT, iv, map1_app] at ih1
    have st0 : (List.range (0 + 1)).foldl st out = ovE a b nodes k (l ++ [-1]) out := by
      rw [range_fold]
      exact if_pos (by simp [okE])
    obtain ⟨cur, q0, q1, q2⟩ : ∃ cur : Nat → List Ov, cur 0 = ovE a b nodes k (l ++ [-1]) out ∧ (∀ j, cur (j + 1) = st (cur j) (j + 1)) ∧ cur a.e.length = F := ⟨fun j => (List.range (j + 1)).foldl st out, st0, fun j => range_fold _ _ _, hF⟩
    clear st0 hF hsp
    refine ecallK_intro (pre := gcs a ++ gcs b) (x := olvT out (.own (0, 0, 0))) rfl ?_ ih1 ?_
    · simp (dsimp := false) (maxDischargeDepth := 16) only [go_sem, ↓reduceIte, reduceCtorEq, Nat.reduceEqDiff, Nat.reduceAdd, Nat.reduceMul, Nat.reduceSub, Nat.reduceLT, Nat.reduceLeDiff, Nat.reducePow, Int.reduceLT, Int.reduceLE, Int.reduceNeg, Int.reduceToNat]
    simp (dsimp := false) (maxDischargeDepth := 16) only [go_sem, ↓reduceIte, reduceCtorEq, Nat.reduceEqDiff, Nat.reduceAdd, Nat.reduceMul, Nat.reduceSub, Nat.reduceLT, Nat.reduceLeDiff, Nat.reducePow, Int.reduceLT, Int.reduceLE, Int.reduceNeg, Int.reduceToNat]
    refine loopK_intro (fun (j : Nat) s => j ≤ a.e.length ∧ s.t 0 = .box (0, 0, 0) 0 ∧ s.t 1 = lv nodes ∧ s.t 2 = lv l ∧ s.t 7 = .box (7, 0, 0) 0 ∧ s.b (7, 0, 0) = some ⟨[iv b.e[l.length].1, iv nodes[b.e[l.length].2.1.toNat], iv nodes[b.e[l.length].2.2.toNat]], false⟩ ∧
      s.t 78 = elv a.e ∧ s.t 79 = iv a.e.length ∧ s.t 80 = iv j ∧
      (cur j).length ≤ 2001 ∧ ∃ γ, s.b (0, 0, 0) = some ⟨gcs a ++ gcs b ++ [olvT (cur j) (.own (0, γ, 0))], false⟩ ∧ s.d (0, γ, 0) = false) (fun j => a.e.length - j) ?_ ?_
    · refine ⟨0, by omega, rfl, rfl, rfl, rfl, rfl, rfl, rfl, rfl, ?_, 1, ?_, ?_⟩
      · rw [q0]; exact ovE_len _ _ _ _ _ _ hout
      · rw [q0]
        simp (dsimp := false) (maxDischargeDepth := 16) only [go_sem, ↓reduceIte, reduceCtorEq, Nat.reduceEqDiff, Nat.reduceAdd, Nat.reduceMul, Nat.reduceSub, Nat.reduceLT, Nat.reduceLeDiff, Nat.reducePow, Int.reduceLT, Int.reduceLE, Int.reduceNeg, Int.reduceToNat]
      · simp (dsimp := false) (maxDischargeDepth := 16) only [go_sem, ↓reduceIte, reduceCtorEq, Nat.reduceEqDiff, Nat.reduceAdd, Nat.reduceMul, Nat.reduceSub, Nat.reduceLT, Nat.reduceLeDiff, Nat.reducePow, Int.reduceLT, Int.reduceLE, Int.reduceNeg, Int.reduceToNat]
    clear h1 h2
    rintro j s ⟨hj, t0, t1, t2, t7, b7, t78, t79, t80, hc, γ, b0, d0⟩
    simp (dsimp := false) (maxDischargeDepth := 16) only [go_sem, ↓reduceIte, reduceCtorEq, Nat.reduceEqDiff, Nat.reduceAdd, Nat.reduceMul, Nat.reduceSub, Nat.reduceLT, Nat.reduceLeDiff, Nat.reducePow, Int.reduceLT, Int.reduceLE, Int.reduceNeg, Int.reduceToNat, t0, t1, t2, t7, b7, t78, t79, t80, b0, d0]
    refine condK_dec (fun h6 => ?_) (fun h6 => ?_)
    · simp (dsimp := false) (maxDischargeDepth := 16) only [go_sem, ↓reduceIte, reduceCtorEq, Nat.reduceEqDiff, Nat.reduceAdd, Nat.reduceMul, Nat.reduceSub, Nat.reduceLT, Nat.reduceLeDiff, Nat.reducePow, Int.reduceLT, Int.reduceLE, Int.reduceNeg, Int.reduceToNat, t0, t1, t2, t7, b7, t78, t79, t80, b0, d0, h6, idx_nat]
      refine condK_intro (fun h7 => ?_) (fun h7 => ?_)
      · simp (dsimp := false) (maxDischargeDepth := 16) only [go_sem, ↓reduceIte, reduceCtorEq, Nat.reduceEqDiff, Nat.reduceAdd, Nat.reduceMul, Nat.reduceSub, Nat.reduceLT, Nat.reduceLeDiff, Nat.reducePow, Int.reduceLT, Int.reduceLE, Int.reduceNeg, Int.reduceToNat, t0, t1, t2, t7, b7, t78, t79, t80, b0, d0, h6, h7]
        refine callK_intro (c119 l j) ?_
        simp (dsimp := false) (maxDischargeDepth := 16) only [go_sem, ↓reduceIte, reduceCtorEq, Nat.reduceEqDiff, Nat.reduceAdd, Nat.reduceMul, Nat.reduceSub, Nat.reduceLT, Nat.reduceLeDiff, Nat.reducePow, Int.reduceLT, Int.reduceLE, Int.reduceNeg, Int.reduceToNat, t0, t1, t2, t7, b7, t78, t79, t80, b0, d0, h6, h7]
        refine condK_intro (fun h8 => ?_) (fun h8 => ?_)
        · simp (dsimp := false) (maxDischargeDepth := 16) only [go_sem, ↓reduceIte, reduceCtorEq, Nat.reduceEqDiff, Nat.reduceAdd, Nat.reduceMul, Nat.reduceSub, Nat.reduceLT, Nat.reduceLeDiff, Nat.reducePow, Int.reduceLT, Int.reduceLE, Int.reduceNeg, Int.reduceToNat, t0, t1, t2, t7, b7, t78, t79, t80, b0, d0, h6, h7, h8]
          refine callK_intro (c78 l (by omega)) ?_
          simp (dsimp := false) (maxDischargeDepth := 16) only [go_sem, ↓reduceIte, reduceCtorEq, Nat.reduceEqDiff, Nat.reduceAdd, Nat.reduceMul, Nat.reduceSub, Nat.reduceLT, Nat.reduceLeDiff, Nat.reducePow, Int.reduceLT, Int.reduceLE, Int.reduceNeg, Int.reduceToNat, t0, t1, t2, t7, b7, t78, t79, t80, b0, d0, h6, h7, h8]
          refine ⟨⟨by omega, by omega⟩, ?_⟩
          have ih2 := ih (l ++ [(j : Int)]) (cur j) (by simp; omega) hc
          simp only [lv, lvT, iv, map1_app] at ih2
          refine ecallK_intro (pre := gcs a ++ gcs b) (x := olvT (cur j) (.own (0, γ, 0))) rfl ?_ ih2 ?_
          · simp (dsimp := false) (maxDischargeDepth := 16) only [go_sem, ↓reduceIte, reduceCtorEq, Nat.reduceEqDiff, Nat.reduceAdd, Nat.reduceMul, Nat.reduceSub, Nat.reduceLT, Nat.reduceLeDiff, Nat.reducePow, Int.reduceLT, Int.reduceLE, Int.reduceNeg, Int.reduceToNat, d0]
          · simp (dsimp := false) (maxDischargeDepth := 16) only [go_sem, ↓reduceIte, reduceCtorEq, Nat.reduceEqDiff, Nat.reduceAdd, Nat.reduceMul, Nat.reduceSub, Nat.reduceLT, Nat.reduceLeDiff, Nat.reducePow, Int.reduceLT, Int.reduceLE, Int.reduceNeg, Int.reduceToNat, t0, t1, t2, t7, b7, t78, t79, t80, b0, d0, h6, h7, h8]
            have hst : cur (j + 1) = ovE a b nodes k (l ++ [(j : Int)]) (cur j) := by
              rw [q1]
              have hj1 : ((j + 1 : Nat) : Int) - 1 = j := by omega
              have : st (cur j) (j + 1) = ovE a b nodes k (l ++ [((j + 1 : Nat) : Int) - 1]) (cur j) := if_pos (by rw [getD_at h3, okE_nat h6 r1 r2, h7, h8]; rfl)
              rw [this, hj1]
            refine ⟨j + 1, by omega, by omega, by rw [wrapN _ (by omega)], ?_, s.g 0, ?_, ?_⟩
            · rw [hst]; exact ovE_len _ _ _ _ _ _ hc
            · rw [hst]
            · simp
        · simp (dsimp := false) (maxDischargeDepth := 16) only [go_sem, ↓reduceIte, reduceCtorEq, Nat.reduceEqDiff, Nat.reduceAdd, Nat.reduceMul, Nat.reduceSub, Nat.reduceLT, Nat.reduceLeDiff, Nat.reducePow, Int.reduceLT, Int.reduceLE, Int.reduceNeg, Int.reduceToNat, t0, t1, t2, t7, b7, t78, t79, t80, b0, d0, h6, h7, h8]
          have hst : cur (j + 1) = cur j := by
            rw [q1]
            exact if_neg (by rw [getD_at h3, okE_nat h6 r1 r2, h7, h8]; simp)
          exact ⟨j + 1, by omega, by omega, by rw [wrapN _ (by omega)], by rw [hst]; exact hc, γ, by rw [hst], d0⟩
      · simp (dsimp := false) (maxDischargeDepth := 16) only [go_sem, ↓reduceIte, reduceCtorEq, Nat.reduceEqDiff, Nat.reduceAdd, Nat.reduceMul, Nat.reduceSub, Nat.reduceLT, Nat.reduceLeDiff, Nat.reducePow, Int.reduceLT, Int.reduceLE, Int.reduceNeg, Int.reduceToNat, t0, t1, t2, t7, b7, t78, t79, t80, b0, d0, h6, h7]
        have hst : cur (j + 1) = cur j := by
          rw [q1]
          exact if_neg (by rw [getD_at h3, okE_nat h6 r1 r2, h7]; simp)
        exact ⟨j + 1, by omega, by omega, by rw [wrapN _ (by omega)], by rw [hst]; exact hc, γ, by rw [hst], d0⟩
    · simp (dsimp := false) (maxDischargeDepth := 16) only [go_sem, ↓reduceIte, reduceCtorEq, Nat.reduceEqDiff, Nat.reduceAdd, Nat.reduceMul, Nat.reduceSub, Nat.reduceLT, Nat.reduceLeDiff, Nat.reducePow, Int.reduceLT, Int.reduceLE, Int.reduceNeg, Int.reduceToNat, t0, t1, t2, t7, b7, t78, t79, t80, b0, d0, h6]
      have hj1 : j = a.e.length := by omega
      subst hj1
      rw [q2]
      refine ⟨.inl trivial, _, rfl, ?_, rfl⟩
      simp (dsimp := false) (maxDischargeDepth := 16) only [go_sem, ↓reduceIte, reduceCtorEq, Nat.reduceEqDiff, Nat.reduceAdd, Nat.reduceMul, Nat.reduceSub, Nat.reduceLT, Nat.reduceLeDiff, Nat.reducePow, Int.reduceLT, Int.reduceLE, Int.reduceNeg, Int.reduceToNat, d0]
end Go.Sy

/- Contracts: the program's own overlaps, by nodes; both lists of overlaps. -/
set_option linter.unusedSimpArgs false
namespace Go.Sy
open Go Go.Proofs

set_option maxRecDepth 20000 in
set_option maxHeartbeats 4000000 in
theorem c62 (a b : Gr) (hv : gErr a = 0) (ha : a.n.length ≤ 1000) (hae : a.e.length ≤ 1000) (hb : b.n.length ≤ 1000) (hbe : b.e.length ≤ 1000)
    (hR : ∀ x ∈ b.e, 0 ≤ x.2.1 ∧ x.2.1 < b.n.length ∧ 0 ≤ x.2.2 ∧ x.2.2 < b.n.length) :
    ∀ (k : Nat) (l : List Int) (out : List Ov), l.length + k = b.n.length → out.length ≤ 2001 →
      ECon Try.prog 62 [lv l] (gcs a ++ gcs b) (olvT out (.own (0, 0, 0))) .any (gcs a ++ gcs b) (olvT (ovN a b k l out) (.own (0, 0, 0)))
  | 0, l, out, hk, hout => by
    refine econT (X := []) (rs := []) Try.func62 (by kernel_rfl) rfl rfl (by kernel_rfl) ?_
    simp (dsimp := false) (maxDischargeDepth := 16) only [go_sem, ↓reduceIte, reduceCtorEq, Nat.reduceEqDiff, Nat.reduceAdd, Nat.reduceMul, Nat.reduceSub, Nat.reduceLT, Nat.reduceLeDiff, Nat.reducePow, Int.reduceLT, Int.reduceLE, Int.reduceNeg, Int.reduceToNat]
    refine condK_dec (fun h1 => ?_) (fun h1 => ?_)
    · simp (dsimp := false) (maxDischargeDepth := 16) only [go_sem, ↓reduceIte, reduceCtorEq, Nat.reduceEqDiff, Nat.reduceAdd, Nat.reduceMul, Nat.reduceSub, Nat.reduceLT, Nat.reduceLeDiff, Nat.reducePow, Int.reduceLT, Int.reduceLE, Int.reduceNeg, Int.reduceToNat, h1]
      refine ⟨.inl trivial, _, rfl, ?_, ?_⟩
      · simp (dsimp := false) (maxDischargeDepth := 16) only [go_sem, ↓reduceIte, reduceCtorEq, Nat.reduceEqDiff, Nat.reduceAdd, Nat.reduceMul, Nat.reduceSub, Nat.reduceLT, Nat.reduceLeDiff, Nat.reducePow, Int.reduceLT, Int.reduceLE, Int.reduceNeg, Int.reduceToNat]
      · simp (dsimp := false) (maxDischargeDepth := 16) only [go_sem, ↓reduceIte, reduceCtorEq, Nat.reduceEqDiff, Nat.reduceAdd, Nat.reduceMul, Nat.reduceSub, Nat.reduceLT, Nat.reduceLeDiff, Nat.reducePow, Int.reduceLT, Int.reduceLE, Int.reduceNeg, Int.reduceToNat]
        rw [ovN, if_pos (by omega)]
    simp (dsimp := false) (maxDischargeDepth := 16) only [go_sem, ↓reduceIte, reduceCtorEq, Nat.reduceEqDiff, Nat.reduceAdd, Nat.reduceMul, Nat.reduceSub, Nat.reduceLT, Nat.reduceLeDiff, Nat.reducePow, Int.reduceLT, Int.reduceLE, Int.reduceNeg, Int.reduceToNat, h1]
    refine condK_intro (fun h2 => ?_) (fun h2 => ?_)
    · simp (dsimp := false) (maxDischargeDepth := 16) only [go_sem, ↓reduceIte, reduceCtorEq, Nat.reduceEqDiff, Nat.reduceAdd, Nat.reduceMul, Nat.reduceSub, Nat.reduceLT, Nat.reduceLeDiff, Nat.reducePow, Int.reduceLT, Int.reduceLE, Int.reduceNeg, Int.reduceToNat, h1, h2]
      have h3 : l.length = b.n.length := by omega
      have ic := c118 a b l hv ha hae h3 hb hbe (by rw [h3]; exact hR) b.e.length [] out (by simp) hout
      simp only [lv, lvT, iv, List.map_nil] at ic
      refine ecallK_intro (pre := gcs a ++ gcs b) (x := olvT out (.own (0, 0, 0))) rfl ?_ ic ?_
      · simp (dsimp := false) (maxDischargeDepth := 16) only [go_sem, ↓reduceIte, reduceCtorEq, Nat.reduceEqDiff, Nat.reduceAdd, Nat.reduceMul, Nat.reduceSub, Nat.reduceLT, Nat.reduceLeDiff, Nat.reducePow, Int.reduceLT, Int.reduceLE, Int.reduceNeg, Int.reduceToNat]
      · simp (dsimp := false) (maxDischargeDepth := 16) only [go_sem, ↓reduceIte, reduceCtorEq, Nat.reduceEqDiff, Nat.reduceAdd, Nat.reduceMul, Nat.reduceSub, Nat.reduceLT, Nat.reduceLeDiff, Nat.reducePow, Int.reduceLT, Int.reduceLE, Int.reduceNeg, Int.reduceToNat, h1, h2]
        refine ⟨.inl trivial, _, rfl, ?_, ?_⟩
        · simp (dsimp := false) (maxDischargeDepth := 16) only [go_sem, ↓reduceIte, reduceCtorEq, Nat.reduceEqDiff, Nat.reduceAdd, Nat.reduceMul, Nat.reduceSub, Nat.reduceLT, Nat.reduceLeDiff, Nat.reducePow, Int.reduceLT, Int.reduceLE, Int.reduceNeg, Int.reduceToNat]
        · simp (dsimp := false) (maxDischargeDepth := 16) only [go_sem, ↓reduceIte, reduceCtorEq, Nat.reduceEqDiff, Nat.reduceAdd, Nat.reduceMul, Nat.reduceSub, Nat.reduceLT, Nat.reduceLeDiff, Nat.reducePow, Int.reduceLT, Int.reduceLE, Int.reduceNeg, Int.reduceToNat]
          rw [ovN, if_neg (by omega)]
    · exact absurd (beqF h2) (by simp; omega)
  | k + 1, l, out, hk, hout => by
    have ih := c62 a b hv ha hae hb hbe hR k
    refine econT (X := []) (rs := []) Try.func62 (by kernel_rfl) rfl rfl (by kernel_rfl) ?_
    simp (dsimp := false) (maxDischargeDepth := 16) only [go_sem, ↓reduceIte, reduceCtorEq, Nat.reduceEqDiff, Nat.reduceAdd, Nat.reduceMul, Nat.reduceSub, Nat.reduceLT, Nat.reduceLeDiff, Nat.reducePow, Int.reduceLT, Int.reduceLE, Int.reduceNeg, Int.reduceToNat]
    refine condK_dec (fun h1 => ?_) (fun h1 => ?_)
    · simp (dsimp := false) (maxDischargeDepth := 16) only [go_sem, ↓reduceIte, reduceCtorEq, Nat.reduceEqDiff, Nat.reduceAdd, Nat.reduceMul, Nat.reduceSub, Nat.reduceLT, Nat.reduceLeDiff, Nat.reducePow, Int.reduceLT, Int.reduceLE, Int.reduceNeg, Int.reduceToNat, h1]
      refine ⟨.inl trivial, _, rfl, ?_, ?_⟩
      · simp (dsimp := false) (maxDischargeDepth := 16) only [go_sem, ↓reduceIte, reduceCtorEq, Nat.reduceEqDiff, Nat.reduceAdd, Nat.reduceMul, Nat.reduceSub, Nat.reduceLT, Nat.reduceLeDiff, Nat.reducePow, Int.reduceLT, Int.reduceLE, Int.reduceNeg, Int.reduceToNat]
      · simp (dsimp := false) (maxDischargeDepth := 16) only [go_sem, ↓reduceIte, reduceCtorEq, Nat.reduceEqDiff, Nat.reduceAdd, Nat.reduceMul, Nat.reduceSub, Nat.reduceLT, Nat.reduceLeDiff, Nat.reducePow, Int.reduceLT, Int.reduceLE, Int.reduceNeg, Int.reduceToNat]
        rw [ovN, if_pos (by omega)]
    simp (dsimp := false) (maxDischargeDepth := 16) only [go_sem, ↓reduceIte, reduceCtorEq, Nat.reduceEqDiff, Nat.reduceAdd, Nat.reduceMul, Nat.reduceSub, Nat.reduceLT, Nat.reduceLeDiff, Nat.reducePow, Int.reduceLT, Int.reduceLE, Int.reduceNeg, Int.reduceToNat, h1]
    refine condK_intro (fun h2 => ?_) (fun h2 => ?_)
    · have := beqT h2
      omega
    have h3 : l.length < b.n.length := by omega
    simp (dsimp := false) (maxDischargeDepth := 16) only [go_sem, ↓reduceIte, reduceCtorEq, Nat.reduceEqDiff, Nat.reduceAdd, Nat.reduceMul, Nat.reduceSub, Nat.reduceLT, Nat.reduceLeDiff, Nat.reducePow, Int.reduceLT, Int.reduceLE, Int.reduceNeg, Int.reduceToNat, h1, h2]
    let st : List Ov → Nat → List Ov := fun out j => if okN a (b.n.getD l.length 0) l ((j : Int) - 1) then ovN a b k (l ++ [(j : Int) - 1]) out else out
    have hsp : ovN a b (k + 1) l out = (List.range (a.n.length + 1)).foldl st out := by rw [ovN, if_neg (by omega)]
    rw [hsp]
    generalize hF : (List.range (a.n.length + 1)).foldl st out = F
    refine callK_intro (c78 l (by omega)) ?_
    simp (dsimp := false) (maxDischargeDepth := 16) only [go_sem, ↓reduceIte, reduceCtorEq, Nat.reduceEqDiff, Nat.reduceAdd, Nat.reduceMul, Nat.reduceSub, Nat.reduceLT, Nat.reduceLeDiff, Nat.reducePow, Int.reduceLT, Int.reduceLE, Int.reduceNeg, Int.reduceToNat, h1, h2]
    refine ⟨⟨by omega, by omega⟩, ?_⟩
    have ih1 := ih (l ++ [-1]) out (by simp; omega) hout
    simp only [lv, lvT, iv, map1_app] at ih1
    have st0 : (List.range (0 + 1)).foldl st out = ovN a b k (l ++ [-1]) out := by
      rw [range_fold]
      exact if_pos (by simp [okN])
    obtain ⟨cur, q0, q1, q2⟩ : ∃ cur : Nat → List Ov, cur 0 = ovN a b k (l ++ [-1]) out ∧ (∀ j, cur (j + 1) = st (cur j) (j + 1)) ∧ cur a.n.length = F := ⟨fun j => (List.range (j + 1)).foldl st out, st0, fun j => range_fold _ _ _, hF⟩
    clear st0 hF hsp
    refine ecallK_intro (pre := gcs a ++ gcs b) (x := olvT out (.own (0, 0, 0))) rfl ?_ ih1 ?_
    · simp (dsimp := false) (maxDischargeDepth := 16) only [go_sem, ↓reduceIte, reduceCtorEq, Nat.reduceEqDiff, Nat.reduceAdd, Nat.reduceMul, Nat.reduceSub, Nat.reduceLT, Nat.reduceLeDiff, Nat.reducePow, Int.reduceLT, Int.reduceLE, Int.reduceNeg, Int.reduceToNat]
    simp (dsimp := false) (maxDischargeDepth := 16) only [go_sem, ↓reduceIte, reduceCtorEq, Nat.reduceEqDiff, Nat.reduceAdd, Nat.reduceMul, Nat.reduceSub, Nat.reduceLT, Nat.reduceLeDiff, Nat.reducePow, Int.reduceLT, Int.reduceLE, Int.reduceNeg, Int.reduceToNat]
    refine loopK_intro (fun (j : Nat) s => j ≤ a.n.length ∧ s.t 0 = .box (0, 0, 0) 0 ∧ s.t 1 = lv l ∧
      s.t 34 = lv a.n ∧ s.t 35 = iv a.n.length ∧ s.t 36 = iv j ∧
      (cur j).length ≤ 2001 ∧ ∃ γ, s.b (0, 0, 0) = some ⟨gcs a ++ gcs b ++ [olvT (cur j) (.own (0, γ, 0))], false⟩ ∧ s.d (0, γ, 0) = false) (fun j => a.n.length - j) ?_ ?_
    · refine ⟨0, by omega, rfl, rfl, rfl, rfl, rfl, ?_, 1, ?_, ?_⟩
      · rw [q0]; exact ovN_len _ _ _ _ _ hout
      · rw [q0]
        simp (dsimp := false) (maxDischargeDepth := 16) only [go_sem, ↓reduceIte, reduceCtorEq, Nat.reduceEqDiff, Nat.reduceAdd, Nat.reduceMul, Nat.reduceSub, Nat.reduceLT, Nat.reduceLeDiff, Nat.reducePow, Int.reduceLT, Int.reduceLE, Int.reduceNeg, Int.reduceToNat]
      · simp (dsimp := false) (maxDischargeDepth := 16) only [go_sem, ↓reduceIte, reduceCtorEq, Nat.reduceEqDiff, Nat.reduceAdd, Nat.reduceMul, Nat.reduceSub, Nat.reduceLT, Nat.reduceLeDiff, Nat.reducePow, Int.reduceLT, Int.reduceLE, Int.reduceNeg, Int.reduceToNat]
    clear h1 h2
    rintro j s ⟨hj, t0, t1, t34, t35, t36, hc, γ, b0, d0⟩
    simp (dsimp := false) (maxDischargeDepth := 16) only [go_sem, ↓reduceIte, reduceCtorEq, Nat.reduceEqDiff, Nat.reduceAdd, Nat.reduceMul, Nat.reduceSub, Nat.reduceLT, Nat.reduceLeDiff, Nat.reducePow, Int.reduceLT, Int.reduceLE, Int.reduceNeg, Int.reduceToNat, t0, t1, t34, t35, t36, b0, d0]
    refine condK_dec (fun h6 => ?_) (fun h6 => ?_)
    · simp (dsimp := false) (maxDischargeDepth := 16) only [go_sem, ↓reduceIte, reduceCtorEq, Nat.reduceEqDiff, Nat.reduceAdd, Nat.reduceMul, Nat.reduceSub, Nat.reduceLT, Nat.reduceLeDiff, Nat.reducePow, Int.reduceLT, Int.reduceLE, Int.reduceNeg, Int.reduceToNat, t0, t1, t34, t35, t36, b0, d0, h6, h3, idx_nat]
      refine condK_intro (fun h7 => ?_) (fun h7 => ?_)
      · simp (dsimp := false) (maxDischargeDepth := 16) only [go_sem, ↓reduceIte, reduceCtorEq, Nat.reduceEqDiff, Nat.reduceAdd, Nat.reduceMul, Nat.reduceSub, Nat.reduceLT, Nat.reduceLeDiff, Nat.reducePow, Int.reduceLT, Int.reduceLE, Int.reduceNeg, Int.reduceToNat, t0, t1, t34, t35, t36, b0, d0, h6, h7]
        refine callK_intro (c119 l j) ?_
        simp (dsimp := false) (maxDischargeDepth := 16) only [go_sem, ↓reduceIte, reduceCtorEq, Nat.reduceEqDiff, Nat.reduceAdd, Nat.reduceMul, Nat.reduceSub, Nat.reduceLT, Nat.reduceLeDiff, Nat.reducePow, Int.reduceLT, Int.reduceLE, Int.reduceNeg, Int.reduceToNat, t0, t1, t34, t35, t36, b0, d0, h6, h7]
        refine condK_intro (fun h8 => ?_) (fun h8 => ?_)
        · simp (dsimp := false) (maxDischargeDepth := 16) only [go_sem, ↓reduceIte, reduceCtorEq, Nat.reduceEqDiff, Nat.reduceAdd, Nat.reduceMul, Nat.reduceSub, Nat.reduceLT, Nat.reduceLeDiff, Nat.reducePow, Int.reduceLT, Int.reduceLE, Int.reduceNeg, Int.reduceToNat, t0, t1, t34, t35, t36, b0, d0, h6, h7, h8]
          refine callK_intro (c78 l (by omega)) ?_
          simp (dsimp := false) (maxDischargeDepth := 16) only [go_sem, ↓reduceIte, reduceCtorEq, Nat.reduceEqDiff, Nat.reduceAdd, Nat.reduceMul, Nat.reduceSub, Nat.reduceLT, Nat.reduceLeDiff, Nat.reducePow, Int.reduceLT, Int.reduceLE, Int.reduceNeg, Int.reduceToNat, t0, t1, t34, t35, t36, b0, d0, h6, h7, h8]
          refine ⟨⟨by omega, by omega⟩, ?_⟩
          have ih2 := ih (l ++ [(j : Int)]) (cur j) (by simp; omega) hc
          simp only [lv, lvT, iv, map1_app] at ih2
          refine ecallK_intro (pre := gcs a ++ gcs b) (x := olvT (cur j) (.own (0, γ, 0))) rfl ?_ ih2 ?_
          · simp (dsimp := false) (maxDischargeDepth := 16) only [go_sem, ↓reduceIte, reduceCtorEq, Nat.reduceEqDiff, Nat.reduceAdd, Nat.reduceMul, Nat.reduceSub, Nat.reduceLT, Nat.reduceLeDiff, Nat.reducePow, Int.reduceLT, Int.reduceLE, Int.reduceNeg, Int.reduceToNat, d0]
          · simp (dsimp := false) (maxDischargeDepth := 16) only [go_sem, ↓reduceIte, reduceCtorEq, Nat.reduceEqDiff, Nat.reduceAdd, Nat.reduceMul, Nat.reduceSub, Nat.reduceLT, Nat.reduceLeDiff, Nat.reducePow, Int.reduceLT, Int.reduceLE, Int.reduceNeg, Int.reduceToNat, t0, t1, t34, t35, t36, b0, d0, h6, h7, h8]
            have hst : cur (j + 1) = ovN a b k (l ++ [(j : Int)]) (cur j) := by
              rw [q1]
              have hj1 : ((j + 1 : Nat) : Int) - 1 = j := by omega
              have : st (cur j) (j + 1) = ovN a b k (l ++ [((j + 1 : Nat) : Int) - 1]) (cur j) := if_pos (by rw [getD_at h3, okN_nat h6, h7, h8]; rfl)
              rw [this, hj1]
            refine ⟨j + 1, by omega, by omega, by rw [wrapN _ (by omega)], ?_, s.g 0, ?_, ?_⟩
            · rw [hst]; exact ovN_len _ _ _ _ _ hc
            · rw [hst]
            · simp
        · simp (dsimp := false) (maxDischargeDepth := 16) only [go_sem, ↓reduceIte, reduceCtorEq, Nat.reduceEqDiff, Nat.reduceAdd, Nat.reduceMul, Nat.reduceSub, Nat.reduceLT, Nat.reduceLeDiff, Nat.reducePow, Int.reduceLT, Int.reduceLE, Int.reduceNeg, Int.reduceToNat, t0, t1, t34, t35, t36, b0, d0, h6, h7, h8]
          have hst : cur (j + 1) = cur j := by
            rw [q1]
            exact if_neg (by rw [getD_at h3, okN_nat h6, h7, h8]; simp)
          exact ⟨j + 1, by omega, by omega, by rw [wrapN _ (by omega)], by rw [hst]; exact hc, γ, by rw [hst], d0⟩
      · simp (dsimp := false) (maxDischargeDepth := 16) only [go_sem, ↓reduceIte, reduceCtorEq, Nat.reduceEqDiff, Nat.reduceAdd, Nat.reduceMul, Nat.reduceSub, Nat.reduceLT, Nat.reduceLeDiff, Nat.reducePow, Int.reduceLT, Int.reduceLE, Int.reduceNeg, Int.reduceToNat, t0, t1, t34, t35, t36, b0, d0, h6, h7]
        have hst : cur (j + 1) = cur j := by
          rw [q1]
          exact if_neg (by rw [getD_at h3, okN_nat h6, h7]; simp)
        exact ⟨j + 1, by omega, by omega, by rw [wrapN _ (by omega)], by rw [hst]; exact hc, γ, by rw [hst], d0⟩
    · simp (dsimp := false) (maxDischargeDepth := 16) only [go_sem, ↓reduceIte, reduceCtorEq, Nat.reduceEqDiff, Nat.reduceAdd, Nat.reduceMul, Nat.reduceSub, Nat.reduceLT, Nat.reduceLeDiff, Nat.reducePow, Int.reduceLT, Int.reduceLE, Int.reduceNeg, Int.reduceToNat, t0, t1, t34, t35, t36, b0, d0, h6]
      have hj1 : j = a.n.length := by omega
      subst hj1
      rw [q2]
      refine ⟨.inl trivial, _, rfl, ?_, rfl⟩
      simp (dsimp := false) (maxDischargeDepth := 16) only [go_sem, ↓reduceIte, reduceCtorEq, Nat.reduceEqDiff, Nat.reduceAdd, Nat.reduceMul, Nat.reduceSub, Nat.reduceLT, Nat.reduceLeDiff, Nat.reducePow, Int.reduceLT, Int.reduceLE, Int.reduceNeg, Int.reduceToNat, d0]
/-- The overlaps and the error. -/
def ovS (a b : Gr) : List Ov × Int := if gErr a ≠ 0 then ([], gErr a) else if gErr b ≠ 0 then ([], gErr b) else if 40 < a.n.length + b.n.length ∨ 80 < a.e.length + b.e.length then ([], 3) else
  if 2000 < (ovN a b b.n.length [] []).length then ([], 3) else (ovN a b b.n.length [] [], 0)
theorem gErr_small {g : Gr} (h : gErr g = 0) : (g.n.length ≤ 40 ∧ g.e.length ≤ 80) ∧ gIn g := by
  unfold gErr at h
  split at h
  · rename_i h1
    split at h
    · exact ⟨h1, by assumption⟩
    · simp at h
  · simp at h
theorem c20 (a b : Gr) : Con Try.prog 20 [gv a, gv b] 0 (.tup [olv (ovS a b).1, iv (ovS a b).2]) := by
  refine conT (X := []) (rs := [.tmp 4, .tmp 5]) Try.func20 (by kernel_rfl) rfl rfl (by kernel_rfl) ?_
  simp (dsimp := false) (maxDischargeDepth := 16) only [go_sem, ↓reduceIte, reduceCtorEq, Nat.reduceEqDiff, Nat.reduceAdd, Nat.reduceMul, Nat.reduceSub, Nat.reduceLT, Nat.reduceLeDiff, Nat.reducePow, Int.reduceLT, Int.reduceLE, Int.reduceNeg, Int.reduceToNat]
  refine callK_intro (c60 a) ?_
  simp (dsimp := false) (maxDischargeDepth := 16) only [go_sem, ↓reduceIte, reduceCtorEq, Nat.reduceEqDiff, Nat.reduceAdd, Nat.reduceMul, Nat.reduceSub, Nat.reduceLT, Nat.reduceLeDiff, Nat.reducePow, Int.reduceLT, Int.reduceLE, Int.reduceNeg, Int.reduceToNat]
  refine condK_intro (fun h1 => ?_) (fun h1 => ?_)
  · simp (dsimp := false) (maxDischargeDepth := 16) only [go_sem, ↓reduceIte, reduceCtorEq, Nat.reduceEqDiff, Nat.reduceAdd, Nat.reduceMul, Nat.reduceSub, Nat.reduceLT, Nat.reduceLeDiff, Nat.reducePow, Int.reduceLT, Int.reduceLE, Int.reduceNeg, Int.reduceToNat, h1]
    have h : ovS a b = ([], gErr a) := if_pos (ineq h1)
    rw [h]
    exact finK ⟨rfl, rfl⟩
  have g1 := ieq h1
  obtain ⟨⟨p1, p2⟩, p3⟩ := gErr_small g1
  simp (dsimp := false) (maxDischargeDepth := 16) only [go_sem, ↓reduceIte, reduceCtorEq, Nat.reduceEqDiff, Nat.reduceAdd, Nat.reduceMul, Nat.reduceSub, Nat.reduceLT, Nat.reduceLeDiff, Nat.reducePow, Int.reduceLT, Int.reduceLE, Int.reduceNeg, Int.reduceToNat, h1]
  refine callK_intro (c60 b) ?_
  simp (dsimp := false) (maxDischargeDepth := 16) only [go_sem, ↓reduceIte, reduceCtorEq, Nat.reduceEqDiff, Nat.reduceAdd, Nat.reduceMul, Nat.reduceSub, Nat.reduceLT, Nat.reduceLeDiff, Nat.reducePow, Int.reduceLT, Int.reduceLE, Int.reduceNeg, Int.reduceToNat, h1]
  refine condK_intro (fun h2 => ?_) (fun h2 => ?_)
  · simp (dsimp := false) (maxDischargeDepth := 16) only [go_sem, ↓reduceIte, reduceCtorEq, Nat.reduceEqDiff, Nat.reduceAdd, Nat.reduceMul, Nat.reduceSub, Nat.reduceLT, Nat.reduceLeDiff, Nat.reducePow, Int.reduceLT, Int.reduceLE, Int.reduceNeg, Int.reduceToNat, h1, h2]
    have h : ovS a b = ([], gErr b) := by rw [ovS, if_neg (by simp [g1]), if_pos (ineq h2)]
    rw [h]
    exact finK ⟨rfl, rfl⟩
  have g2 := ieq h2
  obtain ⟨⟨p4, p5⟩, p6⟩ := gErr_small g2
  have w1 : IntKind.i64.wrap ((a.n.length : Int) + b.n.length) = (a.n.length : Int) + b.n.length := wrap_i64 _ (by omega) (by omega)
  have w2 : IntKind.i64.wrap ((a.e.length : Int) + b.e.length) = (a.e.length : Int) + b.e.length := wrap_i64 _ (by omega) (by omega)
  simp (dsimp := false) (maxDischargeDepth := 16) only [go_sem, ↓reduceIte, reduceCtorEq, Nat.reduceEqDiff, Nat.reduceAdd, Nat.reduceMul, Nat.reduceSub, Nat.reduceLT, Nat.reduceLeDiff, Nat.reducePow, Int.reduceLT, Int.reduceLE, Int.reduceNeg, Int.reduceToNat, h1, h2, w1, w2]
  have hbig : ∀ o, (40 < a.n.length + b.n.length ∨ 80 < a.e.length + b.e.length) → o = ovS a b → o = ([], 3) := fun o h ho => by
    rw [ho, ovS, if_neg (by simp [g1]), if_neg (by simp [g2]), if_pos h]
  refine condK_dec (fun h3 => ?_) (fun h3 => ?_)
  · simp (dsimp := false) (maxDischargeDepth := 16) only [go_sem, ↓reduceIte, reduceCtorEq, Nat.reduceEqDiff, Nat.reduceAdd, Nat.reduceMul, Nat.reduceSub, Nat.reduceLT, Nat.reduceLeDiff, Nat.reducePow, Int.reduceLT, Int.reduceLE, Int.reduceNeg, Int.reduceToNat, h1, h2, h3]
    rw [hbig _ (by omega) rfl]
    exact finK ⟨rfl, rfl⟩
  simp (dsimp := false) (maxDischargeDepth := 16) only [go_sem, ↓reduceIte, reduceCtorEq, Nat.reduceEqDiff, Nat.reduceAdd, Nat.reduceMul, Nat.reduceSub, Nat.reduceLT, Nat.reduceLeDiff, Nat.reducePow, Int.reduceLT, Int.reduceLE, Int.reduceNeg, Int.reduceToNat, h1, h2, h3, w2]
  refine condK_dec (fun h4 => ?_) (fun h4 => ?_)
  · simp (dsimp := false) (maxDischargeDepth := 16) only [go_sem, ↓reduceIte, reduceCtorEq, Nat.reduceEqDiff, Nat.reduceAdd, Nat.reduceMul, Nat.reduceSub, Nat.reduceLT, Nat.reduceLeDiff, Nat.reducePow, Int.reduceLT, Int.reduceLE, Int.reduceNeg, Int.reduceToNat, h1, h2, h3, h4]
    rw [hbig _ (by omega) rfl]
    exact finK ⟨rfl, rfl⟩
  simp (dsimp := false) (maxDischargeDepth := 16) only [go_sem, ↓reduceIte, reduceCtorEq, Nat.reduceEqDiff, Nat.reduceAdd, Nat.reduceMul, Nat.reduceSub, Nat.reduceLT, Nat.reduceLeDiff, Nat.reducePow, Int.reduceLT, Int.reduceLE, Int.reduceNeg, Int.reduceToNat, h1, h2, h3, h4]
  have ic := c63 a b (by omega) (by omega) (by omega) (by omega) (fun x hx => (p6.2 x hx).2) b.n.length [] [] (by simp) (by simp)
  simp only [lv, lvT, iv, List.map_nil] at ic
  refine ecallK_intro (pre := gcs a ++ gcs b) (x := olvT [] .nil) rfl ?_ ic ?_
  · simp (dsimp := false) (maxDischargeDepth := 16) only [go_sem, ↓reduceIte, reduceCtorEq, Nat.reduceEqDiff, Nat.reduceAdd, Nat.reduceMul, Nat.reduceSub, Nat.reduceLT, Nat.reduceLeDiff, Nat.reducePow, Int.reduceLT, Int.reduceLE, Int.reduceNeg, Int.reduceToNat]
  have hl := ovN_len a b b.n.length [] [] (by simp)
  generalize hO : ovN a b b.n.length [] [] = O at *
  simp (dsimp := false) (maxDischargeDepth := 16) only [go_sem, ↓reduceIte, reduceCtorEq, Nat.reduceEqDiff, Nat.reduceAdd, Nat.reduceMul, Nat.reduceSub, Nat.reduceLT, Nat.reduceLeDiff, Nat.reducePow, Int.reduceLT, Int.reduceLE, Int.reduceNeg, Int.reduceToNat, h1, h2, h3, h4]
  refine condK_dec (fun h5 => ?_) (fun h5 => ?_)
  · simp (dsimp := false) (maxDischargeDepth := 16) only [go_sem, ↓reduceIte, reduceCtorEq, Nat.reduceEqDiff, Nat.reduceAdd, Nat.reduceMul, Nat.reduceSub, Nat.reduceLT, Nat.reduceLeDiff, Nat.reducePow, Int.reduceLT, Int.reduceLE, Int.reduceNeg, Int.reduceToNat, h1, h2, h3, h4, h5]
    have h : ovS a b = ([], 3) := by rw [ovS, if_neg (by simp [g1]), if_neg (by simp [g2]), if_neg (by omega), hO, if_pos (by omega)]
    rw [h]
    exact finK ⟨rfl, rfl⟩
  · simp (dsimp := false) (maxDischargeDepth := 16) only [go_sem, ↓reduceIte, reduceCtorEq, Nat.reduceEqDiff, Nat.reduceAdd, Nat.reduceMul, Nat.reduceSub, Nat.reduceLT, Nat.reduceLeDiff, Nat.reducePow, Int.reduceLT, Int.reduceLE, Int.reduceNeg, Int.reduceToNat, h1, h2, h3, h4, h5]
    have h : ovS a b = (O, 0) := by rw [ovS, if_neg (by simp [g1]), if_neg (by simp [g2]), if_neg (by omega), hO, if_neg (by omega)]
    rw [h]
    exact finK ⟨rfl, rfl⟩
theorem c21 (x y : List Ov) : Con Try.prog 21 [olv x, olv y] 0 (bv (decide (x = y))) := by
  refine Con.assume (enters_of Try.func21 (by kernel_rfl) rfl) fun hb => ?_
  have hlen : (x.length : Int) ≤ 9223372036854775807 := by
    have := (hb _ (List.mem_cons_self ..)).1
    simpa using this
  refine conT (X := []) (rs := [.tmp 4]) Try.func21 (by kernel_rfl) rfl rfl (by kernel_rfl) ?_
  simp (dsimp := false) (maxDischargeDepth := 16) only [go_sem, ↓reduceIte, reduceCtorEq, Nat.reduceEqDiff, Nat.reduceAdd, Nat.reduceMul, Nat.reduceSub, Nat.reduceLT, Nat.reduceLeDiff, Nat.reducePow, Int.reduceLT, Int.reduceLE, Int.reduceNeg, Int.reduceToNat]
  refine condK_intro (fun h1 => ?_) (fun h1 => ?_)
  · simp (dsimp := false) (maxDischargeDepth := 16) only [go_sem, ↓reduceIte, reduceCtorEq, Nat.reduceEqDiff, Nat.reduceAdd, Nat.reduceMul, Nat.reduceSub, Nat.reduceLT, Nat.reduceLeDiff, Nat.reducePow, Int.reduceLT, Int.reduceLE, Int.reduceNeg, Int.reduceToNat, h1]
    exact finF' (fun h => by simp [h] at h1)
  have h1' : x.length = y.length := by have : (x.length : Int) = y.length := by simpa using h1
                                       omega
  simp (dsimp := false) (maxDischargeDepth := 16) only [go_sem, ↓reduceIte, reduceCtorEq, Nat.reduceEqDiff, Nat.reduceAdd, Nat.reduceMul, Nat.reduceSub, Nat.reduceLT, Nat.reduceLeDiff, Nat.reducePow, Int.reduceLT, Int.reduceLE, Int.reduceNeg, Int.reduceToNat, h1]
  refine loopK_intro (fun (i : Nat) s => i ≤ x.length ∧ s.t 0 = olv x ∧ s.t 1 = olv y ∧ s.t 5 = iv i ∧ ∀ j, j < i → x[j]? = y[j]?) (fun i => x.length - i) ⟨0, by omega, rfl, rfl, rfl, fun j hj => by omega⟩ ?_
  rintro i s ⟨hi, h0, h1, h5, hn⟩
  simp (dsimp := false) (maxDischargeDepth := 16) only [go_sem, ↓reduceIte, reduceCtorEq, Nat.reduceEqDiff, Nat.reduceAdd, Nat.reduceMul, Nat.reduceSub, Nat.reduceLT, Nat.reduceLeDiff, Nat.reducePow, Int.reduceLT, Int.reduceLE, Int.reduceNeg, Int.reduceToNat, h0, h1, h5]
  refine condK_dec (fun h6 => ?_) (fun h6 => ?_)
  · have h7 : i < y.length := by omega
    simp (dsimp := false) (maxDischargeDepth := 16) only [go_sem, ↓reduceIte, reduceCtorEq, Nat.reduceEqDiff, Nat.reduceAdd, Nat.reduceMul, Nat.reduceSub, Nat.reduceLT, Nat.reduceLeDiff, Nat.reducePow, Int.reduceLT, Int.reduceLE, Int.reduceNeg, Int.reduceToNat, h0, h1, h5, h6, h7, idx_nat]
    refine callK_intro (c32 _ _) ?_
    simp (dsimp := false) (maxDischargeDepth := 16) only [go_sem, ↓reduceIte, reduceCtorEq, Nat.reduceEqDiff, Nat.reduceAdd, Nat.reduceMul, Nat.reduceSub, Nat.reduceLT, Nat.reduceLeDiff, Nat.reducePow, Int.reduceLT, Int.reduceLE, Int.reduceNeg, Int.reduceToNat, h0, h1, h5, h6, h7]
    refine condK_intro (fun h8 => ?_) (fun h8 => ?_)
    · simp (dsimp := false) (maxDischargeDepth := 16) only [go_sem, ↓reduceIte, reduceCtorEq, Nat.reduceEqDiff, Nat.reduceAdd, Nat.reduceMul, Nat.reduceSub, Nat.reduceLT, Nat.reduceLeDiff, Nat.reducePow, Int.reduceLT, Int.reduceLE, Int.reduceNeg, Int.reduceToNat, h0, h1, h5, h6, h7, h8]
      refine finF' (fun h => ?_)
      subst h
      simp at h8
    · simp (dsimp := false) (maxDischargeDepth := 16) only [go_sem, ↓reduceIte, reduceCtorEq, Nat.reduceEqDiff, Nat.reduceAdd, Nat.reduceMul, Nat.reduceSub, Nat.reduceLT, Nat.reduceLeDiff, Nat.reducePow, Int.reduceLT, Int.reduceLE, Int.reduceNeg, Int.reduceToNat, h0, h1, h5, h6, h7, h8]
      refine ⟨i + 1, by omega, by omega, by rw [wrapN _ (by omega)], fun j hj => ?_⟩
      by_cases hji : j = i
      · subst hji
        rw [List.getElem?_eq_getElem h6, List.getElem?_eq_getElem h7]
        simpa using h8
      · exact hn j (by omega)
  · simp (dsimp := false) (maxDischargeDepth := 16) only [go_sem, ↓reduceIte, reduceCtorEq, Nat.reduceEqDiff, Nat.reduceAdd, Nat.reduceMul, Nat.reduceSub, Nat.reduceLT, Nat.reduceLeDiff, Nat.reducePow, Int.reduceLT, Int.reduceLE, Int.reduceNeg, Int.reduceToNat, h0, h1, h5, h6]
    refine finT (List.ext_getElem? fun j => ?_)
    by_cases hj : j < i
    · exact hn j hj
    · rw [List.getElem?_eq_none (by omega), List.getElem?_eq_none (by omega)]
end Go.Sy

/- Contracts: factor.Overlaps. -/
set_option linter.unusedSimpArgs false
namespace Go.Sy
open Go Go.Proofs

theorem c18 (a b : Gr) : Con Try.prog 18 [gv a, gv b] 0 (.tup [olv (ovS a b).1, iv (ovS a b).2]) := by
  refine conT (X := []) (rs := [.tmp 4, .tmp 5]) Try.func18 (by kernel_rfl) rfl rfl (by kernel_rfl) ?_
  simp (dsimp := false) (maxDischargeDepth := 16) only [go_sem, ↓reduceIte, reduceCtorEq, Nat.reduceEqDiff, Nat.reduceAdd, Nat.reduceMul, Nat.reduceSub, Nat.reduceLT, Nat.reduceLeDiff, Nat.reducePow, Int.reduceLT, Int.reduceLE, Int.reduceNeg, Int.reduceToNat]
  refine loopK_intro (fun (i : Nat) s => s.t 2 = .box (2, 0, 0) 0 ∧ s.b (2, 0, 0) = some ⟨gcs a, false⟩ ∧ s.t 3 = .box (3, 0, 0) 0 ∧ s.b (3, 0, 0) = some ⟨gcs b, false⟩ ∧ (∃ tk, s.t 12 = .list 2 [gcs a, gcs b] tk) ∧ s.t 13 = iv 2 ∧
    (i = 0 ∧ s.t 14 = iv 0 ∨ i = 1 ∧ s.t 14 = iv 1 ∧ gErr a = 0 ∨ i = 2 ∧ s.t 14 = iv 2 ∧ gErr a = 0 ∧ gErr b = 0)) (fun i => 2 - i) ⟨0, rfl, rfl, rfl, rfl, ⟨_, rfl⟩, rfl, .inl ⟨rfl, rfl⟩⟩ ?_
  rintro i s ⟨t2, b2, t3, b3, ⟨tk, t12⟩, t13, h⟩
  rcases h with ⟨rfl, t14⟩ | ⟨rfl, t14, g1⟩ | ⟨rfl, t14, g1, g2⟩
  · simp (dsimp := false) (maxDischargeDepth := 16) only [go_sem, ↓reduceIte, reduceCtorEq, Nat.reduceEqDiff, Nat.reduceAdd, Nat.reduceMul, Nat.reduceSub, Nat.reduceLT, Nat.reduceLeDiff, Nat.reducePow, Int.reduceLT, Int.reduceLE, Int.reduceNeg, Int.reduceToNat, t2, b2, t3, b3, t12, t13, t14, idx_int, List.getElem_cons_zero]
    refine callK_intro (c61 a) ?_
    simp (dsimp := false) (maxDischargeDepth := 16) only [go_sem, ↓reduceIte, reduceCtorEq, Nat.reduceEqDiff, Nat.reduceAdd, Nat.reduceMul, Nat.reduceSub, Nat.reduceLT, Nat.reduceLeDiff, Nat.reducePow, Int.reduceLT, Int.reduceLE, Int.reduceNeg, Int.reduceToNat, t2, b2, t3, b3, t12, t13, t14]
    refine condK_intro (fun h1 => ?_) (fun h1 => ?_)
    · simp (dsimp := false) (maxDischargeDepth := 16) only [go_sem, ↓reduceIte, reduceCtorEq, Nat.reduceEqDiff, Nat.reduceAdd, Nat.reduceMul, Nat.reduceSub, Nat.reduceLT, Nat.reduceLeDiff, Nat.reducePow, Int.reduceLT, Int.reduceLE, Int.reduceNeg, Int.reduceToNat, t2, b2, t3, b3, t12, t13, t14, h1]
      have h : ovS a b = ([], gErr a) := if_pos (ineq h1)
      rw [h]
      exact finK ⟨rfl, rfl⟩
    · simp (dsimp := false) (maxDischargeDepth := 16) only [go_sem, ↓reduceIte, reduceCtorEq, Nat.reduceEqDiff, Nat.reduceAdd, Nat.reduceMul, Nat.reduceSub, Nat.reduceLT, Nat.reduceLeDiff, Nat.reducePow, Int.reduceLT, Int.reduceLE, Int.reduceNeg, Int.reduceToNat, t2, b2, t3, b3, t12, t13, t14, h1]
      exact ⟨1, by decide, ⟨tk, rfl⟩, .inr (.inl ⟨rfl, by rw [wrap_i64 _ (by decide) (by decide)]; rfl, ieq h1⟩)⟩
  · simp (dsimp := false) (maxDischargeDepth := 16) only [go_sem, ↓reduceIte, reduceCtorEq, Nat.reduceEqDiff, Nat.reduceAdd, Nat.reduceMul, Nat.reduceSub, Nat.reduceLT, Nat.reduceLeDiff, Nat.reducePow, Int.reduceLT, Int.reduceLE, Int.reduceNeg, Int.reduceToNat, t2, b2, t3, b3, t12, t13, t14, idx_int, List.getElem_cons_zero, List.getElem_cons_succ]
    refine callK_intro (c61 b) ?_
    simp (dsimp := false) (maxDischargeDepth := 16) only [go_sem, ↓reduceIte, reduceCtorEq, Nat.reduceEqDiff, Nat.reduceAdd, Nat.reduceMul, Nat.reduceSub, Nat.reduceLT, Nat.reduceLeDiff, Nat.reducePow, Int.reduceLT, Int.reduceLE, Int.reduceNeg, Int.reduceToNat, t2, b2, t3, b3, t12, t13, t14]
    refine condK_intro (fun h1 => ?_) (fun h1 => ?_)
    · simp (dsimp := false) (maxDischargeDepth := 16) only [go_sem, ↓reduceIte, reduceCtorEq, Nat.reduceEqDiff, Nat.reduceAdd, Nat.reduceMul, Nat.reduceSub, Nat.reduceLT, Nat.reduceLeDiff, Nat.reducePow, Int.reduceLT, Int.reduceLE, Int.reduceNeg, Int.reduceToNat, t2, b2, t3, b3, t12, t13, t14, h1]
      have h : ovS a b = ([], gErr b) := by rw [ovS, if_neg (by simp [g1]), if_pos (ineq h1)]
      rw [h]
      exact finK ⟨rfl, rfl⟩
    · simp (dsimp := false) (maxDischargeDepth := 16) only [go_sem, ↓reduceIte, reduceCtorEq, Nat.reduceEqDiff, Nat.reduceAdd, Nat.reduceMul, Nat.reduceSub, Nat.reduceLT, Nat.reduceLeDiff, Nat.reducePow, Int.reduceLT, Int.reduceLE, Int.reduceNeg, Int.reduceToNat, t2, b2, t3, b3, t12, t13, t14, h1]
      exact ⟨2, by decide, ⟨tk, rfl⟩, .inr (.inr ⟨rfl, by rw [wrap_i64 _ (by decide) (by decide)]; rfl, g1, ieq h1⟩)⟩
  obtain ⟨⟨p1, p2⟩, p3⟩ := gErr_small g1
  obtain ⟨⟨p4, p5⟩, p6⟩ := gErr_small g2
  have w1 : IntKind.i64.wrap ((a.n.length : Int) + b.n.length) = (a.n.length : Int) + b.n.length := wrap_i64 _ (by omega) (by omega)
  have w2 : IntKind.i64.wrap ((a.e.length : Int) + b.e.length) = (a.e.length : Int) + b.e.length := wrap_i64 _ (by omega) (by omega)
  simp (dsimp := false) (maxDischargeDepth := 16) only [go_sem, ↓reduceIte, reduceCtorEq, Nat.reduceEqDiff, Nat.reduceAdd, Nat.reduceMul, Nat.reduceSub, Nat.reduceLT, Nat.reduceLeDiff, Nat.reducePow, Int.reduceLT, Int.reduceLE, Int.reduceNeg, Int.reduceToNat, t2, b2, t3, b3, t12, t13, t14, w1]
  have hbig : ∀ o, (40 < a.n.length + b.n.length ∨ 80 < a.e.length + b.e.length) → o = ovS a b → o = ([], 3) := fun o h ho => by
    rw [ho, ovS, if_neg (by simp [g1]), if_neg (by simp [g2]), if_pos h]
  refine condK_dec (fun h3 => ?_) (fun h3 => ?_)
  · simp (dsimp := false) (maxDischargeDepth := 16) only [go_sem, ↓reduceIte, reduceCtorEq, Nat.reduceEqDiff, Nat.reduceAdd, Nat.reduceMul, Nat.reduceSub, Nat.reduceLT, Nat.reduceLeDiff, Nat.reducePow, Int.reduceLT, Int.reduceLE, Int.reduceNeg, Int.reduceToNat, t2, b2, t3, b3, h3]
    rw [hbig _ (by omega) rfl]
    exact finK ⟨rfl, rfl⟩
  simp (dsimp := false) (maxDischargeDepth := 16) only [go_sem, ↓reduceIte, reduceCtorEq, Nat.reduceEqDiff, Nat.reduceAdd, Nat.reduceMul, Nat.reduceSub, Nat.reduceLT, Nat.reduceLeDiff, Nat.reducePow, Int.reduceLT, Int.reduceLE, Int.reduceNeg, Int.reduceToNat, t2, b2, t3, b3, h3, w2]
  refine condK_dec (fun h4 => ?_) (fun h4 => ?_)
  · simp (dsimp := false) (maxDischargeDepth := 16) only [go_sem, ↓reduceIte, reduceCtorEq, Nat.reduceEqDiff, Nat.reduceAdd, Nat.reduceMul, Nat.reduceSub, Nat.reduceLT, Nat.reduceLeDiff, Nat.reducePow, Int.reduceLT, Int.reduceLE, Int.reduceNeg, Int.reduceToNat, t2, b2, t3, b3, h3, h4]
    rw [hbig _ (by omega) rfl]
    exact finK ⟨rfl, rfl⟩
  simp (dsimp := false) (maxDischargeDepth := 16) only [go_sem, ↓reduceIte, reduceCtorEq, Nat.reduceEqDiff, Nat.reduceAdd, Nat.reduceMul, Nat.reduceSub, Nat.reduceLT, Nat.reduceLeDiff, Nat.reducePow, Int.reduceLT, Int.reduceLE, Int.reduceNeg, Int.reduceToNat, t2, b2, t3, b3, h3, h4]
  have ic := c62 a b g1 (by omega) (by omega) (by omega) (by omega) (fun x hx => (p6.2 x hx).2) b.n.length [] [] (by simp) (by simp)
  simp only [lv, lvT, iv, List.map_nil] at ic
  refine ecallK_intro (pre := gcs a ++ gcs b) (x := olvT [] .nil) rfl ?_ ic ?_
  · simp (dsimp := false) (maxDischargeDepth := 16) only [go_sem, ↓reduceIte, reduceCtorEq, Nat.reduceEqDiff, Nat.reduceAdd, Nat.reduceMul, Nat.reduceSub, Nat.reduceLT, Nat.reduceLeDiff, Nat.reducePow, Int.reduceLT, Int.reduceLE, Int.reduceNeg, Int.reduceToNat]
  have hl := ovN_len a b b.n.length [] [] (by simp)
  generalize hO : ovN a b b.n.length [] [] = O at *
  simp (dsimp := false) (maxDischargeDepth := 16) only [go_sem, ↓reduceIte, reduceCtorEq, Nat.reduceEqDiff, Nat.reduceAdd, Nat.reduceMul, Nat.reduceSub, Nat.reduceLT, Nat.reduceLeDiff, Nat.reducePow, Int.reduceLT, Int.reduceLE, Int.reduceNeg, Int.reduceToNat, h3, h4]
  refine condK_dec (fun h5 => ?_) (fun h5 => ?_)
  · simp (dsimp := false) (maxDischargeDepth := 16) only [go_sem, ↓reduceIte, reduceCtorEq, Nat.reduceEqDiff, Nat.reduceAdd, Nat.reduceMul, Nat.reduceSub, Nat.reduceLT, Nat.reduceLeDiff, Nat.reducePow, Int.reduceLT, Int.reduceLE, Int.reduceNeg, Int.reduceToNat, h3, h4, h5]
    have h : ovS a b = ([], 3) := by rw [ovS, if_neg (by simp [g1]), if_neg (by simp [g2]), if_neg (by omega), hO, if_pos (by omega)]
    rw [h]
    exact finK ⟨rfl, rfl⟩
  · simp (dsimp := false) (maxDischargeDepth := 16) only [go_sem, ↓reduceIte, reduceCtorEq, Nat.reduceEqDiff, Nat.reduceAdd, Nat.reduceMul, Nat.reduceSub, Nat.reduceLT, Nat.reduceLeDiff, Nat.reducePow, Int.reduceLT, Int.reduceLE, Int.reduceNeg, Int.reduceToNat, h3, h4, h5]
    have h : ovS a b = (O, 0) := by rw [ovS, if_neg (by simp [g1]), if_neg (by simp [g2]), if_neg (by omega), hO, if_neg (by omega)]
    rw [h]
    exact finK ⟨rfl, rfl⟩
end Go.Sy

/- Contracts: morphisms that are valid; jointly surjective ones. -/
set_option linter.unusedSimpArgs false
namespace Go.Sy
open Go Go.Proofs

/-- The first that is not nought. -/
def firstErr (f : Nat → Int) : Nat → Int
  | 0 => 0
  | n + 1 => if firstErr f n ≠ 0 then firstErr f n else f n
theorem firstErr_zero {f : Nat → Int} : ∀ {n : Nat}, (∀ j, j < n → f j = 0) → firstErr f n = 0
  | 0, _ => rfl
  | n + 1, h => by rw [firstErr, firstErr_zero fun j hj => h j (by omega), if_neg (by simp), h n (by omega)]
theorem firstErr_at {f : Nat → Int} : ∀ {n i : Nat}, i < n → (∀ j, j < i → f j = 0) → f i ≠ 0 → firstErr f n = f i
  | n + 1, i, hi, h, h1 => by
    rw [firstErr]
    by_cases hin : i = n
    · subst hin
      rw [firstErr_zero h, if_neg (by simp)]
    · have := firstErr_at (n := n) (by omega) h h1
      rw [this, if_pos h1]
theorem firstErr_all {f : Nat → Int} : ∀ {n : Nat}, firstErr f n = 0 → ∀ j, j < n → f j = 0
  | n + 1, h, j, hj => by
    rw [firstErr] at h
    by_cases h1 : firstErr f n = 0
    · rw [if_neg (by simp [h1])] at h
      by_cases hjn : j = n
      · rw [hjn]; exact h
      · exact firstErr_all h1 j (by omega)
    · rw [if_pos h1] at h
      exact absurd h h1
def nodeErr (a b : Gr) (m : Mo) (i : Nat) : Int := if m.n.getD i 0 < 0 ∨ (b.n.length : Int) ≤ m.n.getD i 0 then 6 else if b.n.getD (m.n.getD i 0).toNat 0 ≠ a.n.getD i 0 then 13 else 0
def edgeErr (a b : Gr) (m : Mo) (i : Nat) : Int := if m.e.getD i 0 < 0 ∨ (b.e.length : Int) ≤ m.e.getD i 0 then 6 else
  if (a.e.getD i (0, 0, 0)).1 ≠ (b.e.getD (m.e.getD i 0).toNat (0, 0, 0)).1 then 13 else
  if m.n.getD (a.e.getD i (0, 0, 0)).2.1.toNat 0 ≠ (b.e.getD (m.e.getD i 0).toNat (0, 0, 0)).2.1 ∨ m.n.getD (a.e.getD i (0, 0, 0)).2.2.toNat 0 ≠ (b.e.getD (m.e.getD i 0).toNat (0, 0, 0)).2.2 then 11 else 0
/-- The error of a morphism. -/
def mErr (a b : Gr) (m : Mo) : Int := if gErr a ≠ 0 then gErr a else if gErr b ≠ 0 then gErr b else if m.n.length ≠ a.n.length ∨ m.e.length ≠ a.e.length then 20 else
  if firstErr (nodeErr a b m) a.n.length ≠ 0 then firstErr (nodeErr a b m) a.n.length else firstErr (edgeErr a b m) a.e.length
theorem nodeErr_at {a b : Gr} {m : Mo} {i : Nat} (h : i < m.n.length) (h2 : i < a.n.length) : nodeErr a b m i = if m.n[i] < 0 ∨ (b.n.length : Int) ≤ m.n[i] then 6 else if b.n.getD m.n[i].toNat 0 ≠ a.n[i] then 13 else 0 := by
  rw [nodeErr, getD_at h, getD_at h2]
theorem edgeErr_at {a b : Gr} {m : Mo} {i : Nat} (h : i < m.e.length) (h2 : i < a.e.length) (r1 : a.e[i].2.1.toNat < m.n.length) (r2 : a.e[i].2.2.toNat < m.n.length) : edgeErr a b m i = if m.e[i] < 0 ∨ (b.e.length : Int) ≤ m.e[i] then 6 else
    if a.e[i].1 ≠ (b.e.getD m.e[i].toNat (0, 0, 0)).1 then 13 else
    if m.n[a.e[i].2.1.toNat] ≠ (b.e.getD m.e[i].toNat (0, 0, 0)).2.1 ∨ m.n[a.e[i].2.2.toNat] ≠ (b.e.getD m.e[i].toNat (0, 0, 0)).2.2 then 11 else 0 := by
  rw [edgeErr, getD_at h, getD_at h2, getD_at r1, getD_at r2]
theorem mErr_ok {a b : Gr} {m : Mo} (h : mErr a b m = 0) : gErr a = 0 ∧ gErr b = 0 ∧ m.n.length = a.n.length ∧ m.e.length = a.e.length ∧ (∀ i, i < a.n.length → nodeErr a b m i = 0) ∧ ∀ i, i < a.e.length → edgeErr a b m i = 0 := by
  unfold mErr at h
  split at h
  · rename_i h1; exact absurd h h1
  rename_i h1
  split at h
  · rename_i h2; exact absurd h h2
  rename_i h2
  split at h
  · simp at h
  rename_i h3
  split at h
  · rename_i h4; exact absurd h h4
  rename_i h4
  simp only [ne_eq, Decidable.not_not] at h1 h2 h4
  exact ⟨h1, h2, by omega, by omega, firstErr_all h4, firstErr_all h⟩
set_option maxHeartbeats 1000000 in
theorem c70 (a b : Gr) (m : Mo) : Con Try.prog 70 [gv a, gv b, mv m] 0 (iv (mErr a b m)) := by
  refine conT (X := [(22, [], [(13, [92, 95], [])])]) (rs := [.tmp 6]) Try.func70 (by kernel_rfl) rfl rfl (by kernel_rfl) ?_
  simp (dsimp := false) (maxDischargeDepth := 16) only [go_sem, ↓reduceIte, reduceCtorEq, Nat.reduceEqDiff, Nat.reduceAdd, Nat.reduceMul, Nat.reduceSub, Nat.reduceLT, Nat.reduceLeDiff, Nat.reducePow, Int.reduceLT, Int.reduceLE, Int.reduceNeg, Int.reduceToNat]
  refine callK_intro (c61 a) ?_
  simp (dsimp := false) (maxDischargeDepth := 16) only [go_sem, ↓reduceIte, reduceCtorEq, Nat.reduceEqDiff, Nat.reduceAdd, Nat.reduceMul, Nat.reduceSub, Nat.reduceLT, Nat.reduceLeDiff, Nat.reducePow, Int.reduceLT, Int.reduceLE, Int.reduceNeg, Int.reduceToNat]
  refine condK_intro (fun h1 => ?_) (fun h1 => ?_)
  · simp (dsimp := false) (maxDischargeDepth := 16) only [go_sem, ↓reduceIte, reduceCtorEq, Nat.reduceEqDiff, Nat.reduceAdd, Nat.reduceMul, Nat.reduceSub, Nat.reduceLT, Nat.reduceLeDiff, Nat.reducePow, Int.reduceLT, Int.reduceLE, Int.reduceNeg, Int.reduceToNat, h1]
    exact finI (if_pos (ineq h1))
  have g1 := ieq h1
  obtain ⟨⟨p1, p2⟩, p3⟩ := gErr_small g1
  simp (dsimp := false) (maxDischargeDepth := 16) only [go_sem, ↓reduceIte, reduceCtorEq, Nat.reduceEqDiff, Nat.reduceAdd, Nat.reduceMul, Nat.reduceSub, Nat.reduceLT, Nat.reduceLeDiff, Nat.reducePow, Int.reduceLT, Int.reduceLE, Int.reduceNeg, Int.reduceToNat, h1]
  refine callK_intro (c61 b) ?_
  simp (dsimp := false) (maxDischargeDepth := 16) only [go_sem, ↓reduceIte, reduceCtorEq, Nat.reduceEqDiff, Nat.reduceAdd, Nat.reduceMul, Nat.reduceSub, Nat.reduceLT, Nat.reduceLeDiff, Nat.reducePow, Int.reduceLT, Int.reduceLE, Int.reduceNeg, Int.reduceToNat, h1]
  refine condK_intro (fun h2 => ?_) (fun h2 => ?_)
  · simp (dsimp := false) (maxDischargeDepth := 16) only [go_sem, ↓reduceIte, reduceCtorEq, Nat.reduceEqDiff, Nat.reduceAdd, Nat.reduceMul, Nat.reduceSub, Nat.reduceLT, Nat.reduceLeDiff, Nat.reducePow, Int.reduceLT, Int.reduceLE, Int.reduceNeg, Int.reduceToNat, h1, h2]
    exact finI (by rw [mErr, if_neg (by simp [g1]), if_pos (ineq h2)])
  have g2 := ieq h2
  obtain ⟨⟨p4, p5⟩, p6⟩ := gErr_small g2
  simp (dsimp := false) (maxDischargeDepth := 16) only [go_sem, ↓reduceIte, reduceCtorEq, Nat.reduceEqDiff, Nat.reduceAdd, Nat.reduceMul, Nat.reduceSub, Nat.reduceLT, Nat.reduceLeDiff, Nat.reducePow, Int.reduceLT, Int.reduceLE, Int.reduceNeg, Int.reduceToNat, h1, h2]
  refine condK_intro (fun h3 => ?_) (fun h3 => ?_)
  · simp (dsimp := false) (maxDischargeDepth := 16) only [go_sem, ↓reduceIte, reduceCtorEq, Nat.reduceEqDiff, Nat.reduceAdd, Nat.reduceMul, Nat.reduceSub, Nat.reduceLT, Nat.reduceLeDiff, Nat.reducePow, Int.reduceLT, Int.reduceLE, Int.reduceNeg, Int.reduceToNat, h1, h2, h3]
    have := ineq h3
    exact finI (by rw [mErr, if_neg (by simp [g1]), if_neg (by simp [g2]), if_pos (by omega)])
  simp (dsimp := false) (maxDischargeDepth := 16) only [go_sem, ↓reduceIte, reduceCtorEq, Nat.reduceEqDiff, Nat.reduceAdd, Nat.reduceMul, Nat.reduceSub, Nat.reduceLT, Nat.reduceLeDiff, Nat.reducePow, Int.reduceLT, Int.reduceLE, Int.reduceNeg, Int.reduceToNat, h1, h2, h3]
  refine condK_intro (fun h4 => ?_) (fun h4 => ?_)
  · simp (dsimp := false) (maxDischargeDepth := 16) only [go_sem, ↓reduceIte, reduceCtorEq, Nat.reduceEqDiff, Nat.reduceAdd, Nat.reduceMul, Nat.reduceSub, Nat.reduceLT, Nat.reduceLeDiff, Nat.reducePow, Int.reduceLT, Int.reduceLE, Int.reduceNeg, Int.reduceToNat, h1, h2, h3, h4]
    have := ineq h4
    exact finI (by rw [mErr, if_neg (by simp [g1]), if_neg (by simp [g2]), if_pos (by omega)])
  have e3 := ieq h3
  have e4 := ieq h4
  have hm : mErr a b m = if firstErr (nodeErr a b m) a.n.length ≠ 0 then firstErr (nodeErr a b m) a.n.length else firstErr (edgeErr a b m) a.e.length := by
    rw [mErr, if_neg (by simp [g1]), if_neg (by simp [g2]), if_neg (by omega)]
  simp (dsimp := false) (maxDischargeDepth := 16) only [go_sem, ↓reduceIte, reduceCtorEq, Nat.reduceEqDiff, Nat.reduceAdd, Nat.reduceMul, Nat.reduceSub, Nat.reduceLT, Nat.reduceLeDiff, Nat.reducePow, Int.reduceLT, Int.reduceLE, Int.reduceNeg, Int.reduceToNat, h1, h2, h3, h4]
  refine loopK_intro (fun (i : Nat) s => i ≤ m.n.length ∧ s.t 3 = .box (3, 0, 0) 0 ∧ s.b (3, 0, 0) = some ⟨gcs a, false⟩ ∧ s.t 4 = .box (4, 0, 0) 0 ∧ s.b (4, 0, 0) = some ⟨gcs b, false⟩ ∧ s.t 5 = .box (5, 0, 0) 0 ∧ s.b (5, 0, 0) = some ⟨mcs m, false⟩ ∧
    s.t 42 = lv m.n ∧ s.t 43 = iv m.n.length ∧ s.t 44 = iv i ∧ ∀ j, j < i → nodeErr a b m j = 0) (fun i => m.n.length - i) ?_ ?_
  · exact ⟨0, by omega, rfl, rfl, rfl, rfl, rfl, rfl, rfl, rfl, rfl, fun j hj => by omega⟩
  clear h1 h2 h3 h4
  rintro i s ⟨hi, t3, b3, t4, b4, t5, b5, t42, t43, t44, hn⟩
  simp (dsimp := false) (maxDischargeDepth := 16) only [go_sem, ↓reduceIte, reduceCtorEq, Nat.reduceEqDiff, Nat.reduceAdd, Nat.reduceMul, Nat.reduceSub, Nat.reduceLT, Nat.reduceLeDiff, Nat.reducePow, Int.reduceLT, Int.reduceLE, Int.reduceNeg, Int.reduceToNat, t3, b3, t4, b4, t5, b5, t42, t43, t44]
  refine condK_dec (fun h6 => ?_) (fun h6 => ?_)
  · have h7 : i < a.n.length := by omega
    have hat := nodeErr_at (b := b) h6 h7
    have hfin : ∀ e, nodeErr a b m i = e → e ≠ 0 → mErr a b m = e := fun e he hne => by
      have := firstErr_at h7 hn (by rw [he]; exact hne)
      rw [hm, this, he, if_pos hne]
    simp (dsimp := false) (maxDischargeDepth := 16) only [go_sem, ↓reduceIte, reduceCtorEq, Nat.reduceEqDiff, Nat.reduceAdd, Nat.reduceMul, Nat.reduceSub, Nat.reduceLT, Nat.reduceLeDiff, Nat.reducePow, Int.reduceLT, Int.reduceLE, Int.reduceNeg, Int.reduceToNat, t3, b3, t4, b4, t5, b5, t42, t43, t44, h6, h7, idx_nat]
    refine condK_dec (fun h8 => ?_) (fun h8 => ?_)
    · simp (dsimp := false) (maxDischargeDepth := 16) only [go_sem, ↓reduceIte, reduceCtorEq, Nat.reduceEqDiff, Nat.reduceAdd, Nat.reduceMul, Nat.reduceSub, Nat.reduceLT, Nat.reduceLeDiff, Nat.reducePow, Int.reduceLT, Int.reduceLE, Int.reduceNeg, Int.reduceToNat, t3, b3, t4, b4, t5, b5, t42, t43, t44, h6, h8]
      exact finI (hfin 6 (by rw [hat, if_pos (.inl h8)]) (by decide))
    simp (dsimp := false) (maxDischargeDepth := 16) only [go_sem, ↓reduceIte, reduceCtorEq, Nat.reduceEqDiff, Nat.reduceAdd, Nat.reduceMul, Nat.reduceSub, Nat.reduceLT, Nat.reduceLeDiff, Nat.reducePow, Int.reduceLT, Int.reduceLE, Int.reduceNeg, Int.reduceToNat, t3, b3, t4, b4, t5, b5, t42, t43, t44, h6, h8]
    refine condK_dec (fun h9 => ?_) (fun h9 => ?_)
    · simp (dsimp := false) (maxDischargeDepth := 16) only [go_sem, ↓reduceIte, reduceCtorEq, Nat.reduceEqDiff, Nat.reduceAdd, Nat.reduceMul, Nat.reduceSub, Nat.reduceLT, Nat.reduceLeDiff, Nat.reducePow, Int.reduceLT, Int.reduceLE, Int.reduceNeg, Int.reduceToNat, t3, b3, t4, b4, t5, b5, t42, t43, t44, h6, h8, h9]
      exact finI (hfin 6 (by rw [hat, if_pos (.inr (by omega))]) (by decide))
    have r1 : 0 ≤ m.n[i] := by omega
    have r2 : m.n[i].toNat < b.n.length := by omega
    simp (dsimp := false) (maxDischargeDepth := 16) only [go_sem, ↓reduceIte, reduceCtorEq, Nat.reduceEqDiff, Nat.reduceAdd, Nat.reduceMul, Nat.reduceSub, Nat.reduceLT, Nat.reduceLeDiff, Nat.reducePow, Int.reduceLT, Int.reduceLE, Int.reduceNeg, Int.reduceToNat, t3, b3, t4, b4, t5, b5, t42, t43, t44, h6, h8, h9, h7, idx_nat, idx_int, r1, r2]
    refine condK_intro (fun h10 => ?_) (fun h10 => ?_)
    · simp (dsimp := false) (maxDischargeDepth := 16) only [go_sem, ↓reduceIte, reduceCtorEq, Nat.reduceEqDiff, Nat.reduceAdd, Nat.reduceMul, Nat.reduceSub, Nat.reduceLT, Nat.reduceLeDiff, Nat.reducePow, Int.reduceLT, Int.reduceLE, Int.reduceNeg, Int.reduceToNat, t3, b3, t4, b4, t5, b5, t42, t43, t44, h6, h8, h9, h10]
      exact finI (hfin 13 (by rw [hat, if_neg (by omega), getD_at r2, if_pos (ineq h10)]) (by decide))
    · simp (dsimp := false) (maxDischargeDepth := 16) only [go_sem, ↓reduceIte, reduceCtorEq, Nat.reduceEqDiff, Nat.reduceAdd, Nat.reduceMul, Nat.reduceSub, Nat.reduceLT, Nat.reduceLeDiff, Nat.reducePow, Int.reduceLT, Int.reduceLE, Int.reduceNeg, Int.reduceToNat, t3, b3, t4, b4, t5, b5, t42, t43, t44, h6, h8, h9, h10]
      refine ⟨i + 1, by omega, by omega, by rw [wrapN _ (by omega)], fun j hj => ?_⟩
      by_cases hji : j = i
      · rw [hji, hat, if_neg (by omega), getD_at r2, if_neg (by simp [ieq h10])]
      · exact hn j (by omega)
  simp (dsimp := false) (maxDischargeDepth := 16) only [go_sem, ↓reduceIte, reduceCtorEq, Nat.reduceEqDiff, Nat.reduceAdd, Nat.reduceMul, Nat.reduceSub, Nat.reduceLT, Nat.reduceLeDiff, Nat.reducePow, Int.reduceLT, Int.reduceLE, Int.reduceNeg, Int.reduceToNat, t3, b3, t4, b4, t5, b5, t42, t43, t44, h6]
  have hz : firstErr (nodeErr a b m) a.n.length = 0 := firstErr_zero fun j hj => hn j (by omega)
  rw [hz, if_neg (by simp)] at hm
  refine loopK_intro (fun (i : Nat) s => i ≤ m.e.length ∧ s.t 3 = .box (3, 0, 0) 0 ∧ s.b (3, 0, 0) = some ⟨gcs a, false⟩ ∧ s.t 4 = .box (4, 0, 0) 0 ∧ s.b (4, 0, 0) = some ⟨gcs b, false⟩ ∧ s.t 5 = .box (5, 0, 0) 0 ∧ s.b (5, 0, 0) = some ⟨mcs m, false⟩ ∧
    s.t 71 = lv m.e ∧ s.t 72 = iv m.e.length ∧ s.t 73 = iv i ∧ ∀ j, j < i → edgeErr a b m j = 0) (fun i => m.e.length - i) ?_ ?_
  · exact ⟨0, by omega, t3, b3, t4, b4, t5, b5, rfl, rfl, rfl, fun j hj => by omega⟩
  clear t3 b3 t4 b4 t5 b5 t42 t43 t44 h6 hi hn
  rintro i s ⟨hi, t3, b3, t4, b4, t5, b5, t71, t72, t73, hn⟩
  simp (dsimp := false) (maxDischargeDepth := 16) only [go_sem, ↓reduceIte, reduceCtorEq, Nat.reduceEqDiff, Nat.reduceAdd, Nat.reduceMul, Nat.reduceSub, Nat.reduceLT, Nat.reduceLeDiff, Nat.reducePow, Int.reduceLT, Int.reduceLE, Int.reduceNeg, Int.reduceToNat, t3, b3, t4, b4, t5, b5, t71, t72, t73]
  refine condK_dec (fun h6 => ?_) (fun h6 => ?_)
  · have h7 : i < a.e.length := by omega
    have hx := p3.2 _ (List.getElem_mem h7)
    have r3 : a.e[i].2.1.toNat < m.n.length := by have := hx.2; omega
    have r4 : a.e[i].2.2.toNat < m.n.length := by have := hx.2; omega
    have r5 := hx.2.1
    have r6 := hx.2.2.2.1
    have hat := edgeErr_at (b := b) h6 h7 r3 r4
    have hfin : ∀ e, edgeErr a b m i = e → e ≠ 0 → mErr a b m = e := fun e he hne => by
      rw [hm, firstErr_at h7 hn (by rw [he]; exact hne), he]
    simp (dsimp := false) (maxDischargeDepth := 16) only [go_sem, ↓reduceIte, reduceCtorEq, Nat.reduceEqDiff, Nat.reduceAdd, Nat.reduceMul, Nat.reduceSub, Nat.reduceLT, Nat.reduceLeDiff, Nat.reducePow, Int.reduceLT, Int.reduceLE, Int.reduceNeg, Int.reduceToNat, t3, b3, t4, b4, t5, b5, t71, t72, t73, h6, h7, idx_nat]
    refine condK_dec (fun h8 => ?_) (fun h8 => ?_)
    · simp (dsimp := false) (maxDischargeDepth := 16) only [go_sem, ↓reduceIte, reduceCtorEq, Nat.reduceEqDiff, Nat.reduceAdd, Nat.reduceMul, Nat.reduceSub, Nat.reduceLT, Nat.reduceLeDiff, Nat.reducePow, Int.reduceLT, Int.reduceLE, Int.reduceNeg, Int.reduceToNat, t3, b3, t4, b4, t5, b5, t71, t72, t73, h6, h8]
      exact finI (hfin 6 (by rw [hat, if_pos (.inl h8)]) (by decide))
    simp (dsimp := false) (maxDischargeDepth := 16) only [go_sem, ↓reduceIte, reduceCtorEq, Nat.reduceEqDiff, Nat.reduceAdd, Nat.reduceMul, Nat.reduceSub, Nat.reduceLT, Nat.reduceLeDiff, Nat.reducePow, Int.reduceLT, Int.reduceLE, Int.reduceNeg, Int.reduceToNat, t3, b3, t4, b4, t5, b5, t71, t72, t73, h6, h8]
    refine condK_dec (fun h9 => ?_) (fun h9 => ?_)
    · simp (dsimp := false) (maxDischargeDepth := 16) only [go_sem, ↓reduceIte, reduceCtorEq, Nat.reduceEqDiff, Nat.reduceAdd, Nat.reduceMul, Nat.reduceSub, Nat.reduceLT, Nat.reduceLeDiff, Nat.reducePow, Int.reduceLT, Int.reduceLE, Int.reduceNeg, Int.reduceToNat, t3, b3, t4, b4, t5, b5, t71, t72, t73, h6, h8, h9]
      exact finI (hfin 6 (by rw [hat, if_pos (.inr (by omega))]) (by decide))
    have r1 : 0 ≤ m.e[i] := by omega
    have r2 : m.e[i].toNat < b.e.length := by omega
    rw [if_neg (by omega), getD_at r2] at hat
    simp (dsimp := false) (maxDischargeDepth := 16) only [go_sem, ↓reduceIte, reduceCtorEq, Nat.reduceEqDiff, Nat.reduceAdd, Nat.reduceMul, Nat.reduceSub, Nat.reduceLT, Nat.reduceLeDiff, Nat.reducePow, Int.reduceLT, Int.reduceLE, Int.reduceNeg, Int.reduceToNat, t3, b3, t4, b4, t5, b5, t71, t72, t73, h6, h8, h9, h7, idx_nat, idx_int, r1, r2, ne_eq]
    refine condK_intro (fun h10 => ?_) (fun h10 => ?_)
    · simp (dsimp := false) (maxDischargeDepth := 16) only [go_sem, ↓reduceIte, reduceCtorEq, Nat.reduceEqDiff, Nat.reduceAdd, Nat.reduceMul, Nat.reduceSub, Nat.reduceLT, Nat.reduceLeDiff, Nat.reducePow, Int.reduceLT, Int.reduceLE, Int.reduceNeg, Int.reduceToNat, t3, b3, t4, b4, t5, b5, t71, t72, t73, h6, h8, h9, h10]
      exact finI (hfin 13 (by rw [hat, if_pos (ineq h10)]) (by decide))
    rw [if_neg (by simp [ieq h10])] at hat
    simp (dsimp := false) (maxDischargeDepth := 16) only [go_sem, ↓reduceIte, reduceCtorEq, Nat.reduceEqDiff, Nat.reduceAdd, Nat.reduceMul, Nat.reduceSub, Nat.reduceLT, Nat.reduceLeDiff, Nat.reducePow, Int.reduceLT, Int.reduceLE, Int.reduceNeg, Int.reduceToNat, t3, b3, t4, b4, t5, b5, t71, t72, t73, h6, h8, h9, h10, idx_int, r3, r4, r5, r6]
    refine condK_intro (fun h11 => ?_) (fun h11 => ?_)
    · simp (dsimp := false) (maxDischargeDepth := 16) only [go_sem, ↓reduceIte, reduceCtorEq, Nat.reduceEqDiff, Nat.reduceAdd, Nat.reduceMul, Nat.reduceSub, Nat.reduceLT, Nat.reduceLeDiff, Nat.reducePow, Int.reduceLT, Int.reduceLE, Int.reduceNeg, Int.reduceToNat, t3, b3, t4, b4, t5, b5, t71, t72, t73, h6, h8, h9, h10, h11]
      exact finI (hfin 11 (by rw [hat, if_pos (.inl (ineq h11))]) (by decide))
    simp (dsimp := false) (maxDischargeDepth := 16) only [go_sem, ↓reduceIte, reduceCtorEq, Nat.reduceEqDiff, Nat.reduceAdd, Nat.reduceMul, Nat.reduceSub, Nat.reduceLT, Nat.reduceLeDiff, Nat.reducePow, Int.reduceLT, Int.reduceLE, Int.reduceNeg, Int.reduceToNat, t3, b3, t4, b4, t5, b5, t71, t72, t73, h6, h8, h9, h10, h11, idx_int, r3, r4, r5, r6]
    refine condK_intro (fun h12 => ?_) (fun h12 => ?_)
    · simp (dsimp := false) (maxDischargeDepth := 16) only [go_sem, ↓reduceIte, reduceCtorEq, Nat.reduceEqDiff, Nat.reduceAdd, Nat.reduceMul, Nat.reduceSub, Nat.reduceLT, Nat.reduceLeDiff, Nat.reducePow, Int.reduceLT, Int.reduceLE, Int.reduceNeg, Int.reduceToNat, t3, b3, t4, b4, t5, b5, t71, t72, t73, h6, h8, h9, h10, h11, h12]
      exact finI (hfin 11 (by rw [hat, if_pos (.inr (ineq h12))]) (by decide))
    · simp (dsimp := false) (maxDischargeDepth := 16) only [go_sem, ↓reduceIte, reduceCtorEq, Nat.reduceEqDiff, Nat.reduceAdd, Nat.reduceMul, Nat.reduceSub, Nat.reduceLT, Nat.reduceLeDiff, Nat.reducePow, Int.reduceLT, Int.reduceLE, Int.reduceNeg, Int.reduceToNat, t3, b3, t4, b4, t5, b5, t71, t72, t73, h6, h8, h9, h10, h11, h12]
      refine ⟨i + 1, by omega, by omega, by rw [wrapN _ (by omega)], fun j hj => ?_⟩
      by_cases hji : j = i
      · rw [hji, hat, if_neg (by simp [ieq h11, ieq h12])]
      · exact hn j (by omega)
  · simp (dsimp := false) (maxDischargeDepth := 16) only [go_sem, ↓reduceIte, reduceCtorEq, Nat.reduceEqDiff, Nat.reduceAdd, Nat.reduceMul, Nat.reduceSub, Nat.reduceLT, Nat.reduceLeDiff, Nat.reducePow, Int.reduceLT, Int.reduceLE, Int.reduceNeg, Int.reduceToNat, t3, b3, t4, b4, t5, b5, t71, t72, t73, h6]
    exact finI (by rw [hm]; exact firstErr_zero fun j hj => hn j (by omega))
end Go.Sy

/- Contracts: the reference's valid morphisms; jointly surjective ones. -/
set_option linter.unusedSimpArgs false
namespace Go.Sy
open Go Go.Proofs

set_option maxHeartbeats 1000000 in
theorem c72 (a b : Gr) (m : Mo) : Con Try.prog 72 [gv a, gv b, mv m] 0 (iv (mErr a b m)) := by
  refine conT (X := [(21, [], [(11, [107, 109, 112, 114], [])])]) (rs := [.tmp 6]) Try.func72 (by kernel_rfl) rfl rfl (by kernel_rfl) ?_
  simp (dsimp := false) (maxDischargeDepth := 16) only [go_sem, ↓reduceIte, reduceCtorEq, Nat.reduceEqDiff, Nat.reduceAdd, Nat.reduceMul, Nat.reduceSub, Nat.reduceLT, Nat.reduceLeDiff, Nat.reducePow, Int.reduceLT, Int.reduceLE, Int.reduceNeg, Int.reduceToNat]
  refine callK_intro (c60 a) ?_
  simp (dsimp := false) (maxDischargeDepth := 16) only [go_sem, ↓reduceIte, reduceCtorEq, Nat.reduceEqDiff, Nat.reduceAdd, Nat.reduceMul, Nat.reduceSub, Nat.reduceLT, Nat.reduceLeDiff, Nat.reducePow, Int.reduceLT, Int.reduceLE, Int.reduceNeg, Int.reduceToNat]
  refine condK_intro (fun h1 => ?_) (fun h1 => ?_)
  · simp (dsimp := false) (maxDischargeDepth := 16) only [go_sem, ↓reduceIte, reduceCtorEq, Nat.reduceEqDiff, Nat.reduceAdd, Nat.reduceMul, Nat.reduceSub, Nat.reduceLT, Nat.reduceLeDiff, Nat.reducePow, Int.reduceLT, Int.reduceLE, Int.reduceNeg, Int.reduceToNat, h1]
    exact finI (if_pos (ineq h1))
  have g1 := ieq h1
  obtain ⟨⟨p1, p2⟩, p3⟩ := gErr_small g1
  simp (dsimp := false) (maxDischargeDepth := 16) only [go_sem, ↓reduceIte, reduceCtorEq, Nat.reduceEqDiff, Nat.reduceAdd, Nat.reduceMul, Nat.reduceSub, Nat.reduceLT, Nat.reduceLeDiff, Nat.reducePow, Int.reduceLT, Int.reduceLE, Int.reduceNeg, Int.reduceToNat, h1]
  refine callK_intro (c60 b) ?_
  simp (dsimp := false) (maxDischargeDepth := 16) only [go_sem, ↓reduceIte, reduceCtorEq, Nat.reduceEqDiff, Nat.reduceAdd, Nat.reduceMul, Nat.reduceSub, Nat.reduceLT, Nat.reduceLeDiff, Nat.reducePow, Int.reduceLT, Int.reduceLE, Int.reduceNeg, Int.reduceToNat, h1]
  refine condK_intro (fun h2 => ?_) (fun h2 => ?_)
  · simp (dsimp := false) (maxDischargeDepth := 16) only [go_sem, ↓reduceIte, reduceCtorEq, Nat.reduceEqDiff, Nat.reduceAdd, Nat.reduceMul, Nat.reduceSub, Nat.reduceLT, Nat.reduceLeDiff, Nat.reducePow, Int.reduceLT, Int.reduceLE, Int.reduceNeg, Int.reduceToNat, h1, h2]
    exact finI (by rw [mErr, if_neg (by simp [g1]), if_pos (ineq h2)])
  have g2 := ieq h2
  obtain ⟨⟨p4, p5⟩, p6⟩ := gErr_small g2
  simp (dsimp := false) (maxDischargeDepth := 16) only [go_sem, ↓reduceIte, reduceCtorEq, Nat.reduceEqDiff, Nat.reduceAdd, Nat.reduceMul, Nat.reduceSub, Nat.reduceLT, Nat.reduceLeDiff, Nat.reducePow, Int.reduceLT, Int.reduceLE, Int.reduceNeg, Int.reduceToNat, h1, h2]
  refine condK_intro (fun h3 => ?_) (fun h3 => ?_)
  · simp (dsimp := false) (maxDischargeDepth := 16) only [go_sem, ↓reduceIte, reduceCtorEq, Nat.reduceEqDiff, Nat.reduceAdd, Nat.reduceMul, Nat.reduceSub, Nat.reduceLT, Nat.reduceLeDiff, Nat.reducePow, Int.reduceLT, Int.reduceLE, Int.reduceNeg, Int.reduceToNat, h1, h2, h3]
    have := ineq h3
    exact finI (by rw [mErr, if_neg (by simp [g1]), if_neg (by simp [g2]), if_pos (by omega)])
  simp (dsimp := false) (maxDischargeDepth := 16) only [go_sem, ↓reduceIte, reduceCtorEq, Nat.reduceEqDiff, Nat.reduceAdd, Nat.reduceMul, Nat.reduceSub, Nat.reduceLT, Nat.reduceLeDiff, Nat.reducePow, Int.reduceLT, Int.reduceLE, Int.reduceNeg, Int.reduceToNat, h1, h2, h3]
  refine condK_intro (fun h4 => ?_) (fun h4 => ?_)
  · simp (dsimp := false) (maxDischargeDepth := 16) only [go_sem, ↓reduceIte, reduceCtorEq, Nat.reduceEqDiff, Nat.reduceAdd, Nat.reduceMul, Nat.reduceSub, Nat.reduceLT, Nat.reduceLeDiff, Nat.reducePow, Int.reduceLT, Int.reduceLE, Int.reduceNeg, Int.reduceToNat, h1, h2, h3, h4]
    have := ineq h4
    exact finI (by rw [mErr, if_neg (by simp [g1]), if_neg (by simp [g2]), if_pos (by omega)])
  have e3 := ieq h3
  have e4 := ieq h4
  have hm : mErr a b m = if firstErr (nodeErr a b m) a.n.length ≠ 0 then firstErr (nodeErr a b m) a.n.length else firstErr (edgeErr a b m) a.e.length := by
    rw [mErr, if_neg (by simp [g1]), if_neg (by simp [g2]), if_neg (by omega)]
  simp (dsimp := false) (maxDischargeDepth := 16) only [go_sem, ↓reduceIte, reduceCtorEq, Nat.reduceEqDiff, Nat.reduceAdd, Nat.reduceMul, Nat.reduceSub, Nat.reduceLT, Nat.reduceLeDiff, Nat.reducePow, Int.reduceLT, Int.reduceLE, Int.reduceNeg, Int.reduceToNat, h1, h2, h3, h4]
  refine loopK_intro (fun (i : Nat) s => i ≤ a.n.length ∧ s.t 3 = .box (3, 0, 0) 0 ∧ s.b (3, 0, 0) = some ⟨gcs a, false⟩ ∧ s.t 4 = .box (4, 0, 0) 0 ∧ s.b (4, 0, 0) = some ⟨gcs b, false⟩ ∧ s.t 5 = .box (5, 0, 0) 0 ∧ s.b (5, 0, 0) = some ⟨mcs m, false⟩ ∧
    s.t 9 = iv i ∧ ∀ j, j < i → nodeErr a b m j = 0) (fun i => a.n.length - i) ?_ ?_
  · exact ⟨0, by omega, rfl, rfl, rfl, rfl, rfl, rfl, rfl, fun j hj => by omega⟩
  clear h1 h2 h3 h4
  rintro i s ⟨hi, t3, b3, t4, b4, t5, b5, t9, hn⟩
  simp (dsimp := false) (maxDischargeDepth := 16) only [go_sem, ↓reduceIte, reduceCtorEq, Nat.reduceEqDiff, Nat.reduceAdd, Nat.reduceMul, Nat.reduceSub, Nat.reduceLT, Nat.reduceLeDiff, Nat.reducePow, Int.reduceLT, Int.reduceLE, Int.reduceNeg, Int.reduceToNat, t3, b3, t4, b4, t5, b5, t9]
  refine condK_dec (fun h6 => ?_) (fun h6 => ?_)
  · have h7 : i < m.n.length := by omega
    have hat := nodeErr_at (b := b) h7 h6
    have hfin : ∀ e, nodeErr a b m i = e → e ≠ 0 → mErr a b m = e := fun e he hne => by
      have := firstErr_at h6 hn (by rw [he]; exact hne)
      rw [hm, this, he, if_pos hne]
    simp (dsimp := false) (maxDischargeDepth := 16) only [go_sem, ↓reduceIte, reduceCtorEq, Nat.reduceEqDiff, Nat.reduceAdd, Nat.reduceMul, Nat.reduceSub, Nat.reduceLT, Nat.reduceLeDiff, Nat.reducePow, Int.reduceLT, Int.reduceLE, Int.reduceNeg, Int.reduceToNat, t3, b3, t4, b4, t5, b5, t9, h6, h7, idx_nat]
    refine condK_dec (fun h8 => ?_) (fun h8 => ?_)
    · simp (dsimp := false) (maxDischargeDepth := 16) only [go_sem, ↓reduceIte, reduceCtorEq, Nat.reduceEqDiff, Nat.reduceAdd, Nat.reduceMul, Nat.reduceSub, Nat.reduceLT, Nat.reduceLeDiff, Nat.reducePow, Int.reduceLT, Int.reduceLE, Int.reduceNeg, Int.reduceToNat, t3, b3, t4, b4, t5, b5, t9, h6, h8]
      exact finI (hfin 6 (by rw [hat, if_pos (.inl h8)]) (by decide))
    simp (dsimp := false) (maxDischargeDepth := 16) only [go_sem, ↓reduceIte, reduceCtorEq, Nat.reduceEqDiff, Nat.reduceAdd, Nat.reduceMul, Nat.reduceSub, Nat.reduceLT, Nat.reduceLeDiff, Nat.reducePow, Int.reduceLT, Int.reduceLE, Int.reduceNeg, Int.reduceToNat, t3, b3, t4, b4, t5, b5, t9, h6, h8, h7, idx_nat]
    refine condK_dec (fun h9 => ?_) (fun h9 => ?_)
    · simp (dsimp := false) (maxDischargeDepth := 16) only [go_sem, ↓reduceIte, reduceCtorEq, Nat.reduceEqDiff, Nat.reduceAdd, Nat.reduceMul, Nat.reduceSub, Nat.reduceLT, Nat.reduceLeDiff, Nat.reducePow, Int.reduceLT, Int.reduceLE, Int.reduceNeg, Int.reduceToNat, t3, b3, t4, b4, t5, b5, t9, h6, h8, h9]
      exact finI (hfin 6 (by rw [hat, if_pos (.inr (by omega))]) (by decide))
    have r1 : 0 ≤ m.n[i] := by omega
    have r2 : m.n[i].toNat < b.n.length := by omega
    simp (dsimp := false) (maxDischargeDepth := 16) only [go_sem, ↓reduceIte, reduceCtorEq, Nat.reduceEqDiff, Nat.reduceAdd, Nat.reduceMul, Nat.reduceSub, Nat.reduceLT, Nat.reduceLeDiff, Nat.reducePow, Int.reduceLT, Int.reduceLE, Int.reduceNeg, Int.reduceToNat, t3, b3, t4, b4, t5, b5, t9, h6, h8, h9, h7, idx_nat, idx_int, r1, r2]
    refine condK_intro (fun h10 => ?_) (fun h10 => ?_)
    · simp (dsimp := false) (maxDischargeDepth := 16) only [go_sem, ↓reduceIte, reduceCtorEq, Nat.reduceEqDiff, Nat.reduceAdd, Nat.reduceMul, Nat.reduceSub, Nat.reduceLT, Nat.reduceLeDiff, Nat.reducePow, Int.reduceLT, Int.reduceLE, Int.reduceNeg, Int.reduceToNat, t3, b3, t4, b4, t5, b5, t9, h6, h8, h9, h10]
      exact finI (hfin 13 (by rw [hat, if_neg (by omega), getD_at r2, if_pos (ineq h10)]) (by decide))
    · simp (dsimp := false) (maxDischargeDepth := 16) only [go_sem, ↓reduceIte, reduceCtorEq, Nat.reduceEqDiff, Nat.reduceAdd, Nat.reduceMul, Nat.reduceSub, Nat.reduceLT, Nat.reduceLeDiff, Nat.reducePow, Int.reduceLT, Int.reduceLE, Int.reduceNeg, Int.reduceToNat, t3, b3, t4, b4, t5, b5, t9, h6, h8, h9, h10]
      refine ⟨i + 1, by omega, by omega, by rw [wrapN _ (by omega)], fun j hj => ?_⟩
      by_cases hji : j = i
      · rw [hji, hat, if_neg (by omega), getD_at r2, if_neg (by simp [ieq h10])]
      · exact hn j (by omega)
  simp (dsimp := false) (maxDischargeDepth := 16) only [go_sem, ↓reduceIte, reduceCtorEq, Nat.reduceEqDiff, Nat.reduceAdd, Nat.reduceMul, Nat.reduceSub, Nat.reduceLT, Nat.reduceLeDiff, Nat.reducePow, Int.reduceLT, Int.reduceLE, Int.reduceNeg, Int.reduceToNat, t3, b3, t4, b4, t5, b5, t9, h6]
  have hz : firstErr (nodeErr a b m) a.n.length = 0 := firstErr_zero fun j hj => hn j (by omega)
  rw [hz, if_neg (by simp)] at hm
  refine loopK_intro (fun (i : Nat) s => i ≤ a.e.length ∧ s.t 3 = .box (3, 0, 0) 0 ∧ s.b (3, 0, 0) = some ⟨gcs a, false⟩ ∧ s.t 4 = .box (4, 0, 0) 0 ∧ s.b (4, 0, 0) = some ⟨gcs b, false⟩ ∧ s.t 5 = .box (5, 0, 0) 0 ∧ s.b (5, 0, 0) = some ⟨mcs m, false⟩ ∧
    s.t 10 = iv i ∧ ∀ j, j < i → edgeErr a b m j = 0) (fun i => a.e.length - i) ?_ ?_
  · exact ⟨0, by omega, t3, b3, t4, b4, t5, b5, rfl, fun j hj => by omega⟩
  clear t3 b3 t4 b4 t5 b5 t9 h6 hi hn
  rintro i s ⟨hi, t3, b3, t4, b4, t5, b5, t10, hn⟩
  simp (dsimp := false) (maxDischargeDepth := 16) only [go_sem, ↓reduceIte, reduceCtorEq, Nat.reduceEqDiff, Nat.reduceAdd, Nat.reduceMul, Nat.reduceSub, Nat.reduceLT, Nat.reduceLeDiff, Nat.reducePow, Int.reduceLT, Int.reduceLE, Int.reduceNeg, Int.reduceToNat, t3, b3, t4, b4, t5, b5, t10]
  refine condK_dec (fun h6 => ?_) (fun h6 => ?_)
  · have h7 : i < m.e.length := by omega
    have hx := p3.2 _ (List.getElem_mem h6)
    have r3 : a.e[i].2.1.toNat < m.n.length := by have := hx.2; omega
    have r4 : a.e[i].2.2.toNat < m.n.length := by have := hx.2; omega
    have r5 := hx.2.1
    have r6 := hx.2.2.2.1
    have hat := edgeErr_at (b := b) h7 h6 r3 r4
    have hfin : ∀ e, edgeErr a b m i = e → e ≠ 0 → mErr a b m = e := fun e he hne => by
      rw [hm, firstErr_at h6 hn (by rw [he]; exact hne), he]
    simp (dsimp := false) (maxDischargeDepth := 16) only [go_sem, ↓reduceIte, reduceCtorEq, Nat.reduceEqDiff, Nat.reduceAdd, Nat.reduceMul, Nat.reduceSub, Nat.reduceLT, Nat.reduceLeDiff, Nat.reducePow, Int.reduceLT, Int.reduceLE, Int.reduceNeg, Int.reduceToNat, t3, b3, t4, b4, t5, b5, t10, h6, h7, idx_nat]
    refine condK_dec (fun h8 => ?_) (fun h8 => ?_)
    · simp (dsimp := false) (maxDischargeDepth := 16) only [go_sem, ↓reduceIte, reduceCtorEq, Nat.reduceEqDiff, Nat.reduceAdd, Nat.reduceMul, Nat.reduceSub, Nat.reduceLT, Nat.reduceLeDiff, Nat.reducePow, Int.reduceLT, Int.reduceLE, Int.reduceNeg, Int.reduceToNat, t3, b3, t4, b4, t5, b5, t10, h6, h8]
      exact finI (hfin 6 (by rw [hat, if_pos (.inl h8)]) (by decide))
    simp (dsimp := false) (maxDischargeDepth := 16) only [go_sem, ↓reduceIte, reduceCtorEq, Nat.reduceEqDiff, Nat.reduceAdd, Nat.reduceMul, Nat.reduceSub, Nat.reduceLT, Nat.reduceLeDiff, Nat.reducePow, Int.reduceLT, Int.reduceLE, Int.reduceNeg, Int.reduceToNat, t3, b3, t4, b4, t5, b5, t10, h6, h8, h7, idx_nat]
    refine condK_dec (fun h9 => ?_) (fun h9 => ?_)
    · simp (dsimp := false) (maxDischargeDepth := 16) only [go_sem, ↓reduceIte, reduceCtorEq, Nat.reduceEqDiff, Nat.reduceAdd, Nat.reduceMul, Nat.reduceSub, Nat.reduceLT, Nat.reduceLeDiff, Nat.reducePow, Int.reduceLT, Int.reduceLE, Int.reduceNeg, Int.reduceToNat, t3, b3, t4, b4, t5, b5, t10, h6, h8, h9]
      exact finI (hfin 6 (by rw [hat, if_pos (.inr (by omega))]) (by decide))
    have r1 : 0 ≤ m.e[i] := by omega
    have r2 : m.e[i].toNat < b.e.length := by omega
    rw [if_neg (by omega), getD_at r2] at hat
    simp (dsimp := false) (maxDischargeDepth := 16) only [go_sem, ↓reduceIte, reduceCtorEq, Nat.reduceEqDiff, Nat.reduceAdd, Nat.reduceMul, Nat.reduceSub, Nat.reduceLT, Nat.reduceLeDiff, Nat.reducePow, Int.reduceLT, Int.reduceLE, Int.reduceNeg, Int.reduceToNat, t3, b3, t4, b4, t5, b5, t10, h6, h8, h9, h7, idx_nat, idx_int, r1, r2, ne_eq]
    refine condK_intro (fun h10 => ?_) (fun h10 => ?_)
    · simp (dsimp := false) (maxDischargeDepth := 16) only [go_sem, ↓reduceIte, reduceCtorEq, Nat.reduceEqDiff, Nat.reduceAdd, Nat.reduceMul, Nat.reduceSub, Nat.reduceLT, Nat.reduceLeDiff, Nat.reducePow, Int.reduceLT, Int.reduceLE, Int.reduceNeg, Int.reduceToNat, t3, b3, t4, b4, t5, b5, t10, h6, h8, h9, h10]
      exact finI (hfin 13 (by rw [hat, if_pos (ineq h10)]) (by decide))
    rw [if_neg (by simp [ieq h10])] at hat
    simp (dsimp := false) (maxDischargeDepth := 16) only [go_sem, ↓reduceIte, reduceCtorEq, Nat.reduceEqDiff, Nat.reduceAdd, Nat.reduceMul, Nat.reduceSub, Nat.reduceLT, Nat.reduceLeDiff, Nat.reducePow, Int.reduceLT, Int.reduceLE, Int.reduceNeg, Int.reduceToNat, t3, b3, t4, b4, t5, b5, t10, h6, h8, h9, h10, idx_int, r3, r4, r5, r6]
    refine condK_intro (fun h11 => ?_) (fun h11 => ?_)
    · simp (dsimp := false) (maxDischargeDepth := 16) only [go_sem, ↓reduceIte, reduceCtorEq, Nat.reduceEqDiff, Nat.reduceAdd, Nat.reduceMul, Nat.reduceSub, Nat.reduceLT, Nat.reduceLeDiff, Nat.reducePow, Int.reduceLT, Int.reduceLE, Int.reduceNeg, Int.reduceToNat, t3, b3, t4, b4, t5, b5, t10, h6, h8, h9, h10, h11]
      exact finI (hfin 11 (by rw [hat, if_pos (.inl (ineq h11))]) (by decide))
    simp (dsimp := false) (maxDischargeDepth := 16) only [go_sem, ↓reduceIte, reduceCtorEq, Nat.reduceEqDiff, Nat.reduceAdd, Nat.reduceMul, Nat.reduceSub, Nat.reduceLT, Nat.reduceLeDiff, Nat.reducePow, Int.reduceLT, Int.reduceLE, Int.reduceNeg, Int.reduceToNat, t3, b3, t4, b4, t5, b5, t10, h6, h8, h9, h10, h11, idx_int, r3, r4, r5, r6]
    refine condK_intro (fun h12 => ?_) (fun h12 => ?_)
    · simp (dsimp := false) (maxDischargeDepth := 16) only [go_sem, ↓reduceIte, reduceCtorEq, Nat.reduceEqDiff, Nat.reduceAdd, Nat.reduceMul, Nat.reduceSub, Nat.reduceLT, Nat.reduceLeDiff, Nat.reducePow, Int.reduceLT, Int.reduceLE, Int.reduceNeg, Int.reduceToNat, t3, b3, t4, b4, t5, b5, t10, h6, h8, h9, h10, h11, h12]
      exact finI (hfin 11 (by rw [hat, if_pos (.inr (ineq h12))]) (by decide))
    · simp (dsimp := false) (maxDischargeDepth := 16) only [go_sem, ↓reduceIte, reduceCtorEq, Nat.reduceEqDiff, Nat.reduceAdd, Nat.reduceMul, Nat.reduceSub, Nat.reduceLT, Nat.reduceLeDiff, Nat.reducePow, Int.reduceLT, Int.reduceLE, Int.reduceNeg, Int.reduceToNat, t3, b3, t4, b4, t5, b5, t10, h6, h8, h9, h10, h11, h12]
      refine ⟨i + 1, by omega, by omega, by rw [wrapN _ (by omega)], fun j hj => ?_⟩
      by_cases hji : j = i
      · rw [hji, hat, if_neg (by simp [ieq h11, ieq h12])]
      · exact hn j (by omega)
  · simp (dsimp := false) (maxDischargeDepth := 16) only [go_sem, ↓reduceIte, reduceCtorEq, Nat.reduceEqDiff, Nat.reduceAdd, Nat.reduceMul, Nat.reduceSub, Nat.reduceLT, Nat.reduceLeDiff, Nat.reducePow, Int.reduceLT, Int.reduceLE, Int.reduceNeg, Int.reduceToNat, t3, b3, t4, b4, t5, b5, t10, h6]
    exact finI (by rw [hm]; exact firstErr_zero fun j hj => hn j (by omega))
/-- Are the numbers below n all in one of two lists? -/
def cov (n : Nat) (l k : List Int) : Bool := (List.range n).all fun i => l.contains (i : Int) || k.contains (i : Int)
theorem cov_no {n i : Nat} {l k : List Int} (h : i < n) (h1 : l.contains (i : Int) = false) (h2 : k.contains (i : Int) = false) : cov n l k = false := by
  rw [← Bool.not_eq_true, cov, List.all_eq_true]
  intro hall
  have := hall i (List.mem_range.2 h)
  rw [h1, h2] at this
  cases this
theorem cov_yes {n : Nat} {l k : List Int} (h : ∀ j, j < n → (l.contains (j : Int) || k.contains (j : Int)) = true) : cov n l k = true := by
  rw [cov, List.all_eq_true]
  intro i hi
  exact h i (List.mem_range.1 hi)
theorem c71 (n : Nat) (l k : List Int) (hn : n ≤ 1000000) : Con Try.prog 71 [iv n, lv l, lv k] 0 (bv (cov n l k)) := by
  refine conT (X := []) (rs := [.tmp 6]) Try.func71 (by kernel_rfl) rfl rfl (by kernel_rfl) ?_
  simp (dsimp := false) (maxDischargeDepth := 16) only [go_sem, ↓reduceIte, reduceCtorEq, Nat.reduceEqDiff, Nat.reduceAdd, Nat.reduceMul, Nat.reduceSub, Nat.reduceLT, Nat.reduceLeDiff, Nat.reducePow, Int.reduceLT, Int.reduceLE, Int.reduceNeg, Int.reduceToNat]
  refine loopK_intro (fun (i : Nat) s => i ≤ n ∧ s.t 1 = lv l ∧ s.t 2 = lv k ∧ s.t 8 = iv n ∧ s.t 9 = iv i ∧ ∀ j, j < i → (l.contains (j : Int) || k.contains (j : Int)) = true) (fun i => n - i) ⟨0, by omega, rfl, rfl, rfl, rfl, fun j hj => by omega⟩ ?_
  rintro i s ⟨hi, t1, t2, t8, t9, hn⟩
  simp (dsimp := false) (maxDischargeDepth := 16) only [go_sem, ↓reduceIte, reduceCtorEq, Nat.reduceEqDiff, Nat.reduceAdd, Nat.reduceMul, Nat.reduceSub, Nat.reduceLT, Nat.reduceLeDiff, Nat.reducePow, Int.reduceLT, Int.reduceLE, Int.reduceNeg, Int.reduceToNat, t1, t2, t8, t9]
  refine condK_dec (fun h6 => ?_) (fun h6 => ?_)
  · have hstep : (l.contains (i : Int) || k.contains (i : Int)) = true → ∀ j, j < i + 1 → (l.contains (j : Int) || k.contains (j : Int)) = true := fun h j hj => by
      by_cases hji : j = i
      · rw [hji]; exact h
      · exact hn j (by omega)
    simp (dsimp := false) (maxDischargeDepth := 16) only [go_sem, ↓reduceIte, reduceCtorEq, Nat.reduceEqDiff, Nat.reduceAdd, Nat.reduceMul, Nat.reduceSub, Nat.reduceLT, Nat.reduceLeDiff, Nat.reducePow, Int.reduceLT, Int.reduceLE, Int.reduceNeg, Int.reduceToNat, t1, t2, t8, t9, h6]
    refine callK_intro (c119 l i) ?_
    simp (dsimp := false) (maxDischargeDepth := 16) only [go_sem, ↓reduceIte, reduceCtorEq, Nat.reduceEqDiff, Nat.reduceAdd, Nat.reduceMul, Nat.reduceSub, Nat.reduceLT, Nat.reduceLeDiff, Nat.reducePow, Int.reduceLT, Int.reduceLE, Int.reduceNeg, Int.reduceToNat, t1, t2, t8, t9, h6]
    refine condK_intro (fun h7 => ?_) (fun h7 => ?_)
    · have e7 : l.contains (i : Int) = false := by simpa only [Bool.not_eq_true'] using h7
      simp (dsimp := false) (maxDischargeDepth := 16) only [go_sem, ↓reduceIte, reduceCtorEq, Nat.reduceEqDiff, Nat.reduceAdd, Nat.reduceMul, Nat.reduceSub, Nat.reduceLT, Nat.reduceLeDiff, Nat.reducePow, Int.reduceLT, Int.reduceLE, Int.reduceNeg, Int.reduceToNat, t1, t2, t8, t9, h6, h7]
      refine callK_intro (c119 k i) ?_
      simp (dsimp := false) (maxDischargeDepth := 16) only [go_sem, ↓reduceIte, reduceCtorEq, Nat.reduceEqDiff, Nat.reduceAdd, Nat.reduceMul, Nat.reduceSub, Nat.reduceLT, Nat.reduceLeDiff, Nat.reducePow, Int.reduceLT, Int.reduceLE, Int.reduceNeg, Int.reduceToNat, t1, t2, t8, t9, h6, h7]
      refine condK_intro (fun h8 => ?_) (fun h8 => ?_)
      · have e8 : k.contains (i : Int) = false := by simpa only [Bool.not_eq_true'] using h8
        simp (dsimp := false) (maxDischargeDepth := 16) only [go_sem, ↓reduceIte, reduceCtorEq, Nat.reduceEqDiff, Nat.reduceAdd, Nat.reduceMul, Nat.reduceSub, Nat.reduceLT, Nat.reduceLeDiff, Nat.reducePow, Int.reduceLT, Int.reduceLE, Int.reduceNeg, Int.reduceToNat, t1, t2, t8, t9, h6, h7, h8]
        exact finB (cov_no h6 e7 e8)
      · have e8 : k.contains (i : Int) = true := by simpa only [Bool.not_eq_false'] using h8
        simp (dsimp := false) (maxDischargeDepth := 16) only [go_sem, ↓reduceIte, reduceCtorEq, Nat.reduceEqDiff, Nat.reduceAdd, Nat.reduceMul, Nat.reduceSub, Nat.reduceLT, Nat.reduceLeDiff, Nat.reducePow, Int.reduceLT, Int.reduceLE, Int.reduceNeg, Int.reduceToNat, t1, t2, t8, t9, h6, h7, h8]
        exact ⟨i + 1, by omega, by omega, by rw [wrapN _ (by omega)], hstep (by rw [e8, Bool.or_true])⟩
    · have e7 : l.contains (i : Int) = true := by simpa only [Bool.not_eq_false'] using h7
      simp (dsimp := false) (maxDischargeDepth := 16) only [go_sem, ↓reduceIte, reduceCtorEq, Nat.reduceEqDiff, Nat.reduceAdd, Nat.reduceMul, Nat.reduceSub, Nat.reduceLT, Nat.reduceLeDiff, Nat.reducePow, Int.reduceLT, Int.reduceLE, Int.reduceNeg, Int.reduceToNat, t1, t2, t8, t9, h6, h7]
      exact ⟨i + 1, by omega, by omega, by rw [wrapN _ (by omega)], hstep (by rw [e7, Bool.true_or])⟩
  · simp (dsimp := false) (maxDischargeDepth := 16) only [go_sem, ↓reduceIte, reduceCtorEq, Nat.reduceEqDiff, Nat.reduceAdd, Nat.reduceMul, Nat.reduceSub, Nat.reduceLT, Nat.reduceLeDiff, Nat.reducePow, Int.reduceLT, Int.reduceLE, Int.reduceNeg, Int.reduceToNat, t1, t2, t8, t9, h6]
    exact finB (cov_yes fun j hj => hn j (by omega))
theorem c73 (n : Nat) (l k : List Int) (hn : n ≤ 1000000) : Con Try.prog 73 [lv l, lv k, iv n] 0 (bv (cov n l k)) := by
  refine conT (X := []) (rs := [.tmp 6]) Try.func73 (by kernel_rfl) rfl rfl (by kernel_rfl) ?_
  simp (dsimp := false) (maxDischargeDepth := 16) only [go_sem, ↓reduceIte, reduceCtorEq, Nat.reduceEqDiff, Nat.reduceAdd, Nat.reduceMul, Nat.reduceSub, Nat.reduceLT, Nat.reduceLeDiff, Nat.reducePow, Int.reduceLT, Int.reduceLE, Int.reduceNeg, Int.reduceToNat]
  refine loopK_intro (fun (i : Nat) s => i ≤ n ∧ s.t 0 = lv l ∧ s.t 1 = lv k ∧ s.t 2 = iv n ∧ s.t 7 = iv i ∧ ∀ j, j < i → (l.contains (j : Int) || k.contains (j : Int)) = true) (fun i => n - i) ⟨0, by omega, rfl, rfl, rfl, rfl, fun j hj => by omega⟩ ?_
  rintro i s ⟨hi, t1, t2, t8, t9, hn⟩
  simp (dsimp := false) (maxDischargeDepth := 16) only [go_sem, ↓reduceIte, reduceCtorEq, Nat.reduceEqDiff, Nat.reduceAdd, Nat.reduceMul, Nat.reduceSub, Nat.reduceLT, Nat.reduceLeDiff, Nat.reducePow, Int.reduceLT, Int.reduceLE, Int.reduceNeg, Int.reduceToNat, t1, t2, t8, t9]
  refine condK_dec (fun h6 => ?_) (fun h6 => ?_)
  · have hstep : (l.contains (i : Int) || k.contains (i : Int)) = true → ∀ j, j < i + 1 → (l.contains (j : Int) || k.contains (j : Int)) = true := fun h j hj => by
      by_cases hji : j = i
      · rw [hji]; exact h
      · exact hn j (by omega)
    simp (dsimp := false) (maxDischargeDepth := 16) only [go_sem, ↓reduceIte, reduceCtorEq, Nat.reduceEqDiff, Nat.reduceAdd, Nat.reduceMul, Nat.reduceSub, Nat.reduceLT, Nat.reduceLeDiff, Nat.reducePow, Int.reduceLT, Int.reduceLE, Int.reduceNeg, Int.reduceToNat, t1, t2, t8, t9, h6]
    refine callK_intro (c93 l i) ?_
    simp (dsimp := false) (maxDischargeDepth := 16) only [go_sem, ↓reduceIte, reduceCtorEq, Nat.reduceEqDiff, Nat.reduceAdd, Nat.reduceMul, Nat.reduceSub, Nat.reduceLT, Nat.reduceLeDiff, Nat.reducePow, Int.reduceLT, Int.reduceLE, Int.reduceNeg, Int.reduceToNat, t1, t2, t8, t9, h6]
    refine condK_intro (fun h7 => ?_) (fun h7 => ?_)
    · have e7 : l.contains (i : Int) = false := by simpa only [Bool.not_eq_true'] using h7
      simp (dsimp := false) (maxDischargeDepth := 16) only [go_sem, ↓reduceIte, reduceCtorEq, Nat.reduceEqDiff, Nat.reduceAdd, Nat.reduceMul, Nat.reduceSub, Nat.reduceLT, Nat.reduceLeDiff, Nat.reducePow, Int.reduceLT, Int.reduceLE, Int.reduceNeg, Int.reduceToNat, t1, t2, t8, t9, h6, h7]
      refine callK_intro (c93 k i) ?_
      simp (dsimp := false) (maxDischargeDepth := 16) only [go_sem, ↓reduceIte, reduceCtorEq, Nat.reduceEqDiff, Nat.reduceAdd, Nat.reduceMul, Nat.reduceSub, Nat.reduceLT, Nat.reduceLeDiff, Nat.reducePow, Int.reduceLT, Int.reduceLE, Int.reduceNeg, Int.reduceToNat, t1, t2, t8, t9, h6, h7]
      refine condK_intro (fun h8 => ?_) (fun h8 => ?_)
      · have e8 : k.contains (i : Int) = false := by simpa only [Bool.not_eq_true'] using h8
        simp (dsimp := false) (maxDischargeDepth := 16) only [go_sem, ↓reduceIte, reduceCtorEq, Nat.reduceEqDiff, Nat.reduceAdd, Nat.reduceMul, Nat.reduceSub, Nat.reduceLT, Nat.reduceLeDiff, Nat.reducePow, Int.reduceLT, Int.reduceLE, Int.reduceNeg, Int.reduceToNat, t1, t2, t8, t9, h6, h7, h8]
        exact finB (cov_no h6 e7 e8)
      · have e8 : k.contains (i : Int) = true := by simpa only [Bool.not_eq_false'] using h8
        simp (dsimp := false) (maxDischargeDepth := 16) only [go_sem, ↓reduceIte, reduceCtorEq, Nat.reduceEqDiff, Nat.reduceAdd, Nat.reduceMul, Nat.reduceSub, Nat.reduceLT, Nat.reduceLeDiff, Nat.reducePow, Int.reduceLT, Int.reduceLE, Int.reduceNeg, Int.reduceToNat, t1, t2, t8, t9, h6, h7, h8]
        exact ⟨i + 1, by omega, by omega, by rw [wrapN _ (by omega)], hstep (by rw [e8, Bool.or_true])⟩
    · have e7 : l.contains (i : Int) = true := by simpa only [Bool.not_eq_false'] using h7
      simp (dsimp := false) (maxDischargeDepth := 16) only [go_sem, ↓reduceIte, reduceCtorEq, Nat.reduceEqDiff, Nat.reduceAdd, Nat.reduceMul, Nat.reduceSub, Nat.reduceLT, Nat.reduceLeDiff, Nat.reducePow, Int.reduceLT, Int.reduceLE, Int.reduceNeg, Int.reduceToNat, t1, t2, t8, t9, h6, h7]
      exact ⟨i + 1, by omega, by omega, by rw [wrapN _ (by omega)], hstep (by rw [e7, Bool.true_or])⟩
  · simp (dsimp := false) (maxDischargeDepth := 16) only [go_sem, ↓reduceIte, reduceCtorEq, Nat.reduceEqDiff, Nat.reduceAdd, Nat.reduceMul, Nat.reduceSub, Nat.reduceLT, Nat.reduceLeDiff, Nat.reducePow, Int.reduceLT, Int.reduceLE, Int.reduceNeg, Int.reduceToNat, t1, t2, t8, t9, h6]
    exact finB (cov_yes fun j hj => hn j (by omega))
/-- Are two morphisms valid, and jointly surjective? -/
def jnt (a b x : Gr) (h k : Mo) : Bool := mErr a x h == 0 && (mErr b x k == 0 && (cov x.n.length h.n k.n && cov x.e.length h.e k.e))
theorem c27 (a b x : Gr) (h k : Mo) : Con Try.prog 27 [gv a, gv b, gv x, mv h, mv k] 0 (bv (jnt a b x h k)) := by
  refine conT (X := []) (rs := [.tmp 10]) Try.func27 (by kernel_rfl) rfl rfl (by kernel_rfl) ?_
  simp (dsimp := false) (maxDischargeDepth := 16) only [go_sem, ↓reduceIte, reduceCtorEq, Nat.reduceEqDiff, Nat.reduceAdd, Nat.reduceMul, Nat.reduceSub, Nat.reduceLT, Nat.reduceLeDiff, Nat.reducePow, Int.reduceLT, Int.reduceLE, Int.reduceNeg, Int.reduceToNat]
  refine callK_intro (c70 a x h) ?_
  simp (dsimp := false) (maxDischargeDepth := 16) only [go_sem, ↓reduceIte, reduceCtorEq, Nat.reduceEqDiff, Nat.reduceAdd, Nat.reduceMul, Nat.reduceSub, Nat.reduceLT, Nat.reduceLeDiff, Nat.reducePow, Int.reduceLT, Int.reduceLE, Int.reduceNeg, Int.reduceToNat]
  refine condK_intro (fun h1 => ?_) (fun h1 => ?_)
  · simp (dsimp := false) (maxDischargeDepth := 16) only [go_sem, ↓reduceIte, reduceCtorEq, Nat.reduceEqDiff, Nat.reduceAdd, Nat.reduceMul, Nat.reduceSub, Nat.reduceLT, Nat.reduceLeDiff, Nat.reducePow, Int.reduceLT, Int.reduceLE, Int.reduceNeg, Int.reduceToNat, h1]
    exact finB (by rw [jnt, beq_false_of_ne (ineq h1)]; rfl)
  have e1 := ieq h1
  simp (dsimp := false) (maxDischargeDepth := 16) only [go_sem, ↓reduceIte, reduceCtorEq, Nat.reduceEqDiff, Nat.reduceAdd, Nat.reduceMul, Nat.reduceSub, Nat.reduceLT, Nat.reduceLeDiff, Nat.reducePow, Int.reduceLT, Int.reduceLE, Int.reduceNeg, Int.reduceToNat, h1]
  refine callK_intro (c70 b x k) ?_
  simp (dsimp := false) (maxDischargeDepth := 16) only [go_sem, ↓reduceIte, reduceCtorEq, Nat.reduceEqDiff, Nat.reduceAdd, Nat.reduceMul, Nat.reduceSub, Nat.reduceLT, Nat.reduceLeDiff, Nat.reducePow, Int.reduceLT, Int.reduceLE, Int.reduceNeg, Int.reduceToNat, h1]
  refine condK_intro (fun h2 => ?_) (fun h2 => ?_)
  · simp (dsimp := false) (maxDischargeDepth := 16) only [go_sem, ↓reduceIte, reduceCtorEq, Nat.reduceEqDiff, Nat.reduceAdd, Nat.reduceMul, Nat.reduceSub, Nat.reduceLT, Nat.reduceLeDiff, Nat.reducePow, Int.reduceLT, Int.reduceLE, Int.reduceNeg, Int.reduceToNat, h1, h2]
    exact finB (by rw [jnt, beq_false_of_ne (ineq h2), e1]; rfl)
  have e2 := ieq h2
  have hs := (gErr_small (mErr_ok e1).2.1).1
  have hj : jnt a b x h k = (cov x.n.length h.n k.n && cov x.e.length h.e k.e) := by rw [jnt, e1, e2]; rfl
  simp (dsimp := false) (maxDischargeDepth := 16) only [go_sem, ↓reduceIte, reduceCtorEq, Nat.reduceEqDiff, Nat.reduceAdd, Nat.reduceMul, Nat.reduceSub, Nat.reduceLT, Nat.reduceLeDiff, Nat.reducePow, Int.reduceLT, Int.reduceLE, Int.reduceNeg, Int.reduceToNat, h1, h2]
  refine callK_intro (c71 x.n.length h.n k.n (by omega)) ?_
  simp (dsimp := false) (maxDischargeDepth := 16) only [go_sem, ↓reduceIte, reduceCtorEq, Nat.reduceEqDiff, Nat.reduceAdd, Nat.reduceMul, Nat.reduceSub, Nat.reduceLT, Nat.reduceLeDiff, Nat.reducePow, Int.reduceLT, Int.reduceLE, Int.reduceNeg, Int.reduceToNat, h1, h2]
  refine condK_intro (fun h3 => ?_) (fun h3 => ?_)
  · simp (dsimp := false) (maxDischargeDepth := 16) only [go_sem, ↓reduceIte, reduceCtorEq, Nat.reduceEqDiff, Nat.reduceAdd, Nat.reduceMul, Nat.reduceSub, Nat.reduceLT, Nat.reduceLeDiff, Nat.reducePow, Int.reduceLT, Int.reduceLE, Int.reduceNeg, Int.reduceToNat, h1, h2, h3]
    refine callK_intro (c71 x.e.length h.e k.e (by omega)) ?_
    simp (dsimp := false) (maxDischargeDepth := 16) only [go_sem, ↓reduceIte, reduceCtorEq, Nat.reduceEqDiff, Nat.reduceAdd, Nat.reduceMul, Nat.reduceSub, Nat.reduceLT, Nat.reduceLeDiff, Nat.reducePow, Int.reduceLT, Int.reduceLE, Int.reduceNeg, Int.reduceToNat, h1, h2, h3]
    exact finB (by rw [hj, h3]; rfl)
  · simp (dsimp := false) (maxDischargeDepth := 16) only [go_sem, ↓reduceIte, reduceCtorEq, Nat.reduceEqDiff, Nat.reduceAdd, Nat.reduceMul, Nat.reduceSub, Nat.reduceLT, Nat.reduceLeDiff, Nat.reducePow, Int.reduceLT, Int.reduceLE, Int.reduceNeg, Int.reduceToNat, h1, h2, h3]
    exact finB (by rw [hj, h3]; rfl)
theorem c28 (a b x : Gr) (h k : Mo) : Con Try.prog 28 [gv a, gv b, gv x, mv h, mv k] 0 (bv (jnt a b x h k)) := by
  refine conT (X := []) (rs := [.tmp 10]) Try.func28 (by kernel_rfl) rfl rfl (by kernel_rfl) ?_
  simp (dsimp := false) (maxDischargeDepth := 16) only [go_sem, ↓reduceIte, reduceCtorEq, Nat.reduceEqDiff, Nat.reduceAdd, Nat.reduceMul, Nat.reduceSub, Nat.reduceLT, Nat.reduceLeDiff, Nat.reducePow, Int.reduceLT, Int.reduceLE, Int.reduceNeg, Int.reduceToNat]
  refine callK_intro (c72 a x h) ?_
  simp (dsimp := false) (maxDischargeDepth := 16) only [go_sem, ↓reduceIte, reduceCtorEq, Nat.reduceEqDiff, Nat.reduceAdd, Nat.reduceMul, Nat.reduceSub, Nat.reduceLT, Nat.reduceLeDiff, Nat.reducePow, Int.reduceLT, Int.reduceLE, Int.reduceNeg, Int.reduceToNat]
  refine condK_intro (fun h1 => ?_) (fun h1 => ?_)
  rotate_left
  · simp (dsimp := false) (maxDischargeDepth := 16) only [go_sem, ↓reduceIte, reduceCtorEq, Nat.reduceEqDiff, Nat.reduceAdd, Nat.reduceMul, Nat.reduceSub, Nat.reduceLT, Nat.reduceLeDiff, Nat.reducePow, Int.reduceLT, Int.reduceLE, Int.reduceNeg, Int.reduceToNat, h1]
    exact finB (by rw [jnt, h1]; rfl)
  have e1 := beqT h1
  simp (dsimp := false) (maxDischargeDepth := 16) only [go_sem, ↓reduceIte, reduceCtorEq, Nat.reduceEqDiff, Nat.reduceAdd, Nat.reduceMul, Nat.reduceSub, Nat.reduceLT, Nat.reduceLeDiff, Nat.reducePow, Int.reduceLT, Int.reduceLE, Int.reduceNeg, Int.reduceToNat, h1]
  refine callK_intro (c72 b x k) ?_
  simp (dsimp := false) (maxDischargeDepth := 16) only [go_sem, ↓reduceIte, reduceCtorEq, Nat.reduceEqDiff, Nat.reduceAdd, Nat.reduceMul, Nat.reduceSub, Nat.reduceLT, Nat.reduceLeDiff, Nat.reducePow, Int.reduceLT, Int.reduceLE, Int.reduceNeg, Int.reduceToNat, h1]
  refine condK_intro (fun h2 => ?_) (fun h2 => ?_)
  rotate_left
  · simp (dsimp := false) (maxDischargeDepth := 16) only [go_sem, ↓reduceIte, reduceCtorEq, Nat.reduceEqDiff, Nat.reduceAdd, Nat.reduceMul, Nat.reduceSub, Nat.reduceLT, Nat.reduceLeDiff, Nat.reducePow, Int.reduceLT, Int.reduceLE, Int.reduceNeg, Int.reduceToNat, h1, h2]
    exact finB (by rw [jnt, h2, e1]; rfl)
  have e2 := beqT h2
  have hs := (gErr_small (mErr_ok e1).2.1).1
  have hj : jnt a b x h k = (cov x.n.length h.n k.n && cov x.e.length h.e k.e) := by rw [jnt, e1, e2]; rfl
  simp (dsimp := false) (maxDischargeDepth := 16) only [go_sem, ↓reduceIte, reduceCtorEq, Nat.reduceEqDiff, Nat.reduceAdd, Nat.reduceMul, Nat.reduceSub, Nat.reduceLT, Nat.reduceLeDiff, Nat.reducePow, Int.reduceLT, Int.reduceLE, Int.reduceNeg, Int.reduceToNat, h1, h2]
  refine callK_intro (c73 x.n.length h.n k.n (by omega)) ?_
  simp (dsimp := false) (maxDischargeDepth := 16) only [go_sem, ↓reduceIte, reduceCtorEq, Nat.reduceEqDiff, Nat.reduceAdd, Nat.reduceMul, Nat.reduceSub, Nat.reduceLT, Nat.reduceLeDiff, Nat.reducePow, Int.reduceLT, Int.reduceLE, Int.reduceNeg, Int.reduceToNat, h1, h2]
  refine condK_intro (fun h3 => ?_) (fun h3 => ?_)
  · simp (dsimp := false) (maxDischargeDepth := 16) only [go_sem, ↓reduceIte, reduceCtorEq, Nat.reduceEqDiff, Nat.reduceAdd, Nat.reduceMul, Nat.reduceSub, Nat.reduceLT, Nat.reduceLeDiff, Nat.reducePow, Int.reduceLT, Int.reduceLE, Int.reduceNeg, Int.reduceToNat, h1, h2, h3]
    refine callK_intro (c73 x.e.length h.e k.e (by omega)) ?_
    simp (dsimp := false) (maxDischargeDepth := 16) only [go_sem, ↓reduceIte, reduceCtorEq, Nat.reduceEqDiff, Nat.reduceAdd, Nat.reduceMul, Nat.reduceSub, Nat.reduceLT, Nat.reduceLeDiff, Nat.reducePow, Int.reduceLT, Int.reduceLE, Int.reduceNeg, Int.reduceToNat, h1, h2, h3]
    exact finB (by rw [hj, h3]; rfl)
  · simp (dsimp := false) (maxDischargeDepth := 16) only [go_sem, ↓reduceIte, reduceCtorEq, Nat.reduceEqDiff, Nat.reduceAdd, Nat.reduceMul, Nat.reduceSub, Nat.reduceLT, Nat.reduceLeDiff, Nat.reducePow, Int.reduceLT, Int.reduceLE, Int.reduceNeg, Int.reduceToNat, h1, h2, h3]
    exact finB (by rw [hj, h3]; rfl)
end Go.Sy
