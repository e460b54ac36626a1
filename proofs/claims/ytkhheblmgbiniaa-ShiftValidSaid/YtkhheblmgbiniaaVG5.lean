/- FactorListed: the law's contract. -/
import Derived.Test.YtkhheblmgbiniaaVG4
import Derived.Test.YtkhheblmgbiniaaVG2
import Derived.Test.YtkhheblmgbiniaaVG3
import Derived.WalkKit
import Derived.Deep.RegionLaw
import Derived.Laws.CopyOwn
import Derived.Deep.OwnRows
set_option linter.unusedSimpArgs false
namespace Go.Sy
open Go Go.Proofs

theorem aops_cut {P : Program} {ops : Array Oper} {l : List Oper} {s : St} {K : St → Prop} (I : St → Prop) (h1 : I s) (h2 : ∀ s', I s' → aops P ops l s' K) : aops P ops l s K := h2 s h1
theorem made_ok {d : Dr} (hd : drOK d) : gErr (made d) = 0 ∧ (made d).n.length ≤ 8 ∧ (made d).e.length ≤ 10 := by
  have l1 : (made d).n.length ≤ 8 := by simp [made]; omega
  have l2 : (made d).e.length ≤ 10 := by
    unfold made
    show (if d.n = [] then [] else _ : List Ed).length ≤ 10
    split
    · simp
    · simp; omega
  refine ⟨?_, l1, l2⟩
  rw [gErr, if_pos (by omega), if_pos]
  refine ⟨fun t ht => ?_, fun x hx => ?_⟩
  · obtain ⟨y, hy, rfl⟩ := List.mem_map.1 ht
    have := hd.1 y (List.mem_of_mem_take hy)
    have := tmod_byte (n := 3) this.1 (by decide)
    omega
  · have hx : x ∈ (if d.n = [] then [] else (d.e.take 10).map (mkE (d.n.take 8).length) : List Ed) := hx
    split at hx
    · simp at hx
    · rename_i hne
      obtain ⟨y, hy, rfl⟩ := List.mem_map.1 hx
      have hb := hd.2 y (List.mem_of_mem_take hy)
      have hpos : 0 < d.n.length := List.length_pos_iff.2 hne
      have hl : (made d).n.length = (d.n.take 8).length := by simp [made]
      have hp : (0 : Int) < ((d.n.take 8).length : Int) := by rw [List.length_take]; omega
      have x1 := tmod_byte (n := 2) hb.1.1 (by decide)
      have x2 := tmod_byte (n := ((d.n.take 8).length : Int)) hb.2.1.1 hp
      have x3 := tmod_byte (n := ((d.n.take 8).length : Int)) hb.2.2.1 hp
      rw [hl]
      unfold edOK mkE
      dsimp only
      omega
set_option maxHeartbeats 2000000 in
theorem c6 (x y : Dr) (hx : drOK x) (hy : drOK y) : Con Try.prog 6 [dv x, dv y] 0 (bv true) := by
  have H1 := c29 x 4 3
  have H2 := c29 y 4 3
  obtain ⟨va, na, ea⟩ := made_ok hx
  obtain ⟨vb, nb, eb⟩ := made_ok hy
  have H3 := c30 x hx
  have H4 := c30 y hy
  generalize made x = a at *
  generalize made y = b at *
  generalize smallD x 4 3 = A at *
  generalize smallD y 4 3 = B at *
  cases A with
  | false =>
    refine conT (X := [(99, [], [])]) (rs := [.tmp 4]) Try.func6 (by kernel_rfl) rfl rfl (by kernel_rfl) ?_
    simp (dsimp := false) (maxDischargeDepth := 16) only [go_sem, ↓reduceIte, reduceCtorEq, Nat.reduceEqDiff, Nat.reduceAdd, Nat.reduceMul, Nat.reduceSub, Nat.reduceLT, Nat.reduceLeDiff, Nat.reducePow, Int.reduceLT, Int.reduceLE, Int.reduceNeg, Int.reduceToNat]
    refine callK_intro c16 ?_
    simp (dsimp := false) (maxDischargeDepth := 16) only [go_sem, ↓reduceIte, reduceCtorEq, Nat.reduceEqDiff, Nat.reduceAdd, Nat.reduceMul, Nat.reduceSub, Nat.reduceLT, Nat.reduceLeDiff, Nat.reducePow, Int.reduceLT, Int.reduceLE, Int.reduceNeg, Int.reduceToNat]
    refine callK_intro H1 ?_
    simp (dsimp := false) (maxDischargeDepth := 16) only [go_sem, ↓reduceIte, reduceCtorEq, Nat.reduceEqDiff, Nat.reduceAdd, Nat.reduceMul, Nat.reduceSub, Nat.reduceLT, Nat.reduceLeDiff, Nat.reducePow, Int.reduceLT, Int.reduceLE, Int.reduceNeg, Int.reduceToNat]
    refine callK_intro c16 ?_
    simp (dsimp := false) (maxDischargeDepth := 16) only [go_sem, ↓reduceIte, reduceCtorEq, Nat.reduceEqDiff, Nat.reduceAdd, Nat.reduceMul, Nat.reduceSub, Nat.reduceLT, Nat.reduceLeDiff, Nat.reducePow, Int.reduceLT, Int.reduceLE, Int.reduceNeg, Int.reduceToNat]
    exact finB rfl
  | true =>
  cases B with
  | false =>
    refine conT (X := [(99, [], [])]) (rs := [.tmp 4]) Try.func6 (by kernel_rfl) rfl rfl (by kernel_rfl) ?_
    simp (dsimp := false) (maxDischargeDepth := 16) only [go_sem, ↓reduceIte, reduceCtorEq, Nat.reduceEqDiff, Nat.reduceAdd, Nat.reduceMul, Nat.reduceSub, Nat.reduceLT, Nat.reduceLeDiff, Nat.reducePow, Int.reduceLT, Int.reduceLE, Int.reduceNeg, Int.reduceToNat]
    refine callK_intro c16 ?_
    simp (dsimp := false) (maxDischargeDepth := 16) only [go_sem, ↓reduceIte, reduceCtorEq, Nat.reduceEqDiff, Nat.reduceAdd, Nat.reduceMul, Nat.reduceSub, Nat.reduceLT, Nat.reduceLeDiff, Nat.reducePow, Int.reduceLT, Int.reduceLE, Int.reduceNeg, Int.reduceToNat]
    refine callK_intro H1 ?_
    simp (dsimp := false) (maxDischargeDepth := 16) only [go_sem, ↓reduceIte, reduceCtorEq, Nat.reduceEqDiff, Nat.reduceAdd, Nat.reduceMul, Nat.reduceSub, Nat.reduceLT, Nat.reduceLeDiff, Nat.reducePow, Int.reduceLT, Int.reduceLE, Int.reduceNeg, Int.reduceToNat]
    refine callK_intro H2 ?_
    simp (dsimp := false) (maxDischargeDepth := 16) only [go_sem, ↓reduceIte, reduceCtorEq, Nat.reduceEqDiff, Nat.reduceAdd, Nat.reduceMul, Nat.reduceSub, Nat.reduceLT, Nat.reduceLeDiff, Nat.reducePow, Int.reduceLT, Int.reduceLE, Int.reduceNeg, Int.reduceToNat]
    refine callK_intro c16 ?_
    simp (dsimp := false) (maxDischargeDepth := 16) only [go_sem, ↓reduceIte, reduceCtorEq, Nat.reduceEqDiff, Nat.reduceAdd, Nat.reduceMul, Nat.reduceSub, Nat.reduceLT, Nat.reduceLeDiff, Nat.reducePow, Int.reduceLT, Int.reduceLE, Int.reduceNeg, Int.reduceToNat]
    exact finB rfl
  | true =>
  have s1 : a.n.length + b.n.length ≤ 40 ∧ a.e.length + b.e.length ≤ 80 := by omega
  have e1 := ovS_eq va vb s1
  have e2 := ovS_eq vb va (by omega)
  have el := ovP_len va vb
  have hall : ∀ p ∈ ovP a b, isM a b p := fun p hp => (memP a b p).1 hp
  have hnd := ovP_nodup a b
  have hhead := ovP_head a b
  generalize ovP a b = l at *
  generalize ovP b a = k at *
  have H5 := c18 a b
  have H6 := c18 b a
  refine conT (X := [(99, [], [])]) (rs := [.tmp 4]) Try.func6 (by kernel_rfl) rfl rfl (by kernel_rfl) ?_
  simp (dsimp := false) (maxDischargeDepth := 16) only [go_sem, ↓reduceIte, reduceCtorEq, Nat.reduceEqDiff, Nat.reduceAdd, Nat.reduceMul, Nat.reduceSub, Nat.reduceLT, Nat.reduceLeDiff, Nat.reducePow, Int.reduceLT, Int.reduceLE, Int.reduceNeg, Int.reduceToNat]
  refine callK_intro c16 ?_
  simp (dsimp := false) (maxDischargeDepth := 16) only [go_sem, ↓reduceIte, reduceCtorEq, Nat.reduceEqDiff, Nat.reduceAdd, Nat.reduceMul, Nat.reduceSub, Nat.reduceLT, Nat.reduceLeDiff, Nat.reducePow, Int.reduceLT, Int.reduceLE, Int.reduceNeg, Int.reduceToNat]
  refine callK_intro H1 ?_
  simp (dsimp := false) (maxDischargeDepth := 16) only [go_sem, ↓reduceIte, reduceCtorEq, Nat.reduceEqDiff, Nat.reduceAdd, Nat.reduceMul, Nat.reduceSub, Nat.reduceLT, Nat.reduceLeDiff, Nat.reducePow, Int.reduceLT, Int.reduceLE, Int.reduceNeg, Int.reduceToNat]
  refine callK_intro H2 ?_
  simp (dsimp := false) (maxDischargeDepth := 16) only [go_sem, ↓reduceIte, reduceCtorEq, Nat.reduceEqDiff, Nat.reduceAdd, Nat.reduceMul, Nat.reduceSub, Nat.reduceLT, Nat.reduceLeDiff, Nat.reducePow, Int.reduceLT, Int.reduceLE, Int.reduceNeg, Int.reduceToNat]
  refine callK_intro H3 ?_
  simp (dsimp := false) (maxDischargeDepth := 16) only [go_sem, ↓reduceIte, reduceCtorEq, Nat.reduceEqDiff, Nat.reduceAdd, Nat.reduceMul, Nat.reduceSub, Nat.reduceLT, Nat.reduceLeDiff, Nat.reducePow, Int.reduceLT, Int.reduceLE, Int.reduceNeg, Int.reduceToNat]
  refine callK_intro H4 ?_
  simp (dsimp := false) (maxDischargeDepth := 16) only [go_sem, ↓reduceIte, reduceCtorEq, Nat.reduceEqDiff, Nat.reduceAdd, Nat.reduceMul, Nat.reduceSub, Nat.reduceLT, Nat.reduceLeDiff, Nat.reducePow, Int.reduceLT, Int.reduceLE, Int.reduceNeg, Int.reduceToNat]
  by_cases hbig : 2000 < l.length
  · rw [if_pos hbig] at e1
    rw [if_pos (by omega)] at e2
    rw [e1] at H5
    rw [e2] at H6
    refine callK_intro H5 ?_
    simp (dsimp := false) (maxDischargeDepth := 16) only [go_sem, ↓reduceIte, reduceCtorEq, Nat.reduceEqDiff, Nat.reduceAdd, Nat.reduceMul, Nat.reduceSub, Nat.reduceLT, Nat.reduceLeDiff, Nat.reducePow, Int.reduceLT, Int.reduceLE, Int.reduceNeg, Int.reduceToNat]
    refine callK_intro H6 ?_
    simp (dsimp := false) (maxDischargeDepth := 16) only [go_sem, ↓reduceIte, reduceCtorEq, Nat.reduceEqDiff, Nat.reduceAdd, Nat.reduceMul, Nat.reduceSub, Nat.reduceLT, Nat.reduceLeDiff, Nat.reducePow, Int.reduceLT, Int.reduceLE, Int.reduceNeg, Int.reduceToNat]
    refine condK_intro (fun q1 => absurd q1 (by decide)) (fun q1 => ?_)
    simp (dsimp := false) (maxDischargeDepth := 16) only [go_sem, ↓reduceIte, reduceCtorEq, Nat.reduceEqDiff, Nat.reduceAdd, Nat.reduceMul, Nat.reduceSub, Nat.reduceLT, Nat.reduceLeDiff, Nat.reducePow, Int.reduceLT, Int.reduceLE, Int.reduceNeg, Int.reduceToNat, q1]
    refine condK_intro (fun q2 => absurd q2 (by decide)) (fun q2 => ?_)
    simp (dsimp := false) (maxDischargeDepth := 16) only [go_sem, ↓reduceIte, reduceCtorEq, Nat.reduceEqDiff, Nat.reduceAdd, Nat.reduceMul, Nat.reduceSub, Nat.reduceLT, Nat.reduceLeDiff, Nat.reducePow, Int.reduceLT, Int.reduceLE, Int.reduceNeg, Int.reduceToNat, q1, q2]
    refine condK_intro (fun q3 => ?_) (fun q3 => absurd q3 (by decide))
    simp (dsimp := false) (maxDischargeDepth := 16) only [go_sem, ↓reduceIte, reduceCtorEq, Nat.reduceEqDiff, Nat.reduceAdd, Nat.reduceMul, Nat.reduceSub, Nat.reduceLT, Nat.reduceLeDiff, Nat.reducePow, Int.reduceLT, Int.reduceLE, Int.reduceNeg, Int.reduceToNat, q1, q2, q3]
    refine condK_intro (fun q4 => ?_) (fun q4 => absurd q4 (by decide))
    simp (dsimp := false) (maxDischargeDepth := 16) only [go_sem, ↓reduceIte, reduceCtorEq, Nat.reduceEqDiff, Nat.reduceAdd, Nat.reduceMul, Nat.reduceSub, Nat.reduceLT, Nat.reduceLeDiff, Nat.reducePow, Int.reduceLT, Int.reduceLE, Int.reduceNeg, Int.reduceToNat, q1, q2, q3, q4]
    exact finB rfl
  · rw [if_neg hbig] at e1
    rw [if_neg (by omega)] at e2
    rw [e1] at H5
    rw [e2] at H6
    refine callK_intro H5 ?_
    simp (dsimp := false) (maxDischargeDepth := 16) only [go_sem, ↓reduceIte, reduceCtorEq, Nat.reduceEqDiff, Nat.reduceAdd, Nat.reduceMul, Nat.reduceSub, Nat.reduceLT, Nat.reduceLeDiff, Nat.reducePow, Int.reduceLT, Int.reduceLE, Int.reduceNeg, Int.reduceToNat]
    refine callK_intro H6 ?_
    simp (dsimp := false) (maxDischargeDepth := 16) only [go_sem, ↓reduceIte, reduceCtorEq, Nat.reduceEqDiff, Nat.reduceAdd, Nat.reduceMul, Nat.reduceSub, Nat.reduceLT, Nat.reduceLeDiff, Nat.reducePow, Int.reduceLT, Int.reduceLE, Int.reduceNeg, Int.reduceToNat]
    refine condK_intro (fun q1 => absurd q1 (by decide)) (fun q1 => ?_)
    simp (dsimp := false) (maxDischargeDepth := 16) only [go_sem, ↓reduceIte, reduceCtorEq, Nat.reduceEqDiff, Nat.reduceAdd, Nat.reduceMul, Nat.reduceSub, Nat.reduceLT, Nat.reduceLeDiff, Nat.reducePow, Int.reduceLT, Int.reduceLE, Int.reduceNeg, Int.reduceToNat, q1]
    refine condK_intro (fun q2 => absurd (ineq q2) (by omega)) (fun q2 => ?_)
    simp (dsimp := false) (maxDischargeDepth := 16) only [go_sem, ↓reduceIte, reduceCtorEq, Nat.reduceEqDiff, Nat.reduceAdd, Nat.reduceMul, Nat.reduceSub, Nat.reduceLT, Nat.reduceLeDiff, Nat.reducePow, Int.reduceLT, Int.reduceLE, Int.reduceNeg, Int.reduceToNat, q1, q2]
    refine loopK_intro (fun (i : Nat) s => i ≤ l.length ∧ s.t 5 = .box (5, 0, 0) 0 ∧ s.b (5, 0, 0) = some ⟨gcs a, false⟩ ∧ s.t 6 = .box (6, 0, 0) 0 ∧ s.b (6, 0, 0) = some ⟨gcs b, false⟩ ∧ s.t 7 = olv (l.map fun p => glue a b p.1 p.2) ∧
      s.t 63 = olv (l.map fun p => glue a b p.1 p.2) ∧ s.t 64 = iv l.length ∧ s.t 65 = iv i) (fun i => l.length - i) ?_ ?_
    · refine ⟨0, by omega, rfl, rfl, rfl, rfl, rfl, rfl, ?_, rfl⟩
      simp (dsimp := false) (maxDischargeDepth := 16) only [go_sem, ↓reduceIte, reduceCtorEq, Nat.reduceEqDiff, Nat.reduceAdd, Nat.reduceMul, Nat.reduceSub, Nat.reduceLT, Nat.reduceLeDiff, Nat.reducePow, Int.reduceLT, Int.reduceLE, Int.reduceNeg, Int.reduceToNat]
    rintro i s ⟨hi, t5, b5, t6, b6, t7, t63, t64, t65⟩
    simp (dsimp := false) (maxDischargeDepth := 16) only [go_sem, ↓reduceIte, reduceCtorEq, Nat.reduceEqDiff, Nat.reduceAdd, Nat.reduceMul, Nat.reduceSub, Nat.reduceLT, Nat.reduceLeDiff, Nat.reducePow, Int.reduceLT, Int.reduceLE, Int.reduceNeg, Int.reduceToNat, t5, b5, t6, b6, t7, t63, t64, t65]
    refine condK_dec (fun h6 => ?_) (fun h6 => ?_)
    rotate_left
    · have hpos : 0 < l.length := by
        cases l with
        | nil => simp at hhead
        | cons p l => simp
      have hl0 : l[0] = (List.replicate b.n.length (-1), List.replicate b.e.length (-1)) := by
        cases l with
        | nil => simp at hhead
        | cons p l => simpa using hhead
      have hcount : (glue a b l[0].1 l[0].2).g.n.length = a.n.length + b.n.length := by rw [hl0]; exact glue_first a b _
      have w1 : IntKind.i64.wrap ((a.n.length : Int) + b.n.length) = (a.n.length : Int) + b.n.length := wrap_i64 _ (by omega) (by omega)
      simp (dsimp := false) (maxDischargeDepth := 16) only [go_sem, ↓reduceIte, reduceCtorEq, Nat.reduceEqDiff, Nat.reduceAdd, Nat.reduceMul, Nat.reduceSub, Nat.reduceLT, Nat.reduceLeDiff, Nat.reducePow, Int.reduceLT, Int.reduceLE, Int.reduceNeg, Int.reduceToNat, t5, b5, t6, b6, t7, t63, t64, t65, h6]
      refine condK_dec (fun h7 => ?_) (fun h7 => absurd (show (0 : Int) < l.length by omega) h7)
      simp (dsimp := false) (maxDischargeDepth := 16) only [go_sem, ↓reduceIte, reduceCtorEq, Nat.reduceEqDiff, Nat.reduceAdd, Nat.reduceMul, Nat.reduceSub, Nat.reduceLT, Nat.reduceLeDiff, Nat.reducePow, Int.reduceLT, Int.reduceLE, Int.reduceNeg, Int.reduceToNat, t5, b5, t6, b6, t7, t63, t64, t65, h6, h7, idx_int, hpos, w1, hcount]
      refine finB ?_
      simp
    have hM := hall _ (List.getElem_mem h6)
    obtain ⟨gl, gr, gj⟩ := glue_all va vb (glue_small s1 hM) hM
    have K1 := c31 a (glue a b l[i].1 l[i].2).g (glue a b l[i].1 l[i].2).l
    have K2 := c31 b (glue a b l[i].1 l[i].2).g (glue a b l[i].1 l[i].2).r
    have K3 := c27 a b (glue a b l[i].1 l[i].2).g (glue a b l[i].1 l[i].2).l (glue a b l[i].1 l[i].2).r
    rw [gl] at K1
    rw [gr] at K2
    rw [gj] at K3
    have w2 : IntKind.i64.wrap ((i : Int) - 1) = (i : Int) - 1 := wrap_i64 _ (by omega) (by omega)
    simp (dsimp := false) (maxDischargeDepth := 16) only [go_sem, ↓reduceIte, reduceCtorEq, Nat.reduceEqDiff, Nat.reduceAdd, Nat.reduceMul, Nat.reduceSub, Nat.reduceLT, Nat.reduceLeDiff, Nat.reducePow, Int.reduceLT, Int.reduceLE, Int.reduceNeg, Int.reduceToNat, t5, b5, t6, b6, t7, t63, t64, t65, h6, idx_nat]
    refine callK_intro K1 ?_
    simp (dsimp := false) (maxDischargeDepth := 16) only [go_sem, ↓reduceIte, reduceCtorEq, Nat.reduceEqDiff, Nat.reduceAdd, Nat.reduceMul, Nat.reduceSub, Nat.reduceLT, Nat.reduceLeDiff, Nat.reducePow, Int.reduceLT, Int.reduceLE, Int.reduceNeg, Int.reduceToNat, t5, b5, t6, b6, t7, t63, t64, t65, h6]
    refine callK_intro K2 ?_
    simp (dsimp := false) (maxDischargeDepth := 16) only [go_sem, ↓reduceIte, reduceCtorEq, Nat.reduceEqDiff, Nat.reduceAdd, Nat.reduceMul, Nat.reduceSub, Nat.reduceLT, Nat.reduceLeDiff, Nat.reducePow, Int.reduceLT, Int.reduceLE, Int.reduceNeg, Int.reduceToNat, t5, b5, t6, b6, t7, t63, t64, t65, h6]
    refine callK_intro K3 ?_
    simp (dsimp := false) (maxDischargeDepth := 16) only [go_sem, ↓reduceIte, reduceCtorEq, Nat.reduceEqDiff, Nat.reduceAdd, Nat.reduceMul, Nat.reduceSub, Nat.reduceLT, Nat.reduceLeDiff, Nat.reducePow, Int.reduceLT, Int.reduceLE, Int.reduceNeg, Int.reduceToNat, t5, b5, t6, b6, t7, t63, t64, t65, h6]
    refine condK_dec (fun h9 => ?_) (fun h9 => ?_)
    · have r1 : (0 : Int) ≤ (i : Int) - 1 := by omega
      have r2 : ((i : Int) - 1).toNat < l.length := by omega
      have K4 := c32 (glue a b l[((i : Int) - 1).toNat].1 l[((i : Int) - 1).toNat].2) (glue a b l[i].1 l[i].2)
      have hne : glue a b l[((i : Int) - 1).toNat].1 l[((i : Int) - 1).toNat].2 ≠ glue a b l[i].1 l[i].2 := fun e => by
        have e2 := glue_inj (hall _ (List.getElem_mem r2)) hM e
        have e3 : l[((i : Int) - 1).toNat]? = l[i]? := by rw [List.getElem?_eq_getElem r2, List.getElem?_eq_getElem h6, e2]
        have := (List.getElem?_inj r2 hnd).1 e3
        omega
      rw [decide_eq_false hne] at K4
      simp (dsimp := false) (maxDischargeDepth := 16) only [go_sem, ↓reduceIte, reduceCtorEq, Nat.reduceEqDiff, Nat.reduceAdd, Nat.reduceMul, Nat.reduceSub, Nat.reduceLT, Nat.reduceLeDiff, Nat.reducePow, Int.reduceLT, Int.reduceLE, Int.reduceNeg, Int.reduceToNat, t5, b5, t6, b6, t7, t63, t64, t65, h6, h9, w2, idx_int, r1, r2]
      refine callK_intro K4 ?_
      simp (dsimp := false) (maxDischargeDepth := 16) only [go_sem, ↓reduceIte, reduceCtorEq, Nat.reduceEqDiff, Nat.reduceAdd, Nat.reduceMul, Nat.reduceSub, Nat.reduceLT, Nat.reduceLeDiff, Nat.reducePow, Int.reduceLT, Int.reduceLE, Int.reduceNeg, Int.reduceToNat, t5, b5, t6, b6, t7, t63, t64, t65, h6, h9]
      exact ⟨i + 1, by omega, by omega, by rw [wrapN _ (by omega)]⟩
    · simp (dsimp := false) (maxDischargeDepth := 16) only [go_sem, ↓reduceIte, reduceCtorEq, Nat.reduceEqDiff, Nat.reduceAdd, Nat.reduceMul, Nat.reduceSub, Nat.reduceLT, Nat.reduceLeDiff, Nat.reducePow, Int.reduceLT, Int.reduceLE, Int.reduceNeg, Int.reduceToNat, t5, b5, t6, b6, t7, t63, t64, t65, h6, h9]
      exact ⟨i + 1, by omega, by omega, by rw [wrapN _ (by omega)]⟩
end Go.Sy

/- Contracts: injective morphisms as the program tells them; places; compositions. -/
set_option linter.unusedSimpArgs false
namespace Go.Sy
open Go Go.Proofs

theorem sq_beq (l : List Int) : (((sq l).length : Int) == (l.length : Int)) = dist l := by
  rw [Bool.eq_iff_iff, ← sq_dist, beq_iff_eq]
  omega
theorem c75 (a b : Gr) (m : Mo) : Con Try.prog 75 [gv a, gv b, mv m] 0 (bv (injR a b m)) := by
  refine conT (X := []) (rs := [.tmp 6]) Try.func75 (by kernel_rfl) rfl rfl (by kernel_rfl) ?_
  simp (dsimp := false) (maxDischargeDepth := 16) only [go_sem, ↓reduceIte, reduceCtorEq, Nat.reduceEqDiff, Nat.reduceAdd, Nat.reduceMul, Nat.reduceSub, Nat.reduceLT, Nat.reduceLeDiff, Nat.reducePow, Int.reduceLT, Int.reduceLE, Int.reduceNeg, Int.reduceToNat]
  refine callK_intro (c70 a b m) ?_
  simp (dsimp := false) (maxDischargeDepth := 16) only [go_sem, ↓reduceIte, reduceCtorEq, Nat.reduceEqDiff, Nat.reduceAdd, Nat.reduceMul, Nat.reduceSub, Nat.reduceLT, Nat.reduceLeDiff, Nat.reducePow, Int.reduceLT, Int.reduceLE, Int.reduceNeg, Int.reduceToNat]
  refine condK_intro (fun h1 => ?_) (fun h1 => ?_)
  · have hs := mErr_ok (beq_iff_eq.1 h1)
    have ga := (gErr_small hs.1).1
    simp (dsimp := false) (maxDischargeDepth := 16) only [go_sem, ↓reduceIte, reduceCtorEq, Nat.reduceEqDiff, Nat.reduceAdd, Nat.reduceMul, Nat.reduceSub, Nat.reduceLT, Nat.reduceLeDiff, Nat.reducePow, Int.reduceLT, Int.reduceLE, Int.reduceNeg, Int.reduceToNat, h1]
    refine callK_intro (c123 m.n (by omega)) ?_
    simp (dsimp := false) (maxDischargeDepth := 16) only [go_sem, ↓reduceIte, reduceCtorEq, Nat.reduceEqDiff, Nat.reduceAdd, Nat.reduceMul, Nat.reduceSub, Nat.reduceLT, Nat.reduceLeDiff, Nat.reducePow, Int.reduceLT, Int.reduceLE, Int.reduceNeg, Int.reduceToNat, h1, sq_beq]
    refine condK_intro (fun h2 => ?_) (fun h2 => ?_)
    · simp (dsimp := false) (maxDischargeDepth := 16) only [go_sem, ↓reduceIte, reduceCtorEq, Nat.reduceEqDiff, Nat.reduceAdd, Nat.reduceMul, Nat.reduceSub, Nat.reduceLT, Nat.reduceLeDiff, Nat.reducePow, Int.reduceLT, Int.reduceLE, Int.reduceNeg, Int.reduceToNat, h1, h2]
      refine callK_intro (c123 m.e (by omega)) ?_
      simp (dsimp := false) (maxDischargeDepth := 16) only [go_sem, ↓reduceIte, reduceCtorEq, Nat.reduceEqDiff, Nat.reduceAdd, Nat.reduceMul, Nat.reduceSub, Nat.reduceLT, Nat.reduceLeDiff, Nat.reducePow, Int.reduceLT, Int.reduceLE, Int.reduceNeg, Int.reduceToNat, h1, h2, sq_beq]
      exact finB (by rw [injR, h1, h2]; rfl)
    · simp (dsimp := false) (maxDischargeDepth := 16) only [go_sem, ↓reduceIte, reduceCtorEq, Nat.reduceEqDiff, Nat.reduceAdd, Nat.reduceMul, Nat.reduceSub, Nat.reduceLT, Nat.reduceLeDiff, Nat.reducePow, Int.reduceLT, Int.reduceLE, Int.reduceNeg, Int.reduceToNat, h1, h2]
      exact finB (by rw [injR, h1, h2]; rfl)
  · simp (dsimp := false) (maxDischargeDepth := 16) only [go_sem, ↓reduceIte, reduceCtorEq, Nat.reduceEqDiff, Nat.reduceAdd, Nat.reduceMul, Nat.reduceSub, Nat.reduceLT, Nat.reduceLeDiff, Nat.reducePow, Int.reduceLT, Int.reduceLE, Int.reduceNeg, Int.reduceToNat, h1]
    exact finB (by rw [injR, h1]; rfl)
/-- The places of numbers in a list. -/
def plc (k l : List Int) : List Int := l.map fun x => idxP (fun y => x == y) k
theorem plc_succ {k l : List Int} {i : Nat} (h : i < l.length) : plc k (l.take (i + 1)) = plc k (l.take i) ++ [idxP (fun y => l[i] == y) k] := take_map h
theorem c76 (l k : List Int) (h : l.length ≤ 1000000) : Con Try.prog 76 [lv l, lv k] 0 (lv (plc k l)) := by
  refine conT (X := []) (rs := [.tmp 4]) Try.func76 (by kernel_rfl) rfl rfl (by kernel_rfl) ?_
  simp (dsimp := false) (maxDischargeDepth := 16) only [go_sem, ↓reduceIte, reduceCtorEq, Nat.reduceEqDiff, Nat.reduceAdd, Nat.reduceMul, Nat.reduceSub, Nat.reduceLT, Nat.reduceLeDiff, Nat.reducePow, Int.reduceLT, Int.reduceLE, Int.reduceNeg, Int.reduceToNat]
  refine loopK_intro (fun (i : Nat) s => i ≤ l.length ∧ s.t 1 = lv k ∧ s.t 8 = lv l ∧ s.t 9 = iv l.length ∧ s.t 10 = iv i ∧ ∃ tk, s.t 5 = lvT (plc k (l.take i)) tk ∧ tokOK s tk = true) (fun i => l.length - i) ⟨0, by omega, rfl, rfl, rfl, rfl, .nil, rfl, rfl⟩ ?_
  rintro i s ⟨hi, t1, t8, t9, t10, tk, t5, htk⟩
  simp (dsimp := false) (maxDischargeDepth := 16) only [go_sem, ↓reduceIte, reduceCtorEq, Nat.reduceEqDiff, Nat.reduceAdd, Nat.reduceMul, Nat.reduceSub, Nat.reduceLT, Nat.reduceLeDiff, Nat.reducePow, Int.reduceLT, Int.reduceLE, Int.reduceNeg, Int.reduceToNat, t1, t8, t9, t10, t5]
  refine condK_dec (fun h6 => ?_) (fun h6 => ?_)
  · have pl : (plc k (l.take i)).length = i := by simp [plc]; omega
    simp (dsimp := false) (maxDischargeDepth := 16) only [go_sem, ↓reduceIte, reduceCtorEq, Nat.reduceEqDiff, Nat.reduceAdd, Nat.reduceMul, Nat.reduceSub, Nat.reduceLT, Nat.reduceLeDiff, Nat.reducePow, Int.reduceLT, Int.reduceLE, Int.reduceNeg, Int.reduceToNat, t1, t8, t9, t10, t5, h6, idx_nat]
    refine callK_intro (c92 k l[i]) ?_
    simp (dsimp := false) (maxDischargeDepth := 16) only [go_sem, ↓reduceIte, reduceCtorEq, Nat.reduceEqDiff, Nat.reduceAdd, Nat.reduceMul, Nat.reduceSub, Nat.reduceLT, Nat.reduceLeDiff, Nat.reducePow, Int.reduceLT, Int.reduceLE, Int.reduceNeg, Int.reduceToNat, t1, t8, t9, t10, t5, h6, idx_nat, htk, pl]
    refine ⟨⟨by omega, by omega⟩, i + 1, by omega, by omega, by rw [wrapN _ (by omega)], _, by rw [plc_succ h6, map1_app], ?_⟩
    simp (dsimp := false) (maxDischargeDepth := 16) only [go_sem, ↓reduceIte, reduceCtorEq, Nat.reduceEqDiff, Nat.reduceAdd, Nat.reduceMul, Nat.reduceSub, Nat.reduceLT, Nat.reduceLeDiff, Nat.reducePow, Int.reduceLT, Int.reduceLE, Int.reduceNeg, Int.reduceToNat]
  · simp (dsimp := false) (maxDischargeDepth := 16) only [go_sem, ↓reduceIte, reduceCtorEq, Nat.reduceEqDiff, Nat.reduceAdd, Nat.reduceMul, Nat.reduceSub, Nat.reduceLT, Nat.reduceLeDiff, Nat.reducePow, Int.reduceLT, Int.reduceLE, Int.reduceNeg, Int.reduceToNat, t1, t8, t9, t10, t5, h6]
    refine finL ?_
    have : i = l.length := by omega
    rw [this, List.take_length]
theorem c79 (l : List Int) (x : Int) : Con Try.prog 79 [lv l, iv x] 0 (iv (idxP (fun y => x == y) l)) := by
  refine Con.assume (enters_of Try.func79 (by kernel_rfl) rfl) fun hb => ?_
  have hlen := bnd_lv (hb _ (List.mem_cons_self ..))
  refine conT (X := []) (rs := [.tmp 4]) Try.func79 (by kernel_rfl) rfl rfl (by kernel_rfl) ?_
  simp (dsimp := false) (maxDischargeDepth := 16) only [go_sem, ↓reduceIte, reduceCtorEq, Nat.reduceEqDiff, Nat.reduceAdd, Nat.reduceMul, Nat.reduceSub, Nat.reduceLT, Nat.reduceLeDiff, Nat.reducePow, Int.reduceLT, Int.reduceLE, Int.reduceNeg, Int.reduceToNat]
  refine loopK_intro (fun (i : Nat) s => i ≤ l.length ∧ s.t 0 = lv l ∧ s.t 1 = iv x ∧ s.t 5 = iv i ∧ ∀ y ∈ l.take i, (x == y) = false) (fun i => l.length - i) ⟨0, by omega, rfl, rfl, rfl, fun j hj => by simp at hj⟩ ?_
  rintro i s ⟨hi, h0, h1, h5, hn⟩
  simp (dsimp := false) (maxDischargeDepth := 16) only [go_sem, ↓reduceIte, reduceCtorEq, Nat.reduceEqDiff, Nat.reduceAdd, Nat.reduceMul, Nat.reduceSub, Nat.reduceLT, Nat.reduceLeDiff, Nat.reducePow, Int.reduceLT, Int.reduceLE, Int.reduceNeg, Int.reduceToNat, h0, h1, h5]
  refine condK_dec (fun h6 => ?_) (fun h6 => ?_)
  · simp (dsimp := false) (maxDischargeDepth := 16) only [go_sem, ↓reduceIte, reduceCtorEq, Nat.reduceEqDiff, Nat.reduceAdd, Nat.reduceMul, Nat.reduceSub, Nat.reduceLT, Nat.reduceLeDiff, Nat.reducePow, Int.reduceLT, Int.reduceLE, Int.reduceNeg, Int.reduceToNat, h0, h1, h5, h6, idx_nat]
    refine condK_intro (fun h9 => ?_) (fun h9 => ?_)
    · simp (dsimp := false) (maxDischargeDepth := 16) only [go_sem, ↓reduceIte, reduceCtorEq, Nat.reduceEqDiff, Nat.reduceAdd, Nat.reduceMul, Nat.reduceSub, Nat.reduceLT, Nat.reduceLeDiff, Nat.reducePow, Int.reduceLT, Int.reduceLE, Int.reduceNeg, Int.reduceToNat, h0, h1, h5, h6, h9]
      exact finI (idxP_hit h6 hn (by rw [BEq.comm]; exact h9))
    · simp (dsimp := false) (maxDischargeDepth := 16) only [go_sem, ↓reduceIte, reduceCtorEq, Nat.reduceEqDiff, Nat.reduceAdd, Nat.reduceMul, Nat.reduceSub, Nat.reduceLT, Nat.reduceLeDiff, Nat.reducePow, Int.reduceLT, Int.reduceLE, Int.reduceNeg, Int.reduceToNat, h0, h1, h5, h6, h9]
      exact ⟨i + 1, by omega, by omega, by rw [wrapN _ (by omega)], take_all h6 hn (by rw [BEq.comm]; exact h9)⟩
  · simp (dsimp := false) (maxDischargeDepth := 16) only [go_sem, ↓reduceIte, reduceCtorEq, Nat.reduceEqDiff, Nat.reduceAdd, Nat.reduceMul, Nat.reduceSub, Nat.reduceLT, Nat.reduceLeDiff, Nat.reducePow, Int.reduceLT, Int.reduceLE, Int.reduceNeg, Int.reduceToNat, h0, h1, h5, h6]
    exact finI (idxP_none (take_full h6 hn))
/-- A list led on by another one. -/
def thr (l k : List Int) : List Int := l.map fun x => k.getD x.toNat 0
theorem thr_succ {l k : List Int} {i : Nat} (h : i < l.length) : thr (l.take (i + 1)) k = thr (l.take i) k ++ [k.getD l[i].toNat 0] := take_map h
theorem c94 (l k : List Int) (h : l.length ≤ 1000000) (hl : ∀ x ∈ l, 0 ≤ x ∧ x < k.length) : Con Try.prog 94 [lv l, lv k] 0 (lv (thr l k)) := by
  refine conT (X := []) (rs := [.tmp 4]) Try.func94 (by kernel_rfl) rfl rfl (by kernel_rfl) ?_
  simp (dsimp := false) (maxDischargeDepth := 16) only [go_sem, ↓reduceIte, reduceCtorEq, Nat.reduceEqDiff, Nat.reduceAdd, Nat.reduceMul, Nat.reduceSub, Nat.reduceLT, Nat.reduceLeDiff, Nat.reducePow, Int.reduceLT, Int.reduceLE, Int.reduceNeg, Int.reduceToNat]
  refine loopK_intro (fun (i : Nat) s => i ≤ l.length ∧ s.t 0 = lv l ∧ s.t 1 = lv k ∧ s.t 6 = iv i ∧ ∃ tk, s.t 5 = lvT (thr (l.take i) k) tk ∧ tokOK s tk = true) (fun i => l.length - i) ⟨0, by omega, rfl, rfl, rfl, .nil, rfl, rfl⟩ ?_
  rintro i s ⟨hi, t0, t1, t6, tk, t5, htk⟩
  simp (dsimp := false) (maxDischargeDepth := 16) only [go_sem, ↓reduceIte, reduceCtorEq, Nat.reduceEqDiff, Nat.reduceAdd, Nat.reduceMul, Nat.reduceSub, Nat.reduceLT, Nat.reduceLeDiff, Nat.reducePow, Int.reduceLT, Int.reduceLE, Int.reduceNeg, Int.reduceToNat, t0, t1, t6, t5]
  refine condK_dec (fun h6 => ?_) (fun h6 => ?_)
  · have pl : (thr (l.take i) k).length = i := by simp [thr]; omega
    obtain ⟨r0, r1⟩ := hl _ (List.getElem_mem h6)
    have r2 : l[i].toNat < k.length := by omega
    simp (dsimp := false) (maxDischargeDepth := 16) only [go_sem, ↓reduceIte, reduceCtorEq, Nat.reduceEqDiff, Nat.reduceAdd, Nat.reduceMul, Nat.reduceSub, Nat.reduceLT, Nat.reduceLeDiff, Nat.reducePow, Int.reduceLT, Int.reduceLE, Int.reduceNeg, Int.reduceToNat, t0, t1, t6, t5, h6, idx_nat, idx_int, r0, r2, htk, pl]
    refine ⟨⟨by omega, by omega⟩, i + 1, by omega, by omega, by rw [wrapN _ (by omega)], _, by rw [thr_succ h6, map1_app, getD_at r2], ?_⟩
    simp (dsimp := false) (maxDischargeDepth := 16) only [go_sem, ↓reduceIte, reduceCtorEq, Nat.reduceEqDiff, Nat.reduceAdd, Nat.reduceMul, Nat.reduceSub, Nat.reduceLT, Nat.reduceLeDiff, Nat.reducePow, Int.reduceLT, Int.reduceLE, Int.reduceNeg, Int.reduceToNat]
  · simp (dsimp := false) (maxDischargeDepth := 16) only [go_sem, ↓reduceIte, reduceCtorEq, Nat.reduceEqDiff, Nat.reduceAdd, Nat.reduceMul, Nat.reduceSub, Nat.reduceLT, Nat.reduceLeDiff, Nat.reducePow, Int.reduceLT, Int.reduceLE, Int.reduceNeg, Int.reduceToNat, t0, t1, t6, t5, h6]
    refine finL ?_
    have : i = l.length := by omega
    rw [this, List.take_length]
/-- A morphism led on by another one. -/
def thn (m n : Mo) : Mo := ⟨thr m.n n.n, thr m.e n.e⟩
theorem c82 (m n : Mo) (h1 : m.n.length ≤ 1000000) (h2 : m.e.length ≤ 1000000) (r1 : ∀ x ∈ m.n, 0 ≤ x ∧ x < n.n.length) (r2 : ∀ x ∈ m.e, 0 ≤ x ∧ x < n.e.length) : Con Try.prog 82 [mv m, mv n] 0 (mv (thn m n)) := by
  refine conT (X := []) (rs := [.cell 4 41]) Try.func82 (by kernel_rfl) rfl rfl (by kernel_rfl) ?_
  simp (dsimp := false) (maxDischargeDepth := 16) only [go_sem, ↓reduceIte, reduceCtorEq, Nat.reduceEqDiff, Nat.reduceAdd, Nat.reduceMul, Nat.reduceSub, Nat.reduceLT, Nat.reduceLeDiff, Nat.reducePow, Int.reduceLT, Int.reduceLE, Int.reduceNeg, Int.reduceToNat]
  refine callK_intro (c94 _ _ h1 r1) ?_
  simp (dsimp := false) (maxDischargeDepth := 16) only [go_sem, ↓reduceIte, reduceCtorEq, Nat.reduceEqDiff, Nat.reduceAdd, Nat.reduceMul, Nat.reduceSub, Nat.reduceLT, Nat.reduceLeDiff, Nat.reducePow, Int.reduceLT, Int.reduceLE, Int.reduceNeg, Int.reduceToNat]
  refine callK_intro (c94 _ _ h2 r2) ?_
  simp (dsimp := false) (maxDischargeDepth := 16) only [go_sem, ↓reduceIte, reduceCtorEq, Nat.reduceEqDiff, Nat.reduceAdd, Nat.reduceMul, Nat.reduceSub, Nat.reduceLT, Nat.reduceLeDiff, Nat.reducePow, Int.reduceLT, Int.reduceLE, Int.reduceNeg, Int.reduceToNat]
  exact finK ⟨rfl, rfl⟩
theorem mErr_rng {a b : Gr} {m : Mo} (h : mErr a b m = 0) : (∀ x ∈ m.n, 0 ≤ x ∧ x < b.n.length) ∧ ∀ x ∈ m.e, 0 ≤ x ∧ x < b.e.length := by
  obtain ⟨_, _, h1, h2, h3, h4⟩ := mErr_ok h
  constructor
  · intro x hx
    obtain ⟨i, hi, rfl⟩ := List.mem_iff_getElem.1 hx
    have := h3 i (by omega)
    rw [nodeErr] at this
    split at this
    · cases this
    · rename_i h5
      rw [getD_at hi] at h5
      omega
  · intro x hx
    obtain ⟨i, hi, rfl⟩ := List.mem_iff_getElem.1 hx
    have := h4 i (by omega)
    rw [edgeErr] at this
    split at this
    · cases this
    · rename_i h5
      rw [getD_at hi] at h5
      omega
/-- The composition, or the error. -/
def cmpR (a b c : Gr) (m n : Mo) : Mo × Int := if mErr a b m ≠ 0 then (⟨[], []⟩, mErr a b m) else if mErr b c n ≠ 0 then (⟨[], []⟩, mErr b c n) else (thn m n, 0)
theorem c36 (a b c : Gr) (m n : Mo) : Con Try.prog 36 [gv a, gv b, gv c, mv m, mv n] 0 (.tup [mv (cmpR a b c m n).1, iv (cmpR a b c m n).2]) := by
  refine conT (X := []) (rs := [.cell 10 41, .tmp 11]) Try.func36 (by kernel_rfl) rfl rfl (by kernel_rfl) ?_
  simp (dsimp := false) (maxDischargeDepth := 16) only [go_sem, ↓reduceIte, reduceCtorEq, Nat.reduceEqDiff, Nat.reduceAdd, Nat.reduceMul, Nat.reduceSub, Nat.reduceLT, Nat.reduceLeDiff, Nat.reducePow, Int.reduceLT, Int.reduceLE, Int.reduceNeg, Int.reduceToNat]
  refine callK_intro (c72 a b m) ?_
  simp (dsimp := false) (maxDischargeDepth := 16) only [go_sem, ↓reduceIte, reduceCtorEq, Nat.reduceEqDiff, Nat.reduceAdd, Nat.reduceMul, Nat.reduceSub, Nat.reduceLT, Nat.reduceLeDiff, Nat.reducePow, Int.reduceLT, Int.reduceLE, Int.reduceNeg, Int.reduceToNat]
  refine condK_intro (fun h1 => ?_) (fun h1 => ?_)
  · simp (dsimp := false) (maxDischargeDepth := 16) only [go_sem, ↓reduceIte, reduceCtorEq, Nat.reduceEqDiff, Nat.reduceAdd, Nat.reduceMul, Nat.reduceSub, Nat.reduceLT, Nat.reduceLeDiff, Nat.reducePow, Int.reduceLT, Int.reduceLE, Int.reduceNeg, Int.reduceToNat, h1]
    have e : cmpR a b c m n = (⟨[], []⟩, mErr a b m) := if_pos (by simpa using h1)
    rw [e]
    exact finK ⟨rfl, rfl⟩
  · simp (dsimp := false) (maxDischargeDepth := 16) only [go_sem, ↓reduceIte, reduceCtorEq, Nat.reduceEqDiff, Nat.reduceAdd, Nat.reduceMul, Nat.reduceSub, Nat.reduceLT, Nat.reduceLeDiff, Nat.reducePow, Int.reduceLT, Int.reduceLE, Int.reduceNeg, Int.reduceToNat, h1]
    have g1 : mErr a b m = 0 := by simpa using h1
    refine callK_intro (c72 b c n) ?_
    simp (dsimp := false) (maxDischargeDepth := 16) only [go_sem, ↓reduceIte, reduceCtorEq, Nat.reduceEqDiff, Nat.reduceAdd, Nat.reduceMul, Nat.reduceSub, Nat.reduceLT, Nat.reduceLeDiff, Nat.reducePow, Int.reduceLT, Int.reduceLE, Int.reduceNeg, Int.reduceToNat, h1]
    refine condK_intro (fun h2 => ?_) (fun h2 => ?_)
    · simp (dsimp := false) (maxDischargeDepth := 16) only [go_sem, ↓reduceIte, reduceCtorEq, Nat.reduceEqDiff, Nat.reduceAdd, Nat.reduceMul, Nat.reduceSub, Nat.reduceLT, Nat.reduceLeDiff, Nat.reducePow, Int.reduceLT, Int.reduceLE, Int.reduceNeg, Int.reduceToNat, h1, h2]
      have e : cmpR a b c m n = (⟨[], []⟩, mErr b c n) := by rw [cmpR, if_neg (by simp [g1]), if_pos (by simpa using h2)]
      rw [e]
      exact finK ⟨rfl, rfl⟩
    · simp (dsimp := false) (maxDischargeDepth := 16) only [go_sem, ↓reduceIte, reduceCtorEq, Nat.reduceEqDiff, Nat.reduceAdd, Nat.reduceMul, Nat.reduceSub, Nat.reduceLT, Nat.reduceLeDiff, Nat.reducePow, Int.reduceLT, Int.reduceLE, Int.reduceNeg, Int.reduceToNat, h1, h2]
      have g2 : mErr b c n = 0 := by simpa using h2
      have o1 := mErr_ok g1
      have o2 := mErr_ok g2
      have r := mErr_rng g1
      have ga := (gErr_small o1.1).1
      rw [← o2.2.2.1, ← o2.2.2.2.1] at r
      refine callK_intro (c82 m n (by omega) (by omega) r.1 r.2) ?_
      simp (dsimp := false) (maxDischargeDepth := 16) only [go_sem, ↓reduceIte, reduceCtorEq, Nat.reduceEqDiff, Nat.reduceAdd, Nat.reduceMul, Nat.reduceSub, Nat.reduceLT, Nat.reduceLeDiff, Nat.reducePow, Int.reduceLT, Int.reduceLE, Int.reduceNeg, Int.reduceToNat, h1, h2]
      have e : cmpR a b c m n = (thn m n, 0) := by rw [cmpR, if_neg (by simp [g1]), if_neg (by simp [g2])]
      rw [e]
      exact finK ⟨rfl, rfl⟩
end Go.Sy

/- Contracts: the overlap through which two morphisms go, and the rest. -/
set_option linter.unusedSimpArgs false
namespace Go.Sy
open Go Go.Proofs

def oz : Ov := ⟨⟨[], []⟩, ⟨[], []⟩, ⟨[], []⟩⟩
def mz : Mo := ⟨[], []⟩
/-- The rest: where the elements that the overlap adds go, behind those of the first graph. -/
def rst (h k : Mo) (p q : List Int) : Mo := ⟨(gN h.n k.n p p.length).1, (gN h.e k.e q q.length).1⟩
def thrR (a b x : Gr) (h k : Mo) : Ov × Mo × Int := if mErr a x h ≠ 0 then (oz, mz, mErr a x h) else if mErr b x k ≠ 0 then (oz, mz, mErr b x k) else
  if injR a x h && injR b x k then (glue a b (plc h.n k.n) (plc h.e k.e), rst h k (plc h.n k.n) (plc h.e k.e), 0) else (oz, mz, 1)
def thrV (r : Ov × Mo × Int) : AV := .tup [ov r.1, mv r.2.1, iv r.2.2]
attribute [go_sem] thrV
theorem plc_len (k l : List Int) : (plc k l).length = l.length := by simp [plc]
set_option maxHeartbeats 2000000 in
theorem c33 (a b x : Gr) (h k : Mo) : Con Try.prog 33 [gv a, gv b, gv x, mv h, mv k] 0 (thrV (thrR a b x h k)) := by
  refine conT (X := [(24, [], [(10, [18], [])])]) (rs := [.cell 10 43, .cell 11 41, .tmp 12]) Try.func33 (by kernel_rfl) rfl rfl (by kernel_rfl) ?_
  simp (dsimp := false) (maxDischargeDepth := 16) only [go_sem, ↓reduceIte, reduceCtorEq, Nat.reduceEqDiff, Nat.reduceAdd, Nat.reduceMul, Nat.reduceSub, Nat.reduceLT, Nat.reduceLeDiff, Nat.reducePow, Int.reduceLT, Int.reduceLE, Int.reduceNeg, Int.reduceToNat]
  refine callK_intro (c70 a x h) ?_
  simp (dsimp := false) (maxDischargeDepth := 16) only [go_sem, ↓reduceIte, reduceCtorEq, Nat.reduceEqDiff, Nat.reduceAdd, Nat.reduceMul, Nat.reduceSub, Nat.reduceLT, Nat.reduceLeDiff, Nat.reducePow, Int.reduceLT, Int.reduceLE, Int.reduceNeg, Int.reduceToNat]
  refine condK_intro (fun h1 => ?_) (fun h1 => ?_)
  · simp (dsimp := false) (maxDischargeDepth := 16) only [go_sem, ↓reduceIte, reduceCtorEq, Nat.reduceEqDiff, Nat.reduceAdd, Nat.reduceMul, Nat.reduceSub, Nat.reduceLT, Nat.reduceLeDiff, Nat.reducePow, Int.reduceLT, Int.reduceLE, Int.reduceNeg, Int.reduceToNat, h1]
    have e : thrR a b x h k = (oz, mz, mErr a x h) := if_pos (by simpa using h1)
    rw [e]
    exact finK ⟨rfl, rfl⟩
  have g1 : mErr a x h = 0 := by simpa using h1
  simp (dsimp := false) (maxDischargeDepth := 16) only [go_sem, ↓reduceIte, reduceCtorEq, Nat.reduceEqDiff, Nat.reduceAdd, Nat.reduceMul, Nat.reduceSub, Nat.reduceLT, Nat.reduceLeDiff, Nat.reducePow, Int.reduceLT, Int.reduceLE, Int.reduceNeg, Int.reduceToNat, h1]
  refine callK_intro (c70 b x k) ?_
  simp (dsimp := false) (maxDischargeDepth := 16) only [go_sem, ↓reduceIte, reduceCtorEq, Nat.reduceEqDiff, Nat.reduceAdd, Nat.reduceMul, Nat.reduceSub, Nat.reduceLT, Nat.reduceLeDiff, Nat.reducePow, Int.reduceLT, Int.reduceLE, Int.reduceNeg, Int.reduceToNat, h1]
  refine condK_intro (fun h2 => ?_) (fun h2 => ?_)
  · simp (dsimp := false) (maxDischargeDepth := 16) only [go_sem, ↓reduceIte, reduceCtorEq, Nat.reduceEqDiff, Nat.reduceAdd, Nat.reduceMul, Nat.reduceSub, Nat.reduceLT, Nat.reduceLeDiff, Nat.reducePow, Int.reduceLT, Int.reduceLE, Int.reduceNeg, Int.reduceToNat, h1, h2]
    have e : thrR a b x h k = (oz, mz, mErr b x k) := by rw [thrR, if_neg (by simp [g1]), if_pos (by simpa using h2)]
    rw [e]
    exact finK ⟨rfl, rfl⟩
  have g2 : mErr b x k = 0 := by simpa using h2
  simp (dsimp := false) (maxDischargeDepth := 16) only [go_sem, ↓reduceIte, reduceCtorEq, Nat.reduceEqDiff, Nat.reduceAdd, Nat.reduceMul, Nat.reduceSub, Nat.reduceLT, Nat.reduceLeDiff, Nat.reducePow, Int.reduceLT, Int.reduceLE, Int.reduceNeg, Int.reduceToNat, h1, h2]
  have e0 : thrR a b x h k = if injR a x h && injR b x k then (glue a b (plc h.n k.n) (plc h.e k.e), rst h k (plc h.n k.n) (plc h.e k.e), 0) else (oz, mz, 1) := by rw [thrR, if_neg (by simp [g1]), if_neg (by simp [g2])]
  rw [e0]
  have H1 := c75 a x h
  have H2 := c75 b x k
  generalize injR a x h = r1 at *
  generalize injR b x k = r2 at *
  refine callK_intro H1 ?_
  cases r1 with
  | false =>
    simp (dsimp := false) (maxDischargeDepth := 16) only [go_sem, ↓reduceIte, reduceCtorEq, Nat.reduceEqDiff, Nat.reduceAdd, Nat.reduceMul, Nat.reduceSub, Nat.reduceLT, Nat.reduceLeDiff, Nat.reducePow, Int.reduceLT, Int.reduceLE, Int.reduceNeg, Int.reduceToNat, h1, h2, Bool.not_false]
    exact finK ⟨rfl, rfl⟩
  | true =>
  simp (dsimp := false) (maxDischargeDepth := 16) only [go_sem, ↓reduceIte, reduceCtorEq, Nat.reduceEqDiff, Nat.reduceAdd, Nat.reduceMul, Nat.reduceSub, Nat.reduceLT, Nat.reduceLeDiff, Nat.reducePow, Int.reduceLT, Int.reduceLE, Int.reduceNeg, Int.reduceToNat, h1, h2, Bool.not_true]
  refine callK_intro H2 ?_
  cases r2 with
  | false =>
    simp (dsimp := false) (maxDischargeDepth := 16) only [go_sem, ↓reduceIte, reduceCtorEq, Nat.reduceEqDiff, Nat.reduceAdd, Nat.reduceMul, Nat.reduceSub, Nat.reduceLT, Nat.reduceLeDiff, Nat.reducePow, Int.reduceLT, Int.reduceLE, Int.reduceNeg, Int.reduceToNat, h1, h2, Bool.not_false]
    exact finK ⟨rfl, rfl⟩
  | true =>
  simp (dsimp := false) (maxDischargeDepth := 16) only [go_sem, ↓reduceIte, reduceCtorEq, Nat.reduceEqDiff, Nat.reduceAdd, Nat.reduceMul, Nat.reduceSub, Nat.reduceLT, Nat.reduceLeDiff, Nat.reducePow, Int.reduceLT, Int.reduceLE, Int.reduceNeg, Int.reduceToNat, h1, h2, Bool.not_true]
  have o1 := mErr_ok g1
  have o2 := mErr_ok g2
  have ga := gErr_small o1.1
  have gb := gErr_small o2.1
  refine callK_intro (c76 k.n h.n (by omega)) ?_
  simp (dsimp := false) (maxDischargeDepth := 16) only [go_sem, ↓reduceIte, reduceCtorEq, Nat.reduceEqDiff, Nat.reduceAdd, Nat.reduceMul, Nat.reduceSub, Nat.reduceLT, Nat.reduceLeDiff, Nat.reducePow, Int.reduceLT, Int.reduceLE, Int.reduceNeg, Int.reduceToNat, h1, h2]
  refine callK_intro (c76 k.e h.e (by omega)) ?_
  simp (dsimp := false) (maxDischargeDepth := 16) only [go_sem, ↓reduceIte, reduceCtorEq, Nat.reduceEqDiff, Nat.reduceAdd, Nat.reduceMul, Nat.reduceSub, Nat.reduceLT, Nat.reduceLeDiff, Nat.reducePow, Int.reduceLT, Int.reduceLE, Int.reduceNeg, Int.reduceToNat, h1, h2]
  refine callK_intro (c77 a b (plc h.n k.n) (plc h.e k.e) o1.1 (by omega) (by omega) (by rw [plc_len]; omega) (by rw [plc_len]; omega) (by omega) (by omega) (fun x hx => ?_)) ?_
  · have := gb.2.2 x hx
    rw [plc_len, o2.2.2.1]
    unfold edOK at this
    omega
  simp (dsimp := false) (maxDischargeDepth := 16) only [go_sem, ↓reduceIte, reduceCtorEq, Nat.reduceEqDiff, Nat.reduceAdd, Nat.reduceMul, Nat.reduceSub, Nat.reduceLT, Nat.reduceLeDiff, Nat.reducePow, Int.reduceLT, Int.reduceLE, Int.reduceNeg, Int.reduceToNat, h1, h2]
  refine callK_intro (c78 h.n (by omega)) ?_
  simp (dsimp := false) (maxDischargeDepth := 16) only [go_sem, ↓reduceIte, reduceCtorEq, Nat.reduceEqDiff, Nat.reduceAdd, Nat.reduceMul, Nat.reduceSub, Nat.reduceLT, Nat.reduceLeDiff, Nat.reducePow, Int.reduceLT, Int.reduceLE, Int.reduceNeg, Int.reduceToNat, h1, h2]
  refine callK_intro (c78 h.e (by omega)) ?_
  simp (dsimp := false) (maxDischargeDepth := 16) only [go_sem, ↓reduceIte, reduceCtorEq, Nat.reduceEqDiff, Nat.reduceAdd, Nat.reduceMul, Nat.reduceSub, Nat.reduceLT, Nat.reduceLeDiff, Nat.reducePow, Int.reduceLT, Int.reduceLE, Int.reduceNeg, Int.reduceToNat, h1, h2]
  have pl : (plc h.n k.n).length = k.n.length := plc_len _ _
  have ql : (plc h.e k.e).length = k.e.length := plc_len _ _
  have sn : k.n.length ≤ 1000 := by omega
  have se : k.e.length ≤ 1000 := by omega
  have sn' : h.n.length ≤ 1000 := by omega
  have se' : h.e.length ≤ 1000 := by omega
  clear ga gb o1 o2 e0 h1 h2 H1 H2 g1 g2
  rw [if_pos (by rfl)]
  unfold rst
  generalize plc h.n k.n = p at *
  generalize plc h.e k.e = q at *
  generalize glue a b p q = G
  refine loopK_intro (fun (i : Nat) s => i ≤ p.length ∧ s.t 9 = .box (9, 0, 0) 0 ∧ s.b (9, 0, 0) = some ⟨mcs k, false⟩ ∧ s.t 10 = .box (10, 0, 0) 0 ∧ (∃ z1 z2 z3 z4 z5 z6, s.b (10, 0, 0) = some ⟨[z1, z2, z3, z4, z5, z6], false⟩) ∧ s.t 11 = .box (11, 0, 0) 0 ∧ (∃ y1 y2, s.b (11, 0, 0) = some ⟨[y1, y2], false⟩) ∧
    s.t 16 = lv q ∧ s.t 17 = .box (17, 0, 0) 0 ∧ s.b (17, 0, 0) = some ⟨ocs G, false⟩ ∧ s.t 18 = .box (18, 0, 0) 0 ∧ s.t 77 = lv p ∧ s.t 78 = iv p.length ∧ s.t 79 = iv i ∧ ∃ k1 k2, s.b (18, 0, 0) = some ⟨[lvT (gN h.n k.n p i).1 k1, lvT h.e k2], false⟩ ∧
    tokOK s k1 = true ∧ tokOK s k2 = true ∧ tkIn [(72, 0), (94, 0)] k1 = true ∧ tkIn [(75, 0)] k2 = true) (fun i => p.length - i) ?_ ?_
  · refine ⟨0, by omega, rfl, rfl, rfl, ⟨_, _, _, _, _, _, rfl⟩, rfl, ⟨_, _, rfl⟩, rfl, rfl, rfl, rfl, rfl, rfl, rfl, .own (72, 0, 0), .own (75, 0, 0), rfl, ?_, rfl, rfl, rfl⟩
    simp (dsimp := false) (maxDischargeDepth := 16) only [go_sem, ↓reduceIte, reduceCtorEq, Nat.reduceEqDiff, Nat.reduceAdd, Nat.reduceMul, Nat.reduceSub, Nat.reduceLT, Nat.reduceLeDiff, Nat.reducePow, Int.reduceLT, Int.reduceLE, Int.reduceNeg, Int.reduceToNat]
  rintro i s ⟨hi, t9, b9, t10, ⟨z1, z2, z3, z4, z5, z6, b10⟩, t11, ⟨y1, y2, b11⟩, t16, t17, b17, t18, t77, t78, t79, k1, k2, b18, a1, a2, i1, i2⟩
  simp (dsimp := false) (maxDischargeDepth := 16) only [go_sem, ↓reduceIte, reduceCtorEq, Nat.reduceEqDiff, Nat.reduceAdd, Nat.reduceMul, Nat.reduceSub, Nat.reduceLT, Nat.reduceLeDiff, Nat.reducePow, Int.reduceLT, Int.reduceLE, Int.reduceNeg, Int.reduceToNat, t9, b9, t10, b10, t11, b11, t16, t17, b17, t18, t77, t78, t79, b18]
  refine condK_dec (fun h6 => ?_) (fun h6 => ?_)
  · have h7 : i < k.n.length := by omega
    simp (dsimp := false) (maxDischargeDepth := 16) only [go_sem, ↓reduceIte, reduceCtorEq, Nat.reduceEqDiff, Nat.reduceAdd, Nat.reduceMul, Nat.reduceSub, Nat.reduceLT, Nat.reduceLeDiff, Nat.reducePow, Int.reduceLT, Int.reduceLE, Int.reduceNeg, Int.reduceToNat, t9, b9, t10, b10, t11, b11, t16, t17, b17, t18, t77, t78, t79, b18, h6, idx_nat]
    have k12 : ∀ (s : St) (d n : Nat) (x : AV), tokOK s k2 = true → tokOK (s.ntok d n x (tokKey k1)) k2 = true := fun s d n x h => tk_kill i1 i2 rfl h
    have l1 := gN_len1 h.n k.n p i
    refine condK_dec (fun h8 => ?_) (fun h8 => ?_)
    · simp (dsimp := false) (maxDischargeDepth := 16) only [go_sem, ↓reduceIte, reduceCtorEq, Nat.reduceEqDiff, Nat.reduceAdd, Nat.reduceMul, Nat.reduceSub, Nat.reduceLT, Nat.reduceLeDiff, Nat.reducePow, Int.reduceLT, Int.reduceLE, Int.reduceNeg, Int.reduceToNat, t9, b9, t10, b10, t11, b11, t16, t17, b17, t18, t77, t78, t79, b18, h6, h7, h8, idx_nat, a1, a2, k12]
      refine ⟨⟨by omega, by omega⟩, i + 1, by omega, by omega, ⟨_, _, _, _, _, _, rfl⟩, ⟨_, _, rfl⟩, by rw [wrapN _ (by omega)], .own (94, s.g 94, 0), k2, ?_, ?_, ?_, rfl, i2⟩
      · rw [gN_neg h6 h7 h8]
        simp only [map1_app]
      all_goals simp (dsimp := false) (maxDischargeDepth := 16) only [go_sem, ↓reduceIte, reduceCtorEq, Nat.reduceEqDiff, Nat.reduceAdd, Nat.reduceMul, Nat.reduceSub, Nat.reduceLT, Nat.reduceLeDiff, Nat.reducePow, Int.reduceLT, Int.reduceLE, Int.reduceNeg, Int.reduceToNat, a1, a2, k12]
    · simp (dsimp := false) (maxDischargeDepth := 16) only [go_sem, ↓reduceIte, reduceCtorEq, Nat.reduceEqDiff, Nat.reduceAdd, Nat.reduceMul, Nat.reduceSub, Nat.reduceLT, Nat.reduceLeDiff, Nat.reducePow, Int.reduceLT, Int.reduceLE, Int.reduceNeg, Int.reduceToNat, t9, b9, t10, b10, t11, b11, t16, t17, b17, t18, t77, t78, t79, b18, h6, h7, h8, idx_nat, a1, a2, k12]
      refine ⟨i + 1, by omega, by omega, ⟨_, _, _, _, _, _, rfl⟩, ⟨_, _, rfl⟩, by rw [wrapN _ (by omega)], k1, k2, ?_, a1, a2, i1, i2⟩
      rw [gN_pos h6 h8]
  · simp (dsimp := false) (maxDischargeDepth := 16) only [go_sem, ↓reduceIte, reduceCtorEq, Nat.reduceEqDiff, Nat.reduceAdd, Nat.reduceMul, Nat.reduceSub, Nat.reduceLT, Nat.reduceLeDiff, Nat.reducePow, Int.reduceLT, Int.reduceLE, Int.reduceNeg, Int.reduceToNat, t9, b9, t10, b10, t11, b11, t16, t17, b17, t18, t77, t78, t79, b18, h6]
    have hin : i = p.length := by omega
    subst hin
    generalize (gN h.n k.n p p.length).1 = L at *
    refine loopK_intro (fun (i : Nat) s => i ≤ q.length ∧ s.t 9 = .box (9, 0, 0) 0 ∧ s.b (9, 0, 0) = some ⟨mcs k, false⟩ ∧ s.t 10 = .box (10, 0, 0) 0 ∧ s.b (10, 0, 0) = some ⟨[z1, z2, z3, z4, z5, z6], false⟩ ∧ s.t 11 = .box (11, 0, 0) 0 ∧ s.b (11, 0, 0) = some ⟨[y1, y2], false⟩ ∧
      s.t 17 = .box (17, 0, 0) 0 ∧ s.b (17, 0, 0) = some ⟨ocs G, false⟩ ∧ s.t 18 = .box (18, 0, 0) 0 ∧ s.t 97 = lv q ∧ s.t 98 = iv q.length ∧ s.t 99 = iv i ∧ ∃ k2, s.b (18, 0, 0) = some ⟨[lvT L k1, lvT (gN h.e k.e q i).1 k2], false⟩ ∧
      tokOK s k2 = true ∧ tkIn [(75, 0), (114, 0)] k2 = true) (fun i => q.length - i) ?_ ?_
    · refine ⟨0, by omega, t9, b9, t10, b10, t11, b11, t17, b17, t18, rfl, rfl, rfl, k2, b18, a2, ?_⟩
      revert i2
      cases k2 <;> simp [tkIn]
      intro h1 h2
      exact .inl ⟨h1, h2⟩
    clear t9 b9 t10 b10 t11 b11 t16 t17 b17 t18 t77 t78 t79 b18 a1 a2 i1 i2 h6 hi
    rintro i s ⟨hi, t9, b9, t10, b10, t11, b11, t17, b17, t18, t97, t98, t99, k2, b18, a2, i2⟩
    simp (dsimp := false) (maxDischargeDepth := 16) only [go_sem, ↓reduceIte, reduceCtorEq, Nat.reduceEqDiff, Nat.reduceAdd, Nat.reduceMul, Nat.reduceSub, Nat.reduceLT, Nat.reduceLeDiff, Nat.reducePow, Int.reduceLT, Int.reduceLE, Int.reduceNeg, Int.reduceToNat, t9, b9, t10, b10, t11, b11, t17, b17, t18, t97, t98, t99, b18]
    refine condK_dec (fun h6 => ?_) (fun h6 => ?_)
    · have h7 : i < k.e.length := by omega
      simp (dsimp := false) (maxDischargeDepth := 16) only [go_sem, ↓reduceIte, reduceCtorEq, Nat.reduceEqDiff, Nat.reduceAdd, Nat.reduceMul, Nat.reduceSub, Nat.reduceLT, Nat.reduceLeDiff, Nat.reducePow, Int.reduceLT, Int.reduceLE, Int.reduceNeg, Int.reduceToNat, t9, b9, t10, b10, t11, b11, t17, b17, t18, t97, t98, t99, b18, h6, idx_nat]
      have l1 := gN_len1 h.e k.e q i
      refine condK_dec (fun h8 => ?_) (fun h8 => ?_)
      · simp (dsimp := false) (maxDischargeDepth := 16) only [go_sem, ↓reduceIte, reduceCtorEq, Nat.reduceEqDiff, Nat.reduceAdd, Nat.reduceMul, Nat.reduceSub, Nat.reduceLT, Nat.reduceLeDiff, Nat.reducePow, Int.reduceLT, Int.reduceLE, Int.reduceNeg, Int.reduceToNat, t9, b9, t10, b10, t11, b11, t17, b17, t18, t97, t98, t99, b18, h6, h7, h8, idx_nat, a2]
        refine ⟨⟨by omega, by omega⟩, i + 1, by omega, by omega, by rw [wrapN _ (by omega)], .own (114, s.g 114, 0), ?_, ?_, rfl⟩
        · rw [gN_neg h6 h7 h8]
          simp only [map1_app]
        all_goals simp (dsimp := false) (maxDischargeDepth := 16) only [go_sem, ↓reduceIte, reduceCtorEq, Nat.reduceEqDiff, Nat.reduceAdd, Nat.reduceMul, Nat.reduceSub, Nat.reduceLT, Nat.reduceLeDiff, Nat.reducePow, Int.reduceLT, Int.reduceLE, Int.reduceNeg, Int.reduceToNat, a2]
      · simp (dsimp := false) (maxDischargeDepth := 16) only [go_sem, ↓reduceIte, reduceCtorEq, Nat.reduceEqDiff, Nat.reduceAdd, Nat.reduceMul, Nat.reduceSub, Nat.reduceLT, Nat.reduceLeDiff, Nat.reducePow, Int.reduceLT, Int.reduceLE, Int.reduceNeg, Int.reduceToNat, t9, b9, t10, b10, t11, b11, t17, b17, t18, t97, t98, t99, b18, h6, h7, h8, idx_nat, a2]
        refine ⟨i + 1, by omega, by omega, by rw [wrapN _ (by omega)], k2, ?_, a2, i2⟩
        rw [gN_pos h6 h8]
    · simp (dsimp := false) (maxDischargeDepth := 16) only [go_sem, ↓reduceIte, reduceCtorEq, Nat.reduceEqDiff, Nat.reduceAdd, Nat.reduceMul, Nat.reduceSub, Nat.reduceLT, Nat.reduceLeDiff, Nat.reducePow, Int.reduceLT, Int.reduceLE, Int.reduceNeg, Int.reduceToNat, t9, b9, t10, b10, t11, b11, t17, b17, t18, t97, t98, t99, b18, h6]
      have hin : i = q.length := by omega
      rw [hin]

      exact ⟨rfl, finK ⟨rfl, rfl⟩⟩
end Go.Sy

/- Contracts: the document's overlap through which two morphisms go. -/
set_option linter.unusedSimpArgs false
namespace Go.Sy
open Go Go.Proofs

theorem take1 {p : List Int} {i : Nat} (h : i < p.length) : List.map (fun n => [AV.v (Value.int .i64 n)]) (p.take i) ++ [[AV.v (Value.int .i64 p[i])]] = List.map (fun n => [AV.v (Value.int .i64 n)]) (p.take (i + 1)) := by
  rw [List.take_add_one, List.getElem?_eq_getElem h, List.map_append]
  rfl
theorem take_at' {p : List Int} {i : Nat} (h : i < p.length) : (p.take (i + 1)).length = i + 1 := by rw [List.length_take]; omega
theorem plc_at {k l : List Int} {i : Nat} (h : i < l.length) (h2 : i < (plc k l).length) : (plc k l)[i] = idxP (fun y => l[i] == y) k := by simp [plc]
set_option maxHeartbeats 2000000 in
theorem c34 (a b x : Gr) (h k : Mo) : Con Try.prog 34 [gv a, gv b, gv x, mv h, mv k] 0 (thrV (thrR a b x h k)) := by
  refine conT (X := [(23, [], [(10, [15], [])])]) (rs := [.cell 10 43, .cell 11 41, .tmp 12]) Try.func34 (by kernel_rfl) rfl rfl (by kernel_rfl) ?_
  simp (dsimp := false) (maxDischargeDepth := 16) only [go_sem, ↓reduceIte, reduceCtorEq, Nat.reduceEqDiff, Nat.reduceAdd, Nat.reduceMul, Nat.reduceSub, Nat.reduceLT, Nat.reduceLeDiff, Nat.reducePow, Int.reduceLT, Int.reduceLE, Int.reduceNeg, Int.reduceToNat]
  refine callK_intro (c72 a x h) ?_
  simp (dsimp := false) (maxDischargeDepth := 16) only [go_sem, ↓reduceIte, reduceCtorEq, Nat.reduceEqDiff, Nat.reduceAdd, Nat.reduceMul, Nat.reduceSub, Nat.reduceLT, Nat.reduceLeDiff, Nat.reducePow, Int.reduceLT, Int.reduceLE, Int.reduceNeg, Int.reduceToNat]
  refine condK_intro (fun h1 => ?_) (fun h1 => ?_)
  · simp (dsimp := false) (maxDischargeDepth := 16) only [go_sem, ↓reduceIte, reduceCtorEq, Nat.reduceEqDiff, Nat.reduceAdd, Nat.reduceMul, Nat.reduceSub, Nat.reduceLT, Nat.reduceLeDiff, Nat.reducePow, Int.reduceLT, Int.reduceLE, Int.reduceNeg, Int.reduceToNat, h1]
    have e : thrR a b x h k = (oz, mz, mErr a x h) := if_pos (by simpa using h1)
    rw [e]
    exact finK ⟨rfl, rfl⟩
  have g1 : mErr a x h = 0 := by simpa using h1
  simp (dsimp := false) (maxDischargeDepth := 16) only [go_sem, ↓reduceIte, reduceCtorEq, Nat.reduceEqDiff, Nat.reduceAdd, Nat.reduceMul, Nat.reduceSub, Nat.reduceLT, Nat.reduceLeDiff, Nat.reducePow, Int.reduceLT, Int.reduceLE, Int.reduceNeg, Int.reduceToNat, h1]
  refine callK_intro (c72 b x k) ?_
  simp (dsimp := false) (maxDischargeDepth := 16) only [go_sem, ↓reduceIte, reduceCtorEq, Nat.reduceEqDiff, Nat.reduceAdd, Nat.reduceMul, Nat.reduceSub, Nat.reduceLT, Nat.reduceLeDiff, Nat.reducePow, Int.reduceLT, Int.reduceLE, Int.reduceNeg, Int.reduceToNat, h1]
  refine condK_intro (fun h2 => ?_) (fun h2 => ?_)
  · simp (dsimp := false) (maxDischargeDepth := 16) only [go_sem, ↓reduceIte, reduceCtorEq, Nat.reduceEqDiff, Nat.reduceAdd, Nat.reduceMul, Nat.reduceSub, Nat.reduceLT, Nat.reduceLeDiff, Nat.reducePow, Int.reduceLT, Int.reduceLE, Int.reduceNeg, Int.reduceToNat, h1, h2]
    have e : thrR a b x h k = (oz, mz, mErr b x k) := by rw [thrR, if_neg (by simp [g1]), if_pos (by simpa using h2)]
    rw [e]
    exact finK ⟨rfl, rfl⟩
  have g2 : mErr b x k = 0 := by simpa using h2
  simp (dsimp := false) (maxDischargeDepth := 16) only [go_sem, ↓reduceIte, reduceCtorEq, Nat.reduceEqDiff, Nat.reduceAdd, Nat.reduceMul, Nat.reduceSub, Nat.reduceLT, Nat.reduceLeDiff, Nat.reducePow, Int.reduceLT, Int.reduceLE, Int.reduceNeg, Int.reduceToNat, h1, h2]
  have e0 : thrR a b x h k = if injR a x h && injR b x k then (glue a b (plc h.n k.n) (plc h.e k.e), rst h k (plc h.n k.n) (plc h.e k.e), 0) else (oz, mz, 1) := by rw [thrR, if_neg (by simp [g1]), if_neg (by simp [g2])]
  rw [e0]
  have H1 := c31 a x h
  have H2 := c31 b x k
  generalize injR a x h = r1 at *
  generalize injR b x k = r2 at *
  refine callK_intro H1 ?_
  cases r1 with
  | false =>
    simp (dsimp := false) (maxDischargeDepth := 16) only [go_sem, ↓reduceIte, reduceCtorEq, Nat.reduceEqDiff, Nat.reduceAdd, Nat.reduceMul, Nat.reduceSub, Nat.reduceLT, Nat.reduceLeDiff, Nat.reducePow, Int.reduceLT, Int.reduceLE, Int.reduceNeg, Int.reduceToNat, h1, h2, Bool.not_false]
    exact finK ⟨rfl, rfl⟩
  | true =>
  simp (dsimp := false) (maxDischargeDepth := 16) only [go_sem, ↓reduceIte, reduceCtorEq, Nat.reduceEqDiff, Nat.reduceAdd, Nat.reduceMul, Nat.reduceSub, Nat.reduceLT, Nat.reduceLeDiff, Nat.reducePow, Int.reduceLT, Int.reduceLE, Int.reduceNeg, Int.reduceToNat, h1, h2, Bool.not_true]
  refine callK_intro H2 ?_
  cases r2 with
  | false =>
    simp (dsimp := false) (maxDischargeDepth := 16) only [go_sem, ↓reduceIte, reduceCtorEq, Nat.reduceEqDiff, Nat.reduceAdd, Nat.reduceMul, Nat.reduceSub, Nat.reduceLT, Nat.reduceLeDiff, Nat.reducePow, Int.reduceLT, Int.reduceLE, Int.reduceNeg, Int.reduceToNat, h1, h2, Bool.not_false]
    exact finK ⟨rfl, rfl⟩
  | true =>
  have o1 := mErr_ok g1
  have o2 := mErr_ok g2
  have ga := gErr_small o1.1
  have gb := gErr_small o2.1
  have pl : (plc h.n k.n).length = k.n.length := plc_len _ _
  have ql : (plc h.e k.e).length = k.e.length := plc_len _ _
  have sn : k.n.length ≤ 1000 := by omega
  have se : k.e.length ≤ 1000 := by omega
  have sn' : h.n.length ≤ 1000 := by omega
  have se' : h.e.length ≤ 1000 := by omega
  simp (dsimp := false) (maxDischargeDepth := 16) only [go_sem, ↓reduceIte, reduceCtorEq, Nat.reduceEqDiff, Nat.reduceAdd, Nat.reduceMul, Nat.reduceSub, Nat.reduceLT, Nat.reduceLeDiff, Nat.reducePow, Int.reduceLT, Int.reduceLE, Int.reduceNeg, Int.reduceToNat, h1, h2, Bool.not_true]
  refine ⟨⟨by omega, by omega⟩, ⟨by omega, by omega⟩, ?_⟩
  have HG := c80 a b (plc h.n k.n) (plc h.e k.e) (by omega) (by omega) (by omega) (by omega) (by omega) (by omega) (fun x hx => by
    have := gb.2.2 x hx
    rw [plc_len, o2.2.2.1]
    unfold edOK at this
    omega)
  have HN : ∀ i (hi : i < k.n.length) (hi2 : i < (plc h.n k.n).length), Con Try.prog 79 [lv h.n, iv k.n[i]] 0 (iv (plc h.n k.n)[i]) := fun i hi hi2 => by rw [plc_at hi hi2]; exact c79 h.n k.n[i]
  have HE : ∀ i (hi : i < k.e.length) (hi2 : i < (plc h.e k.e).length), Con Try.prog 79 [lv h.e, iv k.e[i]] 0 (iv (plc h.e k.e)[i]) := fun i hi hi2 => by rw [plc_at hi hi2]; exact c79 h.e k.e[i]
  clear ga gb o1 o2 e0 h1 h2 H1 H2 g1 g2
  rw [if_pos (by rfl)]
  unfold rst
  generalize plc h.n k.n = p at *
  generalize plc h.e k.e = q at *
  generalize glue a b p q = G at *
  refine loopK_intro (fun (i : Nat) s => i ≤ p.length ∧ s.t 5 = .box (5, 0, 0) 0 ∧ s.b (5, 0, 0) = some ⟨gcs a, false⟩ ∧ s.t 6 = .box (6, 0, 0) 0 ∧ s.b (6, 0, 0) = some ⟨gcs b, false⟩ ∧ s.t 8 = .box (8, 0, 0) 0 ∧ s.b (8, 0, 0) = some ⟨mcs h, false⟩ ∧ s.t 9 = .box (9, 0, 0) 0 ∧ s.b (9, 0, 0) = some ⟨mcs k, false⟩ ∧
    s.t 10 = .box (10, 0, 0) 0 ∧ (∃ z1 z2 z3 z4 z5 z6, s.b (10, 0, 0) = some ⟨[z1, z2, z3, z4, z5, z6], false⟩) ∧ s.t 11 = .box (11, 0, 0) 0 ∧ (∃ y1 y2, s.b (11, 0, 0) = some ⟨[y1, y2], false⟩) ∧
    s.t 15 = .box (15, 0, 0) 0 ∧ s.t 17 = .list 1 [] .nil ∧ s.t 18 = iv i ∧ ∃ k1 k2 k3, s.b (15, 0, 0) = some ⟨[lvT (gN h.n k.n p i).1 k1, lvT h.e k2], false⟩ ∧ s.t 16 = lvT (p.take i) k3 ∧
    tokOK s k1 = true ∧ tokOK s k2 = true ∧ tokOK s k3 = true ∧ tkIn [(55, 0), (92, 0)] k1 = true ∧ tkIn [(59, 0)] k2 = true ∧ tkIn [(78, 0)] k3 = true) (fun i => p.length - i) ?_ ?_
  · refine ⟨0, by omega, rfl, rfl, rfl, rfl, rfl, rfl, rfl, rfl, rfl, ⟨_, _, _, _, _, _, rfl⟩, rfl, ⟨_, _, rfl⟩, rfl, rfl, rfl, .own (55, 0, 0), .own (59, 0, 0), .nil, rfl, rfl, ?_, ?_, rfl, rfl, rfl, rfl⟩
    all_goals simp (dsimp := false) (maxDischargeDepth := 16) only [go_sem, ↓reduceIte, reduceCtorEq, Nat.reduceEqDiff, Nat.reduceAdd, Nat.reduceMul, Nat.reduceSub, Nat.reduceLT, Nat.reduceLeDiff, Nat.reducePow, Int.reduceLT, Int.reduceLE, Int.reduceNeg, Int.reduceToNat]
  rintro i s ⟨hi, t5, b5, t6, b6, t8, b8, t9, b9, t10, ⟨z1, z2, z3, z4, z5, z6, b10⟩, t11, ⟨y1, y2, b11⟩, t15, t17, t18, k1, k2, k3, b15, t16, a1, a2, a3, i1, i2, i3⟩
  simp (dsimp := false) (maxDischargeDepth := 16) only [go_sem, ↓reduceIte, reduceCtorEq, Nat.reduceEqDiff, Nat.reduceAdd, Nat.reduceMul, Nat.reduceSub, Nat.reduceLT, Nat.reduceLeDiff, Nat.reducePow, Int.reduceLT, Int.reduceLE, Int.reduceNeg, Int.reduceToNat, t5, b5, t6, b6, t8, b8, t9, b9, t10, b10, t11, b11, t15, t17, t18, b15, t16]
  refine condK_dec (fun h6 => ?_) (fun h6 => ?_)
  · have hp : i < p.length := by omega
    have k12 : ∀ (s : St) (d n : Nat) (x : AV), tokOK s k2 = true → tokOK (s.ntok d n x (tokKey k1)) k2 = true := fun s d n x h => tk_kill i1 i2 rfl h
    have k31 : ∀ (s : St) (d n : Nat) (x : AV), tokOK s k1 = true → tokOK (s.ntok d n x (tokKey k3)) k1 = true := fun s d n x h => tk_kill i3 i1 rfl h
    have k32 : ∀ (s : St) (d n : Nat) (x : AV), tokOK s k2 = true → tokOK (s.ntok d n x (tokKey k3)) k2 = true := fun s d n x h => tk_kill i3 i2 rfl h
    have q3 : ∀ (f : Key → Bool) (g : Nat), killO f (tokKey k1) (78, g, 0) = f (78, g, 0) := fun f g => kill_tk i1 rfl f
    have l1 := gN_len1 h.n k.n p i
    have l3 : (p.take i).length = i := by rw [List.length_take]; omega
    have l4 := take_at' hp
    simp (dsimp := false) (maxDischargeDepth := 16) only [go_sem, ↓reduceIte, reduceCtorEq, Nat.reduceEqDiff, Nat.reduceAdd, Nat.reduceMul, Nat.reduceSub, Nat.reduceLT, Nat.reduceLeDiff, Nat.reducePow, Int.reduceLT, Int.reduceLE, Int.reduceNeg, Int.reduceToNat, t5, b5, t6, b6, t8, b8, t9, b9, t10, b10, t11, b11, t15, t17, t18, b15, t16, h6, idx_nat]
    refine callK_intro (HN i h6 hp) ?_
    simp (dsimp := false) (maxDischargeDepth := 16) only [go_sem, ↓reduceIte, reduceCtorEq, Nat.reduceEqDiff, Nat.reduceAdd, Nat.reduceMul, Nat.reduceSub, Nat.reduceLT, Nat.reduceLeDiff, Nat.reducePow, Int.reduceLT, Int.reduceLE, Int.reduceNeg, Int.reduceToNat, t5, b5, t6, b6, t8, b8, t9, b9, t10, b10, t11, b11, t15, t17, t18, b15, t16, h6, hp, idx_nat, a1, a2, a3, k12, k31, k32, l3, l4, take1, List.getElem_take, Nat.lt_add_one]
    refine ⟨⟨by omega, by omega⟩, ?_⟩
    refine condK_dec (fun h8 => ?_) (fun h8 => ?_)
    · simp (dsimp := false) (maxDischargeDepth := 16) only [go_sem, ↓reduceIte, reduceCtorEq, Nat.reduceEqDiff, Nat.reduceAdd, Nat.reduceMul, Nat.reduceSub, Nat.reduceLT, Nat.reduceLeDiff, Nat.reducePow, Int.reduceLT, Int.reduceLE, Int.reduceNeg, Int.reduceToNat, t5, b5, t6, b6, t8, b8, t9, b9, t10, b10, t11, b11, t15, t17, t18, b15, t16, h6, hp, h8, idx_nat, a1, a2, a3, k12, k31, k32, l3, l4]
      refine ⟨⟨by omega, by omega⟩, i + 1, by omega, by omega, ⟨_, _, _, _, _, _, rfl⟩, ⟨_, _, rfl⟩, by rw [wrapN _ (by omega)], .own (92, s.g 92, 0), k2, .own (78, s.g 78, 0), ?_, by rw [take1 hp], ?_, ?_, ?_, rfl, i2, rfl⟩
      · rw [gN_neg hp h6 h8]
        simp only [map1_app]
      all_goals simp (dsimp := false) (maxDischargeDepth := 16) only [go_sem, ↓reduceIte, reduceCtorEq, Nat.reduceEqDiff, Nat.reduceAdd, Nat.reduceMul, Nat.reduceSub, Nat.reduceLT, Nat.reduceLeDiff, Nat.reducePow, Int.reduceLT, Int.reduceLE, Int.reduceNeg, Int.reduceToNat, a1, a2, a3, k12, k31, k32, q3]
    · simp (dsimp := false) (maxDischargeDepth := 16) only [go_sem, ↓reduceIte, reduceCtorEq, Nat.reduceEqDiff, Nat.reduceAdd, Nat.reduceMul, Nat.reduceSub, Nat.reduceLT, Nat.reduceLeDiff, Nat.reducePow, Int.reduceLT, Int.reduceLE, Int.reduceNeg, Int.reduceToNat, t5, b5, t6, b6, t8, b8, t9, b9, t10, b10, t11, b11, t15, t17, t18, b15, t16, h6, hp, h8, idx_nat, a1, a2, a3, k12, k31, k32, l3, l4]
      refine ⟨i + 1, by omega, by omega, ⟨_, _, _, _, _, _, rfl⟩, ⟨_, _, rfl⟩, by rw [wrapN _ (by omega)], k1, k2, .own (78, s.g 78, 0), ?_, by rw [take1 hp], ?_, ?_, ?_, i1, i2, rfl⟩
      · rw [gN_pos hp h8]
      all_goals simp (dsimp := false) (maxDischargeDepth := 16) only [go_sem, ↓reduceIte, reduceCtorEq, Nat.reduceEqDiff, Nat.reduceAdd, Nat.reduceMul, Nat.reduceSub, Nat.reduceLT, Nat.reduceLeDiff, Nat.reducePow, Int.reduceLT, Int.reduceLE, Int.reduceNeg, Int.reduceToNat, a1, a2, a3, k12, k31, k32]
  · simp (dsimp := false) (maxDischargeDepth := 16) only [go_sem, ↓reduceIte, reduceCtorEq, Nat.reduceEqDiff, Nat.reduceAdd, Nat.reduceMul, Nat.reduceSub, Nat.reduceLT, Nat.reduceLeDiff, Nat.reducePow, Int.reduceLT, Int.reduceLE, Int.reduceNeg, Int.reduceToNat, t5, b5, t6, b6, t8, b8, t9, b9, t10, b10, t11, b11, t15, t17, t18, b15, t16, h6]
    have hin : i = p.length := by omega
    subst hin
    rw [List.take_length] at t16
    generalize (gN h.n k.n p p.length).1 = L at *
    refine loopK_intro (fun (i : Nat) s => i ≤ q.length ∧ s.t 5 = .box (5, 0, 0) 0 ∧ s.b (5, 0, 0) = some ⟨gcs a, false⟩ ∧ s.t 6 = .box (6, 0, 0) 0 ∧ s.b (6, 0, 0) = some ⟨gcs b, false⟩ ∧ s.t 8 = .box (8, 0, 0) 0 ∧ s.b (8, 0, 0) = some ⟨mcs h, false⟩ ∧ s.t 9 = .box (9, 0, 0) 0 ∧ s.b (9, 0, 0) = some ⟨mcs k, false⟩ ∧
      s.t 10 = .box (10, 0, 0) 0 ∧ s.b (10, 0, 0) = some ⟨[z1, z2, z3, z4, z5, z6], false⟩ ∧ s.t 11 = .box (11, 0, 0) 0 ∧ s.b (11, 0, 0) = some ⟨[y1, y2], false⟩ ∧
      s.t 15 = .box (15, 0, 0) 0 ∧ s.t 16 = lvT p k3 ∧ s.t 19 = iv i ∧ ∃ k2 k3, s.b (15, 0, 0) = some ⟨[lvT L k1, lvT (gN h.e k.e q i).1 k2], false⟩ ∧ s.t 17 = lvT (q.take i) k3 ∧
      tokOK s k2 = true ∧ tokOK s k3 = true ∧ tkIn [(59, 0), (125, 0)] k2 = true ∧ tkIn [(111, 0)] k3 = true) (fun i => q.length - i) ?_ ?_
    · refine ⟨0, by omega, t5, b5, t6, b6, t8, b8, t9, b9, t10, b10, t11, b11, t15, t16, rfl, k2, .nil, b15, t17, ?_, rfl, ?_, rfl⟩
      · simp (dsimp := false) (maxDischargeDepth := 16) only [go_sem, ↓reduceIte, reduceCtorEq, Nat.reduceEqDiff, Nat.reduceAdd, Nat.reduceMul, Nat.reduceSub, Nat.reduceLT, Nat.reduceLeDiff, Nat.reducePow, Int.reduceLT, Int.reduceLE, Int.reduceNeg, Int.reduceToNat, a2]
      revert i2
      cases k2 <;> simp [tkIn]
      intro h1 h2
      exact .inl ⟨h1, h2⟩
    clear t5 b5 t6 b6 t8 b8 t9 b9 t10 b10 t11 b11 t15 t16 t17 t18 b15 a1 a2 a3 i1 i2 i3 h6 hi
    rintro i s ⟨hi, t5, b5, t6, b6, t8, b8, t9, b9, t10, b10, t11, b11, t15, t16, t19, k2, k4, b15, t17, a2, a3, i2, i3⟩
    simp (dsimp := false) (maxDischargeDepth := 16) only [go_sem, ↓reduceIte, reduceCtorEq, Nat.reduceEqDiff, Nat.reduceAdd, Nat.reduceMul, Nat.reduceSub, Nat.reduceLT, Nat.reduceLeDiff, Nat.reducePow, Int.reduceLT, Int.reduceLE, Int.reduceNeg, Int.reduceToNat, t5, b5, t6, b6, t8, b8, t9, b9, t10, b10, t11, b11, t15, t17, t19, b15, t16]
    refine condK_dec (fun h6 => ?_) (fun h6 => ?_)
    · have hp : i < q.length := by omega
      have k32 : ∀ (s : St) (d n : Nat) (x : AV), tokOK s k2 = true → tokOK (s.ntok d n x (tokKey k4)) k2 = true := fun s d n x h => tk_kill i3 i2 rfl h
      have q3 : ∀ (f : Key → Bool) (g : Nat), killO f (tokKey k2) (111, g, 0) = f (111, g, 0) := fun f g => kill_tk i2 rfl f
      have l1 := gN_len1 h.e k.e q i
      have l3 : (q.take i).length = i := by rw [List.length_take]; omega
      have l4 := take_at' hp
      simp (dsimp := false) (maxDischargeDepth := 16) only [go_sem, ↓reduceIte, reduceCtorEq, Nat.reduceEqDiff, Nat.reduceAdd, Nat.reduceMul, Nat.reduceSub, Nat.reduceLT, Nat.reduceLeDiff, Nat.reducePow, Int.reduceLT, Int.reduceLE, Int.reduceNeg, Int.reduceToNat, t5, b5, t6, b6, t8, b8, t9, b9, t10, b10, t11, b11, t15, t17, t19, b15, t16, h6, idx_nat]
      refine callK_intro (HE i h6 hp) ?_
      simp (dsimp := false) (maxDischargeDepth := 16) only [go_sem, ↓reduceIte, reduceCtorEq, Nat.reduceEqDiff, Nat.reduceAdd, Nat.reduceMul, Nat.reduceSub, Nat.reduceLT, Nat.reduceLeDiff, Nat.reducePow, Int.reduceLT, Int.reduceLE, Int.reduceNeg, Int.reduceToNat, t5, b5, t6, b6, t8, b8, t9, b9, t10, b10, t11, b11, t15, t17, t19, b15, t16, h6, hp, idx_nat, a2, a3, k32, l3, l4, take1, List.getElem_take, Nat.lt_add_one]
      refine ⟨⟨by omega, by omega⟩, ?_⟩
      refine condK_dec (fun h8 => ?_) (fun h8 => ?_)
      · simp (dsimp := false) (maxDischargeDepth := 16) only [go_sem, ↓reduceIte, reduceCtorEq, Nat.reduceEqDiff, Nat.reduceAdd, Nat.reduceMul, Nat.reduceSub, Nat.reduceLT, Nat.reduceLeDiff, Nat.reducePow, Int.reduceLT, Int.reduceLE, Int.reduceNeg, Int.reduceToNat, t5, b5, t6, b6, t8, b8, t9, b9, t10, b10, t11, b11, t15, t17, t19, b15, t16, h6, hp, h8, idx_nat, a2, a3, k32, l3, l4]
        refine ⟨⟨by omega, by omega⟩, i + 1, by omega, by omega, by rw [wrapN _ (by omega)], .own (125, s.g 125, 0), .own (111, s.g 111, 0), ?_, by rw [take1 hp], ?_, ?_, rfl, rfl⟩
        · rw [gN_neg hp h6 h8]
          simp only [map1_app]
        all_goals simp (dsimp := false) (maxDischargeDepth := 16) only [go_sem, ↓reduceIte, reduceCtorEq, Nat.reduceEqDiff, Nat.reduceAdd, Nat.reduceMul, Nat.reduceSub, Nat.reduceLT, Nat.reduceLeDiff, Nat.reducePow, Int.reduceLT, Int.reduceLE, Int.reduceNeg, Int.reduceToNat, a2, a3, k32, q3]
      · simp (dsimp := false) (maxDischargeDepth := 16) only [go_sem, ↓reduceIte, reduceCtorEq, Nat.reduceEqDiff, Nat.reduceAdd, Nat.reduceMul, Nat.reduceSub, Nat.reduceLT, Nat.reduceLeDiff, Nat.reducePow, Int.reduceLT, Int.reduceLE, Int.reduceNeg, Int.reduceToNat, t5, b5, t6, b6, t8, b8, t9, b9, t10, b10, t11, b11, t15, t17, t19, b15, t16, h6, hp, h8, idx_nat, a2, a3, k32, l3, l4]
        refine ⟨i + 1, by omega, by omega, by rw [wrapN _ (by omega)], k2, .own (111, s.g 111, 0), ?_, by rw [take1 hp], ?_, ?_, i2, rfl⟩
        · rw [gN_pos hp h8]
        all_goals simp (dsimp := false) (maxDischargeDepth := 16) only [go_sem, ↓reduceIte, reduceCtorEq, Nat.reduceEqDiff, Nat.reduceAdd, Nat.reduceMul, Nat.reduceSub, Nat.reduceLT, Nat.reduceLeDiff, Nat.reducePow, Int.reduceLT, Int.reduceLE, Int.reduceNeg, Int.reduceToNat, a2, a3, k32]
    · simp (dsimp := false) (maxDischargeDepth := 16) only [go_sem, ↓reduceIte, reduceCtorEq, Nat.reduceEqDiff, Nat.reduceAdd, Nat.reduceMul, Nat.reduceSub, Nat.reduceLT, Nat.reduceLeDiff, Nat.reducePow, Int.reduceLT, Int.reduceLE, Int.reduceNeg, Int.reduceToNat, t5, b5, t6, b6, t8, b8, t9, b9, t10, b10, t11, b11, t15, t17, t19, b15, t16, h6]
      have hin : i = q.length := by omega
      subst hin
      rw [List.take_length] at t17
      simp (dsimp := false) only [List.take_length]
      refine callK_intro HG ?_
      simp (dsimp := false) (maxDischargeDepth := 16) only [go_sem, ↓reduceIte, reduceCtorEq, Nat.reduceEqDiff, Nat.reduceAdd, Nat.reduceMul, Nat.reduceSub, Nat.reduceLT, Nat.reduceLeDiff, Nat.reducePow, Int.reduceLT, Int.reduceLE, Int.reduceNeg, Int.reduceToNat, t5, b5, t6, b6, t8, b8, t9, b9, t10, b10, t11, b11, t15, t17, t19, b15, t16, h6]
      exact ⟨rfl, finK ⟨rfl, rfl⟩⟩
end Go.Sy

/- Plain law: two injective morphisms into one graph go through an overlap and the rest. -/
namespace Go.Sy
open Go Go.Proofs

theorem mErr_node {a b : Gr} {m : Mo} (h : mErr a b m = 0) {i : Nat} (hi : i < a.n.length) : 0 ≤ m.n.getD i 0 ∧ (m.n.getD i 0).toNat < b.n.length ∧ b.n.getD (m.n.getD i 0).toNat 0 = a.n.getD i 0 := by
  have := (mErr_ok h).2.2.2.2.1 i hi
  rw [nodeErr] at this
  split at this
  · cases this
  split at this
  · cases this
  · rename_i h1 h2
    simp only [ne_eq, Decidable.not_not] at h2
    exact ⟨by omega, by omega, h2⟩
theorem mErr_edge {a b : Gr} {m : Mo} (h : mErr a b m = 0) {i : Nat} (hi : i < a.e.length) : 0 ≤ m.e.getD i 0 ∧ (m.e.getD i 0).toNat < b.e.length ∧ (a.e.getD i (0, 0, 0)).1 = (b.e.getD (m.e.getD i 0).toNat (0, 0, 0)).1 ∧
    m.n.getD (a.e.getD i (0, 0, 0)).2.1.toNat 0 = (b.e.getD (m.e.getD i 0).toNat (0, 0, 0)).2.1 ∧ m.n.getD (a.e.getD i (0, 0, 0)).2.2.toNat 0 = (b.e.getD (m.e.getD i 0).toNat (0, 0, 0)).2.2 := by
  have := (mErr_ok h).2.2.2.2.2 i hi
  rw [edgeErr] at this
  split at this
  · cases this
  split at this
  · cases this
  split at this
  · cases this
  · rename_i h1 h2 h3
    simp only [ne_eq, Decidable.not_not] at h2
    exact ⟨by omega, by omega, h2, by omega, by omega⟩
theorem edge_in {g : Gr} (h : gErr g = 0) {i : Nat} (hi : i < g.e.length) : 0 ≤ (g.e.getD i (0, 0, 0)).2.1 ∧ (g.e.getD i (0, 0, 0)).2.1 < g.n.length ∧ 0 ≤ (g.e.getD i (0, 0, 0)).2.2 ∧ (g.e.getD i (0, 0, 0)).2.2 < g.n.length := by
  have := ((gErr_small h).2.2 _ (List.getElem_mem hi)).2
  rw [getD_at hi]
  exact this
theorem dist_at {l : List Int} (h : dist l = true) {i j : Nat} (hi : i < l.length) (hj : j < l.length) (he : l.getD i 0 = l.getD j 0) : i = j := by
  have h := List.all_eq_true.1 h
  rcases Nat.lt_trichotomy i j with h1 | h1 | h1
  · have := List.all_eq_true.1 (h j (List.mem_range.2 hj)) i (List.mem_range.2 h1)
    simp only [decide_eq_true_eq] at this
    exact absurd he.symm this
  · exact h1
  · have := List.all_eq_true.1 (h i (List.mem_range.2 hi)) j (List.mem_range.2 h1)
    simp only [decide_eq_true_eq] at this
    exact absurd he this
/-! ### Places -/
theorem plc_val (h k : List Int) {i : Nat} (hi : i < k.length) : ((plc h k).getD i 0 = -1 ∧ ∀ c, c < h.length → h.getD c 0 ≠ k.getD i 0) ∨ ∃ c : Nat, c < h.length ∧ (plc h k).getD i 0 = (c : Int) ∧ h.getD c 0 = k.getD i 0 := by
  have e : (plc h k).getD i 0 = idxP (fun y => k[i] == y) h := by rw [getD_at (by rw [plc_len]; exact hi)]; simp [plc]
  rw [e, getD_at hi]
  rcases idxP_cases (fun y => k[i] == y) h with ⟨h1, h2⟩ | ⟨c, hc, h1, h2⟩
  · refine .inl ⟨h1, fun c hc he => ?_⟩
    have := h2 _ (List.getElem_mem hc)
    rw [getD_at hc] at he
    rw [he] at this
    simp at this
  · refine .inr ⟨c, hc, h1, ?_⟩
    rw [getD_at hc]
    exact (beq_iff_eq.1 h2).symm
theorem plc_hit {h k : List Int} (hd : dist h = true) {i c : Nat} (hi : i < k.length) (hc : c < h.length) (he : h.getD c 0 = k.getD i 0) : (plc h k).getD i 0 = (c : Int) := by
  rcases plc_val h k hi with ⟨_, h2⟩ | ⟨c', hc', h1, h2⟩
  · exact absurd he (h2 c hc)
  · rw [h1, dist_at hd hc' hc (by rw [h2, he])]
theorem plc_PI {h k : List Int} (hk : dist k = true) {R : Nat → Nat → Prop} (hR : ∀ i c, i < k.length → c < h.length → h.getD c 0 = k.getD i 0 → R i c) : PI k.length h.length R (plc h k) := by
  refine ⟨plc_len _ _, fun i hi => ?_, fun i j hij hj he => ?_⟩
  · rcases plc_val h k hi with ⟨h1, _⟩ | ⟨c, hc, h1, h2⟩
    · exact .inl h1
    · exact .inr ⟨c, hc, h1, hR i c hi hc h2⟩
  · rcases plc_val h k (show i < k.length by omega) with ⟨h1, _⟩ | ⟨c, hc, h1, h2⟩
    · exact h1
    · rcases plc_val h k hj with ⟨h3, _⟩ | ⟨c', hc', h3, h4⟩
      · rw [he, h3]
      · have : c = c' := by omega
        subst this
        have := dist_at hk (show i < k.length by omega) hj (by rw [← h2, h4])
        omega
/-! ### Two lists that grow alike -/
theorem gG_snd {α β : Type} {a : List α} {a' : List β} (f : Nat → α) (f' : Nat → β) (q : List Int) (hl : a.length = a'.length) : ∀ i, (gG a f q i).2 = (gG a' f' q i).2 ∧ (gG a f q i).1.length = (gG a' f' q i).1.length
  | 0 => ⟨rfl, hl⟩
  | i + 1 => by
    obtain ⟨h1, h2⟩ := gG_snd f f' q hl i
    rw [gG, gG]
    split
    · refine ⟨by rw [h1, h2], by simp [h2]⟩
    · exact ⟨by rw [h1], h2⟩
theorem GS.at {α : Type} {a : List α} {f : Nat → α} {q : List Int} {n : Nat} {L : List α} {R : List Int} (h : GS a f q n L R) (d : α) {c : Nat} (hc : c < L.length) :
    (c < a.length ∧ L.getD c d = a.getD c d) ∨ (a.length ≤ c ∧ ∃ j, j < n ∧ q.getD j 0 < 0 ∧ R.getD j 0 = (c : Int) ∧ L.getD c d = f j) := by
  by_cases hca : c < a.length
  · exact .inl ⟨hca, h.old_at hca d⟩
  · obtain ⟨j, j1, j2, j3⟩ := h.cov c (by omega) hc
    refine .inr ⟨by omega, j, j1, j2, j3, ?_⟩
    have := (h.new j j1 j2).2
    rw [j3, Int.toNat_natCast] at this
    rw [List.getD_eq_getElem?_getD, this]
    rfl
theorem GS.new_at {α : Type} {a : List α} {f : Nat → α} {q : List Int} {n : Nat} {L : List α} {R : List Int} (h : GS a f q n L R) (d : α) {j : Nat} (hj : j < n) (hq : q.getD j 0 < 0) : L.getD (R.getD j 0).toNat d = f j := by
  have := (h.new j hj hq).2
  rw [List.getD_eq_getElem?_getD, this]
  rfl
/-- Where the rest takes an element of the overlap that comes from the second graph. -/
theorem rest_back {h k : List Int} {L R : List Int} (hg : GS h (fun j => k.getD j 0) (plc h k) k.length L R) {j : Nat} (hj : j < k.length) : L.getD (R.getD j 0).toNat 0 = k.getD j 0 := by
  rcases plc_val h k hj with ⟨h1, _⟩ | ⟨c, hc, h1, h2⟩
  · exact hg.new_at 0 hj (by omega)
  · rw [hg.old j hj (by omega), h1, Int.toNat_natCast, hg.old_at hc 0, h2]
theorem rest_dist {h k : List Int} {L R : List Int} (hg : GS h (fun j => k.getD j 0) (plc h k) k.length L R) (hd : dist h = true) (kd : dist k = true) : dist L = true := by
  have hcase : ∀ c d, c < d → d < L.length → L.getD c 0 ≠ L.getD d 0 := by
    intro c d hcd hd' he
    rcases hg.at 0 (show c < L.length by omega) with ⟨c1, c2⟩ | ⟨c1, j, j1, j2, j3, c2⟩
    · rcases hg.at 0 hd' with ⟨d1, d2⟩ | ⟨d1, i, i1, i2, i3, d2⟩
      · have := dist_at hd c1 d1 (by rw [← c2, ← d2, he])
        omega
      · rcases plc_val h k i1 with ⟨_, h1⟩ | ⟨x, _, h1, _⟩
        · exact h1 c c1 (by rw [← c2, he, d2])
        · omega
    · rcases hg.at 0 hd' with ⟨d1, d2⟩ | ⟨d1, i, i1, i2, i3, d2⟩
      · omega
      · have := dist_at kd j1 i1 (by show k.getD j 0 = k.getD i 0; rw [c2, d2] at he; exact he)
        subst this
        omega
  exact dist_yes fun i hi k hk e => hcase k i hk hi e.symm
/-- A list of different numbers below n has at most n. -/
theorem dist_le {l : List Int} {n : Nat} (h : dist l = true) (hl : ∀ x ∈ l, 0 ≤ x ∧ x < n) : l.length ≤ n := by
  have h1 : (l.map Int.toNat).Nodup := by
    rw [List.Nodup, List.pairwise_map]
    refine ((dist_nodup l).1 h).imp_of_mem fun {a b} ha hb hne e => hne ?_
    have := hl a ha
    have := hl b hb
    omega
  have h2 := List.Nodup.length_le_of_subset h1 (l₂ := List.range n) (fun x hx => by
    obtain ⟨y, hy, rfl⟩ := List.mem_map.1 hx
    have := hl y hy
    exact List.mem_range.2 (by omega))
  simpa using h2
theorem injR_dist {a b : Gr} {m : Mo} (h : injR a b m = true) : mErr a b m = 0 ∧ dist m.n = true ∧ dist m.e = true := by
  unfold injR at h
  simp only [Bool.and_eq_true, beq_iff_eq] at h
  exact h
theorem thru_isM {a b x : Gr} {h k : Mo} (i1 : injR a x h = true) (i2 : injR b x k = true) : isM a b (plc h.n k.n, plc h.e k.e) := by
  obtain ⟨g1, d1, d2⟩ := injR_dist i1
  obtain ⟨g2, d3, d4⟩ := injR_dist i2
  have o1 := mErr_ok g1
  have o2 := mErr_ok g2
  have P1 : PI k.n.length h.n.length (relN a b) (plc h.n k.n) := plc_PI d3 fun i c hi hc he => by
    have n1 := mErr_node g1 (show c < a.n.length by omega)
    have n2 := mErr_node g2 (show i < b.n.length by omega)
    rw [he] at n1
    rw [relN, ← n1.2.2, ← n2.2.2]
  have P2 : PI k.e.length h.e.length (relE a b (plc h.n k.n)) (plc h.e k.e) := plc_PI d4 fun i c hi hc he => by
    have hc' : c < a.e.length := by omega
    have hi' : i < b.e.length := by omega
    have n1 := mErr_edge g1 hc'
    have n2 := mErr_edge g2 hi'
    have r1 := edge_in o1.1 hc'
    have r2 := edge_in o2.1 hi'
    rw [he] at n1
    have e1 := plc_hit (k := k.n) d1 (i := (b.e.getD i (0, 0, 0)).2.1.toNat) (c := (a.e.getD c (0, 0, 0)).2.1.toNat) (by omega) (by omega) (by rw [n1.2.2.2.1, n2.2.2.2.1])
    have e2 := plc_hit (k := k.n) d1 (i := (b.e.getD i (0, 0, 0)).2.2.toNat) (c := (a.e.getD c (0, 0, 0)).2.2.toNat) (by omega) (by omega) (by rw [n1.2.2.2.2, n2.2.2.2.2])
    rw [relE, e1, e2]
    refine Prod.ext ?_ (Prod.ext ?_ ?_)
    · rw [n1.2.2.1, n2.2.2.1]
    · show _ = (((a.e.getD c (0, 0, 0)).2.1.toNat : Nat) : Int)
      omega
    · show _ = (((a.e.getD c (0, 0, 0)).2.2.toNat : Nat) : Int)
      omega
  rw [o1.2.2.1, o2.2.2.1] at P1
  rw [o1.2.2.2.1, o2.2.2.2.1] at P2
  exact ⟨P1, P2⟩
/-- What the rest is, beside the overlap. -/
structure RestOK (a b : Gr) (h k : Mo) (G : Ov) (r : Mo) : Prop where
  n : GS h.n (fun j => k.n.getD j 0) (plc h.n k.n) k.n.length r.n G.r.n
  e : GS h.e (fun j => k.e.getD j 0) (plc h.e k.e) k.e.length r.e G.r.e
  ln : r.n.length = G.g.n.length
  le : r.e.length = G.g.e.length
theorem rest_ok {a b x : Gr} {h k : Mo} (i1 : injR a x h = true) (i2 : injR b x k = true) : RestOK a b h k (glue a b (plc h.n k.n) (plc h.e k.e)) (rst h k (plc h.n k.n) (plc h.e k.e)) := by
  obtain ⟨g1, d1, d2⟩ := injR_dist i1
  obtain ⟨g2, d3, d4⟩ := injR_dist i2
  have o1 := mErr_ok g1
  have o2 := mErr_ok g2
  have hM := thru_isM i1 i2
  have s1 := gG_snd (a := h.n) (a' := a.n) (fun j => k.n.getD j 0) (fun j => b.n.getD j 0) (plc h.n k.n) (by omega) (plc h.n k.n).length
  have s2 := gG_snd (a := h.e) (a' := a.e) (fun j => k.e.getD j 0) (edF b.e (gN a.n b.n (plc h.n k.n) (plc h.n k.n).length).2) (plc h.e k.e) (by omega) (plc h.e k.e).length
  constructor
  · show GS _ _ _ _ (gN h.n k.n (plc h.n k.n) (plc h.n k.n).length).1 (gN a.n b.n (plc h.n k.n) (plc h.n k.n).length).2
    rw [gN_gG, gN_gG, ← s1.1, plc_len]
    refine gG_spec (fun j hj => ?_) _ (Nat.le_refl _)
    have := hM.1.ok j (by omega)
    rw [o1.2.2.1]
    exact this
  · show GS _ _ _ _ (gN h.e k.e (plc h.e k.e) (plc h.e k.e).length).1 (gE a.e b.e (gN a.n b.n (plc h.n k.n) (plc h.n k.n).length).2 (plc h.e k.e) (plc h.e k.e).length).2
    rw [gN_gG h.e, gE_gG, ← s2.1, plc_len]
    refine gG_spec (fun j hj => ?_) _ (Nat.le_refl _)
    have := hM.2.ok j (by omega)
    rw [o1.2.2.2.1]
    exact this
  · show (gN h.n k.n (plc h.n k.n) (plc h.n k.n).length).1.length = (gN a.n b.n (plc h.n k.n) (plc h.n k.n).length).1.length
    rw [gN_gG, gN_gG]
    exact s1.2
  · show (gN h.e k.e (plc h.e k.e) (plc h.e k.e).length).1.length = (gE a.e b.e (gN a.n b.n (plc h.n k.n) (plc h.n k.n).length).2 (plc h.e k.e) (plc h.e k.e).length).1.length
    rw [gN_gG h.e, gE_gG]
    exact s2.2
theorem thr_eq {R L k : List Int} (hl : R.length = k.length) (h : ∀ j, j < k.length → L.getD (R.getD j 0).toNat 0 = k.getD j 0) : thr R L = k := by
  refine List.ext_getElem (by simp [thr, hl]) fun i h1 h2 => ?_
  have := h i h2
  rw [getD_at h2, getD_at (show i < R.length by omega)] at this
  simp only [thr, List.getElem_map]
  exact this
theorem thru_all {a b x : Gr} {h k : Mo} (i1 : injR a x h = true) (i2 : injR b x k = true) :
    cmpR a (glue a b (plc h.n k.n) (plc h.e k.e)).g x (glue a b (plc h.n k.n) (plc h.e k.e)).l (rst h k (plc h.n k.n) (plc h.e k.e)) = (h, 0) ∧
    cmpR b (glue a b (plc h.n k.n) (plc h.e k.e)).g x (glue a b (plc h.n k.n) (plc h.e k.e)).r (rst h k (plc h.n k.n) (plc h.e k.e)) = (k, 0) ∧
    injR (glue a b (plc h.n k.n) (plc h.e k.e)).g x (rst h k (plc h.n k.n) (plc h.e k.e)) = true := by
  have hM := thru_isM i1 i2
  have hR := rest_ok i1 i2
  have hG := glue_ok hM
  obtain ⟨g1, d1, d2⟩ := injR_dist i1
  obtain ⟨g2, d3, d4⟩ := injR_dist i2
  have o1 := mErr_ok g1
  have o2 := mErr_ok g2
  have gx := gErr_small o1.2.1
  have dn := rest_dist hR.n d1 d3
  have de := rest_dist hR.e d2 d4
  have hln := hR.ln
  have hle := hR.le
  -- where the rest takes the overlap's nodes and edges
  have nin : ∀ c, c < (glue a b (plc h.n k.n) (plc h.e k.e)).g.n.length → nodeErr (glue a b (plc h.n k.n) (plc h.e k.e)).g x (rst h k (plc h.n k.n) (plc h.e k.e)) c = 0 := by
    intro c hc
    rw [nodeErr]
    rcases hR.n.at 0 (show c < (rst h k (plc h.n k.n) (plc h.e k.e)).n.length by omega) with ⟨c1, c2⟩ | ⟨c1, j, j1, j2, j3, c2⟩
    · have := mErr_node g1 (show c < a.n.length by omega)
      rw [c2, hG.n.old_at (show c < a.n.length by omega) 0, if_neg (by omega), if_neg (by rw [this.2.2]; simp)]
    · have := mErr_node g2 (show j < b.n.length by omega)
      have e := hG.n.new_at 0 (show j < b.n.length by omega) j2
      rw [j3, Int.toNat_natCast] at e
      rw [c2, e, if_neg (by omega), if_neg (by rw [this.2.2]; simp)]
  have ein : ∀ c, c < (glue a b (plc h.n k.n) (plc h.e k.e)).g.e.length → edgeErr (glue a b (plc h.n k.n) (plc h.e k.e)).g x (rst h k (plc h.n k.n) (plc h.e k.e)) c = 0 := by
    intro c hc
    rw [edgeErr]
    rcases hR.e.at 0 (show c < (rst h k (plc h.n k.n) (plc h.e k.e)).e.length by omega) with ⟨c1, c2⟩ | ⟨c1, j, j1, j2, j3, c2⟩
    · have hc' : c < a.e.length := by omega
      have n := mErr_edge g1 hc'
      have r := edge_in o1.1 hc'
      rw [c2, hG.e.old_at hc' (0, 0, 0), hR.n.old_at (show (a.e.getD c (0, 0, 0)).2.1.toNat < h.n.length by omega) 0, hR.n.old_at (show (a.e.getD c (0, 0, 0)).2.2.toNat < h.n.length by omega) 0,
        if_neg (by omega), if_neg (by rw [n.2.2.1]; simp), if_neg (by rw [n.2.2.2.1, n.2.2.2.2]; simp)]
    · have hj' : j < b.e.length := by omega
      have n := mErr_edge g2 hj'
      have r := edge_in o2.1 hj'
      have e := hG.e.new_at (0, 0, 0) hj' j2
      rw [j3, Int.toNat_natCast] at e
      have b1 := rest_back hR.n (show (b.e.getD j (0, 0, 0)).2.1.toNat < k.n.length by omega)
      have b2 := rest_back hR.n (show (b.e.getD j (0, 0, 0)).2.2.toNat < k.n.length by omega)
      rw [c2, e]
      unfold edF
      dsimp only
      rw [b1, b2, if_neg (by omega), if_neg (by rw [n.2.2.1]; simp), if_neg (by rw [n.2.2.2.1, n.2.2.2.2]; simp)]
  have rn : ∀ y ∈ (rst h k (plc h.n k.n) (plc h.e k.e)).n, 0 ≤ y ∧ y < x.n.length := by
    intro y hy
    obtain ⟨c, hc, rfl⟩ := List.mem_iff_getElem.1 hy
    have := nin c (by omega)
    rw [nodeErr] at this
    split at this
    · cases this
    · rename_i h5
      rw [getD_at hc] at h5
      omega
  have re : ∀ y ∈ (rst h k (plc h.n k.n) (plc h.e k.e)).e, 0 ≤ y ∧ y < x.e.length := by
    intro y hy
    obtain ⟨c, hc, rfl⟩ := List.mem_iff_getElem.1 hy
    have := ein c (by omega)
    rw [edgeErr] at this
    split at this
    · cases this
    · rename_i h5
      rw [getD_at hc] at h5
      omega
  have sn := dist_le dn rn
  have se := dist_le de re
  have hs : (glue a b (plc h.n k.n) (plc h.e k.e)).g.n.length ≤ 40 ∧ (glue a b (plc h.n k.n) (plc h.e k.e)).g.e.length ≤ 80 := by omega
  have gv := glue_valid (p := (plc h.n k.n, plc h.e k.e)) o1.1 o2.1 hs hM
  have ml := glue_left (p := (plc h.n k.n, plc h.e k.e)) o1.1 o2.1 hs hM
  have mr := glue_right (p := (plc h.n k.n, plc h.e k.e)) o1.1 o2.1 hs hM
  have m3 : mErr (glue a b (plc h.n k.n) (plc h.e k.e)).g x (rst h k (plc h.n k.n) (plc h.e k.e)) = 0 := mErr_zero gv o1.2.1 hln hle nin ein
  refine ⟨?_, ?_, ?_⟩
  · rw [cmpR, if_neg (by simp [ml]), if_neg (by simp [m3]), thn]
    refine Prod.ext ?_ rfl
    have l1 : (glue a b (plc h.n k.n) (plc h.e k.e)).l.n = rng a.n.length := rfl
    have l2 : (glue a b (plc h.n k.n) (plc h.e k.e)).l.e = rng a.e.length := rfl
    have t1 : thr (rng a.n.length) (rst h k (plc h.n k.n) (plc h.e k.e)).n = h.n := thr_eq (by rw [rng_len]; omega) fun j hj => by
      rw [rng_at (by omega), Int.toNat_natCast, hR.n.old_at hj]
    have t2 : thr (rng a.e.length) (rst h k (plc h.n k.n) (plc h.e k.e)).e = h.e := thr_eq (by rw [rng_len]; omega) fun j hj => by
      rw [rng_at (by omega), Int.toNat_natCast, hR.e.old_at hj]
    rw [l1, l2, t1, t2]
  · rw [cmpR, if_neg (by simp [mr]), if_neg (by simp [m3]), thn]
    refine Prod.ext ?_ rfl
    have t1 : thr (glue a b (plc h.n k.n) (plc h.e k.e)).r.n (rst h k (plc h.n k.n) (plc h.e k.e)).n = k.n := thr_eq hR.n.len fun j hj => rest_back hR.n hj
    have t2 : thr (glue a b (plc h.n k.n) (plc h.e k.e)).r.e (rst h k (plc h.n k.n) (plc h.e k.e)).e = k.e := thr_eq hR.e.len fun j hj => rest_back hR.e hj
    rw [t1, t2]
  · rw [injR, m3, dn, de]
    rfl
end Go.Sy

/- Contracts: the part of a graph that bits choose. -/
set_option linter.unusedSimpArgs false
namespace Go.Sy
open Go Go.Proofs

def u16 (x : Int) : AV := .v (.int .u16 x)
attribute [go_sem] u16
def shv (a b : Int) : Int := a.fdiv (2 ^ min b.toNat IntKind.u16.bits)
def anv (a b : Int) : Int := IntKind.u16.wrap (BitVec.ofInt IntKind.u16.bits a &&& BitVec.ofInt IntKind.u16.bits b).toNat
theorem bin_shr0 (a b : Int) : binAV Try.prog .shr 79 (.v (.int .u16 a)) (.v (.int .i64 b)) = if b < 0 then none else some (.v (.int .u16 (shv a b))) := rfl
theorem bin_shr (a : Int) (i : Nat) : binAV Try.prog .shr 79 (.v (.int .u16 a)) (.v (.int .i64 (i : Int))) = some (.v (.int .u16 (shv a i))) := by
  rw [bin_shr0, if_neg (by omega)]
theorem bin_and (a b : Int) : binAV Try.prog .and 79 (.v (.int .u16 a)) (.v (.int .u16 b)) = some (.v (.int .u16 (anv a b))) := rfl
theorem bi_set1 {zs : List Int} {i : Nat} {x : Int} (h : i < zs.length) : (bi zs).take (i * 1) ++ [AV.v (.int .i64 x)] ++ (bi zs).drop (i * 1 + 1) = bi (zs.set i x) := by
  rw [Nat.mul_one]
  exact bi_set h
theorem bi_head {zs : List Int} {k : Nat} {x : Int} (h : k < zs.length) (hx : zs.getD k 0 = x) : (List.drop (k * 1) (bi zs)).head? = some (AV.v (.int .i64 x)) := by
  rw [Nat.mul_one, List.head?_drop, bi, List.getElem?_map, List.getElem?_eq_getElem h, ← hx, getD_at h]
  rfl
theorem set_at {zs : List Int} {i j : Nat} {x : Int} (h : i < zs.length) : (zs.set i x).getD j 0 = if j = i then x else zs.getD j 0 := by
  rw [List.getD_eq_getElem?_getD, List.getElem?_set]
  by_cases hj : j = i
  · rw [if_pos hj.symm, if_pos h, if_pos hj]
    rfl
  · rw [if_neg (fun e => hj e.symm), if_neg hj, List.getD_eq_getElem?_getD]
attribute [go_sem] bin_shr bin_and
def btv (w : Int) (j : Nat) : Bool := anv (shv w j) 1 == 1
def sel (p : Nat → Bool) (n : Nat) : List Nat := (List.range n).filter p
theorem sel_yes {p : Nat → Bool} {i : Nat} (h : p i = true) : sel p (i + 1) = sel p i ++ [i] := by simp [sel, List.range_succ, h]
theorem sel_no {p : Nat → Bool} {i : Nat} (h : p i = false) : sel p (i + 1) = sel p i := by simp [sel, List.range_succ, h]
/-- Where an element goes: its place among those that are chosen, or -1. -/
def atv (p : Nat → Bool) (j : Nat) : Int := if p j = true then ((sel p j).length : Int) else -1
def eok (g : Gr) (p q : Nat → Bool) (j : Nat) : Bool := q j && (decide (0 ≤ atv p (g.e.getD j (0, 0, 0)).2.1.toNat) && decide (0 ≤ atv p (g.e.getD j (0, 0, 0)).2.2.toNat))
def eat (g : Gr) (p : Nat → Bool) (j : Nat) : Ed := ((g.e.getD j (0, 0, 0)).1, atv p (g.e.getD j (0, 0, 0)).2.1.toNat, atv p (g.e.getD j (0, 0, 0)).2.2.toNat)
def selN (p : Nat → Bool) (i : Nat) : List Int := (sel p i).map fun (j : Nat) => (j : Int)
theorem selN_yes {p : Nat → Bool} {i : Nat} (h : p i = true) : selN p (i + 1) = selN p i ++ [(i : Int)] := by simp [selN, sel_yes h]
theorem selN_no {p : Nat → Bool} {i : Nat} (h : p i = false) : selN p (i + 1) = selN p i := by simp [selN, sel_no h]
theorem selN_len (p : Nat → Bool) (i : Nat) : (selN p i).length = (sel p i).length := by simp [selN]
def chR (g : Gr) (p q : Nat → Bool) : Gr × Mo := (⟨(sel p g.n.length).map fun j => g.n.getD j 0, (sel (eok g p q) g.e.length).map (eat g p)⟩, ⟨selN p g.n.length, selN (eok g p q) g.e.length⟩)
set_option maxHeartbeats 2000000 in
theorem c42 (g : Gr) (w : Int) (hg : gErr g = 0) : Con Try.prog 42 [gv g, u16 w] 0 (.tup [gv (chR g (btv w) fun j => btv w (8 + j)).1, mv (chR g (btv w) fun j => btv w (8 + j)).2]) := by
  have hs := gErr_small hg
  generalize hq : (fun j => btv w (8 + j)) = q
  have hq' : ∀ j : Nat, (anv (shv w ((8 + j : Nat) : Int)) 1 == 1) = q j := fun j => by rw [← hq]; rfl
  generalize hp : btv w = p
  have hp' : ∀ j : Nat, (anv (shv w j) 1 == 1) = p j := fun j => by rw [← hp]; rfl
  refine conT (X := [(18, [], [(4, [8], [])])]) (rs := [.cell 4 25, .cell 5 41]) Try.func42 (by kernel_rfl) rfl rfl (by kernel_rfl) ?_
  simp (dsimp := false) (maxDischargeDepth := 16) only [go_sem, ↓reduceIte, reduceCtorEq, Nat.reduceEqDiff, Nat.reduceAdd, Nat.reduceMul, Nat.reduceSub, Nat.reduceLT, Nat.reduceLeDiff, Nat.reducePow, Int.reduceLT, Int.reduceLE, Int.reduceNeg, Int.reduceToNat, Int.toNat_natCast, bi_zero]
  refine ⟨⟨by omega, by omega, by omega⟩, ?_⟩
  have hsl : ∀ p i, (sel p i).length ≤ i := fun p i => by have := List.length_filter_le p (List.range i); simpa [sel] using this
  refine loopK_intro (fun (i : Nat) s => i ≤ g.n.length ∧ s.t 1 = u16 w ∧ s.t 2 = .box (2, 0, 0) 0 ∧ s.b (2, 0, 0) = some ⟨gcs g, false⟩ ∧ s.t 4 = .box (4, 0, 0) 0 ∧ (∃ z1 z2, s.b (4, 0, 0) = some ⟨[z1, z2], false⟩) ∧ s.t 5 = .box (5, 0, 0) 0 ∧ (∃ y1 y2, s.b (5, 0, 0) = some ⟨[y1, y2], false⟩) ∧
    s.t 6 = .sl (16, 0, 0) g.n.length 1 ∧ s.t 7 = .box (7, 0, 0) 0 ∧ s.t 8 = .box (8, 0, 0) 0 ∧ s.t 18 = lv g.n ∧ s.t 19 = iv g.n.length ∧ s.t 20 = iv i ∧
    ∃ k1 k2, ∃ zs : List Int, s.b (7, 0, 0) = some ⟨[lvT ((sel p i).map fun j => g.n.getD j 0) k1, .list 3 [] .nil], false⟩ ∧ s.b (8, 0, 0) = some ⟨[lvT (selN p i) k2, .list 1 [] .nil], false⟩ ∧
      s.b (16, 0, 0) = some ⟨bi zs, false⟩ ∧ zs.length = g.n.length ∧ (∀ j, j < i → zs.getD j 0 = atv p j) ∧ tokOK s k1 = true ∧ tokOK s k2 = true ∧ tkIn [(43, 0)] k1 = true ∧ tkIn [(48, 0)] k2 = true) (fun i => g.n.length - i) ?_ ?_
  · refine ⟨0, by omega, rfl, rfl, rfl, rfl, ⟨_, _, rfl⟩, rfl, ⟨_, _, rfl⟩, rfl, rfl, rfl, rfl, rfl, rfl, .nil, .nil, _, rfl, rfl, rfl, by simp, fun j hj => by omega, rfl, rfl, rfl, rfl⟩
  rintro i s ⟨hi, t1, t2, b2, t4, ⟨z1, z2, b4⟩, t5, ⟨y1, y2, b5⟩, t6, t7, t8, t18, t19, t20, k1, k2, zs, b7, b8, b16, hz, hall, a1, a2, i1, i2⟩
  simp (dsimp := false) (maxDischargeDepth := 16) only [go_sem, ↓reduceIte, reduceCtorEq, Nat.reduceEqDiff, Nat.reduceAdd, Nat.reduceMul, Nat.reduceSub, Nat.reduceLT, Nat.reduceLeDiff, Nat.reducePow, Int.reduceLT, Int.reduceLE, Int.reduceNeg, Int.reduceToNat, t1, t2, b2, t4, b4, t5, b5, t6, t7, t8, t18, t19, t20, b7, b8, b16]
  refine condK_dec (fun h6 => ?_) (fun h6 => ?_)
  · have l1 := hsl p i
    have hzl : i < zs.length := by omega
    simp (dsimp := false) (maxDischargeDepth := 16) only [go_sem, ↓reduceIte, reduceCtorEq, Nat.reduceEqDiff, Nat.reduceAdd, Nat.reduceMul, Nat.reduceSub, Nat.reduceLT, Nat.reduceLeDiff, Nat.reducePow, Int.reduceLT, Int.reduceLE, Int.reduceNeg, Int.reduceToNat, t1, t2, b2, t4, b4, t5, b5, t6, t7, t8, t18, t19, t20, b7, b8, b16, h6, idx_nat, idx_sl, hp', bi_set1, hzl]
    refine ⟨by rw [bi_len]; omega, ?_⟩
    refine condK_intro (fun h8 => ?_) (fun h8 => ?_)
    · have k12 : ∀ (s : St) (d n : Nat) (x : AV), tokOK s k2 = true → tokOK (s.ntok d n x (tokKey k1)) k2 = true := fun s d n x h => tk_kill i1 i2 rfl h
      have q2 : ∀ (f : Key → Bool) (g : Nat), killO f (tokKey k2) (43, g, 0) = f (43, g, 0) := fun f g => kill_tk i2 rfl f
      simp (dsimp := false) (maxDischargeDepth := 16) only [go_sem, ↓reduceIte, reduceCtorEq, Nat.reduceEqDiff, Nat.reduceAdd, Nat.reduceMul, Nat.reduceSub, Nat.reduceLT, Nat.reduceLeDiff, Nat.reducePow, Int.reduceLT, Int.reduceLE, Int.reduceNeg, Int.reduceToNat, t1, t2, b2, t4, b4, t5, b5, t6, t7, t8, t18, t19, t20, b7, b8, b16, h6, h8, idx_nat, idx_sl, hp', a1, a2, k12, bi_set1, hzl, List.length_set, bi_len, selN_len]
      refine ⟨by omega, ⟨by omega, by omega⟩, ⟨by omega, by omega⟩, i + 1, by omega, by omega, ⟨_, _, rfl⟩, ⟨_, _, rfl⟩, by rw [wrapN _ (by omega)], .own (43, s.g 43, 0), .own (48, s.g 48, 0), _, by rw [sel_yes h8, List.map_append, List.map_singleton, map1_app, getD_at h6], by rw [selN_yes h8, map1_app], rfl, by simpa using hz, fun j hj => ?_, ?_, ?_, rfl, rfl⟩
      · rw [List.set_set, set_at hzl]
        split
        · rename_i e
          rw [e, atv, if_pos h8]
        · exact hall j (by omega)
      all_goals simp (dsimp := false) (maxDischargeDepth := 16) only [go_sem, ↓reduceIte, reduceCtorEq, Nat.reduceEqDiff, Nat.reduceAdd, Nat.reduceMul, Nat.reduceSub, Nat.reduceLT, Nat.reduceLeDiff, Nat.reducePow, Int.reduceLT, Int.reduceLE, Int.reduceNeg, Int.reduceToNat, a1, a2, k12, q2]
    · simp (dsimp := false) (maxDischargeDepth := 16) only [go_sem, ↓reduceIte, reduceCtorEq, Nat.reduceEqDiff, Nat.reduceAdd, Nat.reduceMul, Nat.reduceSub, Nat.reduceLT, Nat.reduceLeDiff, Nat.reducePow, Int.reduceLT, Int.reduceLE, Int.reduceNeg, Int.reduceToNat, t1, t2, b2, t4, b4, t5, b5, t6, t7, t8, t18, t19, t20, b7, b8, b16, h6, h8, idx_nat, idx_sl, hp', a1, a2, bi_set1, hzl, List.length_set, bi_len, selN_len]
      refine ⟨i + 1, by omega, by omega, ⟨_, _, rfl⟩, ⟨_, _, rfl⟩, by rw [wrapN _ (by omega)], k1, k2, _, by rw [sel_no h8], by rw [selN_no h8], rfl, by simpa using hz, fun j hj => ?_, a1, a2, i1, i2⟩
      rw [set_at hzl]
      split
      · rename_i e
        rw [e, atv, if_neg (by rw [h8]; decide)]
      · exact hall j (by omega)
  · simp (dsimp := false) (maxDischargeDepth := 16) only [go_sem, ↓reduceIte, reduceCtorEq, Nat.reduceEqDiff, Nat.reduceAdd, Nat.reduceMul, Nat.reduceSub, Nat.reduceLT, Nat.reduceLeDiff, Nat.reducePow, Int.reduceLT, Int.reduceLE, Int.reduceNeg, Int.reduceToNat, t1, t2, b2, t4, b4, t5, b5, t6, t7, t8, t18, t19, t20, b7, b8, b16, h6]
    have hin : i = g.n.length := by omega
    rw [hin] at hall b7 b8
    unfold chR
    have hN : ((sel p g.n.length).map fun j => g.n.getD j 0).length ≤ 40 := by have := hsl p g.n.length; simp; omega
    generalize (sel p g.n.length).map (fun j => g.n.getD j 0) = N at *
    generalize selN p g.n.length = M at *
    refine loopK_intro (fun (i : Nat) s => i ≤ g.e.length ∧ s.t 1 = u16 w ∧ s.t 4 = .box (4, 0, 0) 0 ∧ s.b (4, 0, 0) = some ⟨[z1, z2], false⟩ ∧ s.t 5 = .box (5, 0, 0) 0 ∧ s.b (5, 0, 0) = some ⟨[y1, y2], false⟩ ∧
      s.t 6 = .sl (16, 0, 0) g.n.length 1 ∧ s.t 7 = .box (7, 0, 0) 0 ∧ s.t 8 = .box (8, 0, 0) 0 ∧ s.t 53 = elv g.e ∧ s.t 54 = iv g.e.length ∧ s.t 55 = iv i ∧ s.b (16, 0, 0) = some ⟨bi zs, false⟩ ∧
      ∃ k3 k4, s.b (7, 0, 0) = some ⟨[lvT N k1, elT' ((sel (eok g p q) i).map (eat g p)) k3], false⟩ ∧ s.b (8, 0, 0) = some ⟨[lvT M k2, lvT (selN (eok g p q) i) k4], false⟩ ∧
        tokOK s k3 = true ∧ tokOK s k4 = true ∧ tkIn [(98, 0)] k3 = true ∧ tkIn [(103, 0)] k4 = true) (fun i => g.e.length - i) ?_ ?_
    · exact ⟨0, by omega, t1, t4, b4, t5, b5, t6, t7, t8, rfl, rfl, rfl, b16, .nil, .nil, b7, b8, rfl, rfl, rfl, rfl⟩
    clear t1 t2 b2 t4 b4 t5 b5 t6 t7 t8 t18 t19 t20 b7 b8 b16 a1 a2 i1 i2 h6 hi hin
    rintro i s ⟨hi, t1, t4, b4, t5, b5, t6, t7, t8, t53, t54, t55, b16, k3, k4, b7, b8, a3, a4, i3, i4⟩
    simp (dsimp := false) (maxDischargeDepth := 16) only [go_sem, ↓reduceIte, reduceCtorEq, Nat.reduceEqDiff, Nat.reduceAdd, Nat.reduceMul, Nat.reduceSub, Nat.reduceLT, Nat.reduceLeDiff, Nat.reducePow, Int.reduceLT, Int.reduceLE, Int.reduceNeg, Int.reduceToNat, t1, t4, b4, t5, b5, t6, t7, t8, t53, t54, t55, b16, b7, b8]
    refine condK_dec (fun h6 => ?_) (fun h6 => ?_)
    · have hx := edge_in hg h6
      rw [getD_at h6] at hx
      have w8 : IntKind.i64.wrap ((8 : Int) + (i : Int)) = ((8 + i : Nat) : Int) := by rw [wrap_i64 _ (by omega) (by omega)]; omega
      have f1 : g.e[i].2.1.toNat < g.n.length := by omega
      have f2 : g.e[i].2.2.toNat < g.n.length := by omega
      have f3 := hx.1
      have f4 := hx.2.2.1
      have g1 := bi_head (zs := zs) (k := g.e[i].2.1.toNat) (by omega) (hall _ f1)
      have g2 := bi_head (zs := zs) (k := g.e[i].2.2.toNat) (by omega) (hall _ f2)
      have c1 : g.e[i].2.1.toNat * 1 < (bi zs).length := by rw [bi_len]; omega
      have c2 : g.e[i].2.2.toNat * 1 < (bi zs).length := by rw [bi_len]; omega
      have le := hsl (eok g p q) i
      have eo : eok g p q i = (q i && (decide (0 ≤ atv p g.e[i].2.1.toNat) && decide (0 ≤ atv p g.e[i].2.2.toNat))) := by rw [eok, getD_at h6]
      have ea : eat g p i = (g.e[i].1, atv p g.e[i].2.1.toNat, atv p g.e[i].2.2.toNat) := by rw [eat, getD_at h6]
      simp (dsimp := false) (maxDischargeDepth := 16) only [go_sem, ↓reduceIte, reduceCtorEq, Nat.reduceEqDiff, Nat.reduceAdd, Nat.reduceMul, Nat.reduceSub, Nat.reduceLT, Nat.reduceLeDiff, Nat.reducePow, Int.reduceLT, Int.reduceLE, Int.reduceNeg, Int.reduceToNat, t1, t4, b4, t5, b5, t6, t7, t8, t53, t54, t55, b16, b7, b8, h6, idx_nat, idx_slI, f1, f2, f3, f4, w8, hq', g1, g2]
      cases h8 : q i with
      | false =>
        have en : eok g p q i = false := by rw [eo, h8]; rfl
        simp (dsimp := false) (maxDischargeDepth := 16) only [go_sem, ↓reduceIte, reduceCtorEq, Nat.reduceEqDiff, Nat.reduceAdd, Nat.reduceMul, Nat.reduceSub, Nat.reduceLT, Nat.reduceLeDiff, Nat.reducePow, Int.reduceLT, Int.reduceLE, Int.reduceNeg, Int.reduceToNat, t1, t4, b4, t5, b5, t6, t7, t8, t53, t54, t55, b16, b7, b8, h6, idx_nat, idx_slI, f1, f2, f3, f4, w8, hq', g1, g2, h8]
        refine ⟨i + 1, by omega, by omega, by rw [wrapN _ (by omega)], k3, k4, by rw [sel_no en], by rw [selN_no en], a3, a4, i3, i4⟩
      | true =>
        simp (dsimp := false) (maxDischargeDepth := 16) only [go_sem, ↓reduceIte, reduceCtorEq, Nat.reduceEqDiff, Nat.reduceAdd, Nat.reduceMul, Nat.reduceSub, Nat.reduceLT, Nat.reduceLeDiff, Nat.reducePow, Int.reduceLT, Int.reduceLE, Int.reduceNeg, Int.reduceToNat, t1, t4, b4, t5, b5, t6, t7, t8, t53, t54, t55, b16, b7, b8, h6, idx_nat, idx_slI, f1, f2, f3, f4, w8, hq', g1, g2, h8]
        refine ⟨c1, ?_⟩
        by_cases h9 : 0 ≤ atv p g.e[i].2.1.toNat
        · simp (dsimp := false) (maxDischargeDepth := 16) only [go_sem, ↓reduceIte, reduceCtorEq, Nat.reduceEqDiff, Nat.reduceAdd, Nat.reduceMul, Nat.reduceSub, Nat.reduceLT, Nat.reduceLeDiff, Nat.reducePow, Int.reduceLT, Int.reduceLE, Int.reduceNeg, Int.reduceToNat, t1, t4, b4, t5, b5, t6, t7, t8, t53, t54, t55, b16, b7, b8, h6, idx_nat, idx_slI, f1, f2, f3, f4, w8, hq', g1, g2, h8, h9]
          refine ⟨c2, ?_⟩
          by_cases h10 : 0 ≤ atv p g.e[i].2.2.toNat
          · have en : eok g p q i = true := by rw [eo, h8]; simp [h9, h10]
            have k34 : ∀ (s : St) (d n : Nat) (x : AV), tokOK s k4 = true → tokOK (s.ntok d n x (tokKey k3)) k4 = true := fun s d n x h => tk_kill i3 i4 rfl h
            have q2 : ∀ (f : Key → Bool) (g : Nat), killO f (tokKey k4) (98, g, 0) = f (98, g, 0) := fun f g => kill_tk i4 rfl f
            simp (dsimp := false) (maxDischargeDepth := 16) only [go_sem, ↓reduceIte, reduceCtorEq, Nat.reduceEqDiff, Nat.reduceAdd, Nat.reduceMul, Nat.reduceSub, Nat.reduceLT, Nat.reduceLeDiff, Nat.reducePow, Int.reduceLT, Int.reduceLE, Int.reduceNeg, Int.reduceToNat, t1, t4, b4, t5, b5, t6, t7, t8, t53, t54, t55, b16, b7, b8, h6, idx_nat, idx_slI, f1, f2, f3, f4, w8, hq', g1, g2, h8, h9, h10, c1, c2, a3, a4, k34, selN_len]
            refine ⟨⟨by omega, by omega⟩, ⟨by omega, by omega⟩, i + 1, by omega, by omega, by rw [wrapN _ (by omega)], .own (98, s.g 98, 0), .own (103, s.g 103, 0), ?_, by rw [selN_yes en, map1_app], ?_, ?_, rfl, rfl⟩
            · rw [sel_yes en, List.map_append, List.map_append, List.map_singleton, List.map_singleton, ea]
              rfl
            all_goals simp (dsimp := false) (maxDischargeDepth := 16) only [go_sem, ↓reduceIte, reduceCtorEq, Nat.reduceEqDiff, Nat.reduceAdd, Nat.reduceMul, Nat.reduceSub, Nat.reduceLT, Nat.reduceLeDiff, Nat.reducePow, Int.reduceLT, Int.reduceLE, Int.reduceNeg, Int.reduceToNat, a3, a4, k34, q2]
          · have en : eok g p q i = false := by rw [eo, h8]; simp [h10]
            simp (dsimp := false) (maxDischargeDepth := 16) only [go_sem, ↓reduceIte, reduceCtorEq, Nat.reduceEqDiff, Nat.reduceAdd, Nat.reduceMul, Nat.reduceSub, Nat.reduceLT, Nat.reduceLeDiff, Nat.reducePow, Int.reduceLT, Int.reduceLE, Int.reduceNeg, Int.reduceToNat, t1, t4, b4, t5, b5, t6, t7, t8, t53, t54, t55, b16, b7, b8, h6, idx_nat, idx_slI, f1, f2, f3, f4, w8, hq', g1, g2, h8, h9, h10]
            refine ⟨i + 1, by omega, by omega, by rw [wrapN _ (by omega)], k3, k4, by rw [sel_no en], by rw [selN_no en], a3, a4, i3, i4⟩
        · have en : eok g p q i = false := by rw [eo, h8]; simp [h9]
          simp (dsimp := false) (maxDischargeDepth := 16) only [go_sem, ↓reduceIte, reduceCtorEq, Nat.reduceEqDiff, Nat.reduceAdd, Nat.reduceMul, Nat.reduceSub, Nat.reduceLT, Nat.reduceLeDiff, Nat.reducePow, Int.reduceLT, Int.reduceLE, Int.reduceNeg, Int.reduceToNat, t1, t4, b4, t5, b5, t6, t7, t8, t53, t54, t55, b16, b7, b8, h6, idx_nat, idx_slI, f1, f2, f3, f4, w8, hq', g1, g2, h8, h9]
          refine ⟨i + 1, by omega, by omega, by rw [wrapN _ (by omega)], k3, k4, by rw [sel_no en], by rw [selN_no en], a3, a4, i3, i4⟩
    · simp (dsimp := false) (maxDischargeDepth := 16) only [go_sem, ↓reduceIte, reduceCtorEq, Nat.reduceEqDiff, Nat.reduceAdd, Nat.reduceMul, Nat.reduceSub, Nat.reduceLT, Nat.reduceLeDiff, Nat.reducePow, Int.reduceLT, Int.reduceLE, Int.reduceNeg, Int.reduceToNat, t1, t4, b4, t5, b5, t6, t7, t8, t53, t54, t55, b16, b7, b8, h6]
      have hin : i = g.e.length := by omega
      rw [hin]
      exact ⟨rfl, finK ⟨rfl, rfl⟩⟩
end Go.Sy

/- FactorComplete: the law's contract. -/
set_option linter.unusedSimpArgs false
namespace Go.Sy
open Go Go.Proofs

theorem c90 (l : List Ov) (f : FuncId) (caps : List AV) (p : Ov → Bool) (hl : l.length ≤ 1000000) (hp : ∀ x ∈ l, Con Try.prog f (ov x :: caps) 0 (bv (p x))) : Con Try.prog 90 [olv l, .clo f caps] 0 (iv (idxP p l)) := by
  refine conT (X := []) (rs := [.tmp 4]) Try.func90 (by kernel_rfl) rfl rfl (by kernel_rfl) ?_
  simp (dsimp := false) (maxDischargeDepth := 16) only [go_sem, ↓reduceIte, reduceCtorEq, Nat.reduceEqDiff, Nat.reduceAdd, Nat.reduceMul, Nat.reduceSub, Nat.reduceLT, Nat.reduceLeDiff, Nat.reducePow, Int.reduceLT, Int.reduceLE, Int.reduceNeg, Int.reduceToNat]
  refine loopK_intro (fun (i : Nat) s => i ≤ l.length ∧ s.t 0 = olv l ∧ s.t 1 = .clo f caps ∧ s.t 7 = iv l.length ∧ s.t 8 = iv i ∧ ∀ y ∈ l.take i, p y = false) (fun i => l.length - i) ⟨0, by omega, rfl, rfl, rfl, rfl, fun j hj => by simp at hj⟩ ?_
  rintro i s ⟨hi, h0, h1, h7, h8, hn⟩
  simp (dsimp := false) (maxDischargeDepth := 16) only [go_sem, ↓reduceIte, reduceCtorEq, Nat.reduceEqDiff, Nat.reduceAdd, Nat.reduceMul, Nat.reduceSub, Nat.reduceLT, Nat.reduceLeDiff, Nat.reducePow, Int.reduceLT, Int.reduceLE, Int.reduceNeg, Int.reduceToNat, h0, h1, h7, h8]
  refine condK_dec (fun h6 => ?_) (fun h6 => ?_)
  · simp (dsimp := false) (maxDischargeDepth := 16) only [go_sem, ↓reduceIte, reduceCtorEq, Nat.reduceEqDiff, Nat.reduceAdd, Nat.reduceMul, Nat.reduceSub, Nat.reduceLT, Nat.reduceLeDiff, Nat.reducePow, Int.reduceLT, Int.reduceLE, Int.reduceNeg, Int.reduceToNat, h0, h1, h7, h8, h6, idx_nat]
    refine callK_intro (hp _ (List.getElem_mem h6)) ?_
    simp (dsimp := false) (maxDischargeDepth := 16) only [go_sem, ↓reduceIte, reduceCtorEq, Nat.reduceEqDiff, Nat.reduceAdd, Nat.reduceMul, Nat.reduceSub, Nat.reduceLT, Nat.reduceLeDiff, Nat.reducePow, Int.reduceLT, Int.reduceLE, Int.reduceNeg, Int.reduceToNat, h0, h1, h7, h8, h6]
    refine condK_intro (fun h9 => ?_) (fun h9 => ?_)
    · simp (dsimp := false) (maxDischargeDepth := 16) only [go_sem, ↓reduceIte, reduceCtorEq, Nat.reduceEqDiff, Nat.reduceAdd, Nat.reduceMul, Nat.reduceSub, Nat.reduceLT, Nat.reduceLeDiff, Nat.reducePow, Int.reduceLT, Int.reduceLE, Int.reduceNeg, Int.reduceToNat, h0, h1, h7, h8, h6, h9]
      exact finI (idxP_hit h6 hn h9)
    · simp (dsimp := false) (maxDischargeDepth := 16) only [go_sem, ↓reduceIte, reduceCtorEq, Nat.reduceEqDiff, Nat.reduceAdd, Nat.reduceMul, Nat.reduceSub, Nat.reduceLT, Nat.reduceLeDiff, Nat.reducePow, Int.reduceLT, Int.reduceLE, Int.reduceNeg, Int.reduceToNat, h0, h1, h7, h8, h6, h9]
      exact ⟨i + 1, by omega, by omega, by rw [wrapN _ (by omega)], take_all h6 hn h9⟩
  · simp (dsimp := false) (maxDischargeDepth := 16) only [go_sem, ↓reduceIte, reduceCtorEq, Nat.reduceEqDiff, Nat.reduceAdd, Nat.reduceMul, Nat.reduceSub, Nat.reduceLT, Nat.reduceLeDiff, Nat.reducePow, Int.reduceLT, Int.reduceLE, Int.reduceNeg, Int.reduceToNat, h0, h1, h7, h8, h6]
    exact finI (idxP_none (take_full h6 hn))
theorem c43 (l : List Ov) (f : FuncId) (caps : List AV) (p : Ov → Bool) (hl : l.length ≤ 1000000) (hp : ∀ x ∈ l, Con Try.prog f (ov x :: caps) 0 (bv (p x))) : Con Try.prog 43 [olv l, .clo f caps] 0 (bv (l.any p)) := by
  refine conT (X := []) (rs := [.tmp 4]) Try.func43 (by kernel_rfl) rfl rfl (by kernel_rfl) ?_
  simp (dsimp := false) (maxDischargeDepth := 16) only [go_sem, ↓reduceIte, reduceCtorEq, Nat.reduceEqDiff, Nat.reduceAdd, Nat.reduceMul, Nat.reduceSub, Nat.reduceLT, Nat.reduceLeDiff, Nat.reducePow, Int.reduceLT, Int.reduceLE, Int.reduceNeg, Int.reduceToNat]
  refine callK_intro (c90 l f caps p hl hp) ?_
  simp (dsimp := false) (maxDischargeDepth := 16) only [go_sem, ↓reduceIte, reduceCtorEq, Nat.reduceEqDiff, Nat.reduceAdd, Nat.reduceMul, Nat.reduceSub, Nat.reduceLT, Nat.reduceLeDiff, Nat.reducePow, Int.reduceLT, Int.reduceLE, Int.reduceNeg, Int.reduceToNat]
  refine finB ?_
  rw [Bool.eq_iff_iff, ← idxP_any]
  simp
theorem c44 (x o : Ov) : Con Try.prog 44 [ov x, .ptr (ocs o)] 0 (bv (decide (x = o))) := by
  refine conT (X := []) (rs := [.tmp 3]) Try.func44 (by kernel_rfl) rfl rfl (by kernel_rfl) ?_
  simp (dsimp := false) (maxDischargeDepth := 16) only [go_sem, ↓reduceIte, reduceCtorEq, Nat.reduceEqDiff, Nat.reduceAdd, Nat.reduceMul, Nat.reduceSub, Nat.reduceLT, Nat.reduceLeDiff, Nat.reducePow, Int.reduceLT, Int.reduceLE, Int.reduceNeg, Int.reduceToNat]
  refine callK_intro (c32 x o) ?_
  simp (dsimp := false) (maxDischargeDepth := 16) only [go_sem, ↓reduceIte, reduceCtorEq, Nat.reduceEqDiff, Nat.reduceAdd, Nat.reduceMul, Nat.reduceSub, Nat.reduceLT, Nat.reduceLeDiff, Nat.reducePow, Int.reduceLT, Int.reduceLE, Int.reduceNeg, Int.reduceToNat]
  exact finB rfl
/-! ### What is chosen is a part -/
theorem sel_mem {p : Nat → Bool} {n j : Nat} : j ∈ sel p n ↔ j < n ∧ p j = true := by simp [sel]
theorem sel_nodup (p : Nat → Bool) (n : Nat) : (sel p n).Nodup := (List.filter_sublist).nodup List.nodup_range
theorem sel_le (p : Nat → Bool) (n : Nat) : (sel p n).length ≤ n := by
  have := List.length_filter_le p (List.range n)
  simpa [sel] using this
theorem sel_place {p : Nat → Bool} {j : Nat} (hp : p j = true) : ∀ {n : Nat}, j < n → (sel p n)[(sel p j).length]? = some j
  | n + 1, hj => by
    by_cases hjn : j = n
    · subst hjn
      rw [sel_yes hp]
      simp
    · have ih := sel_place hp (n := n) (by omega)
      have hlt := (List.getElem?_eq_some_iff.1 ih).1
      by_cases hn : p n = true
      · rw [sel_yes hn, List.getElem?_append_left hlt]
        exact ih
      · rw [sel_no (by simpa using hn)]
        exact ih
theorem atv_place {p : Nat → Bool} {j n : Nat} (h : 0 ≤ atv p j) (hj : j < n) : atv p j < (sel p n).length ∧ (selN p n).getD (atv p j).toNat 0 = (j : Int) := by
  by_cases hp : p j = true
  · have e : atv p j = ((sel p j).length : Int) := if_pos hp
    have h1 := sel_place hp hj
    have h2 := (List.getElem?_eq_some_iff.1 h1).1
    rw [e]
    refine ⟨by omega, ?_⟩
    rw [Int.toNat_natCast, List.getD_eq_getElem?_getD, selN, List.getElem?_map, h1]
    rfl
  · rw [atv, if_neg hp] at h
    omega
theorem selN_dist (p : Nat → Bool) (n : Nat) : dist (selN p n) = true := by
  rw [dist_nodup, selN, List.Nodup, List.pairwise_map]
  exact (sel_nodup p n).imp fun h e => h (by omega)
theorem chR_ok {g : Gr} (hg : gErr g = 0) (p q : Nat → Bool) : injR (chR g p q).1 g (chR g p q).2 = true := by
  have gs := gErr_small hg
  have l1 : (chR g p q).1.n.length = (sel p g.n.length).length := by simp [chR]
  have l2 : (chR g p q).1.e.length = (sel (eok g p q) g.e.length).length := by simp [chR]
  have s1 := sel_le p g.n.length
  have s2 := sel_le (eok g p q) g.e.length
  have hv : gErr (chR g p q).1 = 0 := by
    rw [gErr, if_pos (by omega), if_pos]
    refine ⟨fun t ht => ?_, fun x hx => ?_⟩
    · obtain ⟨j, hj, rfl⟩ := List.mem_map.1 ht
      have := (sel_mem.1 hj).1
      rw [getD_at this]
      exact gs.2.1 _ (List.getElem_mem this)
    · obtain ⟨j, hj, rfl⟩ := List.mem_map.1 hx
      obtain ⟨j1, j2⟩ := sel_mem.1 hj
      simp only [eok, Bool.and_eq_true, decide_eq_true_eq] at j2
      have r := edge_in hg j1
      have t := gs.2.2 _ (List.getElem_mem j1)
      have a1 := atv_place (n := g.n.length) j2.2.1 (by omega)
      have a2 := atv_place (n := g.n.length) j2.2.2 (by omega)
      unfold eat edOK
      rw [getD_at j1] at *
      rw [l1]
      exact ⟨t.1, j2.2.1, a1.1, j2.2.2, a2.1⟩
  have nat : ∀ i, i < (sel p g.n.length).length → ∃ j, j < g.n.length ∧ (selN p g.n.length).getD i 0 = (j : Int) ∧ (chR g p q).1.n.getD i 0 = g.n.getD j 0 := fun i hi => by
    refine ⟨(sel p g.n.length)[i], (sel_mem.1 (List.getElem_mem hi)).1, ?_, ?_⟩
    · rw [getD_at (by rw [selN_len]; exact hi)]
      simp [selN]
    · rw [getD_at (by rw [l1]; exact hi)]
      simp [chR]
  have hm : mErr (chR g p q).1 g (chR g p q).2 = 0 := by
    refine mErr_zero hv hg ?_ ?_ (fun i hi => ?_) (fun i hi => ?_)
    · show (selN p g.n.length).length = _
      rw [selN_len, l1]
    · show (selN (eok g p q) g.e.length).length = _
      rw [selN_len, l2]
    · obtain ⟨j, j1, j2, j3⟩ := nat i (by omega)
      have e : (chR g p q).2.n.getD i 0 = (j : Int) := j2
      rw [nodeErr, e, if_neg (by omega), j3, Int.toNat_natCast, if_neg (by simp)]
    · have hi' : i < (sel (eok g p q) g.e.length).length := by omega
      have hj := sel_mem.1 (List.getElem_mem hi')
      have e1 : (chR g p q).2.e.getD i 0 = (((sel (eok g p q) g.e.length)[i] : Nat) : Int) := by
        show (selN (eok g p q) g.e.length).getD i 0 = _
        rw [getD_at (by rw [selN_len]; exact hi')]
        simp [selN]
      have e2 : (chR g p q).1.e.getD i (0, 0, 0) = eat g p (sel (eok g p q) g.e.length)[i] := by
        rw [getD_at hi]
        simp [chR]
      generalize (sel (eok g p q) g.e.length)[i] = j at *
      obtain ⟨j1, j2⟩ := hj
      simp only [eok, Bool.and_eq_true, decide_eq_true_eq] at j2
      have r := edge_in hg j1
      have a1 := (atv_place (n := g.n.length) j2.2.1 (by omega)).2
      have a2 := (atv_place (n := g.n.length) j2.2.2 (by omega)).2
      have b1 : (chR g p q).2.n.getD (atv p (g.e.getD j (0, 0, 0)).2.1.toNat).toNat 0 = (g.e.getD j (0, 0, 0)).2.1 := by
        show (selN p g.n.length).getD _ 0 = _
        rw [a1]; omega
      have b2 : (chR g p q).2.n.getD (atv p (g.e.getD j (0, 0, 0)).2.2.toNat).toNat 0 = (g.e.getD j (0, 0, 0)).2.2 := by
        show (selN p g.n.length).getD _ 0 = _
        rw [a2]; omega
      rw [edgeErr, e1, e2, if_neg (by omega), Int.toNat_natCast]
      unfold eat
      dsimp only
      rw [b1, b2, if_neg (by simp), if_neg (by simp)]
  have d1 : dist (chR g p q).2.n = true := selN_dist _ _
  have d2 : dist (chR g p q).2.e = true := selN_dist _ _
  rw [injR, hm, d1, d2]
  rfl
set_option maxHeartbeats 2000000 in
theorem c9 (d : Dr) (u v : Int) (hd : drOK d) : Con Try.prog 9 [dv d, u16 u, u16 v] 0 (bv true) := by
  have H1 := c29 d 6 5
  have H2 := c30 d hd
  obtain ⟨vg, ng, eg⟩ := made_ok hd
  generalize made d = g at *
  have H3 := c42 g u vg
  have H4 := c42 g v vg
  have i1 := chR_ok vg (btv u) fun j => btv u (8 + j)
  have i2 := chR_ok vg (btv v) fun j => btv v (8 + j)
  have n1 : (chR g (btv u) fun j => btv u (8 + j)).1.e.length ≤ 10 := by have := sel_le (eok g (btv u) fun j => btv u (8 + j)) g.e.length; simp [chR]; omega
  have n2 : (chR g (btv v) fun j => btv v (8 + j)).1.e.length ≤ 10 := by have := sel_le (eok g (btv v) fun j => btv v (8 + j)) g.e.length; simp [chR]; omega
  generalize (chR g (btv u) fun j => btv u (8 + j)) = A at *
  generalize (chR g (btv v) fun j => btv v (8 + j)) = B at *
  obtain ⟨a, h⟩ := A
  obtain ⟨b, k⟩ := B
  dsimp only at i1 i2 n1 n2 H3 H4
  have H5 := c33 a b g h k
  have e5 : thrR a b g h k = (glue a b (plc h.n k.n) (plc h.e k.e), rst h k (plc h.n k.n) (plc h.e k.e), 0) := by
    rw [thrR, if_neg (by simp [(injR_dist i1).1]), if_neg (by simp [(injR_dist i2).1]), i1, i2]
    rfl
  rw [e5] at H5
  have hM := thru_isM i1 i2
  have va := (mErr_ok (injR_dist i1).1).1
  have vb := (mErr_ok (injR_dist i2).1).1
  have H6 := c18 a b
  have hin := (memP a b (plc h.n k.n, plc h.e k.e)).2 hM
  have e6 := fun hs => ovS_eq (a := a) (b := b) va vb hs
  generalize hO : glue a b (plc h.n k.n) (plc h.e k.e) = O at *
  generalize rst h k (plc h.n k.n) (plc h.e k.e) = R at *
  clear i1 i2 hM e5 va vb
  generalize smallD d 6 5 = D at *
  cases D with
  | false =>
    refine conT (X := [(12, [12], [])]) (rs := [.tmp 6]) Try.func9 (by kernel_rfl) rfl rfl (by kernel_rfl) ?_
    simp (dsimp := false) (maxDischargeDepth := 16) only [go_sem, ↓reduceIte, reduceCtorEq, Nat.reduceEqDiff, Nat.reduceAdd, Nat.reduceMul, Nat.reduceSub, Nat.reduceLT, Nat.reduceLeDiff, Nat.reducePow, Int.reduceLT, Int.reduceLE, Int.reduceNeg, Int.reduceToNat]
    refine callK_intro c16 ?_
    simp (dsimp := false) (maxDischargeDepth := 16) only [go_sem, ↓reduceIte, reduceCtorEq, Nat.reduceEqDiff, Nat.reduceAdd, Nat.reduceMul, Nat.reduceSub, Nat.reduceLT, Nat.reduceLeDiff, Nat.reducePow, Int.reduceLT, Int.reduceLE, Int.reduceNeg, Int.reduceToNat]
    refine callK_intro H1 ?_
    simp (dsimp := false) (maxDischargeDepth := 16) only [go_sem, ↓reduceIte, reduceCtorEq, Nat.reduceEqDiff, Nat.reduceAdd, Nat.reduceMul, Nat.reduceSub, Nat.reduceLT, Nat.reduceLeDiff, Nat.reducePow, Int.reduceLT, Int.reduceLE, Int.reduceNeg, Int.reduceToNat]
    refine callK_intro c16 ?_
    simp (dsimp := false) (maxDischargeDepth := 16) only [go_sem, ↓reduceIte, reduceCtorEq, Nat.reduceEqDiff, Nat.reduceAdd, Nat.reduceMul, Nat.reduceSub, Nat.reduceLT, Nat.reduceLeDiff, Nat.reducePow, Int.reduceLT, Int.reduceLE, Int.reduceNeg, Int.reduceToNat]
    exact finB rfl
  | true =>
  by_cases q1 : a.n.length ≤ 4
  rotate_left
  · have q1' : (4 : Int) < a.n.length := by omega
    refine conT (X := [(12, [12], [])]) (rs := [.tmp 6]) Try.func9 (by kernel_rfl) rfl rfl (by kernel_rfl) ?_
    simp (dsimp := false) (maxDischargeDepth := 16) only [go_sem, ↓reduceIte, reduceCtorEq, Nat.reduceEqDiff, Nat.reduceAdd, Nat.reduceMul, Nat.reduceSub, Nat.reduceLT, Nat.reduceLeDiff, Nat.reducePow, Int.reduceLT, Int.reduceLE, Int.reduceNeg, Int.reduceToNat]
    refine callK_intro c16 ?_
    simp (dsimp := false) (maxDischargeDepth := 16) only [go_sem, ↓reduceIte, reduceCtorEq, Nat.reduceEqDiff, Nat.reduceAdd, Nat.reduceMul, Nat.reduceSub, Nat.reduceLT, Nat.reduceLeDiff, Nat.reducePow, Int.reduceLT, Int.reduceLE, Int.reduceNeg, Int.reduceToNat]
    refine callK_intro H1 ?_
    simp (dsimp := false) (maxDischargeDepth := 16) only [go_sem, ↓reduceIte, reduceCtorEq, Nat.reduceEqDiff, Nat.reduceAdd, Nat.reduceMul, Nat.reduceSub, Nat.reduceLT, Nat.reduceLeDiff, Nat.reducePow, Int.reduceLT, Int.reduceLE, Int.reduceNeg, Int.reduceToNat]
    refine callK_intro H2 ?_
    simp (dsimp := false) (maxDischargeDepth := 16) only [go_sem, ↓reduceIte, reduceCtorEq, Nat.reduceEqDiff, Nat.reduceAdd, Nat.reduceMul, Nat.reduceSub, Nat.reduceLT, Nat.reduceLeDiff, Nat.reducePow, Int.reduceLT, Int.reduceLE, Int.reduceNeg, Int.reduceToNat]
    refine callK_intro H3 ?_
    simp (dsimp := false) (maxDischargeDepth := 16) only [go_sem, ↓reduceIte, reduceCtorEq, Nat.reduceEqDiff, Nat.reduceAdd, Nat.reduceMul, Nat.reduceSub, Nat.reduceLT, Nat.reduceLeDiff, Nat.reducePow, Int.reduceLT, Int.reduceLE, Int.reduceNeg, Int.reduceToNat]
    refine callK_intro H4 ?_
    simp (dsimp := false) (maxDischargeDepth := 16) only [go_sem, ↓reduceIte, reduceCtorEq, Nat.reduceEqDiff, Nat.reduceAdd, Nat.reduceMul, Nat.reduceSub, Nat.reduceLT, Nat.reduceLeDiff, Nat.reducePow, Int.reduceLT, Int.reduceLE, Int.reduceNeg, Int.reduceToNat, q1']
    exact finB rfl
  by_cases q2 : b.n.length ≤ 4
  rotate_left
  · have q1' : ¬ ((a.n.length : Int) > 4) := by omega
    have q2' : ((b.n.length : Int) > 4) := by omega
    refine conT (X := [(12, [12], [])]) (rs := [.tmp 6]) Try.func9 (by kernel_rfl) rfl rfl (by kernel_rfl) ?_
    simp (dsimp := false) (maxDischargeDepth := 16) only [go_sem, ↓reduceIte, reduceCtorEq, Nat.reduceEqDiff, Nat.reduceAdd, Nat.reduceMul, Nat.reduceSub, Nat.reduceLT, Nat.reduceLeDiff, Nat.reducePow, Int.reduceLT, Int.reduceLE, Int.reduceNeg, Int.reduceToNat]
    refine callK_intro c16 ?_
    simp (dsimp := false) (maxDischargeDepth := 16) only [go_sem, ↓reduceIte, reduceCtorEq, Nat.reduceEqDiff, Nat.reduceAdd, Nat.reduceMul, Nat.reduceSub, Nat.reduceLT, Nat.reduceLeDiff, Nat.reducePow, Int.reduceLT, Int.reduceLE, Int.reduceNeg, Int.reduceToNat]
    refine callK_intro H1 ?_
    simp (dsimp := false) (maxDischargeDepth := 16) only [go_sem, ↓reduceIte, reduceCtorEq, Nat.reduceEqDiff, Nat.reduceAdd, Nat.reduceMul, Nat.reduceSub, Nat.reduceLT, Nat.reduceLeDiff, Nat.reducePow, Int.reduceLT, Int.reduceLE, Int.reduceNeg, Int.reduceToNat]
    refine callK_intro H2 ?_
    simp (dsimp := false) (maxDischargeDepth := 16) only [go_sem, ↓reduceIte, reduceCtorEq, Nat.reduceEqDiff, Nat.reduceAdd, Nat.reduceMul, Nat.reduceSub, Nat.reduceLT, Nat.reduceLeDiff, Nat.reducePow, Int.reduceLT, Int.reduceLE, Int.reduceNeg, Int.reduceToNat]
    refine callK_intro H3 ?_
    simp (dsimp := false) (maxDischargeDepth := 16) only [go_sem, ↓reduceIte, reduceCtorEq, Nat.reduceEqDiff, Nat.reduceAdd, Nat.reduceMul, Nat.reduceSub, Nat.reduceLT, Nat.reduceLeDiff, Nat.reducePow, Int.reduceLT, Int.reduceLE, Int.reduceNeg, Int.reduceToNat]
    refine callK_intro H4 ?_
    simp (dsimp := false) (maxDischargeDepth := 16) only [go_sem, ↓reduceIte, reduceCtorEq, Nat.reduceEqDiff, Nat.reduceAdd, Nat.reduceMul, Nat.reduceSub, Nat.reduceLT, Nat.reduceLeDiff, Nat.reducePow, Int.reduceLT, Int.reduceLE, Int.reduceNeg, Int.reduceToNat]
    refine condK_dec (fun q3 => absurd q3 q1') (fun q3 => ?_)
    simp (dsimp := false) (maxDischargeDepth := 16) only [go_sem, ↓reduceIte, reduceCtorEq, Nat.reduceEqDiff, Nat.reduceAdd, Nat.reduceMul, Nat.reduceSub, Nat.reduceLT, Nat.reduceLeDiff, Nat.reducePow, Int.reduceLT, Int.reduceLE, Int.reduceNeg, Int.reduceToNat, q3]
    refine condK_dec (fun q4 => ?_) (fun q4 => absurd q2' q4)
    simp (dsimp := false) (maxDischargeDepth := 16) only [go_sem, ↓reduceIte, reduceCtorEq, Nat.reduceEqDiff, Nat.reduceAdd, Nat.reduceMul, Nat.reduceSub, Nat.reduceLT, Nat.reduceLeDiff, Nat.reducePow, Int.reduceLT, Int.reduceLE, Int.reduceNeg, Int.reduceToNat, q3, q4]
    exact finB rfl
  have q1' : ¬ ((a.n.length : Int) > 4) := by omega
  have q2' : ¬ ((b.n.length : Int) > 4) := by omega
  have e6 := e6 (by omega)
  by_cases hbig : 2000 < (ovP a b).length
  · rw [if_pos hbig] at e6
    rw [e6] at H6
    refine conT (X := [(12, [12], [])]) (rs := [.tmp 6]) Try.func9 (by kernel_rfl) rfl rfl (by kernel_rfl) ?_
    simp (dsimp := false) (maxDischargeDepth := 16) only [go_sem, ↓reduceIte, reduceCtorEq, Nat.reduceEqDiff, Nat.reduceAdd, Nat.reduceMul, Nat.reduceSub, Nat.reduceLT, Nat.reduceLeDiff, Nat.reducePow, Int.reduceLT, Int.reduceLE, Int.reduceNeg, Int.reduceToNat]
    refine callK_intro c16 ?_
    simp (dsimp := false) (maxDischargeDepth := 16) only [go_sem, ↓reduceIte, reduceCtorEq, Nat.reduceEqDiff, Nat.reduceAdd, Nat.reduceMul, Nat.reduceSub, Nat.reduceLT, Nat.reduceLeDiff, Nat.reducePow, Int.reduceLT, Int.reduceLE, Int.reduceNeg, Int.reduceToNat]
    refine callK_intro H1 ?_
    simp (dsimp := false) (maxDischargeDepth := 16) only [go_sem, ↓reduceIte, reduceCtorEq, Nat.reduceEqDiff, Nat.reduceAdd, Nat.reduceMul, Nat.reduceSub, Nat.reduceLT, Nat.reduceLeDiff, Nat.reducePow, Int.reduceLT, Int.reduceLE, Int.reduceNeg, Int.reduceToNat]
    refine callK_intro H2 ?_
    simp (dsimp := false) (maxDischargeDepth := 16) only [go_sem, ↓reduceIte, reduceCtorEq, Nat.reduceEqDiff, Nat.reduceAdd, Nat.reduceMul, Nat.reduceSub, Nat.reduceLT, Nat.reduceLeDiff, Nat.reducePow, Int.reduceLT, Int.reduceLE, Int.reduceNeg, Int.reduceToNat]
    refine callK_intro H3 ?_
    simp (dsimp := false) (maxDischargeDepth := 16) only [go_sem, ↓reduceIte, reduceCtorEq, Nat.reduceEqDiff, Nat.reduceAdd, Nat.reduceMul, Nat.reduceSub, Nat.reduceLT, Nat.reduceLeDiff, Nat.reducePow, Int.reduceLT, Int.reduceLE, Int.reduceNeg, Int.reduceToNat]
    refine callK_intro H4 ?_
    simp (dsimp := false) (maxDischargeDepth := 16) only [go_sem, ↓reduceIte, reduceCtorEq, Nat.reduceEqDiff, Nat.reduceAdd, Nat.reduceMul, Nat.reduceSub, Nat.reduceLT, Nat.reduceLeDiff, Nat.reducePow, Int.reduceLT, Int.reduceLE, Int.reduceNeg, Int.reduceToNat]
    refine condK_dec (fun q3 => absurd q3 q1') (fun q3 => ?_)
    simp (dsimp := false) (maxDischargeDepth := 16) only [go_sem, ↓reduceIte, reduceCtorEq, Nat.reduceEqDiff, Nat.reduceAdd, Nat.reduceMul, Nat.reduceSub, Nat.reduceLT, Nat.reduceLeDiff, Nat.reducePow, Int.reduceLT, Int.reduceLE, Int.reduceNeg, Int.reduceToNat, q3]
    refine condK_dec (fun q4 => absurd q4 q2') (fun q4 => ?_)
    simp (dsimp := false) (maxDischargeDepth := 16) only [go_sem, ↓reduceIte, reduceCtorEq, Nat.reduceEqDiff, Nat.reduceAdd, Nat.reduceMul, Nat.reduceSub, Nat.reduceLT, Nat.reduceLeDiff, Nat.reducePow, Int.reduceLT, Int.reduceLE, Int.reduceNeg, Int.reduceToNat, q3, q4]
    refine callK_intro H5 ?_
    simp (dsimp := false) (maxDischargeDepth := 16) only [go_sem, ↓reduceIte, reduceCtorEq, Nat.reduceEqDiff, Nat.reduceAdd, Nat.reduceMul, Nat.reduceSub, Nat.reduceLT, Nat.reduceLeDiff, Nat.reducePow, Int.reduceLT, Int.reduceLE, Int.reduceNeg, Int.reduceToNat, q3, q4]
    refine callK_intro H6 ?_
    simp (dsimp := false) (maxDischargeDepth := 16) only [go_sem, ↓reduceIte, reduceCtorEq, Nat.reduceEqDiff, Nat.reduceAdd, Nat.reduceMul, Nat.reduceSub, Nat.reduceLT, Nat.reduceLeDiff, Nat.reducePow, Int.reduceLT, Int.reduceLE, Int.reduceNeg, Int.reduceToNat, q3, q4]
    refine condK_intro (fun q5 => absurd q5 (by decide)) (fun q5 => ?_)
    simp (dsimp := false) (maxDischargeDepth := 16) only [go_sem, ↓reduceIte, reduceCtorEq, Nat.reduceEqDiff, Nat.reduceAdd, Nat.reduceMul, Nat.reduceSub, Nat.reduceLT, Nat.reduceLeDiff, Nat.reducePow, Int.reduceLT, Int.reduceLE, Int.reduceNeg, Int.reduceToNat, q3, q4, q5]
    refine condK_intro (fun q6 => ?_) (fun q6 => absurd q6 (by decide))
    simp (dsimp := false) (maxDischargeDepth := 16) only [go_sem, ↓reduceIte, reduceCtorEq, Nat.reduceEqDiff, Nat.reduceAdd, Nat.reduceMul, Nat.reduceSub, Nat.reduceLT, Nat.reduceLeDiff, Nat.reducePow, Int.reduceLT, Int.reduceLE, Int.reduceNeg, Int.reduceToNat, q3, q4, q5, q6]
    refine condK_intro (fun q7 => ?_) (fun q7 => absurd q7 (by decide))
    simp (dsimp := false) (maxDischargeDepth := 16) only [go_sem, ↓reduceIte, reduceCtorEq, Nat.reduceEqDiff, Nat.reduceAdd, Nat.reduceMul, Nat.reduceSub, Nat.reduceLT, Nat.reduceLeDiff, Nat.reducePow, Int.reduceLT, Int.reduceLE, Int.reduceNeg, Int.reduceToNat, q3, q4, q5, q6, q7]
    exact finB rfl
  · rw [if_neg hbig] at e6
    rw [e6] at H6
    have H7 := c43 ((ovP a b).map fun p => glue a b p.1 p.2) 44 [.ptr (ocs O)] (fun x => decide (x = O)) (by simp; omega) (fun x _ => c44 x O)
    have e7 : (((ovP a b).map fun p => glue a b p.1 p.2).any fun x => decide (x = O)) = true := by
      rw [List.any_eq_true]
      exact ⟨O, List.mem_map.2 ⟨_, hin, hO⟩, by simp⟩
    rw [e7] at H7
    generalize (ovP a b).map (fun p => glue a b p.1 p.2) = L at *
    refine conT (X := [(12, [12], [])]) (rs := [.tmp 6]) Try.func9 (by kernel_rfl) rfl rfl (by kernel_rfl) ?_
    simp (dsimp := false) (maxDischargeDepth := 16) only [go_sem, ↓reduceIte, reduceCtorEq, Nat.reduceEqDiff, Nat.reduceAdd, Nat.reduceMul, Nat.reduceSub, Nat.reduceLT, Nat.reduceLeDiff, Nat.reducePow, Int.reduceLT, Int.reduceLE, Int.reduceNeg, Int.reduceToNat]
    refine callK_intro c16 ?_
    simp (dsimp := false) (maxDischargeDepth := 16) only [go_sem, ↓reduceIte, reduceCtorEq, Nat.reduceEqDiff, Nat.reduceAdd, Nat.reduceMul, Nat.reduceSub, Nat.reduceLT, Nat.reduceLeDiff, Nat.reducePow, Int.reduceLT, Int.reduceLE, Int.reduceNeg, Int.reduceToNat]
    refine callK_intro H1 ?_
    simp (dsimp := false) (maxDischargeDepth := 16) only [go_sem, ↓reduceIte, reduceCtorEq, Nat.reduceEqDiff, Nat.reduceAdd, Nat.reduceMul, Nat.reduceSub, Nat.reduceLT, Nat.reduceLeDiff, Nat.reducePow, Int.reduceLT, Int.reduceLE, Int.reduceNeg, Int.reduceToNat]
    refine callK_intro H2 ?_
    simp (dsimp := false) (maxDischargeDepth := 16) only [go_sem, ↓reduceIte, reduceCtorEq, Nat.reduceEqDiff, Nat.reduceAdd, Nat.reduceMul, Nat.reduceSub, Nat.reduceLT, Nat.reduceLeDiff, Nat.reducePow, Int.reduceLT, Int.reduceLE, Int.reduceNeg, Int.reduceToNat]
    refine callK_intro H3 ?_
    simp (dsimp := false) (maxDischargeDepth := 16) only [go_sem, ↓reduceIte, reduceCtorEq, Nat.reduceEqDiff, Nat.reduceAdd, Nat.reduceMul, Nat.reduceSub, Nat.reduceLT, Nat.reduceLeDiff, Nat.reducePow, Int.reduceLT, Int.reduceLE, Int.reduceNeg, Int.reduceToNat]
    refine callK_intro H4 ?_
    simp (dsimp := false) (maxDischargeDepth := 16) only [go_sem, ↓reduceIte, reduceCtorEq, Nat.reduceEqDiff, Nat.reduceAdd, Nat.reduceMul, Nat.reduceSub, Nat.reduceLT, Nat.reduceLeDiff, Nat.reducePow, Int.reduceLT, Int.reduceLE, Int.reduceNeg, Int.reduceToNat]
    refine condK_dec (fun q3 => absurd q3 q1') (fun q3 => ?_)
    simp (dsimp := false) (maxDischargeDepth := 16) only [go_sem, ↓reduceIte, reduceCtorEq, Nat.reduceEqDiff, Nat.reduceAdd, Nat.reduceMul, Nat.reduceSub, Nat.reduceLT, Nat.reduceLeDiff, Nat.reducePow, Int.reduceLT, Int.reduceLE, Int.reduceNeg, Int.reduceToNat, q3]
    refine condK_dec (fun q4 => absurd q4 q2') (fun q4 => ?_)
    simp (dsimp := false) (maxDischargeDepth := 16) only [go_sem, ↓reduceIte, reduceCtorEq, Nat.reduceEqDiff, Nat.reduceAdd, Nat.reduceMul, Nat.reduceSub, Nat.reduceLT, Nat.reduceLeDiff, Nat.reducePow, Int.reduceLT, Int.reduceLE, Int.reduceNeg, Int.reduceToNat, q3, q4]
    refine callK_intro H5 ?_
    simp (dsimp := false) (maxDischargeDepth := 16) only [go_sem, ↓reduceIte, reduceCtorEq, Nat.reduceEqDiff, Nat.reduceAdd, Nat.reduceMul, Nat.reduceSub, Nat.reduceLT, Nat.reduceLeDiff, Nat.reducePow, Int.reduceLT, Int.reduceLE, Int.reduceNeg, Int.reduceToNat, q3, q4]
    refine callK_intro H6 ?_
    simp (dsimp := false) (maxDischargeDepth := 16) only [go_sem, ↓reduceIte, reduceCtorEq, Nat.reduceEqDiff, Nat.reduceAdd, Nat.reduceMul, Nat.reduceSub, Nat.reduceLT, Nat.reduceLeDiff, Nat.reducePow, Int.reduceLT, Int.reduceLE, Int.reduceNeg, Int.reduceToNat, q3, q4]
    refine condK_intro (fun q5 => absurd q5 (by decide)) (fun q5 => ?_)
    simp (dsimp := false) (maxDischargeDepth := 16) only [go_sem, ↓reduceIte, reduceCtorEq, Nat.reduceEqDiff, Nat.reduceAdd, Nat.reduceMul, Nat.reduceSub, Nat.reduceLT, Nat.reduceLeDiff, Nat.reducePow, Int.reduceLT, Int.reduceLE, Int.reduceNeg, Int.reduceToNat, q3, q4, q5]
    refine callK_intro H7 ?_
    simp (dsimp := false) (maxDischargeDepth := 16) only [go_sem, ↓reduceIte, reduceCtorEq, Nat.reduceEqDiff, Nat.reduceAdd, Nat.reduceMul, Nat.reduceSub, Nat.reduceLT, Nat.reduceLeDiff, Nat.reducePow, Int.reduceLT, Int.reduceLE, Int.reduceNeg, Int.reduceToNat, q3, q4, q5]
    exact finB rfl
end Go.Sy

/- Conditions as abstract values, and what the small functions say of them. -/
namespace Go.Sy
open Go Go.Proofs

inductive Cd where
  | mk (k : Int) (kids : List Cd) (m : Mo) (g : Gr) (sl : List (List AV)) (v : Int) (ts : List (List AV))
theorem Cd.ind {P : Cd → Prop} (h : ∀ k kids m g sl v ts, (∀ c ∈ kids, P c) → P (.mk k kids m g sl v ts)) (c : Cd) : P c :=
  Cd.rec (motive_1 := P) (motive_2 := fun l => ∀ c ∈ l, P c) (fun k kids m g sl v ts ih => h k kids m g sl v ts ih) (fun c hc => by simp at hc) (fun c l h1 h2 d hd => (List.mem_cons.1 hd).elim (fun e => e ▸ h1) (h2 d)) c
mutual
def ccs : Cd → List AV
  | .mk k kids m g sl v ts => [iv k, .list 9 (ccsL kids) .no, lv m.n, lv m.e, lv g.n, elv g.e, .list 4 sl .no, iv v, .list 5 ts .no]
def ccsL : List Cd → List (List AV)
  | [] => []
  | c :: l => ccs c :: ccsL l
end
theorem ccsL_map : ∀ l : List Cd, ccsL l = l.map ccs
  | [] => rfl
  | c :: l => by rw [ccsL, ccsL_map l]; rfl
theorem ccs_mk (k : Int) (kids : List Cd) (m : Mo) (g : Gr) (sl : List (List AV)) (v : Int) (ts : List (List AV)) :
    ccs (.mk k kids m g sl v ts) = [iv k, .list 9 (kids.map ccs) .no, lv m.n, lv m.e, lv g.n, elv g.e, .list 4 sl .no, iv v, .list 5 ts .no] := by rw [ccs, ccsL_map]
def cv (c : Cd) : AV := .agg (ccs c)
def pcs (g : Gr) (sl : List (List AV)) (v : Int) (ts : List (List AV)) : List AV := [lv g.n, elv g.e, .list 4 sl .no, iv v, .list 5 ts .no]
attribute [go_sem] ccs_mk cv pcs
theorem foldl_take {α β : Type} {f : β → α → β} {a : β} {l : List α} {i : Nat} (h : i < l.length) : (l.take (i + 1)).foldl f a = f ((l.take i).foldl f a) l[i] := by
  rw [List.take_add_one, List.getElem?_eq_getElem h, List.foldl_append]
  rfl
/-! ### Sizes -/
def maxI (a b : Int) : Int := if b > a then b else a
mutual
def szC : Cd → Int × Int
  | .mk k kids _ _ _ _ _ => let r := szL kids (1, 0); (r.1, if k = 5 then IntKind.i64.wrap (r.2 + 1) else r.2)
def szL : List Cd → Int × Int → Int × Int
  | [], r => r
  | c :: l, r => szL l (IntKind.i64.wrap (r.1 + (szC c).1), maxI r.2 (szC c).2)
end
def szF (r : Int × Int) (c : Cd) : Int × Int := (IntKind.i64.wrap (r.1 + (szC c).1), maxI r.2 (szC c).2)
theorem szL_fold : ∀ (l : List Cd) (r : Int × Int), szL l r = l.foldl szF r
  | [], _ => rfl
  | c :: l, r => by rw [szL, szL_fold l]; rfl
theorem szC_mk (k : Int) (kids : List Cd) (m : Mo) (g : Gr) (sl : List (List AV)) (v : Int) (ts : List (List AV)) :
    szC (.mk k kids m g sl v ts) = ((kids.foldl szF (1, 0)).1, if k = 5 then IntKind.i64.wrap ((kids.foldl szF (1, 0)).2 + 1) else (kids.foldl szF (1, 0)).2) := by rw [szC, szL_fold]
def lrg (c : Cd) : Int := if 2000 < (szC c).1 ∨ 3 < (szC c).2 then 3 else 0
/-! ### Shapes -/
def unu (m : Mo) (g : Gr) : Bool := (m.n.length : Int) == 0 && ((m.e.length : Int) == 0 && ((g.n.length : Int) == 0 && (g.e.length : Int) == 0))
def plnB (sl : List (List AV)) (v : Int) (ts : List (List AV)) : Bool := (sl.length : Int) == 0 && (v == 0 && (ts.length : Int) == 0)
def okK (k : Int) (n : Nat) (u : Bool) : Bool :=
  if k = 1 then (n : Int) == 0 && u else if k = 2 then (n : Int) == 1 && u else if k = 3 ∨ k = 4 then decide (0 < (n : Int)) && u else if k = 5 then (n : Int) == 1 else false
def shp : Cd → Int
  | .mk k kids m g sl v ts => if okK k kids.length (unu m g && plnB sl v ts) = true then (if plnB sl v ts = true then 0 else 8) else 1
mutual
def shpA : Cd → Int
  | .mk k kids m g sl v ts => if shp (.mk k kids m g sl v ts) ≠ 0 then shp (.mk k kids m g sl v ts) else shpL kids
def shpL : List Cd → Int
  | [] => 0
  | c :: l => if shpA c ≠ 0 then shpA c else shpL l
end
/-- The first that is not nought. -/
def firstI {α : Type} (f : α → Int) : List α → Int
  | [] => 0
  | x :: l => if f x ≠ 0 then f x else firstI f l
theorem firstI_all {α : Type} {f : α → Int} : ∀ {l : List α}, (∀ x ∈ l, f x = 0) → firstI f l = 0
  | [], _ => rfl
  | x :: l, h => by rw [firstI, if_neg (by simp [h x (by simp)]), firstI_all fun y hy => h y (by simp [hy])]
theorem firstI_at {α : Type} {f : α → Int} : ∀ {l : List α} {i : Nat} (h : i < l.length), (∀ x ∈ l.take i, f x = 0) → f l[i] ≠ 0 → firstI f l = f l[i]
  | x :: l, 0, h, _, h2 => if_pos h2
  | x :: l, i + 1, h, h1, h2 => by
    rw [firstI, if_neg (by simp [h1 x (by simp)])]
    exact firstI_at (by simpa using h) (fun y hy => h1 y (by simp [hy])) h2
theorem firstI_zero {α : Type} {f : α → Int} : ∀ {l : List α}, firstI f l = 0 → ∀ x ∈ l, f x = 0
  | [], _, x, hx => by simp at hx
  | y :: l, h, x, hx => by
    rw [firstI] at h
    split at h
    · rename_i h1; exact absurd h h1
    · rename_i h1
      rcases List.mem_cons.1 hx with rfl | hx
      · simpa using h1
      · exact firstI_zero h x hx
theorem shpL_first : ∀ l : List Cd, shpL l = firstI shpA l
  | [] => rfl
  | c :: l => by rw [shpL, firstI, shpL_first l]
theorem shpA_mk (k : Int) (kids : List Cd) (m : Mo) (g : Gr) (sl : List (List AV)) (v : Int) (ts : List (List AV)) :
    shpA (.mk k kids m g sl v ts) = if shp (.mk k kids m g sl v ts) ≠ 0 then shp (.mk k kids m g sl v ts) else firstI shpA kids := by rw [shpA, shpL_first]
def sizR (c : Cd) : Int × Int × Int := if shpA c ≠ 0 then (0, 0, shpA c) else if lrg c ≠ 0 then (0, 0, lrg c) else ((szC c).1, (szC c).2, 0)
/-! ### Over a graph -/
mutual
def ovr : Cd → Gr → Int
  | .mk k kids m g sl v ts, a => if shp (.mk k kids m g sl v ts) ≠ 0 then shp (.mk k kids m g sl v ts) else if k = 5 then (if mErr a g m ≠ 0 then mErr a g m else if injR a g m = true then ovrL kids g else 1) else ovrL kids a
def ovrL : List Cd → Gr → Int
  | [], _ => 0
  | c :: l, a => if ovr c a ≠ 0 then ovr c a else ovrL l a
end
theorem ovrL_first (a : Gr) : ∀ l : List Cd, ovrL l a = firstI (fun c => ovr c a) l
  | [] => rfl
  | c :: l => by rw [ovrL, firstI, ovrL_first a l]
theorem ovr_mk (k : Int) (kids : List Cd) (m : Mo) (g : Gr) (sl : List (List AV)) (v : Int) (ts : List (List AV)) (a : Gr) :
    ovr (.mk k kids m g sl v ts) a = if shp (.mk k kids m g sl v ts) ≠ 0 then shp (.mk k kids m g sl v ts) else
      if k = 5 then (if mErr a g m ≠ 0 then mErr a g m else if injR a g m = true then firstI (fun c => ovr c g) kids else 1) else firstI (fun c => ovr c a) kids := by rw [ovr, ovrL_first, ovrL_first]
def vld (a : Gr) (c : Cd) : Int := if gErr a ≠ 0 then gErr a else if ovr c a ≠ 0 then ovr c a else lrg c
/-! ### Light ones -/
mutual
def fitC : Cd → Int → Int → Bool
  | .mk _ kids m g sl _ ts, n, e => decide (¬ ((n < (g.n.length : Int) ∨ e < (g.e.length : Int)) ∨ 100 < (m.n.length : Int) ∨ 100 < (m.e.length : Int) ∨ 20 < (sl.length : Int) ∨ 20 < (ts.length : Int))) && fitL kids n e
def fitL : List Cd → Int → Int → Bool
  | [], _, _ => true
  | c :: l, n, e => fitC c n e && fitL l n e
end
theorem fitL_all (n e : Int) : ∀ l : List Cd, fitL l n e = l.all fun c => fitC c n e
  | [] => rfl
  | c :: l => by rw [fitL, fitL_all n e l]; rfl
theorem fitC_mk (k : Int) (kids : List Cd) (m : Mo) (g : Gr) (sl : List (List AV)) (v : Int) (ts : List (List AV)) (n e : Int) :
    fitC (.mk k kids m g sl v ts) n e = (decide (¬ ((n < (g.n.length : Int) ∨ e < (g.e.length : Int)) ∨ 100 < (m.n.length : Int) ∨ 100 < (m.e.length : Int) ∨ 20 < (sl.length : Int) ∨ 20 < (ts.length : Int))) && kids.all fun c => fitC c n e) := by
  rw [fitC, fitL_all]
def few (g : Gr) : Bool := decide (g.n.length ≤ 45 ∧ g.e.length ≤ 90)
def lgt (a : Gr) (c : Cd) : Bool := decide ((szC c).1 ≤ 60) && (fitC c 45 90 && (few a && (vld a c != 0 || (decide ((szC c).1 ≤ 8) && ((decide ((szC c).2 ≤ 1) && fitC c 4 3) || (decide ((szC c).2 ≤ 2) && fitC c 2 2))))))
end Go.Sy

/- Types of arguments: conditions. -/
namespace Go.Sy
open Go Go.Proofs Go.RowKit

variable {H : Type} {enc : TypeId × Value → H} {P : Program} {W : World} {sp : Nat → Bool} {held : Bool}

/-- As `Opens`, for readings of less than N steps. -/
structure OpensN (P : Program) (t : TypeId) (S : List AV → Prop) (N : Nat) : Prop where
  get : ∀ {H : Type} (enc : TypeId × Value → H) (W : World) (sp : Nat → Bool) (held : Bool) (fuel : Nat), fuel < N → ∀ (cs : List Value) (d : DataW H × List MemPlace), DataW.trod enc P W 0 sp held fuel t cs = some d →
    ∃ x : List AV, S x ∧ cs.length = P.cellsOf t ∧ x.length = cs.length ∧ (∀ c ∈ cs, c.oneCell' = true) ∧ ∀ (j : Nat) (c : Value) (a : AV), cs[j]? = some c → x[j]? = some a → RV (cmap W) noρ noτ c a
theorem Opens.toN {t : TypeId} {S : List AV → Prop} (h : Opens P t S) (N : Nat) : OpensN P t S N := ⟨fun enc W sp held fuel _ cs d hd => h.get enc W sp held fuel cs d hd⟩
theorem OpensN.mono {t : TypeId} {S S' : List AV → Prop} {N N' : Nat} (h : OpensN P t S N) (hN : N' ≤ N) (hS : ∀ x, S x → S' x) : OpensN P t S' N' := by
  refine ⟨fun {H} enc W sp held fuel hf cs d hd => ?_⟩
  obtain ⟨x, q1, q2⟩ := h.get enc W sp held fuel (by omega) cs d hd
  exact ⟨x, hS x q1, q2⟩
theorem opens_sliceN {t e : TypeId} {sz : Nat} {N : Nat} {S : List AV → Prop} (hu : P.underlying t = some (.slice e)) (hc : P.cellsOf t = 1) (hce : P.cellsOf e = sz) (hpos : 0 < sz) (he : OpensN P e S N) :
    OpensN P t (fun x => ∃ xs : List (List AV), (∀ y ∈ xs, S y ∧ y.length = sz) ∧ x = [.list sz xs .no]) (N + 1) := by
  subst hce
  refine ⟨fun {H} enc W sp held fuel hfu cs d h => ?_⟩
  cases fuel with
  | zero => cases h
  | succ fuel =>
    unfold DataW.trod at h
    simp only [hu] at h
    split at h
    all_goals try (rename_i heq _; cases heq; done)
    all_goals try (rename_i heq; cases heq; done)
    all_goals try (cases h; done)
    · exact ⟨_, ⟨[], fun y hy => by simp at hy, rfl⟩, hc.symm ▸ rfl, rfl, by simp [Value.oneCell'], fun j c a h1 h2 => by
        cases j with
        | zero =>
          simp at h1 h2; subst h1 h2
          exact .list _ _ _ none 0 0 (fun _ _ => undef) rfl (Nat.le_refl _) (by simp [maxLen]) (fun i x hx => by simp at hx) (fun i x j a hx => by simp at hx) trivial
        | succ j => simp at h1⟩
    · rename_i e' A len cap heq
      cases heq
      split at h
      case isFalse => cases h
      rename_i hcond
      obtain ⟨_, hlc, hcm⟩ := hcond
      obtain ⟨elems, h1, _⟩ := Option.bind_eq_some_iff.1 h
      have each : ∀ i, i < len → ∃ (cs : List Value) (x : List AV), W.cells? 0 (A.add (i * P.cellsOf e)) (P.cellsOf e) = some cs ∧ S x ∧ cs.length = P.cellsOf e ∧ x.length = cs.length ∧ (∀ c ∈ cs, c.oneCell' = true) ∧
          ∀ (j : Nat) (c : Value) (a : AV), cs[j]? = some c → x[j]? = some a → RV (cmap W) noρ noτ c a := by
        intro i hi
        obtain ⟨y, hy, _⟩ := mapM_at h1 i i (by simp [hi])
        obtain ⟨cs, h3, h4⟩ := Option.bind_eq_some_iff.1 hy
        obtain ⟨x, q⟩ := he.get enc W sp held fuel (by omega) cs y h4
        exact ⟨cs, x, h3, q⟩
      let CS : Nat → List Value := fun i => if h : i < len then Classical.choose (each i h) else []
      let XS : Nat → List AV := fun i => if h : i < len then Classical.choose (Classical.choose_spec (each i h)) else []
      have spec : ∀ i, i < len → W.cells? 0 (A.add (i * P.cellsOf e)) (P.cellsOf e) = some (CS i) ∧ S (XS i) ∧ (CS i).length = P.cellsOf e ∧ (XS i).length = (CS i).length ∧ (∀ c ∈ CS i, c.oneCell' = true) ∧
          ∀ (j : Nat) (c : Value) (a : AV), (CS i)[j]? = some c → (XS i)[j]? = some a → RV (cmap W) noρ noτ c a := by
        intro i hi
        have := Classical.choose_spec (Classical.choose_spec (each i hi))
        simpa only [CS, XS, dif_pos hi] using this
      have cell : ∀ i, i < len → ∀ j, j < P.cellsOf e → W.cell? ((A.add (i * P.cellsOf e)).add j) = (CS i)[j]? := by
        intro i hi j hj
        have h3 := (spec i hi).1
        unfold World.cells? at h3
        rw [if_pos (Nat.zero_le _)] at h3
        obtain ⟨y, h4, h5⟩ := mapM_at h3 j j (by simp [hj])
        rw [h4, h5]
      have hspot : 0 < len → A.spot = none := by
        intro hl
        have h4 := cell 0 hl 0 hpos
        have h5 : (0 : Nat) < (CS 0).length := by rw [(spec 0 hl).2.2.1]; exact hpos
        rw [Nat.zero_mul] at h4
        have e0 : (A.add 0).add 0 = A := rfl
        rw [e0, List.getElem?_eq_getElem h5] at h4
        unfold World.cell? at h4
        split at h4
        · split at h4
          · cases h4
          · rename_i hs; simpa using hs
        · cases h4
      refine ⟨_, ⟨(List.range len).map XS, ?_, rfl⟩, hc.symm ▸ rfl, rfl, by simp [Value.oneCell'], ?_⟩
      · intro y hy
        obtain ⟨i, hi, rfl⟩ := List.mem_map.1 hy
        have hi := List.mem_range.1 hi
        exact ⟨(spec i hi).2.1, by rw [(spec i hi).2.2.2.1, (spec i hi).2.2.1]⟩
      · intro j c a hj1 hj2
        cases j with
        | succ j => simp at hj1
        | zero =>
          simp at hj1 hj2; subst hj1 hj2
          have hget : ∀ (i : Nat) (x : List AV), ((List.range len).map XS)[i]? = some x → i < len ∧ x = XS i := by
            intro i x hx
            simp only [List.getElem?_map] at hx
            obtain ⟨z, hz, rfl⟩ := Option.map_eq_some_iff.1 hx
            have hz2 := List.getElem?_eq_some_iff.1 hz
            obtain ⟨hz3, hz4⟩ := hz2
            simp at hz3 hz4
            subst hz4
            exact ⟨hz3, rfl⟩
          refine .list _ _ _ (some A) len cap (fun i j => (CS i).getD j undef) (by simp) hlc hcm ?_ ?_ trivial
          · intro i x hx
            obtain ⟨hi, rfl⟩ := hget i x hx
            have sp0 := hspot (by omega)
            refine ⟨by rw [(spec i hi).2.2.2.1, (spec i hi).2.2.1], A.block, A.off, ?_, fun j hj => ?_⟩
            · cases A; simp at sp0; subst sp0; rfl
            · have hlt : j < (CS i).length := by rw [(spec i hi).2.2.1]; exact hj
              have h4 := cell i hi j hj
              rw [List.getElem?_eq_getElem hlt] at h4
              have hA : (A.add (i * P.cellsOf e)).add j = ⟨A.block, A.off + i * P.cellsOf e + j, none⟩ := by
                cases A with
                | mk bb oo ss =>
                  simp at sp0; subst sp0
                  unfold Addr.add
                  split <;> split <;> simp_all
              rw [hA] at h4
              have hm := (spec i hi).2.2.2.2.1 _ (List.getElem_mem hlt)
              rw [cmap_some h4 hm]
              simp [hlt]
          · intro i x j a hx ha
            obtain ⟨hi, rfl⟩ := hget i x hx
            have hlt : j < (CS i).length := by
              have := (List.getElem?_eq_some_iff.1 ha).1
              rw [(spec i hi).2.2.2.1] at this
              exact this
            exact (spec i hi).2.2.2.2.2 j _ a (by simp [hlt]) ha

def OpensLN (P : Program) (N n : Nat) : List Field → Nat → List (Nat × (List AV → Prop)) → Prop
  | [], off, [] => off = n
  | f :: fs, off, (m, S) :: Ss => f.offset = off ∧ P.cellsOf f.type = m ∧ OpensN P f.type S N ∧ OpensLN P N n fs (off + m) Ss
  | _, _, _ => False
theorem opensLN {N n fuel : Nat} (hfu : fuel < N) {cs : List Value} (hcs : cs.length = n) : ∀ (fs : List Field) (off : Nat) (Ss : List (Nat × (List AV → Prop))) (r : List (DataW H × List MemPlace)), OpensLN P N n fs off Ss →
    (fs.mapM fun f => DataW.trod enc P W 0 sp held fuel f.type ((cs.drop f.offset).take (P.cellsOf f.type))) = some r →
    ∃ x : List AV, ShapeL Ss x ∧ x.length = (cs.drop off).length ∧ (∀ c ∈ cs.drop off, c.oneCell' = true) ∧ ∀ (j : Nat) (c : Value) (a : AV), (cs.drop off)[j]? = some c → x[j]? = some a → RV (cmap W) noρ noτ c a
  | [], off, [], r, ho, h => by
    have ho : off = n := ho
    have : cs.drop off = [] := List.drop_eq_nil_of_le (by omega)
    rw [this]
    exact ⟨[], rfl, rfl, by simp, fun j c a h1 => by simp at h1⟩
  | f :: fs, off, (m, S) :: Ss, r, ho, h => by
    obtain ⟨hoff, hm, hop, hol⟩ := ho
    subst hm
    rw [List.mapM_cons] at h
    obtain ⟨d, h1, h⟩ := Option.bind_eq_some_iff.1 h
    obtain ⟨ys, h2, _⟩ := Option.bind_eq_some_iff.1 h
    rw [hoff] at h1
    obtain ⟨y, q1, q2, q3, q4, q5⟩ := hop.get enc W sp held fuel hfu _ d h1
    obtain ⟨z, p1, p2, p3, p4⟩ := opensLN hfu hcs fs _ Ss ys hol h2
    have hlen : ((cs.drop off).take (P.cellsOf f.type)).length = P.cellsOf f.type := q2
    have hsplit : cs.drop off = (cs.drop off).take (P.cellsOf f.type) ++ cs.drop (off + P.cellsOf f.type) := by
      rw [← List.drop_drop, List.take_append_drop]
    refine ⟨y ++ z, ⟨y, z, q1, p1, rfl⟩, ?_, ?_, ?_⟩
    · rw [List.length_append, q3, p2, ← List.length_append, ← hsplit]
    · intro c hc
      rw [hsplit] at hc
      rcases List.mem_append.1 hc with hc | hc
      · exact q4 c hc
      · exact p3 c hc
    · intro j c a hc ha
      rw [hsplit] at hc
      by_cases hj : j < ((cs.drop off).take (P.cellsOf f.type)).length
      · rw [List.getElem?_append_left hj] at hc
        rw [List.getElem?_append_left (by rw [q3]; exact hj)] at ha
        exact q5 j c a hc ha
      · rw [List.getElem?_append_right (by omega)] at hc
        rw [List.getElem?_append_right (by rw [q3]; omega), q3] at ha
        exact p4 _ c a hc ha
theorem opens_structN {t : TypeId} {fs : Array Field} {N n : Nat} {Ss : List (Nat × (List AV → Prop))} (hu : P.underlying t = some (.struct fs)) (hn : P.cellsOf t = n) (h : OpensLN P N n fs.toList 0 Ss) : OpensN P t (ShapeL Ss) (N + 1) := by
  subst hn
  refine ⟨fun {H} enc W sp held fuel hfu cs d hd => ?_⟩
  cases fuel with
  | zero => cases hd
  | succ fuel =>
    unfold DataW.trod at hd
    simp only [hu] at hd
    split at hd
    case isFalse => cases hd
    rename_i hcs
    obtain ⟨r, h1, _⟩ := Option.map_eq_some_iff.1 hd
    obtain ⟨x, q1, q2, q3, q4⟩ := opensLN (N := N) (by omega) hcs _ _ _ _ h h1
    exact ⟨x, q1, hcs, by simpa using q2, by simpa using q3, by simpa using q4⟩

open Go.Proofs.Ytkhheblmgbiniaa
theorem opensTerm : Opens Try.prog 154 (fun x => x.length = 2) := (opens_struct (n := 2) (Ss := [(1, _), (1, _)]) Try.underlying154 (by kernel_rfl) ⟨rfl, by kernel_rfl, opensInt, rfl, by kernel_rfl, opensInt, rfl⟩).mono fun x h => by
  obtain ⟨_, _, ⟨a, rfl⟩, ⟨_, _, ⟨b, rfl⟩, rfl, rfl⟩, rfl⟩ := h
  rfl
theorem opensSlots : Opens Try.prog 64 (fun x => ∃ l : List (List AV), x = [.list 4 l .no]) := (opens_slice (e := 156) (sz := 4) (by kernel_rfl) (by kernel_rfl) (by kernel_rfl) (by decide)
  (opens_struct (n := 4) (Ss := [(1, _), (1, _), (2, _)]) Try.underlying156 (by kernel_rfl) ⟨rfl, by kernel_rfl, opensInt, rfl, by kernel_rfl, opensInt, rfl, by kernel_rfl, opensTerm, rfl⟩)).mono fun x ⟨xs, _, hx⟩ => ⟨xs, hx⟩
theorem opensTests : Opens Try.prog 65 (fun x => ∃ l : List (List AV), x = [.list 5 l .no]) := (opens_slice (e := 158) (sz := 5) (by kernel_rfl) (by kernel_rfl) (by kernel_rfl) (by decide)
  (opens_struct (n := 5) (Ss := [(1, _), (2, _), (2, _)]) Try.underlying158 (by kernel_rfl) ⟨rfl, by kernel_rfl, opensInt, rfl, by kernel_rfl, opensTerm, rfl, by kernel_rfl, opensTerm, rfl⟩)).mono fun x ⟨xs, _, hx⟩ => ⟨xs, hx⟩
theorem opensPattern : Opens Try.prog 67 (fun x => ∃ g sl v ts, x = pcs g sl v ts) := (opens_struct (n := 5) (Ss := [(2, _), (1, _), (1, _), (1, _)]) Try.underlying67 (by kernel_rfl) ⟨rfl, by kernel_rfl, opensGraph, rfl, by kernel_rfl, opensSlots, rfl, by kernel_rfl, opensInt, rfl, by kernel_rfl, opensTests, rfl⟩).mono fun x h => by
  obtain ⟨_, _, ⟨g, rfl⟩, ⟨_, _, ⟨sl, rfl⟩, ⟨_, _, ⟨v, rfl⟩, ⟨_, _, ⟨ts, rfl⟩, rfl, rfl⟩, rfl⟩, rfl⟩, rfl⟩ := h
  exact ⟨g, sl, v, ts, rfl⟩
theorem opensCondN : ∀ N, OpensN Try.prog 69 (fun x => ∃ c, x = ccs c) N
  | 0 => ⟨fun _ _ _ _ _ hf => by omega⟩
  | N + 1 => by
    have ih := opensCondN N
    have hk : OpensN Try.prog 63 (fun x => ∃ l : List Cd, x = [.list 9 (l.map ccs) .no]) N := (opens_sliceN (e := 69) (sz := 9) (by kernel_rfl) (by kernel_rfl) (by kernel_rfl) (by decide) ih).mono (Nat.le_succ _) fun x ⟨xs, h, hx⟩ => by
      obtain ⟨l, rfl⟩ := listOf (f := ccs) (fun y hy => (h y hy).1)
      exact ⟨l, hx⟩
    exact (opens_structN (N := N) (n := 9) (Ss := [(1, _), (1, _), (2, _), (5, _)]) Try.underlying69 (by kernel_rfl) ⟨rfl, by kernel_rfl, opensInt.toN N, rfl, by kernel_rfl, hk, rfl, by kernel_rfl, opensMorphism.toN N, rfl, by kernel_rfl, opensPattern.toN N, rfl⟩).mono (Nat.le_refl _) fun x h => by
      obtain ⟨_, _, ⟨k, rfl⟩, ⟨_, _, ⟨l, rfl⟩, ⟨_, _, ⟨m, rfl⟩, ⟨_, _, ⟨g, sl, v, ts, rfl⟩, rfl, rfl⟩, rfl⟩, rfl⟩, rfl⟩ := h
      exact ⟨.mk k l m g sl v ts, by rw [ccs_mk]; rfl⟩
theorem opensCond : Opens Try.prog 69 (fun x => ∃ c, x = ccs c) := ⟨fun enc W sp held fuel cs d hd => (opensCondN (fuel + 1)).get enc W sp held fuel (Nat.lt_succ_self _) cs d hd⟩
end Go.Sy

/- What every row asks of the program alone, and how a row's closed facts are put together. -/
namespace Go.Proofs.Ytkhheblmgbiniaa
open Go.Sy Go.ChangeShapes Go.WideShapes Go.ChangeAt Go.RowKit
theorem Try.own : ownKnob Try.prog.godebug = none := by kernel_rfl
theorem Try.laidOut : laidOutB Try.prog = true := by kernel_rfl
theorem Try.mapsRowed : mapsRowed Try.prog = true := by kernel_rfl
theorem Try.heard : Try.prog.stopsHeard = true := by kernel_rfl
theorem Try.may : Try.prog.mayEnter = true := by kernel_rfl
theorem and_mk {a b : Bool} (h1 : a = true) (h2 : b = true) : (a && b) = true := by rw [h1, h2]; rfl
set_option maxRecDepth 20000 in
/-- The closed facts of a row, each by itself. -/
theorem joined_mk {f : FuncId} {fn : Func} {s : ChangeSpec} {c : OpenClaim} (k1 : c.wf (OpenSpec.ofChange s) = true) (k5 : namedTie Try.prog c.named s.vars = true)
    (k10 : (c.inPlace == Try.prog.inPlace f) = true) (k11 : (c.unfollowed == Try.prog.unfollowed f) = true) (k12 : (c.recurses == Try.prog.recurses f) = true) (k13 : (c.named == Try.prog.varsNamed f) = true)
    (k23 : (c.plainKeys == Try.prog.plainKeys) = true) (k31 : (c.veiled == (fn.params.toList ++ s.plain.varTypes Try.prog ++ fn.resultTypes.toList).any (Try.prog.veiledRec ·)) = true)
    (k32 : c.veiledFits Try.prog fn.params.toList (fn.params.toList ++ s.plain.varTypes Try.prog ++ fn.resultTypes.toList) = true)
    (k4 : (fn.params.all (Try.prog.readableRec ·)) = true) (k69 : ((c.stops == []) && (Try.prog.stops == []) && (c.knobs == []) && (Try.prog.stopKnobs == [])) = true)
    (k14 : (c.maps == (fn.params.toList ++ s.plain.varTypes Try.prog).any (Try.prog.mapsRec ·)) = true) (k15 : (c.ifaces == (fn.params.toList ++ s.plain.varTypes Try.prog).any (Try.prog.ifacesRec ·)) = true)
    (k16 : (c.mapsOut == Try.prog.mapsAmong fn.resultTypes.toList) = true) (k17 : (c.loops == (fn.params.toList ++ s.plain.varTypes Try.prog).any (Try.prog.loopsFrom ·)) = true)
    (k18 : (c.wideKeys == (fn.params.toList ++ s.plain.varTypes Try.prog ++ fn.resultTypes.toList).any (Try.prog.wideKeysFrom ·)) = true) (k19 : (s.vars.all (Try.prog.varReadable ·)) = true)
    (k20 : (fn.resultTypes.all (fun t => Try.prog.readableRec t && decide (t < Try.prog.types.size))) = true) (k21 : (c.ifacesOut == fn.resultTypes.toList.any (Try.prog.ifacesRec ·)) = true) (k22 : (c.loopsOut == fn.resultTypes.toList.any (Try.prog.loopsFrom ·)) = true)
    (k24 : c.shortTexts.isNone = true) (k27 : (c.lifted == Try.prog.liftsFinal) = true) (k28 : (Try.prog.make == some c.make) = true)
    (k29 : (c.kinds == (if c.domain.isEmpty then [] else fn.params.toList.map fun t => match Try.prog.underlying t with | some (.int k) => some k | _ => none)) = true) (k30 : (c.pinned == c.pinnedBy) = true) :
    joinedFacts Try.prog f fn s c = true := by
  simp only [Bool.and_eq_true] at k69
  unfold joinedFacts
  exact and_mk (and_mk (and_mk (and_mk (and_mk (and_mk (and_mk (and_mk (and_mk (and_mk (and_mk (and_mk (and_mk (and_mk (and_mk (and_mk (and_mk (and_mk (and_mk (and_mk (and_mk (and_mk (and_mk (and_mk (and_mk (and_mk (and_mk (and_mk (and_mk (and_mk (and_mk k1 Try.laidOut) Try.mapsRowed) k4) k5) k69.1.1.1) k69.1.1.2) k69.1.2) k69.2) k10) k11) k12) k13) k14) k15) k16) k17) k18) k19) k20) k21) k22) k23) k24) Try.heard) Try.may) k27) k28) k29) k30) k31) k32
end Go.Proofs.Ytkhheblmgbiniaa

namespace Go.Sy
open Go Go.Proofs Go.RowKit
theorem hid0 {p : Prop} (h : p) : Hid p := h
@[irreducible] def CpSrc (w : World) (g off : Nat) (dp sp : Option Addr) (cs : List Value) : Prop := 0 < cs.length → dp = some ⟨g, off, none⟩ ∧ ∃ ad, sp = some ad ∧ ∀ j v, cs[j]? = some v → w.cell? (ad.add j) = some v
theorem CpSrc.out {w : World} {g off : Nat} {dp sp : Option Addr} {cs : List Value} (h : CpSrc w g off dp sp cs) : 0 < cs.length → dp = some ⟨g, off, none⟩ ∧ ∃ ad, sp = some ad ∧ ∀ j v, cs[j]? = some v → w.cell? (ad.add j) = some v := by unfold CpSrc at h; exact h
theorem CpSrc.mk {w : World} {g off : Nat} {dp sp : Option Addr} {cs : List Value} (h : 0 < cs.length → dp = some ⟨g, off, none⟩ ∧ ∃ ad, sp = some ad ∧ ∀ j v, cs[j]? = some v → w.cell? (ad.add j) = some v) : CpSrc w g off dp sp cs := by unfold CpSrc; exact h
theorem r153_info3 : (Try.prog.info? 3).map (fun i => (i.zero, i.size, i.bytes)) = some (some (.int .i64 0), 1, 8) := by kernel_rfl
theorem r153_size3 : (Try.prog.info? 3).map (·.size) = some 1 := by kernel_rfl
def repA (k n : Nat) : List Value := List.replicate k (.int .i64 (-1)) ++ List.replicate (n - k) (.int .i64 0)
theorem r153_mul (n : Nat) (hn : n ≤ 1000000) (w : World) : Calls Try.prog 165 #[.int .u64 1, .int .u64 n] w fun e w' => e = .returned (.tuple #[.int .u64 0, .int .u64 n]) ∧ w = w' := by
  refine (Try.bits_Mul 1 n (by omega) (by omega) w).mono ?_
  rintro e w' ⟨rfl, rfl⟩
  have h1 : 1 * n / 18446744073709551616 = 0 := by omega
  have h2 : 1 * n % 18446744073709551616 = n := by omega
  rw [h1, h2]
  exact ⟨rfl, rfl⟩
theorem splice_rep (k m n : Nat) : splice (repA k n) k (List.replicate m (.int .i64 (-1))) = repA (k + m) n := by
  unfold splice repA
  rw [List.take_append_of_le_length (by simp), List.drop_append]
  simp only [List.take_replicate, List.drop_replicate, List.length_replicate, Nat.min_self]
  rw [show k - (k + m) = 0 by omega, show k + m - k = m by omega, show n - k - m = n - (k + m) by omega]
  rw [← List.append_assoc, List.replicate_append_replicate]
  simp
theorem rep_len (k n : Nat) (h : k ≤ n) : (repA k n).length = n := by simp [repA]; omega
theorem rep_get (k n j : Nat) (h : j < k) : (repA k n)[j]? = some (.int .i64 (-1)) := by
  unfold repA
  rw [List.getElem?_append_left (by simpa using h)]
  simp [h]
theorem rep_hid (m n : Nat) (_h : m ≤ n) {w : World} {g : Nat} (hh : Hid (w.heap[g]? = some (.cells (splice (repA 0 n) 0 (List.replicate m (Value.int .i64 (-1)))).toArray 3))) : Hid (w.heap[g]? = some (.cells (repA m n).toArray 3 (0, 0))) := by
  have := splice_rep 0 m n
  rw [Nat.zero_add] at this
  rw [this] at hh
  exact hh
theorem rep_hid2 (k m n : Nat) (_h : k + m ≤ n) {w : World} {g : Nat} (hh : Hid (w.heap[g]? = some (.cells (splice (repA k n) k (List.replicate m (Value.int .i64 (-1)))).toArray 3))) : Hid (w.heap[g]? = some (.cells (repA (k + m) n).toArray 3 (0, 0))) := by
  rw [splice_rep k m n] at hh
  exact hh
set_option maxRecDepth 100000 in
set_option maxHeartbeats 1600000 in
theorem r153_calls (b o c n : Nat) (w : World) (hn : n ≤ 1000000) (hc : w.cell? ⟨b, o, none⟩ = some (.int .i64 (-1))) :
    Calls Try.prog 153 #[.slice (some ⟨b, o, none⟩) 1 c, .int .i64 n] w fun e w' => e = .returned (.slice (some ⟨w.heap.size, 0, none⟩) n n) ∧ Below w.heap.size w w' ∧ Hid (w'.heap[w.heap.size]? = some (.cells (repA n n).toArray 3 (0, 0))) := by
  have hmk := run_make_row' (P := Try.prog) 22 3 (.int .i64 0) 8 Try.underlying22 r153_info3 rfl .i64 .i64 n (by omega) (by omega)
  obtain ⟨w1, hw1, hh1, hb1⟩ : ∃ w1, w.alloc (.cells (madeCells #[.int .i64 0] n) 3) = w1 ∧ Hid (w1.heap[w.heap.size]? = some (.cells (repA 0 n).toArray 3 (0, 0))) ∧ Below w.heap.size w w1 := by
    refine ⟨_, rfl, hid0 ?_, (Below.refl _ _).alloc (Nat.le_refl _) _⟩
    have : madeCells #[.int .i64 0] n = (repA 0 n).toArray := by
      apply Array.toList_inj.1
      rw [toList_madeCells_one]
      simp [repA]
    rw [this, World.alloc]
    simp
  have hc1 : Hid (w1.cell? ⟨b, o, none⟩ = some (.int .i64 (-1))) := hid0 (by subst hw1; exact (World.cell?_alloc_past _ _ _ (World.block_lt_of_cell? w _ hc)).trans hc)
  obtain ⟨m, hm, hmn, hm0⟩ : ∃ m, Hid (m = Nat.min 1 n) ∧ m ≤ n ∧ Hid (0 < n → 0 < m) := ⟨_, rfl, Nat.min_le_right 1 n, hid0 fun h => by show 0 < min 1 n; omega⟩
  have hpos : CpSrc w1 w.heap.size 0 (some ⟨w.heap.size, 0, none⟩) (some ⟨b, o, none⟩) (List.replicate m (.int .i64 (-1))) := .mk (by
    refine fun _ => ⟨rfl, _, rfl, fun j v hj => ?_⟩
    have hm' : m = min 1 n := hm
    obtain ⟨h1, h2⟩ := List.getElem?_eq_some_iff.1 hj
    simp at h1 h2
    have : j = 0 := by omega
    subst this h2
    exact hc1)
  have hone : Hid (∀ k, ∀ v ∈ List.replicate k (Value.int .i64 (-1)), v.oneCell' = true) := hid0 (by
    intro k v hv
    rw [(List.mem_replicate.1 hv).2]; rfl)
  have hml : Hid ((List.replicate m (Value.int .i64 (-1))).length = Nat.min 1 n) := hid0 (by rw [List.length_replicate]; exact hm)
  have hfit : Hid (0 + (List.replicate m (Value.int .i64 (-1))).length ≤ (repA 0 n).length) := hid0 (by rw [List.length_replicate, rep_len 0 n (by omega)]; omega)
  clear hm hc
  go_enter Try.func153, Try.ntmps153
  go_wp2_with (first | (go_at_call 165; refine (r153_mul n hn _).mono ?_; rintro e w' ⟨rfl, rfl⟩) | (refine wpList_copy_splice rfl (.tmp 31) (.tmp 32) 22 22 rfl 3 Try.underlying22 r153_size3 (some ⟨w.heap.size, 0, none⟩) (some ⟨b, o, none⟩) n n 1 c (by rfl) (by rfl) w.heap.size 0 (repA 0 n) 3 hh1 (List.replicate m (.int .i64 (-1))) hml hpos.out hfit (hone m) w.heap.size w hb1 (Nat.le_refl _) ?_; intro w2 hh2 hb2; have hh3 := rep_hid m n hmn hh2; clear hh2))
  clear hpos hml hfit hc1 hh1 hb1
  go_loopw [8] (fun v wr => ∃ k : Nat, v = .int .i64 k ∧ k ≤ n ∧ Hid (0 < n → 0 < k) ∧ Hid (wr.heap[w.heap.size]? = some (.cells (repA k n).toArray 3 (0, 0))) ∧ Below w.heap.size w wr) (fun v _ => n - (RowKit.intOf v).toNat)
  case atStart => exact ⟨m, by go_num, hmn, hm0, hh3, hb2⟩
  case round =>
    clear hh3 hb2
    obtain ⟨k, rfl, hk, hk0, hh, hb⟩ := hrel
    by_cases hkn : k < n
    · obtain ⟨j, hj, hj0, hjn⟩ : ∃ j, Hid (j = Nat.min k (n - k)) ∧ Hid (0 < j) ∧ k + j ≤ n := ⟨_, rfl, by show 0 < min k (n - k); have := hk0 (by omega); omega, by show k + min k (n - k) ≤ n; omega⟩
      have hjl : Hid ((List.replicate j (Value.int .i64 (-1))).length = Nat.min k (n - k)) := hid0 (by rw [List.length_replicate]; exact hj)
      have hne : ¬ n = k := by omega
      have hfit : Hid (k + (List.replicate j (Value.int .i64 (-1))).length ≤ (repA k n).length) := hid0 (by rw [List.length_replicate, rep_len k n hk]; exact hjn)
      have hsrc : CpSrc wr.drew w.heap.size k (some ⟨w.heap.size, k, none⟩) (some ⟨w.heap.size, 0, none⟩) (List.replicate j (.int .i64 (-1))) := .mk (by
        refine fun _ => ⟨rfl, _, rfl, fun i v hi => ?_⟩
        obtain ⟨h1, h2⟩ := List.getElem?_eq_some_iff.1 hi
        simp at h1 h2
        subst h2
        have h3 : j = min k (n - k) := hj
        show wr.cell? _ = _
        rw [Addr.add_lit, World.cell?]
        have h4 : wr.heap[w.heap.size]? = _ := hh
        simp only [h4]
        have := rep_get k n i (by omega)
        simpa using this)
      have hhd : Hid (wr.drew.heap[w.heap.size]? = some (.cells (repA k n).toArray 3 (0, 0))) := hh
      have hbd : Below w.heap.size w wr.drew := hb.drew
      have hk1 : (0 : Int) ≤ (k : Int) := by omega
      have hk2 : (k : Int) ≤ (n : Int) := by omega
      have hk3 : ((k : Int)).toNat = k := by omega
      have hwr : IntKind.i64.wrap ((k : Int) + (j : Int)) = (k : Int) + (j : Int) := by rw [IntKind.wrap_i64]; omega
      clear hj
      go_wp2_with fail
      go_region_law (refine step_copy_splice rfl (.tmp 41) (.tmp 44) 22 22 rfl 3 Try.underlying22 r153_size3 (some ⟨w.heap.size, k, none⟩) (some ⟨w.heap.size, 0, none⟩) (n - k) (n - k) k n (by simp [Act.eval, Act.put]) (by simp [Act.eval, Act.put]) w.heap.size k (repA k n) 3 hhd (List.replicate j (.int .i64 (-1))) hjl hsrc.out hfit (hone j) w.heap.size w hbd (Nat.le_refl _) ?_; intro w3 hh4 hb4)
      go_wp2
      go_roundw
      case rel =>
        (repeat apply Exists.intro)
        exact ⟨⟨k + j, by go_num, hjn, (fun _ => by have : 0 < k := hk0 (by omega); omega), rep_hid2 k j n hjn hh4, hb4⟩, rfl⟩
      case measure =>
        have h0 : 0 < j := hj0
        have hz : n - (RowKit.intOf (Value.int .i64 ((k : Int) + (j : Int)))).toNat < n - (RowKit.intOf (Value.int .i64 (k : Int))).toNat := by
          simp only [RowKit.intOf]
          omega
        exact hz
    · obtain rfl : k = n := by omega
      go_wp2_with fail
      go_ret
      exact ⟨rfl, hb, hh⟩
theorem c153 (n : Nat) (hn : n ≤ 1000000) : BCon Try.prog 153 [lv [-1], iv n] n (List.replicate n (iv (-1))) := by
  refine ⟨enters_of Try.func153 (by kernel_rfl) rfl, ?_⟩
  intro C w vs hC hl hv
  obtain ⟨x0, x1, rfl⟩ : ∃ x0 x1, vs = #[x0, x1] := by
    rcases vs with ⟨l⟩
    match l, hl with
    | [a, b], _ => exact ⟨a, b, rfl⟩
  have h0 := hv 0 x0 _ rfl rfl
  have h1 := hv 1 x1 _ rfl rfl
  cases h1
  cases h0 with
  | list sz xs tk A m c cv hm hc hmx hcell hrv htk =>
    obtain ⟨_, b, o, rfl, hj⟩ := hcell 0 _ rfl
    have hb := hC _ _ _ (hj 0 (by omega))
    have hr := hrv 0 _ 0 _ rfl rfl
    cases hm
    simp only [Nat.zero_mul, Nat.add_zero] at hb
    have e : cv 0 0 = .int .i64 (-1) := by
      have g : ∀ v, RV C noρ noτ v (iv (-1)) → v = .int .i64 (-1) := fun v h => by cases h; rfl
      exact g _ hr
    rw [e] at hb
    refine (r153_calls b o c n w hn hb.1).mono ?_
    rintro e w' ⟨rfl, hbel, hh⟩
    refine ⟨_, _, C, (repA n n).toArray, 3, rfl, Nat.le_refl _, by unfold maxLen; omega, hbel, fun _ _ _ h => h, fun _ _ _ h => .inl h, ?_, Nat.le_refl _, hh, ?_, ?_, ?_, ?_⟩
    · intro b o v h
      have := hC b o v h
      exact ⟨(hbel.cell (World.block_lt_of_cell? w _ this.1)).trans this.1, this.2⟩
    · simp [rep_len]
    · intro i v hi
      have hi := Array.getElem?_eq_some_iff.1 hi
      obtain ⟨h1, h2⟩ := hi
      simp [repA] at h2
      subst h2; rfl
    · intro i v x hi hx
      simp [repA] at hi hx
      obtain ⟨_, rfl⟩ := Array.getElem?_eq_some_iff.1 hi
      obtain ⟨_, rfl⟩ := List.getElem?_eq_some_iff.1 hx
      simp
      exact .v _ rfl
    · intro o
      match hco : C w.heap.size o with
      | none => rfl
      | some v => exact absurd (World.block_lt_of_cell? w _ (hC _ _ _ hco).1) (Nat.lt_irrefl _)
end Go.Sy

/- Contracts: shapes and sizes of conditions. -/
set_option linter.unusedSimpArgs false
namespace Go.Sy
open Go Go.Proofs

theorem ccs_len (c : Cd) : (ccs c).length = 9 := by obtain ⟨k, kids, m, g, sl, v, ts⟩ := c; rw [ccs_mk]; rfl
theorem ccs_take (c : Cd) : (ccs c).take 9 = ccs c := List.take_of_length_le (by rw [ccs_len]; exact Nat.le_refl _)
theorem ccs_fgt (c : Cd) : (ccs c).map fgt = ccs c := by obtain ⟨k, kids, m, g, sl, v, ts⟩ := c; rw [ccs_mk]; rfl
theorem ccs_clean (c : Cd) : (ccs c).all clean = true := by obtain ⟨k, kids, m, g, sl, v, ts⟩ := c; rw [ccs_mk]; rfl
theorem ccs_drop (c : Cd) : (ccs c).drop 9 = [] := List.drop_of_length_le (by rw [ccs_len]; exact Nat.le_refl _)
attribute [go_sem] ccs_len ccs_take ccs_fgt ccs_clean ccs_drop

theorem cv_mk (k : Int) (kids : List Cd) (m : Mo) (g : Gr) (sl : List (List AV)) (v : Int) (ts : List (List AV)) :
    cv (.mk k kids m g sl v ts) = .agg [iv k, .list 9 (kids.map ccs) .no, lv m.n, lv m.e, lv g.n, elv g.e, .list 4 sl .no, iv v, .list 5 ts .no] := by rw [cv, ccs_mk]
theorem shp_mk (k : Int) (kids : List Cd) (m : Mo) (g : Gr) (sl : List (List AV)) (v : Int) (ts : List (List AV)) :
    shp (.mk k kids m g sl v ts) = if okK k kids.length (unu m g && plnB sl v ts) = true then (if plnB sl v ts = true then 0 else 8) else 1 := rfl
theorem c127 : Con Try.prog 127 [] 0 (cv (.mk 1 [] ⟨[], []⟩ ⟨[], []⟩ [] 0 [])) := by
  refine conT (X := []) (rs := [.cell 0 69]) Try.func127 (by kernel_rfl) rfl rfl (by kernel_rfl) ?_
  simp (dsimp := false) (maxDischargeDepth := 16) only [go_sem, ↓reduceIte, reduceCtorEq, Nat.reduceEqDiff, Nat.reduceAdd, Nat.reduceMul, Nat.reduceSub, Nat.reduceLT, Nat.reduceLeDiff, Nat.reducePow, Int.reduceLT, Int.reduceLE, Int.reduceNeg, Int.reduceToNat]
  exact finK ⟨rfl, rfl⟩
theorem c159 (g : Gr) (sl : List (List AV)) (v : Int) (ts : List (List AV)) : Con Try.prog 159 [.agg (pcs g sl v ts)] 0 (bv (plnB sl v ts)) := by
  refine conT (X := []) (rs := [.tmp 2]) Try.func159 (by kernel_rfl) rfl rfl (by kernel_rfl) ?_
  simp (dsimp := false) (maxDischargeDepth := 16) only [go_sem, ↓reduceIte, reduceCtorEq, Nat.reduceEqDiff, Nat.reduceAdd, Nat.reduceMul, Nat.reduceSub, Nat.reduceLT, Nat.reduceLeDiff, Nat.reducePow, Int.reduceLT, Int.reduceLE, Int.reduceNeg, Int.reduceToNat]
  unfold plnB
  cases h1 : ((sl.length : Int) == 0) with
  | false => simp (dsimp := false) (maxDischargeDepth := 16) only [go_sem, ↓reduceIte, reduceCtorEq, Nat.reduceEqDiff, Nat.reduceAdd, Nat.reduceMul, Nat.reduceSub, Nat.reduceLT, Nat.reduceLeDiff, Nat.reducePow, Int.reduceLT, Int.reduceLE, Int.reduceNeg, Int.reduceToNat, h1]; exact finB rfl
  | true =>
    simp (dsimp := false) (maxDischargeDepth := 16) only [go_sem, ↓reduceIte, reduceCtorEq, Nat.reduceEqDiff, Nat.reduceAdd, Nat.reduceMul, Nat.reduceSub, Nat.reduceLT, Nat.reduceLeDiff, Nat.reducePow, Int.reduceLT, Int.reduceLE, Int.reduceNeg, Int.reduceToNat, h1]
    cases h2 : (v == 0) with
    | false => simp (dsimp := false) (maxDischargeDepth := 16) only [go_sem, ↓reduceIte, reduceCtorEq, Nat.reduceEqDiff, Nat.reduceAdd, Nat.reduceMul, Nat.reduceSub, Nat.reduceLT, Nat.reduceLeDiff, Nat.reducePow, Int.reduceLT, Int.reduceLE, Int.reduceNeg, Int.reduceToNat, h1, h2]; exact finB rfl
    | true =>
      simp (dsimp := false) (maxDischargeDepth := 16) only [go_sem, ↓reduceIte, reduceCtorEq, Nat.reduceEqDiff, Nat.reduceAdd, Nat.reduceMul, Nat.reduceSub, Nat.reduceLT, Nat.reduceLeDiff, Nat.reducePow, Int.reduceLT, Int.reduceLE, Int.reduceNeg, Int.reduceToNat, h1, h2]
      exact finB rfl
theorem c158 (k : Int) (kids : List Cd) (m : Mo) (g : Gr) (sl : List (List AV)) (v : Int) (ts : List (List AV)) : Con Try.prog 158 [cv (.mk k kids m g sl v ts)] 0 (bv (unu m g && plnB sl v ts)) := by
  have K := c159 g sl v ts
  generalize plnB sl v ts = B at *
  refine conT (X := []) (rs := [.tmp 2]) Try.func158 (by kernel_rfl) rfl rfl (by kernel_rfl) ?_
  simp (dsimp := false) (maxDischargeDepth := 16) only [go_sem, ↓reduceIte, reduceCtorEq, Nat.reduceEqDiff, Nat.reduceAdd, Nat.reduceMul, Nat.reduceSub, Nat.reduceLT, Nat.reduceLeDiff, Nat.reducePow, Int.reduceLT, Int.reduceLE, Int.reduceNeg, Int.reduceToNat]
  unfold unu
  cases h1 : ((m.n.length : Int) == 0) with
  | false => simp (dsimp := false) (maxDischargeDepth := 16) only [go_sem, ↓reduceIte, reduceCtorEq, Nat.reduceEqDiff, Nat.reduceAdd, Nat.reduceMul, Nat.reduceSub, Nat.reduceLT, Nat.reduceLeDiff, Nat.reducePow, Int.reduceLT, Int.reduceLE, Int.reduceNeg, Int.reduceToNat, h1]; exact finB rfl
  | true =>
    simp (dsimp := false) (maxDischargeDepth := 16) only [go_sem, ↓reduceIte, reduceCtorEq, Nat.reduceEqDiff, Nat.reduceAdd, Nat.reduceMul, Nat.reduceSub, Nat.reduceLT, Nat.reduceLeDiff, Nat.reducePow, Int.reduceLT, Int.reduceLE, Int.reduceNeg, Int.reduceToNat, h1]
    cases h2 : ((m.e.length : Int) == 0) with
    | false => simp (dsimp := false) (maxDischargeDepth := 16) only [go_sem, ↓reduceIte, reduceCtorEq, Nat.reduceEqDiff, Nat.reduceAdd, Nat.reduceMul, Nat.reduceSub, Nat.reduceLT, Nat.reduceLeDiff, Nat.reducePow, Int.reduceLT, Int.reduceLE, Int.reduceNeg, Int.reduceToNat, h1, h2]; exact finB rfl
    | true =>
      simp (dsimp := false) (maxDischargeDepth := 16) only [go_sem, ↓reduceIte, reduceCtorEq, Nat.reduceEqDiff, Nat.reduceAdd, Nat.reduceMul, Nat.reduceSub, Nat.reduceLT, Nat.reduceLeDiff, Nat.reducePow, Int.reduceLT, Int.reduceLE, Int.reduceNeg, Int.reduceToNat, h1, h2]
      cases h3 : ((g.n.length : Int) == 0) with
      | false => simp (dsimp := false) (maxDischargeDepth := 16) only [go_sem, ↓reduceIte, reduceCtorEq, Nat.reduceEqDiff, Nat.reduceAdd, Nat.reduceMul, Nat.reduceSub, Nat.reduceLT, Nat.reduceLeDiff, Nat.reducePow, Int.reduceLT, Int.reduceLE, Int.reduceNeg, Int.reduceToNat, h1, h2, h3]; exact finB rfl
      | true =>
        simp (dsimp := false) (maxDischargeDepth := 16) only [go_sem, ↓reduceIte, reduceCtorEq, Nat.reduceEqDiff, Nat.reduceAdd, Nat.reduceMul, Nat.reduceSub, Nat.reduceLT, Nat.reduceLeDiff, Nat.reducePow, Int.reduceLT, Int.reduceLE, Int.reduceNeg, Int.reduceToNat, h1, h2, h3]
        cases h4 : ((g.e.length : Int) == 0) with
        | false => simp (dsimp := false) (maxDischargeDepth := 16) only [go_sem, ↓reduceIte, reduceCtorEq, Nat.reduceEqDiff, Nat.reduceAdd, Nat.reduceMul, Nat.reduceSub, Nat.reduceLT, Nat.reduceLeDiff, Nat.reducePow, Int.reduceLT, Int.reduceLE, Int.reduceNeg, Int.reduceToNat, h1, h2, h3, h4]; exact finB rfl
        | true =>
          simp (dsimp := false) (maxDischargeDepth := 16) only [go_sem, ↓reduceIte, reduceCtorEq, Nat.reduceEqDiff, Nat.reduceAdd, Nat.reduceMul, Nat.reduceSub, Nat.reduceLT, Nat.reduceLeDiff, Nat.reducePow, Int.reduceLT, Int.reduceLE, Int.reduceNeg, Int.reduceToNat, h1, h2, h3, h4]
          refine callK_intro K ?_
          simp (dsimp := false) (maxDischargeDepth := 16) only [go_sem, ↓reduceIte, reduceCtorEq, Nat.reduceEqDiff, Nat.reduceAdd, Nat.reduceMul, Nat.reduceSub, Nat.reduceLT, Nat.reduceLeDiff, Nat.reducePow, Int.reduceLT, Int.reduceLE, Int.reduceNeg, Int.reduceToNat, h1, h2, h3, h4]
          exact finB rfl
/-- Its lists are short. -/
def shortC (m : Mo) (g : Gr) (sl ts : List (List AV)) : Prop := g.n.length ≤ 100 ∧ g.e.length ≤ 100 ∧ m.n.length ≤ 100 ∧ m.e.length ≤ 100 ∧ sl.length ≤ 100 ∧ ts.length ≤ 100
theorem c160 (k : Int) (kids : List Cd) (m : Mo) (g : Gr) (sl : List (List AV)) (v : Int) (ts : List (List AV)) (h : shortC m g sl ts) : Con Try.prog 160 [cv (.mk k kids m g sl v ts)] 0 (bv (unu m g && plnB sl v ts)) := by
  obtain ⟨h1, h2, h3, h4, h5, h6⟩ := h
  have w1 : IntKind.i64.wrap ((m.n.length : Int) + m.e.length) = (m.n.length : Int) + m.e.length := wrap_i64 _ (by omega) (by omega)
  have w2 : IntKind.i64.wrap ((m.n.length : Int) + m.e.length + g.n.length) = (m.n.length : Int) + m.e.length + g.n.length := wrap_i64 _ (by omega) (by omega)
  have w3 : IntKind.i64.wrap ((m.n.length : Int) + m.e.length + g.n.length + g.e.length) = (m.n.length : Int) + m.e.length + g.n.length + g.e.length := wrap_i64 _ (by omega) (by omega)
  have w4 : IntKind.i64.wrap ((m.n.length : Int) + m.e.length + g.n.length + g.e.length + sl.length) = (m.n.length : Int) + m.e.length + g.n.length + g.e.length + sl.length := wrap_i64 _ (by omega) (by omega)
  refine conT (X := []) (rs := [.tmp 2]) Try.func160 (by kernel_rfl) rfl rfl (by kernel_rfl) ?_
  simp (dsimp := false) (maxDischargeDepth := 16) only [go_sem, ↓reduceIte, reduceCtorEq, Nat.reduceEqDiff, Nat.reduceAdd, Nat.reduceMul, Nat.reduceSub, Nat.reduceLT, Nat.reduceLeDiff, Nat.reducePow, Int.reduceLT, Int.reduceLE, Int.reduceNeg, Int.reduceToNat, w1, w2, w3, w4]
  by_cases hv : v = 0
  · have w5 : IntKind.i64.wrap ((m.n.length : Int) + m.e.length + g.n.length + g.e.length + sl.length + v) = (m.n.length : Int) + m.e.length + g.n.length + g.e.length + sl.length := by rw [hv, wrap_i64 _ (by omega) (by omega)]; omega
    have w6 : IntKind.i64.wrap ((m.n.length : Int) + m.e.length + g.n.length + g.e.length + sl.length + ts.length) = (m.n.length : Int) + m.e.length + g.n.length + g.e.length + sl.length + ts.length := wrap_i64 _ (by omega) (by omega)
    have hv' : (v == 0) = true := by simp [hv]
    have e : (unu m g && plnB sl v ts) = ((m.n.length : Int) + m.e.length + g.n.length + g.e.length + sl.length + ts.length == 0) := by
      rw [Bool.eq_iff_iff]
      unfold unu plnB
      simp only [Bool.and_eq_true, beq_iff_eq]
      omega
    rw [e]
    simp (dsimp := false) (maxDischargeDepth := 16) only [go_sem, ↓reduceIte, reduceCtorEq, Nat.reduceEqDiff, Nat.reduceAdd, Nat.reduceMul, Nat.reduceSub, Nat.reduceLT, Nat.reduceLeDiff, Nat.reducePow, Int.reduceLT, Int.reduceLE, Int.reduceNeg, Int.reduceToNat, w5, w6]
    refine condK_intro (fun q => ?_) (fun q => ?_)
    · simp (dsimp := false) (maxDischargeDepth := 16) only [go_sem, ↓reduceIte, reduceCtorEq, Nat.reduceEqDiff, Nat.reduceAdd, Nat.reduceMul, Nat.reduceSub, Nat.reduceLT, Nat.reduceLeDiff, Nat.reducePow, Int.reduceLT, Int.reduceLE, Int.reduceNeg, Int.reduceToNat, q, hv', w5, w6]
      exact finB rfl
    · simp (dsimp := false) (maxDischargeDepth := 16) only [go_sem, ↓reduceIte, reduceCtorEq, Nat.reduceEqDiff, Nat.reduceAdd, Nat.reduceMul, Nat.reduceSub, Nat.reduceLT, Nat.reduceLeDiff, Nat.reducePow, Int.reduceLT, Int.reduceLE, Int.reduceNeg, Int.reduceToNat, q, w5, w6]
      exact finB rfl
  · have hv' : (v == 0) = false := by simp [hv]
    have e : (unu m g && plnB sl v ts) = false := by unfold plnB; rw [hv']; simp
    rw [e]
    refine condK_intro (fun q => ?_) (fun q => ?_)
    · simp (dsimp := false) (maxDischargeDepth := 16) only [go_sem, ↓reduceIte, reduceCtorEq, Nat.reduceEqDiff, Nat.reduceAdd, Nat.reduceMul, Nat.reduceSub, Nat.reduceLT, Nat.reduceLeDiff, Nat.reducePow, Int.reduceLT, Int.reduceLE, Int.reduceNeg, Int.reduceToNat, q, hv', w1, w2, w3, w4]
      exact finB rfl
    · simp (dsimp := false) (maxDischargeDepth := 16) only [go_sem, ↓reduceIte, reduceCtorEq, Nat.reduceEqDiff, Nat.reduceAdd, Nat.reduceMul, Nat.reduceSub, Nat.reduceLT, Nat.reduceLeDiff, Nat.reducePow, Int.reduceLT, Int.reduceLE, Int.reduceNeg, Int.reduceToNat, q, w1, w2, w3, w4]
      exact finB rfl
theorem not_k {k n : Int} (h : k ≠ n) : (k == n) = false := by simpa using h
theorem c142 (k : Int) (kids : List Cd) (m : Mo) (g : Gr) (sl : List (List AV)) (v : Int) (ts : List (List AV)) : Con Try.prog 142 [cv (.mk k kids m g sl v ts)] 0 (iv (shp (.mk k kids m g sl v ts))) := by
  have K1 := c158 k kids m g sl v ts
  rw [cv_mk] at K1
  have K2 := c159 g sl v ts
  rw [shp_mk]
  unfold okK
  generalize (unu m g && plnB sl v ts) = U at *
  generalize plnB sl v ts = B at *
  by_cases e1 : k = 1
  · subst e1
    simp (dsimp := false) only [↓reduceIte]
    refine conT (X := []) (rs := [.tmp 2]) Try.func142 (by kernel_rfl) rfl rfl (by kernel_rfl) ?_
    simp (dsimp := false) (maxDischargeDepth := 16) only [go_sem, ↓reduceIte, reduceCtorEq, Nat.reduceEqDiff, Nat.reduceAdd, Nat.reduceMul, Nat.reduceSub, Nat.reduceLT, Nat.reduceLeDiff, Nat.reducePow, Int.reduceLT, Int.reduceLE, Int.reduceNeg, Int.reduceToNat]
    refine condK_intro (fun q => ?_) (fun q => absurd q (by decide))
    simp (dsimp := false) (maxDischargeDepth := 16) only [go_sem, ↓reduceIte, reduceCtorEq, Nat.reduceEqDiff, Nat.reduceAdd, Nat.reduceMul, Nat.reduceSub, Nat.reduceLT, Nat.reduceLeDiff, Nat.reducePow, Int.reduceLT, Int.reduceLE, Int.reduceNeg, Int.reduceToNat, q]
    cases h1 : ((kids.length : Int) == 0) with
    | false => simp (dsimp := false) (maxDischargeDepth := 16) only [go_sem, ↓reduceIte, reduceCtorEq, Nat.reduceEqDiff, Nat.reduceAdd, Nat.reduceMul, Nat.reduceSub, Nat.reduceLT, Nat.reduceLeDiff, Nat.reducePow, Int.reduceLT, Int.reduceLE, Int.reduceNeg, Int.reduceToNat, h1]; exact finI (by simp)
    | true =>
      simp (dsimp := false) (maxDischargeDepth := 16) only [go_sem, ↓reduceIte, reduceCtorEq, Nat.reduceEqDiff, Nat.reduceAdd, Nat.reduceMul, Nat.reduceSub, Nat.reduceLT, Nat.reduceLeDiff, Nat.reducePow, Int.reduceLT, Int.reduceLE, Int.reduceNeg, Int.reduceToNat, h1]
      refine callK_intro K1 ?_
      cases U with
      | false => simp (dsimp := false) (maxDischargeDepth := 16) only [go_sem, ↓reduceIte, reduceCtorEq, Nat.reduceEqDiff, Nat.reduceAdd, Nat.reduceMul, Nat.reduceSub, Nat.reduceLT, Nat.reduceLeDiff, Nat.reducePow, Int.reduceLT, Int.reduceLE, Int.reduceNeg, Int.reduceToNat, h1]; exact finI (by simp)
      | true =>
        simp (dsimp := false) (maxDischargeDepth := 16) only [go_sem, ↓reduceIte, reduceCtorEq, Nat.reduceEqDiff, Nat.reduceAdd, Nat.reduceMul, Nat.reduceSub, Nat.reduceLT, Nat.reduceLeDiff, Nat.reducePow, Int.reduceLT, Int.reduceLE, Int.reduceNeg, Int.reduceToNat, h1]
        refine callK_intro K2 ?_
        cases B with
        | false => simp (dsimp := false) (maxDischargeDepth := 16) only [go_sem, ↓reduceIte, reduceCtorEq, Nat.reduceEqDiff, Nat.reduceAdd, Nat.reduceMul, Nat.reduceSub, Nat.reduceLT, Nat.reduceLeDiff, Nat.reducePow, Int.reduceLT, Int.reduceLE, Int.reduceNeg, Int.reduceToNat, h1]; exact finI (by simp)
        | true => simp (dsimp := false) (maxDischargeDepth := 16) only [go_sem, ↓reduceIte, reduceCtorEq, Nat.reduceEqDiff, Nat.reduceAdd, Nat.reduceMul, Nat.reduceSub, Nat.reduceLT, Nat.reduceLeDiff, Nat.reducePow, Int.reduceLT, Int.reduceLE, Int.reduceNeg, Int.reduceToNat, h1]; exact finI (by simp)
  by_cases e2 : k = 2
  · subst e2
    simp (dsimp := false) only [Int.reduceEq, ↓reduceIte]
    refine conT (X := []) (rs := [.tmp 2]) Try.func142 (by kernel_rfl) rfl rfl (by kernel_rfl) ?_
    simp (dsimp := false) (maxDischargeDepth := 16) only [go_sem, ↓reduceIte, reduceCtorEq, Nat.reduceEqDiff, Nat.reduceAdd, Nat.reduceMul, Nat.reduceSub, Nat.reduceLT, Nat.reduceLeDiff, Nat.reducePow, Int.reduceLT, Int.reduceLE, Int.reduceNeg, Int.reduceToNat]
    refine condK_intro (fun q => absurd q (by decide)) (fun q => ?_)
    simp (dsimp := false) (maxDischargeDepth := 16) only [go_sem, ↓reduceIte, reduceCtorEq, Nat.reduceEqDiff, Nat.reduceAdd, Nat.reduceMul, Nat.reduceSub, Nat.reduceLT, Nat.reduceLeDiff, Nat.reducePow, Int.reduceLT, Int.reduceLE, Int.reduceNeg, Int.reduceToNat, q]
    refine condK_intro (fun q2 => ?_) (fun q => absurd q (by decide))
    simp (dsimp := false) (maxDischargeDepth := 16) only [go_sem, ↓reduceIte, reduceCtorEq, Nat.reduceEqDiff, Nat.reduceAdd, Nat.reduceMul, Nat.reduceSub, Nat.reduceLT, Nat.reduceLeDiff, Nat.reducePow, Int.reduceLT, Int.reduceLE, Int.reduceNeg, Int.reduceToNat, q, q2]
    cases h1 : ((kids.length : Int) == 1) with
    | false => simp (dsimp := false) (maxDischargeDepth := 16) only [go_sem, ↓reduceIte, reduceCtorEq, Nat.reduceEqDiff, Nat.reduceAdd, Nat.reduceMul, Nat.reduceSub, Nat.reduceLT, Nat.reduceLeDiff, Nat.reducePow, Int.reduceLT, Int.reduceLE, Int.reduceNeg, Int.reduceToNat, h1]; exact finI (by simp)
    | true =>
      simp (dsimp := false) (maxDischargeDepth := 16) only [go_sem, ↓reduceIte, reduceCtorEq, Nat.reduceEqDiff, Nat.reduceAdd, Nat.reduceMul, Nat.reduceSub, Nat.reduceLT, Nat.reduceLeDiff, Nat.reducePow, Int.reduceLT, Int.reduceLE, Int.reduceNeg, Int.reduceToNat, h1]
      refine callK_intro K1 ?_
      cases U with
      | false => simp (dsimp := false) (maxDischargeDepth := 16) only [go_sem, ↓reduceIte, reduceCtorEq, Nat.reduceEqDiff, Nat.reduceAdd, Nat.reduceMul, Nat.reduceSub, Nat.reduceLT, Nat.reduceLeDiff, Nat.reducePow, Int.reduceLT, Int.reduceLE, Int.reduceNeg, Int.reduceToNat, h1]; exact finI (by simp)
      | true =>
        simp (dsimp := false) (maxDischargeDepth := 16) only [go_sem, ↓reduceIte, reduceCtorEq, Nat.reduceEqDiff, Nat.reduceAdd, Nat.reduceMul, Nat.reduceSub, Nat.reduceLT, Nat.reduceLeDiff, Nat.reducePow, Int.reduceLT, Int.reduceLE, Int.reduceNeg, Int.reduceToNat, h1]
        refine callK_intro K2 ?_
        cases B with
        | false => simp (dsimp := false) (maxDischargeDepth := 16) only [go_sem, ↓reduceIte, reduceCtorEq, Nat.reduceEqDiff, Nat.reduceAdd, Nat.reduceMul, Nat.reduceSub, Nat.reduceLT, Nat.reduceLeDiff, Nat.reducePow, Int.reduceLT, Int.reduceLE, Int.reduceNeg, Int.reduceToNat, h1]; exact finI (by simp)
        | true => simp (dsimp := false) (maxDischargeDepth := 16) only [go_sem, ↓reduceIte, reduceCtorEq, Nat.reduceEqDiff, Nat.reduceAdd, Nat.reduceMul, Nat.reduceSub, Nat.reduceLT, Nat.reduceLeDiff, Nat.reducePow, Int.reduceLT, Int.reduceLE, Int.reduceNeg, Int.reduceToNat, h1]; exact finI (by simp)
  by_cases e3 : k = 3 ∨ k = 4
  · rw [if_neg e1, if_neg e2, if_pos e3]
    have n1 := not_k e1
    have n2 := not_k e2
    refine conT (X := []) (rs := [.tmp 2]) Try.func142 (by kernel_rfl) rfl rfl (by kernel_rfl) ?_
    rcases e3 with rfl | rfl
    · simp (dsimp := false) (maxDischargeDepth := 16) only [go_sem, ↓reduceIte, reduceCtorEq, Nat.reduceEqDiff, Nat.reduceAdd, Nat.reduceMul, Nat.reduceSub, Nat.reduceLT, Nat.reduceLeDiff, Nat.reducePow, Int.reduceLT, Int.reduceLE, Int.reduceNeg, Int.reduceToNat, n1, n2]
      refine condK_intro (fun q => ?_) (fun q => absurd q (by decide))
      simp (dsimp := false) (maxDischargeDepth := 16) only [go_sem, ↓reduceIte, reduceCtorEq, Nat.reduceEqDiff, Nat.reduceAdd, Nat.reduceMul, Nat.reduceSub, Nat.reduceLT, Nat.reduceLeDiff, Nat.reducePow, Int.reduceLT, Int.reduceLE, Int.reduceNeg, Int.reduceToNat, q, n1, n2]
      cases h1 : (decide (0 < (kids.length : Int))) with
      | false => simp (dsimp := false) (maxDischargeDepth := 16) only [go_sem, ↓reduceIte, reduceCtorEq, Nat.reduceEqDiff, Nat.reduceAdd, Nat.reduceMul, Nat.reduceSub, Nat.reduceLT, Nat.reduceLeDiff, Nat.reducePow, Int.reduceLT, Int.reduceLE, Int.reduceNeg, Int.reduceToNat, h1]; exact finI (by simp)
      | true =>
        simp (dsimp := false) (maxDischargeDepth := 16) only [go_sem, ↓reduceIte, reduceCtorEq, Nat.reduceEqDiff, Nat.reduceAdd, Nat.reduceMul, Nat.reduceSub, Nat.reduceLT, Nat.reduceLeDiff, Nat.reducePow, Int.reduceLT, Int.reduceLE, Int.reduceNeg, Int.reduceToNat, h1]
        refine callK_intro K1 ?_
        cases U with
        | false => simp (dsimp := false) (maxDischargeDepth := 16) only [go_sem, ↓reduceIte, reduceCtorEq, Nat.reduceEqDiff, Nat.reduceAdd, Nat.reduceMul, Nat.reduceSub, Nat.reduceLT, Nat.reduceLeDiff, Nat.reducePow, Int.reduceLT, Int.reduceLE, Int.reduceNeg, Int.reduceToNat, h1]; exact finI (by simp)
        | true =>
          simp (dsimp := false) (maxDischargeDepth := 16) only [go_sem, ↓reduceIte, reduceCtorEq, Nat.reduceEqDiff, Nat.reduceAdd, Nat.reduceMul, Nat.reduceSub, Nat.reduceLT, Nat.reduceLeDiff, Nat.reducePow, Int.reduceLT, Int.reduceLE, Int.reduceNeg, Int.reduceToNat, h1]
          refine callK_intro K2 ?_
          cases B with
          | false => simp (dsimp := false) (maxDischargeDepth := 16) only [go_sem, ↓reduceIte, reduceCtorEq, Nat.reduceEqDiff, Nat.reduceAdd, Nat.reduceMul, Nat.reduceSub, Nat.reduceLT, Nat.reduceLeDiff, Nat.reducePow, Int.reduceLT, Int.reduceLE, Int.reduceNeg, Int.reduceToNat, h1]; exact finI (by simp)
          | true => simp (dsimp := false) (maxDischargeDepth := 16) only [go_sem, ↓reduceIte, reduceCtorEq, Nat.reduceEqDiff, Nat.reduceAdd, Nat.reduceMul, Nat.reduceSub, Nat.reduceLT, Nat.reduceLeDiff, Nat.reducePow, Int.reduceLT, Int.reduceLE, Int.reduceNeg, Int.reduceToNat, h1]; exact finI (by simp)
    · simp (dsimp := false) (maxDischargeDepth := 16) only [go_sem, ↓reduceIte, reduceCtorEq, Nat.reduceEqDiff, Nat.reduceAdd, Nat.reduceMul, Nat.reduceSub, Nat.reduceLT, Nat.reduceLeDiff, Nat.reducePow, Int.reduceLT, Int.reduceLE, Int.reduceNeg, Int.reduceToNat, n1, n2]
      refine condK_intro (fun q => absurd q (by decide)) (fun q => ?_)
      simp (dsimp := false) (maxDischargeDepth := 16) only [go_sem, ↓reduceIte, reduceCtorEq, Nat.reduceEqDiff, Nat.reduceAdd, Nat.reduceMul, Nat.reduceSub, Nat.reduceLT, Nat.reduceLeDiff, Nat.reducePow, Int.reduceLT, Int.reduceLE, Int.reduceNeg, Int.reduceToNat, q, n1, n2]
      refine condK_intro (fun q2 => ?_) (fun q => absurd q (by decide))
      simp (dsimp := false) (maxDischargeDepth := 16) only [go_sem, ↓reduceIte, reduceCtorEq, Nat.reduceEqDiff, Nat.reduceAdd, Nat.reduceMul, Nat.reduceSub, Nat.reduceLT, Nat.reduceLeDiff, Nat.reducePow, Int.reduceLT, Int.reduceLE, Int.reduceNeg, Int.reduceToNat, q, q2, n1, n2]
      cases h1 : (decide (0 < (kids.length : Int))) with
      | false => simp (dsimp := false) (maxDischargeDepth := 16) only [go_sem, ↓reduceIte, reduceCtorEq, Nat.reduceEqDiff, Nat.reduceAdd, Nat.reduceMul, Nat.reduceSub, Nat.reduceLT, Nat.reduceLeDiff, Nat.reducePow, Int.reduceLT, Int.reduceLE, Int.reduceNeg, Int.reduceToNat, h1]; exact finI (by simp)
      | true =>
        simp (dsimp := false) (maxDischargeDepth := 16) only [go_sem, ↓reduceIte, reduceCtorEq, Nat.reduceEqDiff, Nat.reduceAdd, Nat.reduceMul, Nat.reduceSub, Nat.reduceLT, Nat.reduceLeDiff, Nat.reducePow, Int.reduceLT, Int.reduceLE, Int.reduceNeg, Int.reduceToNat, h1]
        refine callK_intro K1 ?_
        cases U with
        | false => simp (dsimp := false) (maxDischargeDepth := 16) only [go_sem, ↓reduceIte, reduceCtorEq, Nat.reduceEqDiff, Nat.reduceAdd, Nat.reduceMul, Nat.reduceSub, Nat.reduceLT, Nat.reduceLeDiff, Nat.reducePow, Int.reduceLT, Int.reduceLE, Int.reduceNeg, Int.reduceToNat, h1]; exact finI (by simp)
        | true =>
          simp (dsimp := false) (maxDischargeDepth := 16) only [go_sem, ↓reduceIte, reduceCtorEq, Nat.reduceEqDiff, Nat.reduceAdd, Nat.reduceMul, Nat.reduceSub, Nat.reduceLT, Nat.reduceLeDiff, Nat.reducePow, Int.reduceLT, Int.reduceLE, Int.reduceNeg, Int.reduceToNat, h1]
          refine callK_intro K2 ?_
          cases B with
          | false => simp (dsimp := false) (maxDischargeDepth := 16) only [go_sem, ↓reduceIte, reduceCtorEq, Nat.reduceEqDiff, Nat.reduceAdd, Nat.reduceMul, Nat.reduceSub, Nat.reduceLT, Nat.reduceLeDiff, Nat.reducePow, Int.reduceLT, Int.reduceLE, Int.reduceNeg, Int.reduceToNat, h1]; exact finI (by simp)
          | true => simp (dsimp := false) (maxDischargeDepth := 16) only [go_sem, ↓reduceIte, reduceCtorEq, Nat.reduceEqDiff, Nat.reduceAdd, Nat.reduceMul, Nat.reduceSub, Nat.reduceLT, Nat.reduceLeDiff, Nat.reducePow, Int.reduceLT, Int.reduceLE, Int.reduceNeg, Int.reduceToNat, h1]; exact finI (by simp)
  rw [if_neg e1, if_neg e2, if_neg e3]
  have n1 := not_k e1
  have n2 := not_k e2
  have n3 := not_k (fun h => e3 (.inl h))
  have n4 := not_k (fun h => e3 (.inr h))
  by_cases e5 : k = 5
  · rw [if_pos e5]
    have n5 : (k == 5) = true := by simp [e5]
    refine conT (X := []) (rs := [.tmp 2]) Try.func142 (by kernel_rfl) rfl rfl (by kernel_rfl) ?_
    simp (dsimp := false) (maxDischargeDepth := 16) only [go_sem, ↓reduceIte, reduceCtorEq, Nat.reduceEqDiff, Nat.reduceAdd, Nat.reduceMul, Nat.reduceSub, Nat.reduceLT, Nat.reduceLeDiff, Nat.reducePow, Int.reduceLT, Int.reduceLE, Int.reduceNeg, Int.reduceToNat, n1, n2, n3, n4, n5]
    cases h1 : ((kids.length : Int) == 1) with
    | false => simp (dsimp := false) (maxDischargeDepth := 16) only [go_sem, ↓reduceIte, reduceCtorEq, Nat.reduceEqDiff, Nat.reduceAdd, Nat.reduceMul, Nat.reduceSub, Nat.reduceLT, Nat.reduceLeDiff, Nat.reducePow, Int.reduceLT, Int.reduceLE, Int.reduceNeg, Int.reduceToNat, h1]; exact finI (by simp)
    | true =>
      simp (dsimp := false) (maxDischargeDepth := 16) only [go_sem, ↓reduceIte, reduceCtorEq, Nat.reduceEqDiff, Nat.reduceAdd, Nat.reduceMul, Nat.reduceSub, Nat.reduceLT, Nat.reduceLeDiff, Nat.reducePow, Int.reduceLT, Int.reduceLE, Int.reduceNeg, Int.reduceToNat, h1]
      refine callK_intro K2 ?_
      cases B with
      | false => simp (dsimp := false) (maxDischargeDepth := 16) only [go_sem, ↓reduceIte, reduceCtorEq, Nat.reduceEqDiff, Nat.reduceAdd, Nat.reduceMul, Nat.reduceSub, Nat.reduceLT, Nat.reduceLeDiff, Nat.reducePow, Int.reduceLT, Int.reduceLE, Int.reduceNeg, Int.reduceToNat, h1]; exact finI (by simp)
      | true => simp (dsimp := false) (maxDischargeDepth := 16) only [go_sem, ↓reduceIte, reduceCtorEq, Nat.reduceEqDiff, Nat.reduceAdd, Nat.reduceMul, Nat.reduceSub, Nat.reduceLT, Nat.reduceLeDiff, Nat.reducePow, Int.reduceLT, Int.reduceLE, Int.reduceNeg, Int.reduceToNat, h1]; exact finI (by simp)
  · rw [if_neg e5]
    have n5 := not_k e5
    refine conT (X := []) (rs := [.tmp 2]) Try.func142 (by kernel_rfl) rfl rfl (by kernel_rfl) ?_
    simp (dsimp := false) (maxDischargeDepth := 16) only [go_sem, ↓reduceIte, reduceCtorEq, Nat.reduceEqDiff, Nat.reduceAdd, Nat.reduceMul, Nat.reduceSub, Nat.reduceLT, Nat.reduceLeDiff, Nat.reducePow, Int.reduceLT, Int.reduceLE, Int.reduceNeg, Int.reduceToNat, n1, n2, n3, n4, n5]
    exact finI (by simp)
theorem c143 (k : Int) (kids : List Cd) (m : Mo) (g : Gr) (sl : List (List AV)) (v : Int) (ts : List (List AV)) (h : shortC m g sl ts) : Con Try.prog 143 [cv (.mk k kids m g sl v ts)] 0 (iv (shp (.mk k kids m g sl v ts))) := by
  have K1 := c160 k kids m g sl v ts h
  rw [cv_mk] at K1
  rw [shp_mk]
  unfold okK
  have eU : unu m g = false → (unu m g && plnB sl v ts) = false := fun h => by rw [h]; rfl
  have eB : (unu m g && plnB sl v ts) = true → plnB sl v ts = true := fun h => (Bool.and_eq_true _ _ ▸ h).2
  have e5 : plnB sl v ts = ((sl.length : Int) == 0 && (v == 0 && (ts.length : Int) == 0)) := rfl
  generalize (unu m g && plnB sl v ts) = U at *
  by_cases e1 : k = 1
  · subst e1
    simp (dsimp := false) only [↓reduceIte]
    refine conT (X := []) (rs := [.tmp 2]) Try.func143 (by kernel_rfl) rfl rfl (by kernel_rfl) ?_
    simp (dsimp := false) (maxDischargeDepth := 16) only [go_sem, ↓reduceIte, reduceCtorEq, Nat.reduceEqDiff, Nat.reduceAdd, Nat.reduceMul, Nat.reduceSub, Nat.reduceLT, Nat.reduceLeDiff, Nat.reducePow, Int.reduceLT, Int.reduceLE, Int.reduceNeg, Int.reduceToNat]
    refine condK_intro (fun q => ?_) (fun q => absurd q (by decide))
    simp (dsimp := false) (maxDischargeDepth := 16) only [go_sem, ↓reduceIte, reduceCtorEq, Nat.reduceEqDiff, Nat.reduceAdd, Nat.reduceMul, Nat.reduceSub, Nat.reduceLT, Nat.reduceLeDiff, Nat.reducePow, Int.reduceLT, Int.reduceLE, Int.reduceNeg, Int.reduceToNat, q]
    by_cases h1 : (0 : Int) < kids.length
    · simp (dsimp := false) (maxDischargeDepth := 16) only [go_sem, ↓reduceIte, reduceCtorEq, Nat.reduceEqDiff, Nat.reduceAdd, Nat.reduceMul, Nat.reduceSub, Nat.reduceLT, Nat.reduceLeDiff, Nat.reducePow, Int.reduceLT, Int.reduceLE, Int.reduceNeg, Int.reduceToNat, h1]
      have : ((kids.length : Int) == 0) = false := by simp; intro h; simp [h] at h1
      exact finI (by simp [this])
    · have h2 : ((kids.length : Int) == 0) = true := by simp; exact List.eq_nil_of_length_eq_zero (by omega)
      simp (dsimp := false) (maxDischargeDepth := 16) only [go_sem, ↓reduceIte, reduceCtorEq, Nat.reduceEqDiff, Nat.reduceAdd, Nat.reduceMul, Nat.reduceSub, Nat.reduceLT, Nat.reduceLeDiff, Nat.reducePow, Int.reduceLT, Int.reduceLE, Int.reduceNeg, Int.reduceToNat, h1]
      refine callK_intro K1 ?_
      cases U with
      | false => simp (dsimp := false) (maxDischargeDepth := 16) only [go_sem, ↓reduceIte, reduceCtorEq, Nat.reduceEqDiff, Nat.reduceAdd, Nat.reduceMul, Nat.reduceSub, Nat.reduceLT, Nat.reduceLeDiff, Nat.reducePow, Int.reduceLT, Int.reduceLE, Int.reduceNeg, Int.reduceToNat, h1]; exact finI (by simp)
      | true =>
        simp (dsimp := false) (maxDischargeDepth := 16) only [go_sem, ↓reduceIte, reduceCtorEq, Nat.reduceEqDiff, Nat.reduceAdd, Nat.reduceMul, Nat.reduceSub, Nat.reduceLT, Nat.reduceLeDiff, Nat.reducePow, Int.reduceLT, Int.reduceLE, Int.reduceNeg, Int.reduceToNat, h1]
        exact finI (by simp [h2, eB rfl])
  by_cases e2 : k = 2
  · subst e2
    simp (dsimp := false) only [Int.reduceEq, ↓reduceIte]
    refine conT (X := []) (rs := [.tmp 2]) Try.func143 (by kernel_rfl) rfl rfl (by kernel_rfl) ?_
    simp (dsimp := false) (maxDischargeDepth := 16) only [go_sem, ↓reduceIte, reduceCtorEq, Nat.reduceEqDiff, Nat.reduceAdd, Nat.reduceMul, Nat.reduceSub, Nat.reduceLT, Nat.reduceLeDiff, Nat.reducePow, Int.reduceLT, Int.reduceLE, Int.reduceNeg, Int.reduceToNat]
    refine condK_intro (fun q => absurd q (by decide)) (fun q => ?_)
    simp (dsimp := false) (maxDischargeDepth := 16) only [go_sem, ↓reduceIte, reduceCtorEq, Nat.reduceEqDiff, Nat.reduceAdd, Nat.reduceMul, Nat.reduceSub, Nat.reduceLT, Nat.reduceLeDiff, Nat.reducePow, Int.reduceLT, Int.reduceLE, Int.reduceNeg, Int.reduceToNat, q]
    refine condK_intro (fun q2 => ?_) (fun q => absurd q (by decide))
    simp (dsimp := false) (maxDischargeDepth := 16) only [go_sem, ↓reduceIte, reduceCtorEq, Nat.reduceEqDiff, Nat.reduceAdd, Nat.reduceMul, Nat.reduceSub, Nat.reduceLT, Nat.reduceLeDiff, Nat.reducePow, Int.reduceLT, Int.reduceLE, Int.reduceNeg, Int.reduceToNat, q, q2]
    cases h1 : ((kids.length : Int) == 1) with
    | false =>
      have h2 : ((kids.length : Int) != 1) = true := by rw [bne, h1]; rfl
      simp (dsimp := false) (maxDischargeDepth := 16) only [go_sem, ↓reduceIte, reduceCtorEq, Nat.reduceEqDiff, Nat.reduceAdd, Nat.reduceMul, Nat.reduceSub, Nat.reduceLT, Nat.reduceLeDiff, Nat.reducePow, Int.reduceLT, Int.reduceLE, Int.reduceNeg, Int.reduceToNat, h2]; exact finI (by simp)
    | true =>
      have h2 : ((kids.length : Int) != 1) = false := by rw [bne, h1]; rfl
      simp (dsimp := false) (maxDischargeDepth := 16) only [go_sem, ↓reduceIte, reduceCtorEq, Nat.reduceEqDiff, Nat.reduceAdd, Nat.reduceMul, Nat.reduceSub, Nat.reduceLT, Nat.reduceLeDiff, Nat.reducePow, Int.reduceLT, Int.reduceLE, Int.reduceNeg, Int.reduceToNat, h2]
      refine callK_intro K1 ?_
      cases U with
      | false => simp (dsimp := false) (maxDischargeDepth := 16) only [go_sem, ↓reduceIte, reduceCtorEq, Nat.reduceEqDiff, Nat.reduceAdd, Nat.reduceMul, Nat.reduceSub, Nat.reduceLT, Nat.reduceLeDiff, Nat.reducePow, Int.reduceLT, Int.reduceLE, Int.reduceNeg, Int.reduceToNat, h2]; exact finI (by simp)
      | true => simp (dsimp := false) (maxDischargeDepth := 16) only [go_sem, ↓reduceIte, reduceCtorEq, Nat.reduceEqDiff, Nat.reduceAdd, Nat.reduceMul, Nat.reduceSub, Nat.reduceLT, Nat.reduceLeDiff, Nat.reducePow, Int.reduceLT, Int.reduceLE, Int.reduceNeg, Int.reduceToNat, h2]; exact finI (by simp [eB rfl])
  by_cases e3 : k = 3 ∨ k = 4
  · rw [if_neg e1, if_neg e2, if_pos e3]
    have n1 := not_k e1
    have n2 := not_k e2
    refine conT (X := []) (rs := [.tmp 2]) Try.func143 (by kernel_rfl) rfl rfl (by kernel_rfl) ?_
    rcases e3 with rfl | rfl
    · simp (dsimp := false) (maxDischargeDepth := 16) only [go_sem, ↓reduceIte, reduceCtorEq, Nat.reduceEqDiff, Nat.reduceAdd, Nat.reduceMul, Nat.reduceSub, Nat.reduceLT, Nat.reduceLeDiff, Nat.reducePow, Int.reduceLT, Int.reduceLE, Int.reduceNeg, Int.reduceToNat, n1, n2]
      refine condK_intro (fun q => ?_) (fun q => absurd q (by decide))
      simp (dsimp := false) (maxDischargeDepth := 16) only [go_sem, ↓reduceIte, reduceCtorEq, Nat.reduceEqDiff, Nat.reduceAdd, Nat.reduceMul, Nat.reduceSub, Nat.reduceLT, Nat.reduceLeDiff, Nat.reducePow, Int.reduceLT, Int.reduceLE, Int.reduceNeg, Int.reduceToNat, q, n1, n2]
      cases h1 : ((kids.length : Int) == 0) with
      | true =>
        have h2 : decide ((0 : Int) < kids.length) = false := by have := beq_iff_eq.1 h1; simp; simpa using this
        simp (dsimp := false) (maxDischargeDepth := 16) only [go_sem, ↓reduceIte, reduceCtorEq, Nat.reduceEqDiff, Nat.reduceAdd, Nat.reduceMul, Nat.reduceSub, Nat.reduceLT, Nat.reduceLeDiff, Nat.reducePow, Int.reduceLT, Int.reduceLE, Int.reduceNeg, Int.reduceToNat, h1]; exact finI (by rw [h2]; simp)
      | false =>
        have h2 : decide ((0 : Int) < kids.length) = true := by have := beqF h1; simp; exact List.length_pos_iff.2 (by simpa using this)
        simp (dsimp := false) (maxDischargeDepth := 16) only [go_sem, ↓reduceIte, reduceCtorEq, Nat.reduceEqDiff, Nat.reduceAdd, Nat.reduceMul, Nat.reduceSub, Nat.reduceLT, Nat.reduceLeDiff, Nat.reducePow, Int.reduceLT, Int.reduceLE, Int.reduceNeg, Int.reduceToNat, h1]
        refine callK_intro K1 ?_
        cases U with
        | false => simp (dsimp := false) (maxDischargeDepth := 16) only [go_sem, ↓reduceIte, reduceCtorEq, Nat.reduceEqDiff, Nat.reduceAdd, Nat.reduceMul, Nat.reduceSub, Nat.reduceLT, Nat.reduceLeDiff, Nat.reducePow, Int.reduceLT, Int.reduceLE, Int.reduceNeg, Int.reduceToNat, h1]; exact finI (by simp)
        | true => simp (dsimp := false) (maxDischargeDepth := 16) only [go_sem, ↓reduceIte, reduceCtorEq, Nat.reduceEqDiff, Nat.reduceAdd, Nat.reduceMul, Nat.reduceSub, Nat.reduceLT, Nat.reduceLeDiff, Nat.reducePow, Int.reduceLT, Int.reduceLE, Int.reduceNeg, Int.reduceToNat, h1]; exact finI (by rw [h2]; simp [eB rfl])
    · simp (dsimp := false) (maxDischargeDepth := 16) only [go_sem, ↓reduceIte, reduceCtorEq, Nat.reduceEqDiff, Nat.reduceAdd, Nat.reduceMul, Nat.reduceSub, Nat.reduceLT, Nat.reduceLeDiff, Nat.reducePow, Int.reduceLT, Int.reduceLE, Int.reduceNeg, Int.reduceToNat, n1, n2]
      refine condK_intro (fun q => absurd q (by decide)) (fun q => ?_)
      simp (dsimp := false) (maxDischargeDepth := 16) only [go_sem, ↓reduceIte, reduceCtorEq, Nat.reduceEqDiff, Nat.reduceAdd, Nat.reduceMul, Nat.reduceSub, Nat.reduceLT, Nat.reduceLeDiff, Nat.reducePow, Int.reduceLT, Int.reduceLE, Int.reduceNeg, Int.reduceToNat, q, n1, n2]
      refine condK_intro (fun q2 => ?_) (fun q => absurd q (by decide))
      simp (dsimp := false) (maxDischargeDepth := 16) only [go_sem, ↓reduceIte, reduceCtorEq, Nat.reduceEqDiff, Nat.reduceAdd, Nat.reduceMul, Nat.reduceSub, Nat.reduceLT, Nat.reduceLeDiff, Nat.reducePow, Int.reduceLT, Int.reduceLE, Int.reduceNeg, Int.reduceToNat, q, q2, n1, n2]
      cases h1 : ((kids.length : Int) == 0) with
      | true =>
        have h2 : decide ((0 : Int) < kids.length) = false := by have := beq_iff_eq.1 h1; simp; simpa using this
        simp (dsimp := false) (maxDischargeDepth := 16) only [go_sem, ↓reduceIte, reduceCtorEq, Nat.reduceEqDiff, Nat.reduceAdd, Nat.reduceMul, Nat.reduceSub, Nat.reduceLT, Nat.reduceLeDiff, Nat.reducePow, Int.reduceLT, Int.reduceLE, Int.reduceNeg, Int.reduceToNat, h1]; exact finI (by rw [h2]; simp)
      | false =>
        have h2 : decide ((0 : Int) < kids.length) = true := by have := beqF h1; simp; exact List.length_pos_iff.2 (by simpa using this)
        simp (dsimp := false) (maxDischargeDepth := 16) only [go_sem, ↓reduceIte, reduceCtorEq, Nat.reduceEqDiff, Nat.reduceAdd, Nat.reduceMul, Nat.reduceSub, Nat.reduceLT, Nat.reduceLeDiff, Nat.reducePow, Int.reduceLT, Int.reduceLE, Int.reduceNeg, Int.reduceToNat, h1]
        refine callK_intro K1 ?_
        cases U with
        | false => simp (dsimp := false) (maxDischargeDepth := 16) only [go_sem, ↓reduceIte, reduceCtorEq, Nat.reduceEqDiff, Nat.reduceAdd, Nat.reduceMul, Nat.reduceSub, Nat.reduceLT, Nat.reduceLeDiff, Nat.reducePow, Int.reduceLT, Int.reduceLE, Int.reduceNeg, Int.reduceToNat, h1]; exact finI (by simp)
        | true => simp (dsimp := false) (maxDischargeDepth := 16) only [go_sem, ↓reduceIte, reduceCtorEq, Nat.reduceEqDiff, Nat.reduceAdd, Nat.reduceMul, Nat.reduceSub, Nat.reduceLT, Nat.reduceLeDiff, Nat.reducePow, Int.reduceLT, Int.reduceLE, Int.reduceNeg, Int.reduceToNat, h1]; exact finI (by rw [h2]; simp [eB rfl])
  rw [if_neg e1, if_neg e2, if_neg e3]
  have n1 := not_k e1
  have n2 := not_k e2
  have n3 := not_k (fun h => e3 (.inl h))
  have n4 := not_k (fun h => e3 (.inr h))
  by_cases e6 : k = 5
  · rw [if_pos e6]
    have n5 : (k == 5) = true := by simp [e6]
    refine conT (X := []) (rs := [.tmp 2]) Try.func143 (by kernel_rfl) rfl rfl (by kernel_rfl) ?_
    simp (dsimp := false) (maxDischargeDepth := 16) only [go_sem, ↓reduceIte, reduceCtorEq, Nat.reduceEqDiff, Nat.reduceAdd, Nat.reduceMul, Nat.reduceSub, Nat.reduceLT, Nat.reduceLeDiff, Nat.reducePow, Int.reduceLT, Int.reduceLE, Int.reduceNeg, Int.reduceToNat, n1, n2, n3, n4, n5]
    cases h1 : ((kids.length : Int) == 1) with
    | false =>
      have h2 : ((kids.length : Int) != 1) = true := by rw [bne, h1]; rfl
      simp (dsimp := false) (maxDischargeDepth := 16) only [go_sem, ↓reduceIte, reduceCtorEq, Nat.reduceEqDiff, Nat.reduceAdd, Nat.reduceMul, Nat.reduceSub, Nat.reduceLT, Nat.reduceLeDiff, Nat.reducePow, Int.reduceLT, Int.reduceLE, Int.reduceNeg, Int.reduceToNat, h2]; exact finI (by simp)
    | true =>
      have h2 : ((kids.length : Int) != 1) = false := by rw [bne, h1]; rfl
      simp (dsimp := false) (maxDischargeDepth := 16) only [go_sem, ↓reduceIte, reduceCtorEq, Nat.reduceEqDiff, Nat.reduceAdd, Nat.reduceMul, Nat.reduceSub, Nat.reduceLT, Nat.reduceLeDiff, Nat.reducePow, Int.reduceLT, Int.reduceLE, Int.reduceNeg, Int.reduceToNat, h2]
      rw [e5]
      by_cases h3 : (0 : Int) < sl.length
      · have h4 : ((sl.length : Int) == 0) = false := by simp; intro h; simp [h] at h3
        simp (dsimp := false) (maxDischargeDepth := 16) only [go_sem, ↓reduceIte, reduceCtorEq, Nat.reduceEqDiff, Nat.reduceAdd, Nat.reduceMul, Nat.reduceSub, Nat.reduceLT, Nat.reduceLeDiff, Nat.reducePow, Int.reduceLT, Int.reduceLE, Int.reduceNeg, Int.reduceToNat, h3]; exact finI (by simp [h4])
      · have h4 : ((sl.length : Int) == 0) = true := by simp; exact List.eq_nil_of_length_eq_zero (by omega)
        simp (dsimp := false) (maxDischargeDepth := 16) only [go_sem, ↓reduceIte, reduceCtorEq, Nat.reduceEqDiff, Nat.reduceAdd, Nat.reduceMul, Nat.reduceSub, Nat.reduceLT, Nat.reduceLeDiff, Nat.reducePow, Int.reduceLT, Int.reduceLE, Int.reduceNeg, Int.reduceToNat, h3]
        cases h5 : (v == 0) with
        | false =>
          have h6 : (v != 0) = true := by rw [bne, h5]; rfl
          simp (dsimp := false) (maxDischargeDepth := 16) only [go_sem, ↓reduceIte, reduceCtorEq, Nat.reduceEqDiff, Nat.reduceAdd, Nat.reduceMul, Nat.reduceSub, Nat.reduceLT, Nat.reduceLeDiff, Nat.reducePow, Int.reduceLT, Int.reduceLE, Int.reduceNeg, Int.reduceToNat, h3, h6]; exact finI (by simp)
        | true =>
          have h6 : (v != 0) = false := by rw [bne, h5]; rfl
          by_cases h7 : (0 : Int) < ts.length
          · have h8 : ((ts.length : Int) == 0) = false := by simp; intro h; simp [h] at h7
            simp (dsimp := false) (maxDischargeDepth := 16) only [go_sem, ↓reduceIte, reduceCtorEq, Nat.reduceEqDiff, Nat.reduceAdd, Nat.reduceMul, Nat.reduceSub, Nat.reduceLT, Nat.reduceLeDiff, Nat.reducePow, Int.reduceLT, Int.reduceLE, Int.reduceNeg, Int.reduceToNat, h3, h6, h7]; exact finI (by simp [h8])
          · have h8 : ((ts.length : Int) == 0) = true := by simp; exact List.eq_nil_of_length_eq_zero (by omega)
            simp (dsimp := false) (maxDischargeDepth := 16) only [go_sem, ↓reduceIte, reduceCtorEq, Nat.reduceEqDiff, Nat.reduceAdd, Nat.reduceMul, Nat.reduceSub, Nat.reduceLT, Nat.reduceLeDiff, Nat.reducePow, Int.reduceLT, Int.reduceLE, Int.reduceNeg, Int.reduceToNat, h3, h6, h7]; exact finI (by rw [h4, h8]; rfl)
  · rw [if_neg e6]
    have n5 := not_k e6
    refine conT (X := []) (rs := [.tmp 2]) Try.func143 (by kernel_rfl) rfl rfl (by kernel_rfl) ?_
    simp (dsimp := false) (maxDischargeDepth := 16) only [go_sem, ↓reduceIte, reduceCtorEq, Nat.reduceEqDiff, Nat.reduceAdd, Nat.reduceMul, Nat.reduceSub, Nat.reduceLT, Nat.reduceLeDiff, Nat.reducePow, Int.reduceLT, Int.reduceLE, Int.reduceNeg, Int.reduceToNat, n1, n2, n3, n4, n5]
    exact finI (by simp)
end Go.Sy

/- Contracts: sizes of conditions; what is valid by itself; what is light. -/
set_option linter.unusedSimpArgs false
namespace Go.Sy
open Go Go.Proofs

theorem bnd_cv {n : Nat} {k : Int} {kids : List Cd} {m : Mo} {g : Gr} {sl : List (List AV)} {v : Int} {ts : List (List AV)} (h : bnd (n + 2) (cv (.mk k kids m g sl v ts))) : (kids.length : Int) ≤ 9223372036854775807 := by
  rw [cv_mk] at h
  have := (h (.list 9 (kids.map ccs) .no) (by simp)).1
  simpa using this
theorem c101 (c : Cd) : Con Try.prog 101 [cv c] 0 (.tup [iv (szC c).1, iv (szC c).2]) := by
  induction c using Cd.ind
  rename_i k kids m g sl v ts ih
  refine Con.assume (enters_of Try.func101 (by kernel_rfl) rfl) fun hb => ?_
  have hlen := bnd_cv (hb _ (List.mem_cons_self ..))
  clear hb
  rw [szC_mk]
  refine conT (X := []) (rs := [.tmp 2, .tmp 3]) Try.func101 (by kernel_rfl) rfl rfl (by kernel_rfl) ?_
  simp (dsimp := false) (maxDischargeDepth := 16) only [go_sem, ↓reduceIte, reduceCtorEq, Nat.reduceEqDiff, Nat.reduceAdd, Nat.reduceMul, Nat.reduceSub, Nat.reduceLT, Nat.reduceLeDiff, Nat.reducePow, Int.reduceLT, Int.reduceLE, Int.reduceNeg, Int.reduceToNat]
  refine loopK_intro (fun (i : Nat) s => i ≤ kids.length ∧ s.t 1 = .box (1, 0, 0) 0 ∧ s.b (1, 0, 0) = some ⟨ccs (.mk k kids m g sl v ts), false⟩ ∧ s.t 4 = iv ((kids.take i).foldl szF (1, 0)).1 ∧ s.t 5 = iv ((kids.take i).foldl szF (1, 0)).2 ∧ s.t 6 = iv i) (fun i => kids.length - i) ?_ ?_
  · refine ⟨0, by omega, rfl, ?_, rfl, rfl, rfl⟩
    simp (dsimp := false) (maxDischargeDepth := 16) only [go_sem, ↓reduceIte, reduceCtorEq, Nat.reduceEqDiff, Nat.reduceAdd, Nat.reduceMul, Nat.reduceSub, Nat.reduceLT, Nat.reduceLeDiff, Nat.reducePow, Int.reduceLT, Int.reduceLE, Int.reduceNeg, Int.reduceToNat]
  rintro i s ⟨hi, t1, b1, t4, t5, t6⟩
  simp (dsimp := false) (maxDischargeDepth := 16) only [go_sem, ↓reduceIte, reduceCtorEq, Nat.reduceEqDiff, Nat.reduceAdd, Nat.reduceMul, Nat.reduceSub, Nat.reduceLT, Nat.reduceLeDiff, Nat.reducePow, Int.reduceLT, Int.reduceLE, Int.reduceNeg, Int.reduceToNat, t1, b1, t4, t5, t6]
  refine condK_dec (fun h6 => ?_) (fun h6 => ?_)
  · have hs := foldl_take (f := szF) (a := (1, 0)) h6
    have hc := ih _ (List.getElem_mem h6)
    generalize (kids.take i).foldl szF (1, 0) = z at *
    simp (dsimp := false) (maxDischargeDepth := 16) only [go_sem, ↓reduceIte, reduceCtorEq, Nat.reduceEqDiff, Nat.reduceAdd, Nat.reduceMul, Nat.reduceSub, Nat.reduceLT, Nat.reduceLeDiff, Nat.reducePow, Int.reduceLT, Int.reduceLE, Int.reduceNeg, Int.reduceToNat, t1, b1, t4, t5, t6, h6, idx_nat]
    refine callK_intro hc ?_
    simp (dsimp := false) (maxDischargeDepth := 16) only [go_sem, ↓reduceIte, reduceCtorEq, Nat.reduceEqDiff, Nat.reduceAdd, Nat.reduceMul, Nat.reduceSub, Nat.reduceLT, Nat.reduceLeDiff, Nat.reducePow, Int.reduceLT, Int.reduceLE, Int.reduceNeg, Int.reduceToNat, t1, b1, t4, t5, t6, h6]
    exact ⟨i + 1, by omega, by omega, by rw [hs]; rfl, by rw [hs]; rfl, by rw [wrapN _ (by omega)]⟩
  · have hin : i = kids.length := by omega
    subst hin
    rw [List.take_length] at t4 t5
    generalize kids.foldl szF (1, 0) = z at *
    simp (dsimp := false) (maxDischargeDepth := 16) only [go_sem, ↓reduceIte, reduceCtorEq, Nat.reduceEqDiff, Nat.reduceAdd, Nat.reduceMul, Nat.reduceSub, Nat.reduceLT, Nat.reduceLeDiff, Nat.reducePow, Int.reduceLT, Int.reduceLE, Int.reduceNeg, Int.reduceToNat, t1, b1, t4, t5, t6, h6]
    refine condK_intro (fun q => ?_) (fun q => ?_)
    · simp (dsimp := false) (maxDischargeDepth := 16) only [go_sem, ↓reduceIte, reduceCtorEq, Nat.reduceEqDiff, Nat.reduceAdd, Nat.reduceMul, Nat.reduceSub, Nat.reduceLT, Nat.reduceLeDiff, Nat.reducePow, Int.reduceLT, Int.reduceLE, Int.reduceNeg, Int.reduceToNat, t1, b1, t4, t5, t6, q]
      rw [if_pos (beq_iff_eq.1 q)]
      exact finK ⟨rfl, rfl⟩
    · simp (dsimp := false) (maxDischargeDepth := 16) only [go_sem, ↓reduceIte, reduceCtorEq, Nat.reduceEqDiff, Nat.reduceAdd, Nat.reduceMul, Nat.reduceSub, Nat.reduceLT, Nat.reduceLeDiff, Nat.reducePow, Int.reduceLT, Int.reduceLE, Int.reduceNeg, Int.reduceToNat, t1, b1, t4, t5, t6, q]
      rw [if_neg (beqF q)]
      exact finK ⟨rfl, rfl⟩
theorem c105 (c : Cd) : Con Try.prog 105 [cv c] 0 (.tup [iv (szC c).1, iv (szC c).2]) := by
  induction c using Cd.ind
  rename_i k kids m g sl v ts ih
  refine Con.assume (enters_of Try.func105 (by kernel_rfl) rfl) fun hb => ?_
  have hlen := bnd_cv (hb _ (List.mem_cons_self ..))
  clear hb
  rw [szC_mk]
  refine conT (X := []) (rs := [.tmp 2, .tmp 3]) Try.func105 (by kernel_rfl) rfl rfl (by kernel_rfl) ?_
  simp (dsimp := false) (maxDischargeDepth := 16) only [go_sem, ↓reduceIte, reduceCtorEq, Nat.reduceEqDiff, Nat.reduceAdd, Nat.reduceMul, Nat.reduceSub, Nat.reduceLT, Nat.reduceLeDiff, Nat.reducePow, Int.reduceLT, Int.reduceLE, Int.reduceNeg, Int.reduceToNat]
  refine loopK_intro (fun (i : Nat) s => i ≤ kids.length ∧ s.t 1 = .box (1, 0, 0) 0 ∧ s.b (1, 0, 0) = some ⟨ccs (.mk k kids m g sl v ts), false⟩ ∧ s.t 4 = iv ((kids.take i).foldl szF (1, 0)).1 ∧ s.t 5 = iv ((kids.take i).foldl szF (1, 0)).2 ∧ s.t 11 = .list 9 (kids.map ccs) .no ∧ s.t 12 = iv kids.length ∧ s.t 13 = iv i) (fun i => kids.length - i) ?_ ?_
  · refine ⟨0, by omega, rfl, ?_, rfl, rfl, rfl, rfl, rfl⟩
    simp (dsimp := false) (maxDischargeDepth := 16) only [go_sem, ↓reduceIte, reduceCtorEq, Nat.reduceEqDiff, Nat.reduceAdd, Nat.reduceMul, Nat.reduceSub, Nat.reduceLT, Nat.reduceLeDiff, Nat.reducePow, Int.reduceLT, Int.reduceLE, Int.reduceNeg, Int.reduceToNat]
  rintro i s ⟨hi, t1, b1, t4, t5, t11, t12, t13⟩
  simp (dsimp := false) (maxDischargeDepth := 16) only [go_sem, ↓reduceIte, reduceCtorEq, Nat.reduceEqDiff, Nat.reduceAdd, Nat.reduceMul, Nat.reduceSub, Nat.reduceLT, Nat.reduceLeDiff, Nat.reducePow, Int.reduceLT, Int.reduceLE, Int.reduceNeg, Int.reduceToNat, t1, b1, t4, t5, t11, t12, t13]
  refine condK_dec (fun h6 => ?_) (fun h6 => ?_)
  · have hs := foldl_take (f := szF) (a := (1, 0)) h6
    have hc := ih _ (List.getElem_mem h6)
    generalize (kids.take i).foldl szF (1, 0) = z at *
    simp (dsimp := false) (maxDischargeDepth := 16) only [go_sem, ↓reduceIte, reduceCtorEq, Nat.reduceEqDiff, Nat.reduceAdd, Nat.reduceMul, Nat.reduceSub, Nat.reduceLT, Nat.reduceLeDiff, Nat.reducePow, Int.reduceLT, Int.reduceLE, Int.reduceNeg, Int.reduceToNat, t1, b1, t4, t5, t11, t12, t13, h6, idx_nat]
    refine callK_intro hc ?_
    simp (dsimp := false) (maxDischargeDepth := 16) only [go_sem, ↓reduceIte, reduceCtorEq, Nat.reduceEqDiff, Nat.reduceAdd, Nat.reduceMul, Nat.reduceSub, Nat.reduceLT, Nat.reduceLeDiff, Nat.reducePow, Int.reduceLT, Int.reduceLE, Int.reduceNeg, Int.reduceToNat, t1, b1, t4, t5, t11, t12, t13, h6]
    exact ⟨i + 1, by omega, by omega, by rw [hs]; rfl, by rw [hs]; rfl, by rw [wrapN _ (by omega)]⟩
  · have hin : i = kids.length := by omega
    subst hin
    rw [List.take_length] at t4 t5
    generalize kids.foldl szF (1, 0) = z at *
    simp (dsimp := false) (maxDischargeDepth := 16) only [go_sem, ↓reduceIte, reduceCtorEq, Nat.reduceEqDiff, Nat.reduceAdd, Nat.reduceMul, Nat.reduceSub, Nat.reduceLT, Nat.reduceLeDiff, Nat.reducePow, Int.reduceLT, Int.reduceLE, Int.reduceNeg, Int.reduceToNat, t1, b1, t4, t5, t11, t12, t13, h6]
    refine condK_intro (fun q => ?_) (fun q => ?_)
    · simp (dsimp := false) (maxDischargeDepth := 16) only [go_sem, ↓reduceIte, reduceCtorEq, Nat.reduceEqDiff, Nat.reduceAdd, Nat.reduceMul, Nat.reduceSub, Nat.reduceLT, Nat.reduceLeDiff, Nat.reducePow, Int.reduceLT, Int.reduceLE, Int.reduceNeg, Int.reduceToNat, t1, b1, t4, t5, q]
      rw [if_pos (beq_iff_eq.1 q)]
      exact finK ⟨rfl, rfl⟩
    · simp (dsimp := false) (maxDischargeDepth := 16) only [go_sem, ↓reduceIte, reduceCtorEq, Nat.reduceEqDiff, Nat.reduceAdd, Nat.reduceMul, Nat.reduceSub, Nat.reduceLT, Nat.reduceLeDiff, Nat.reducePow, Int.reduceLT, Int.reduceLE, Int.reduceNeg, Int.reduceToNat, t1, b1, t4, t5, q]
      rw [if_neg (beqF q)]
      exact finK ⟨rfl, rfl⟩
theorem lrg_eq (c : Cd) : lrg c = if 2000 < (szC c).1 ∨ 3 < (szC c).2 then 3 else 0 := rfl
theorem c107 (c : Cd) : Con Try.prog 107 [cv c] 0 (iv (lrg c)) := by
  have K := c101 c
  rw [lrg_eq]
  generalize szC c = z at *
  refine conT (X := []) (rs := [.tmp 2]) Try.func107 (by kernel_rfl) rfl rfl (by kernel_rfl) ?_
  simp (dsimp := false) (maxDischargeDepth := 16) only [go_sem, ↓reduceIte, reduceCtorEq, Nat.reduceEqDiff, Nat.reduceAdd, Nat.reduceMul, Nat.reduceSub, Nat.reduceLT, Nat.reduceLeDiff, Nat.reducePow, Int.reduceLT, Int.reduceLE, Int.reduceNeg, Int.reduceToNat]
  refine callK_intro K ?_
  by_cases h1 : 2000 < z.1
  · simp (dsimp := false) (maxDischargeDepth := 16) only [go_sem, ↓reduceIte, reduceCtorEq, Nat.reduceEqDiff, Nat.reduceAdd, Nat.reduceMul, Nat.reduceSub, Nat.reduceLT, Nat.reduceLeDiff, Nat.reducePow, Int.reduceLT, Int.reduceLE, Int.reduceNeg, Int.reduceToNat, h1]
    exact finI (by simp)
  · by_cases h2 : 3 < z.2
    · simp (dsimp := false) (maxDischargeDepth := 16) only [go_sem, ↓reduceIte, reduceCtorEq, Nat.reduceEqDiff, Nat.reduceAdd, Nat.reduceMul, Nat.reduceSub, Nat.reduceLT, Nat.reduceLeDiff, Nat.reducePow, Int.reduceLT, Int.reduceLE, Int.reduceNeg, Int.reduceToNat, h1, h2]
      exact finI (by simp)
    · simp (dsimp := false) (maxDischargeDepth := 16) only [go_sem, ↓reduceIte, reduceCtorEq, Nat.reduceEqDiff, Nat.reduceAdd, Nat.reduceMul, Nat.reduceSub, Nat.reduceLT, Nat.reduceLeDiff, Nat.reducePow, Int.reduceLT, Int.reduceLE, Int.reduceNeg, Int.reduceToNat, h1, h2]
      exact finI (by simp)
theorem c104 (c : Cd) : Con Try.prog 104 [cv c] 0 (iv (lrg c)) := by
  have K := c105 c
  rw [lrg_eq]
  generalize szC c = z at *
  refine conT (X := []) (rs := [.tmp 2]) Try.func104 (by kernel_rfl) rfl rfl (by kernel_rfl) ?_
  simp (dsimp := false) (maxDischargeDepth := 16) only [go_sem, ↓reduceIte, reduceCtorEq, Nat.reduceEqDiff, Nat.reduceAdd, Nat.reduceMul, Nat.reduceSub, Nat.reduceLT, Nat.reduceLeDiff, Nat.reducePow, Int.reduceLT, Int.reduceLE, Int.reduceNeg, Int.reduceToNat]
  refine callK_intro K ?_
  by_cases h1 : 2000 < z.1
  · simp (dsimp := false) (maxDischargeDepth := 16) only [go_sem, ↓reduceIte, reduceCtorEq, Nat.reduceEqDiff, Nat.reduceAdd, Nat.reduceMul, Nat.reduceSub, Nat.reduceLT, Nat.reduceLeDiff, Nat.reducePow, Int.reduceLT, Int.reduceLE, Int.reduceNeg, Int.reduceToNat, h1]
    exact finI (by simp)
  · by_cases h2 : 3 < z.2
    · simp (dsimp := false) (maxDischargeDepth := 16) only [go_sem, ↓reduceIte, reduceCtorEq, Nat.reduceEqDiff, Nat.reduceAdd, Nat.reduceMul, Nat.reduceSub, Nat.reduceLT, Nat.reduceLeDiff, Nat.reducePow, Int.reduceLT, Int.reduceLE, Int.reduceNeg, Int.reduceToNat, h1, h2]
      exact finI (by simp)
    · simp (dsimp := false) (maxDischargeDepth := 16) only [go_sem, ↓reduceIte, reduceCtorEq, Nat.reduceEqDiff, Nat.reduceAdd, Nat.reduceMul, Nat.reduceSub, Nat.reduceLT, Nat.reduceLeDiff, Nat.reducePow, Int.reduceLT, Int.reduceLE, Int.reduceNeg, Int.reduceToNat, h1, h2]
      exact finI (by simp)
theorem ne0_T {x : Int} (h : (x != 0) = true) : x ≠ 0 := by simpa using h
theorem ne0_F {x : Int} (h : (x != 0) = false) : x = 0 := by simpa using h
theorem c103 (c : Cd) : Con Try.prog 103 [cv c] 0 (iv (shpA c)) := by
  induction c using Cd.ind
  rename_i k kids m g sl v ts ih
  refine Con.assume (enters_of Try.func103 (by kernel_rfl) rfl) fun hb => ?_
  have hlen := bnd_cv (hb _ (List.mem_cons_self ..))
  clear hb
  rw [shpA_mk]
  have K := c142 k kids m g sl v ts
  rw [cv_mk] at K
  generalize shp (.mk k kids m g sl v ts) = e at *
  refine conT (X := []) (rs := [.tmp 2]) Try.func103 (by kernel_rfl) rfl rfl (by kernel_rfl) ?_
  simp (dsimp := false) (maxDischargeDepth := 16) only [go_sem, ↓reduceIte, reduceCtorEq, Nat.reduceEqDiff, Nat.reduceAdd, Nat.reduceMul, Nat.reduceSub, Nat.reduceLT, Nat.reduceLeDiff, Nat.reducePow, Int.reduceLT, Int.reduceLE, Int.reduceNeg, Int.reduceToNat]
  refine callK_intro K ?_
  simp (dsimp := false) (maxDischargeDepth := 16) only [go_sem, ↓reduceIte, reduceCtorEq, Nat.reduceEqDiff, Nat.reduceAdd, Nat.reduceMul, Nat.reduceSub, Nat.reduceLT, Nat.reduceLeDiff, Nat.reducePow, Int.reduceLT, Int.reduceLE, Int.reduceNeg, Int.reduceToNat]
  refine condK_intro (fun q => ?_) (fun q => ?_)
  · simp (dsimp := false) (maxDischargeDepth := 16) only [go_sem, ↓reduceIte, reduceCtorEq, Nat.reduceEqDiff, Nat.reduceAdd, Nat.reduceMul, Nat.reduceSub, Nat.reduceLT, Nat.reduceLeDiff, Nat.reducePow, Int.reduceLT, Int.reduceLE, Int.reduceNeg, Int.reduceToNat, q]
    rw [if_pos (ne0_T q)]
    exact finI rfl
  rw [if_neg (by simp [ne0_F q])]
  simp (dsimp := false) (maxDischargeDepth := 16) only [go_sem, ↓reduceIte, reduceCtorEq, Nat.reduceEqDiff, Nat.reduceAdd, Nat.reduceMul, Nat.reduceSub, Nat.reduceLT, Nat.reduceLeDiff, Nat.reducePow, Int.reduceLT, Int.reduceLE, Int.reduceNeg, Int.reduceToNat, q]
  refine loopK_intro (fun (i : Nat) s => i ≤ kids.length ∧ s.t 13 = .list 9 (kids.map ccs) .no ∧ s.t 14 = iv kids.length ∧ s.t 15 = iv i ∧ ∀ x ∈ kids.take i, shpA x = 0) (fun i => kids.length - i) ⟨0, by omega, rfl, rfl, rfl, fun j hj => by simp at hj⟩ ?_
  rintro i s ⟨hi, t13, t14, t15, hall⟩
  simp (dsimp := false) (maxDischargeDepth := 16) only [go_sem, ↓reduceIte, reduceCtorEq, Nat.reduceEqDiff, Nat.reduceAdd, Nat.reduceMul, Nat.reduceSub, Nat.reduceLT, Nat.reduceLeDiff, Nat.reducePow, Int.reduceLT, Int.reduceLE, Int.reduceNeg, Int.reduceToNat, t13, t14, t15]
  refine condK_dec (fun h6 => ?_) (fun h6 => ?_)
  · simp (dsimp := false) (maxDischargeDepth := 16) only [go_sem, ↓reduceIte, reduceCtorEq, Nat.reduceEqDiff, Nat.reduceAdd, Nat.reduceMul, Nat.reduceSub, Nat.reduceLT, Nat.reduceLeDiff, Nat.reducePow, Int.reduceLT, Int.reduceLE, Int.reduceNeg, Int.reduceToNat, t13, t14, t15, h6, idx_nat]
    refine callK_intro (ih _ (List.getElem_mem h6)) ?_
    simp (dsimp := false) (maxDischargeDepth := 16) only [go_sem, ↓reduceIte, reduceCtorEq, Nat.reduceEqDiff, Nat.reduceAdd, Nat.reduceMul, Nat.reduceSub, Nat.reduceLT, Nat.reduceLeDiff, Nat.reducePow, Int.reduceLT, Int.reduceLE, Int.reduceNeg, Int.reduceToNat, t13, t14, t15, h6]
    refine condK_intro (fun h9 => ?_) (fun h9 => ?_)
    · simp (dsimp := false) (maxDischargeDepth := 16) only [go_sem, ↓reduceIte, reduceCtorEq, Nat.reduceEqDiff, Nat.reduceAdd, Nat.reduceMul, Nat.reduceSub, Nat.reduceLT, Nat.reduceLeDiff, Nat.reducePow, Int.reduceLT, Int.reduceLE, Int.reduceNeg, Int.reduceToNat, t13, t14, t15, h6, h9]
      exact finI (firstI_at h6 hall (ne0_T h9))
    · simp (dsimp := false) (maxDischargeDepth := 16) only [go_sem, ↓reduceIte, reduceCtorEq, Nat.reduceEqDiff, Nat.reduceAdd, Nat.reduceMul, Nat.reduceSub, Nat.reduceLT, Nat.reduceLeDiff, Nat.reducePow, Int.reduceLT, Int.reduceLE, Int.reduceNeg, Int.reduceToNat, t13, t14, t15, h6, h9]
      exact ⟨i + 1, by omega, by omega, by rw [wrapN _ (by omega)], take_all h6 hall (ne0_F h9)⟩
  · simp (dsimp := false) (maxDischargeDepth := 16) only [go_sem, ↓reduceIte, reduceCtorEq, Nat.reduceEqDiff, Nat.reduceAdd, Nat.reduceMul, Nat.reduceSub, Nat.reduceLT, Nat.reduceLeDiff, Nat.reducePow, Int.reduceLT, Int.reduceLE, Int.reduceNeg, Int.reduceToNat, t13, t14, t15, h6]
    exact finI (firstI_all (take_full h6 hall))
/-! ### Light ones -/
theorem fit_short {k : Int} {kids : List Cd} {m : Mo} {g : Gr} {sl : List (List AV)} {v : Int} {ts : List (List AV)} (h : fitC (.mk k kids m g sl v ts) 45 90 = true) : shortC m g sl ts ∧ ∀ c ∈ kids, fitC c 45 90 = true := by
  rw [fitC_mk, Bool.and_eq_true, decide_eq_true_eq] at h
  refine ⟨?_, fun c hc => List.all_eq_true.1 h.2 c hc⟩
  unfold shortC
  omega
theorem c106 (c : Cd) : fitC c 45 90 = true → Con Try.prog 106 [cv c] 0 (iv (shpA c)) := by
  induction c using Cd.ind
  rename_i k kids m g sl v ts ih
  intro hf
  obtain ⟨f1, f2⟩ := fit_short hf
  refine Con.assume (enters_of Try.func106 (by kernel_rfl) rfl) fun hb => ?_
  have hlen := bnd_cv (hb _ (List.mem_cons_self ..))
  clear hb
  rw [shpA_mk]
  have K := c143 k kids m g sl v ts f1
  rw [cv_mk] at K
  generalize shp (.mk k kids m g sl v ts) = e at *
  refine conT (X := []) (rs := [.tmp 2]) Try.func106 (by kernel_rfl) rfl rfl (by kernel_rfl) ?_
  simp (dsimp := false) (maxDischargeDepth := 16) only [go_sem, ↓reduceIte, reduceCtorEq, Nat.reduceEqDiff, Nat.reduceAdd, Nat.reduceMul, Nat.reduceSub, Nat.reduceLT, Nat.reduceLeDiff, Nat.reducePow, Int.reduceLT, Int.reduceLE, Int.reduceNeg, Int.reduceToNat]
  refine callK_intro K ?_
  simp (dsimp := false) (maxDischargeDepth := 16) only [go_sem, ↓reduceIte, reduceCtorEq, Nat.reduceEqDiff, Nat.reduceAdd, Nat.reduceMul, Nat.reduceSub, Nat.reduceLT, Nat.reduceLeDiff, Nat.reducePow, Int.reduceLT, Int.reduceLE, Int.reduceNeg, Int.reduceToNat]
  refine condK_intro (fun q => ?_) (fun q => ?_)
  · simp (dsimp := false) (maxDischargeDepth := 16) only [go_sem, ↓reduceIte, reduceCtorEq, Nat.reduceEqDiff, Nat.reduceAdd, Nat.reduceMul, Nat.reduceSub, Nat.reduceLT, Nat.reduceLeDiff, Nat.reducePow, Int.reduceLT, Int.reduceLE, Int.reduceNeg, Int.reduceToNat, q]
    rw [if_pos (ne0_T q)]
    exact finI rfl
  rw [if_neg (by simp [ne0_F q])]
  simp (dsimp := false) (maxDischargeDepth := 16) only [go_sem, ↓reduceIte, reduceCtorEq, Nat.reduceEqDiff, Nat.reduceAdd, Nat.reduceMul, Nat.reduceSub, Nat.reduceLT, Nat.reduceLeDiff, Nat.reducePow, Int.reduceLT, Int.reduceLE, Int.reduceNeg, Int.reduceToNat, q]
  refine loopK_intro (fun (i : Nat) s => i ≤ kids.length ∧ s.t 1 = .box (1, 0, 0) 0 ∧ s.b (1, 0, 0) = some ⟨ccs (.mk k kids m g sl v ts), false⟩ ∧ s.t 4 = iv i ∧ ∀ x ∈ kids.take i, shpA x = 0) (fun i => kids.length - i) ?_ ?_
  · refine ⟨0, by omega, rfl, ?_, rfl, fun j hj => by simp at hj⟩
    simp (dsimp := false) (maxDischargeDepth := 16) only [go_sem, ↓reduceIte, reduceCtorEq, Nat.reduceEqDiff, Nat.reduceAdd, Nat.reduceMul, Nat.reduceSub, Nat.reduceLT, Nat.reduceLeDiff, Nat.reducePow, Int.reduceLT, Int.reduceLE, Int.reduceNeg, Int.reduceToNat]
  rintro i s ⟨hi, t1, b1, t4, hall⟩
  simp (dsimp := false) (maxDischargeDepth := 16) only [go_sem, ↓reduceIte, reduceCtorEq, Nat.reduceEqDiff, Nat.reduceAdd, Nat.reduceMul, Nat.reduceSub, Nat.reduceLT, Nat.reduceLeDiff, Nat.reducePow, Int.reduceLT, Int.reduceLE, Int.reduceNeg, Int.reduceToNat, t1, b1, t4]
  refine condK_dec (fun h6 => ?_) (fun h6 => ?_)
  · simp (dsimp := false) (maxDischargeDepth := 16) only [go_sem, ↓reduceIte, reduceCtorEq, Nat.reduceEqDiff, Nat.reduceAdd, Nat.reduceMul, Nat.reduceSub, Nat.reduceLT, Nat.reduceLeDiff, Nat.reducePow, Int.reduceLT, Int.reduceLE, Int.reduceNeg, Int.reduceToNat, t1, b1, t4, h6, idx_nat]
    refine callK_intro (ih _ (List.getElem_mem h6) (f2 _ (List.getElem_mem h6))) ?_
    simp (dsimp := false) (maxDischargeDepth := 16) only [go_sem, ↓reduceIte, reduceCtorEq, Nat.reduceEqDiff, Nat.reduceAdd, Nat.reduceMul, Nat.reduceSub, Nat.reduceLT, Nat.reduceLeDiff, Nat.reducePow, Int.reduceLT, Int.reduceLE, Int.reduceNeg, Int.reduceToNat, t1, b1, t4, h6]
    refine condK_intro (fun h9 => ?_) (fun h9 => ?_)
    · simp (dsimp := false) (maxDischargeDepth := 16) only [go_sem, ↓reduceIte, reduceCtorEq, Nat.reduceEqDiff, Nat.reduceAdd, Nat.reduceMul, Nat.reduceSub, Nat.reduceLT, Nat.reduceLeDiff, Nat.reducePow, Int.reduceLT, Int.reduceLE, Int.reduceNeg, Int.reduceToNat, t1, b1, t4, h6, h9]
      exact finI (firstI_at h6 hall (ne0_T h9))
    · simp (dsimp := false) (maxDischargeDepth := 16) only [go_sem, ↓reduceIte, reduceCtorEq, Nat.reduceEqDiff, Nat.reduceAdd, Nat.reduceMul, Nat.reduceSub, Nat.reduceLT, Nat.reduceLeDiff, Nat.reducePow, Int.reduceLT, Int.reduceLE, Int.reduceNeg, Int.reduceToNat, t1, b1, t4, h6, h9]
      exact ⟨i + 1, by omega, by omega, by rw [wrapN _ (by omega)], take_all h6 hall (ne0_F h9)⟩
  · simp (dsimp := false) (maxDischargeDepth := 16) only [go_sem, ↓reduceIte, reduceCtorEq, Nat.reduceEqDiff, Nat.reduceAdd, Nat.reduceMul, Nat.reduceSub, Nat.reduceLT, Nat.reduceLeDiff, Nat.reducePow, Int.reduceLT, Int.reduceLE, Int.reduceNeg, Int.reduceToNat, t1, b1, t4, h6]
    exact finI (firstI_all (take_full h6 hall))
theorem c102 (c : Cd) (n e : Int) : Con Try.prog 102 [cv c, iv n, iv e] 0 (bv (fitC c n e)) := by
  induction c using Cd.ind
  rename_i k kids m g sl v ts ih
  refine Con.assume (enters_of Try.func102 (by kernel_rfl) rfl) fun hb => ?_
  have hlen := bnd_cv (hb _ (List.mem_cons_self ..))
  clear hb
  rw [fitC_mk]
  generalize hR : (decide (¬ ((n < (g.n.length : Int) ∨ e < (g.e.length : Int)) ∨ 100 < (m.n.length : Int) ∨ 100 < (m.e.length : Int) ∨ 20 < (sl.length : Int) ∨ 20 < (ts.length : Int))) && kids.all fun c => fitC c n e) = R
  refine conT (X := []) (rs := [.tmp 6]) Try.func102 (by kernel_rfl) rfl rfl (by kernel_rfl) ?_
  simp (dsimp := false) (maxDischargeDepth := 16) only [go_sem, ↓reduceIte, reduceCtorEq, Nat.reduceEqDiff, Nat.reduceAdd, Nat.reduceMul, Nat.reduceSub, Nat.reduceLT, Nat.reduceLeDiff, Nat.reducePow, Int.reduceLT, Int.reduceLE, Int.reduceNeg, Int.reduceToNat]
  have no : ∀ {p : Prop} [Decidable p], p → ∀ b, (decide (¬ p) && b) = false := fun h b => by rw [decide_eq_false (fun hh => hh h)]; rfl
  by_cases h1 : n < (g.n.length : Int)
  · simp (dsimp := false) (maxDischargeDepth := 16) only [go_sem, ↓reduceIte, reduceCtorEq, Nat.reduceEqDiff, Nat.reduceAdd, Nat.reduceMul, Nat.reduceSub, Nat.reduceLT, Nat.reduceLeDiff, Nat.reducePow, Int.reduceLT, Int.reduceLE, Int.reduceNeg, Int.reduceToNat, h1]
    exact finB (hR.symm.trans (no (.inl (.inl h1)) _))
  by_cases h2 : e < (g.e.length : Int)
  · simp (dsimp := false) (maxDischargeDepth := 16) only [go_sem, ↓reduceIte, reduceCtorEq, Nat.reduceEqDiff, Nat.reduceAdd, Nat.reduceMul, Nat.reduceSub, Nat.reduceLT, Nat.reduceLeDiff, Nat.reducePow, Int.reduceLT, Int.reduceLE, Int.reduceNeg, Int.reduceToNat, h1, h2]
    exact finB (hR.symm.trans (no (.inl (.inr h2)) _))
  by_cases h3 : (100 : Int) < m.n.length
  · simp (dsimp := false) (maxDischargeDepth := 16) only [go_sem, ↓reduceIte, reduceCtorEq, Nat.reduceEqDiff, Nat.reduceAdd, Nat.reduceMul, Nat.reduceSub, Nat.reduceLT, Nat.reduceLeDiff, Nat.reducePow, Int.reduceLT, Int.reduceLE, Int.reduceNeg, Int.reduceToNat, h1, h2, h3]
    exact finB (hR.symm.trans (no (.inr (.inl h3)) _))
  by_cases h4 : (100 : Int) < m.e.length
  · simp (dsimp := false) (maxDischargeDepth := 16) only [go_sem, ↓reduceIte, reduceCtorEq, Nat.reduceEqDiff, Nat.reduceAdd, Nat.reduceMul, Nat.reduceSub, Nat.reduceLT, Nat.reduceLeDiff, Nat.reducePow, Int.reduceLT, Int.reduceLE, Int.reduceNeg, Int.reduceToNat, h1, h2, h3, h4]
    exact finB (hR.symm.trans (no (.inr (.inr (.inl h4))) _))
  by_cases h5 : (20 : Int) < sl.length
  · simp (dsimp := false) (maxDischargeDepth := 16) only [go_sem, ↓reduceIte, reduceCtorEq, Nat.reduceEqDiff, Nat.reduceAdd, Nat.reduceMul, Nat.reduceSub, Nat.reduceLT, Nat.reduceLeDiff, Nat.reducePow, Int.reduceLT, Int.reduceLE, Int.reduceNeg, Int.reduceToNat, h1, h2, h3, h4, h5]
    exact finB (hR.symm.trans (no (.inr (.inr (.inr (.inl h5)))) _))
  by_cases h6 : (20 : Int) < ts.length
  · simp (dsimp := false) (maxDischargeDepth := 16) only [go_sem, ↓reduceIte, reduceCtorEq, Nat.reduceEqDiff, Nat.reduceAdd, Nat.reduceMul, Nat.reduceSub, Nat.reduceLT, Nat.reduceLeDiff, Nat.reducePow, Int.reduceLT, Int.reduceLE, Int.reduceNeg, Int.reduceToNat, h1, h2, h3, h4, h5, h6]
    exact finB (hR.symm.trans (no (.inr (.inr (.inr (.inr h6)))) _))
  have yes : decide (¬ ((n < (g.n.length : Int) ∨ e < (g.e.length : Int)) ∨ 100 < (m.n.length : Int) ∨ 100 < (m.e.length : Int) ∨ 20 < (sl.length : Int) ∨ 20 < (ts.length : Int))) = true := by
    rw [decide_eq_true_eq]; omega
  rw [yes, Bool.true_and] at hR
  rw [← hR]
  clear yes no hR
  simp (dsimp := false) (maxDischargeDepth := 16) only [go_sem, ↓reduceIte, reduceCtorEq, Nat.reduceEqDiff, Nat.reduceAdd, Nat.reduceMul, Nat.reduceSub, Nat.reduceLT, Nat.reduceLeDiff, Nat.reducePow, Int.reduceLT, Int.reduceLE, Int.reduceNeg, Int.reduceToNat, h1, h2, h3, h4, h5, h6]
  refine loopK_intro (fun (i : Nat) s => i ≤ kids.length ∧ s.t 1 = iv n ∧ s.t 2 = iv e ∧ s.t 3 = .box (3, 0, 0) 0 ∧ s.b (3, 0, 0) = some ⟨ccs (.mk k kids m g sl v ts), false⟩ ∧ s.t 7 = iv i ∧ ∀ x ∈ kids.take i, fitC x n e = true) (fun i => kids.length - i) ?_ ?_
  · refine ⟨0, by omega, rfl, rfl, rfl, ?_, rfl, fun j hj => by simp at hj⟩
    simp (dsimp := false) (maxDischargeDepth := 16) only [go_sem, ↓reduceIte, reduceCtorEq, Nat.reduceEqDiff, Nat.reduceAdd, Nat.reduceMul, Nat.reduceSub, Nat.reduceLT, Nat.reduceLeDiff, Nat.reducePow, Int.reduceLT, Int.reduceLE, Int.reduceNeg, Int.reduceToNat]
  rintro i s ⟨hi, t1, t2, t3, b3, t7, hall⟩
  simp (dsimp := false) (maxDischargeDepth := 16) only [go_sem, ↓reduceIte, reduceCtorEq, Nat.reduceEqDiff, Nat.reduceAdd, Nat.reduceMul, Nat.reduceSub, Nat.reduceLT, Nat.reduceLeDiff, Nat.reducePow, Int.reduceLT, Int.reduceLE, Int.reduceNeg, Int.reduceToNat, t1, t2, t3, b3, t7]
  refine condK_dec (fun h7 => ?_) (fun h7 => ?_)
  · have hc := ih _ (List.getElem_mem h7)
    simp (dsimp := false) (maxDischargeDepth := 16) only [go_sem, ↓reduceIte, reduceCtorEq, Nat.reduceEqDiff, Nat.reduceAdd, Nat.reduceMul, Nat.reduceSub, Nat.reduceLT, Nat.reduceLeDiff, Nat.reducePow, Int.reduceLT, Int.reduceLE, Int.reduceNeg, Int.reduceToNat, t1, t2, t3, b3, t7, h7, idx_nat]
    refine callK_intro hc ?_
    cases h8 : fitC kids[i] n e with
    | true =>
      simp (dsimp := false) (maxDischargeDepth := 16) only [go_sem, ↓reduceIte, reduceCtorEq, Nat.reduceEqDiff, Nat.reduceAdd, Nat.reduceMul, Nat.reduceSub, Nat.reduceLT, Nat.reduceLeDiff, Nat.reducePow, Int.reduceLT, Int.reduceLE, Int.reduceNeg, Int.reduceToNat, t1, t2, t3, b3, t7, h7]
      exact ⟨i + 1, by omega, by omega, by rw [wrapN _ (by omega)], take_all h7 hall h8⟩
    | false =>
      simp (dsimp := false) (maxDischargeDepth := 16) only [go_sem, ↓reduceIte, reduceCtorEq, Nat.reduceEqDiff, Nat.reduceAdd, Nat.reduceMul, Nat.reduceSub, Nat.reduceLT, Nat.reduceLeDiff, Nat.reducePow, Int.reduceLT, Int.reduceLE, Int.reduceNeg, Int.reduceToNat, t1, t2, t3, b3, t7, h7]
      refine finB ?_
      rw [List.all_eq_false]
      exact ⟨_, List.getElem_mem h7, by simp [h8]⟩
  · simp (dsimp := false) (maxDischargeDepth := 16) only [go_sem, ↓reduceIte, reduceCtorEq, Nat.reduceEqDiff, Nat.reduceAdd, Nat.reduceMul, Nat.reduceSub, Nat.reduceLT, Nat.reduceLeDiff, Nat.reducePow, Int.reduceLT, Int.reduceLE, Int.reduceNeg, Int.reduceToNat, t1, t2, t3, b3, t7, h7]
    exact finB (List.all_eq_true.2 (take_full h7 hall))
theorem sizR_eq (c : Cd) : sizR c = if shpA c ≠ 0 then (0, 0, shpA c) else if lrg c ≠ 0 then (0, 0, lrg c) else ((szC c).1, (szC c).2, 0) := rfl
theorem c52 (c : Cd) : Con Try.prog 52 [cv c] 0 (.tup [iv (sizR c).1, iv (sizR c).2.1, iv (sizR c).2.2]) := by
  have K1 := c103 c
  have K2 := c104 c
  have K3 := c105 c
  rw [sizR_eq]
  generalize shpA c = x at *
  generalize lrg c = y at *
  generalize szC c = z at *
  refine conT (X := []) (rs := [.tmp 2, .tmp 3, .tmp 4]) Try.func52 (by kernel_rfl) rfl rfl (by kernel_rfl) ?_
  simp (dsimp := false) (maxDischargeDepth := 16) only [go_sem, ↓reduceIte, reduceCtorEq, Nat.reduceEqDiff, Nat.reduceAdd, Nat.reduceMul, Nat.reduceSub, Nat.reduceLT, Nat.reduceLeDiff, Nat.reducePow, Int.reduceLT, Int.reduceLE, Int.reduceNeg, Int.reduceToNat]
  refine callK_intro K1 ?_
  simp (dsimp := false) (maxDischargeDepth := 16) only [go_sem, ↓reduceIte, reduceCtorEq, Nat.reduceEqDiff, Nat.reduceAdd, Nat.reduceMul, Nat.reduceSub, Nat.reduceLT, Nat.reduceLeDiff, Nat.reducePow, Int.reduceLT, Int.reduceLE, Int.reduceNeg, Int.reduceToNat]
  refine condK_intro (fun q => ?_) (fun q => ?_)
  · simp (dsimp := false) (maxDischargeDepth := 16) only [go_sem, ↓reduceIte, reduceCtorEq, Nat.reduceEqDiff, Nat.reduceAdd, Nat.reduceMul, Nat.reduceSub, Nat.reduceLT, Nat.reduceLeDiff, Nat.reducePow, Int.reduceLT, Int.reduceLE, Int.reduceNeg, Int.reduceToNat, q]
    rw [if_pos (ne0_T q)]
    exact finK ⟨rfl, rfl⟩
  rw [if_neg (by simp [ne0_F q])]
  simp (dsimp := false) (maxDischargeDepth := 16) only [go_sem, ↓reduceIte, reduceCtorEq, Nat.reduceEqDiff, Nat.reduceAdd, Nat.reduceMul, Nat.reduceSub, Nat.reduceLT, Nat.reduceLeDiff, Nat.reducePow, Int.reduceLT, Int.reduceLE, Int.reduceNeg, Int.reduceToNat, q]
  refine callK_intro K2 ?_
  simp (dsimp := false) (maxDischargeDepth := 16) only [go_sem, ↓reduceIte, reduceCtorEq, Nat.reduceEqDiff, Nat.reduceAdd, Nat.reduceMul, Nat.reduceSub, Nat.reduceLT, Nat.reduceLeDiff, Nat.reducePow, Int.reduceLT, Int.reduceLE, Int.reduceNeg, Int.reduceToNat]
  refine condK_intro (fun q2 => ?_) (fun q2 => ?_)
  · simp (dsimp := false) (maxDischargeDepth := 16) only [go_sem, ↓reduceIte, reduceCtorEq, Nat.reduceEqDiff, Nat.reduceAdd, Nat.reduceMul, Nat.reduceSub, Nat.reduceLT, Nat.reduceLeDiff, Nat.reducePow, Int.reduceLT, Int.reduceLE, Int.reduceNeg, Int.reduceToNat, q, q2]
    rw [if_pos (ne0_T q2)]
    exact finK ⟨rfl, rfl⟩
  rw [if_neg (by simp [ne0_F q2])]
  simp (dsimp := false) (maxDischargeDepth := 16) only [go_sem, ↓reduceIte, reduceCtorEq, Nat.reduceEqDiff, Nat.reduceAdd, Nat.reduceMul, Nat.reduceSub, Nat.reduceLT, Nat.reduceLeDiff, Nat.reducePow, Int.reduceLT, Int.reduceLE, Int.reduceNeg, Int.reduceToNat, q, q2]
  refine callK_intro K3 ?_
  simp (dsimp := false) (maxDischargeDepth := 16) only [go_sem, ↓reduceIte, reduceCtorEq, Nat.reduceEqDiff, Nat.reduceAdd, Nat.reduceMul, Nat.reduceSub, Nat.reduceLT, Nat.reduceLeDiff, Nat.reducePow, Int.reduceLT, Int.reduceLE, Int.reduceNeg, Int.reduceToNat]
  exact finK ⟨rfl, rfl⟩
theorem c53 (c : Cd) (hf : fitC c 45 90 = true) : Con Try.prog 53 [cv c] 0 (.tup [iv (sizR c).1, iv (sizR c).2.1, iv (sizR c).2.2]) := by
  have K1 := c106 c hf
  have K2 := c107 c
  have K3 := c101 c
  rw [sizR_eq]
  generalize shpA c = x at *
  generalize lrg c = y at *
  generalize szC c = z at *
  refine conT (X := []) (rs := [.tmp 2, .tmp 3, .tmp 4]) Try.func53 (by kernel_rfl) rfl rfl (by kernel_rfl) ?_
  simp (dsimp := false) (maxDischargeDepth := 16) only [go_sem, ↓reduceIte, reduceCtorEq, Nat.reduceEqDiff, Nat.reduceAdd, Nat.reduceMul, Nat.reduceSub, Nat.reduceLT, Nat.reduceLeDiff, Nat.reducePow, Int.reduceLT, Int.reduceLE, Int.reduceNeg, Int.reduceToNat]
  refine callK_intro K1 ?_
  simp (dsimp := false) (maxDischargeDepth := 16) only [go_sem, ↓reduceIte, reduceCtorEq, Nat.reduceEqDiff, Nat.reduceAdd, Nat.reduceMul, Nat.reduceSub, Nat.reduceLT, Nat.reduceLeDiff, Nat.reducePow, Int.reduceLT, Int.reduceLE, Int.reduceNeg, Int.reduceToNat]
  refine condK_intro (fun q => ?_) (fun q => ?_)
  · simp (dsimp := false) (maxDischargeDepth := 16) only [go_sem, ↓reduceIte, reduceCtorEq, Nat.reduceEqDiff, Nat.reduceAdd, Nat.reduceMul, Nat.reduceSub, Nat.reduceLT, Nat.reduceLeDiff, Nat.reducePow, Int.reduceLT, Int.reduceLE, Int.reduceNeg, Int.reduceToNat, q]
    rw [if_pos (ne0_T q)]
    exact finK ⟨rfl, rfl⟩
  rw [if_neg (by simp [ne0_F q])]
  simp (dsimp := false) (maxDischargeDepth := 16) only [go_sem, ↓reduceIte, reduceCtorEq, Nat.reduceEqDiff, Nat.reduceAdd, Nat.reduceMul, Nat.reduceSub, Nat.reduceLT, Nat.reduceLeDiff, Nat.reducePow, Int.reduceLT, Int.reduceLE, Int.reduceNeg, Int.reduceToNat, q]
  refine callK_intro K2 ?_
  simp (dsimp := false) (maxDischargeDepth := 16) only [go_sem, ↓reduceIte, reduceCtorEq, Nat.reduceEqDiff, Nat.reduceAdd, Nat.reduceMul, Nat.reduceSub, Nat.reduceLT, Nat.reduceLeDiff, Nat.reducePow, Int.reduceLT, Int.reduceLE, Int.reduceNeg, Int.reduceToNat]
  refine condK_intro (fun q2 => ?_) (fun q2 => ?_)
  · simp (dsimp := false) (maxDischargeDepth := 16) only [go_sem, ↓reduceIte, reduceCtorEq, Nat.reduceEqDiff, Nat.reduceAdd, Nat.reduceMul, Nat.reduceSub, Nat.reduceLT, Nat.reduceLeDiff, Nat.reducePow, Int.reduceLT, Int.reduceLE, Int.reduceNeg, Int.reduceToNat, q, q2]
    rw [if_pos (ne0_T q2)]
    exact finK ⟨rfl, rfl⟩
  rw [if_neg (by simp [ne0_F q2])]
  simp (dsimp := false) (maxDischargeDepth := 16) only [go_sem, ↓reduceIte, reduceCtorEq, Nat.reduceEqDiff, Nat.reduceAdd, Nat.reduceMul, Nat.reduceSub, Nat.reduceLT, Nat.reduceLeDiff, Nat.reducePow, Int.reduceLT, Int.reduceLE, Int.reduceNeg, Int.reduceToNat, q, q2]
  refine callK_intro K3 ?_
  simp (dsimp := false) (maxDischargeDepth := 16) only [go_sem, ↓reduceIte, reduceCtorEq, Nat.reduceEqDiff, Nat.reduceAdd, Nat.reduceMul, Nat.reduceSub, Nat.reduceLT, Nat.reduceLeDiff, Nat.reducePow, Int.reduceLT, Int.reduceLE, Int.reduceNeg, Int.reduceToNat]
  exact finK ⟨rfl, rfl⟩
end Go.Sy
