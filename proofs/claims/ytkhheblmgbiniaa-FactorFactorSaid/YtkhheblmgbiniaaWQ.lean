/- FactorListed: the law's contract. -/
import Derived.Test.YtkhheblmgbiniaaWO
import Derived.Test.YtkhheblmgbiniaaM3
set_option linter.unusedSimpArgs false
namespace Go.Sy
open Go Go.Proofs

theorem aops_cut {P : Program} {ops : Array Oper} {l : List Oper} {s : St} {K : St → Prop} (I : St → Prop) (h1 : I s) (h2 : ∀ s', I s' → aops P ops l s' K) : aops P ops l s K := h2 s h1
theorem made_ok {d : Dr} (hd : drOK d) : gErr (made d) = 0 ∧ (made d).n.length ≤ 8 ∧ (made d).e.length ≤ 10 := by
  have l1 : (made d).n.length ≤ 8 := by simp [made]; omega
  have l2 : (made d).e.length ≤ 10 := by
    unfold made
    show (if d.n = [] then [] else _ : List Ed).length ≤ 10
    split
    · simp
    · simp; omega
  refine ⟨?_, l1, l2⟩
  rw [gErr, if_pos (by omega), if_pos]
  refine ⟨fun t ht => ?_, fun x hx => ?_⟩
  · obtain ⟨y, hy, rfl⟩ := List.mem_map.1 ht
    have := hd.1 y (List.mem_of_mem_take hy)
    have := tmod_byte (n := 3) this.1 (by decide)
    omega
  · have hx : x ∈ (if d.n = [] then [] else (d.e.take 10).map (mkE (d.n.take 8).length) : List Ed) := hx
    split at hx
    · simp at hx
    · rename_i hne
      obtain ⟨y, hy, rfl⟩ := List.mem_map.1 hx
      have hb := hd.2 y (List.mem_of_mem_take hy)
      have hpos : 0 < d.n.length := List.length_pos_iff.2 hne
      have hl : (made d).n.length = (d.n.take 8).length := by simp [made]
      have hp : (0 : Int) < ((d.n.take 8).length : Int) := by rw [List.length_take]; omega
      have x1 := tmod_byte (n := 2) hb.1.1 (by decide)
      have x2 := tmod_byte (n := ((d.n.take 8).length : Int)) hb.2.1.1 hp
      have x3 := tmod_byte (n := ((d.n.take 8).length : Int)) hb.2.2.1 hp
      rw [hl]
      unfold edOK mkE
      dsimp only
      omega
set_option maxHeartbeats 2000000 in
theorem c6 (x y : Dr) (hx : drOK x) (hy : drOK y) : Con Try.prog 6 [dv x, dv y] 0 (bv true) := by
  have H1 := c29 x 4 3
  have H2 := c29 y 4 3
  obtain ⟨va, na, ea⟩ := made_ok hx
  obtain ⟨vb, nb, eb⟩ := made_ok hy
  have H3 := c30 x hx
  have H4 := c30 y hy
  generalize made x = a at *
  generalize made y = b at *
  generalize smallD x 4 3 = A at *
  generalize smallD y 4 3 = B at *
  cases A with
  | false =>
    refine conT (X := [(99, [], [])]) (rs := [.tmp 4]) Try.func6 (by kernel_rfl) rfl rfl (by kernel_rfl) ?_
    simp (dsimp := false) (maxDischargeDepth := 16) only [go_sem, ↓reduceIte, reduceCtorEq, Nat.reduceEqDiff, Nat.reduceAdd, Nat.reduceMul, Nat.reduceSub, Nat.reduceLT, Nat.reduceLeDiff, Nat.reducePow, Int.reduceLT, Int.reduceLE, Int.reduceNeg, Int.reduceToNat]
    refine callK_intro c16 ?_
    simp (dsimp := false) (maxDischargeDepth := 16) only [go_sem, ↓reduceIte, reduceCtorEq, Nat.reduceEqDiff, Nat.reduceAdd, Nat.reduceMul, Nat.reduceSub, Nat.reduceLT, Nat.reduceLeDiff, Nat.reducePow, Int.reduceLT, Int.reduceLE, Int.reduceNeg, Int.reduceToNat]
    refine callK_intro H1 ?_
    simp (dsimp := false) (maxDischargeDepth := 16) only [go_sem, ↓reduceIte, reduceCtorEq, Nat.reduceEqDiff, Nat.reduceAdd, Nat.reduceMul, Nat.reduceSub, Nat.reduceLT, Nat.reduceLeDiff, Nat.reducePow, Int.reduceLT, Int.reduceLE, Int.reduceNeg, Int.reduceToNat]
    refine callK_intro c16 ?_
    simp (dsimp := false) (maxDischargeDepth := 16) only [go_sem, ↓reduceIte, reduceCtorEq, Nat.reduceEqDiff, Nat.reduceAdd, Nat.reduceMul, Nat.reduceSub, Nat.reduceLT, Nat.reduceLeDiff, Nat.reducePow, Int.reduceLT, Int.reduceLE, Int.reduceNeg, Int.reduceToNat]
    exact finB rfl
  | true =>
  cases B with
  | false =>
    refine conT (X := [(99, [], [])]) (rs := [.tmp 4]) Try.func6 (by kernel_rfl) rfl rfl (by kernel_rfl) ?_
    simp (dsimp := false) (maxDischargeDepth := 16) only [go_sem, ↓reduceIte, reduceCtorEq, Nat.reduceEqDiff, Nat.reduceAdd, Nat.reduceMul, Nat.reduceSub, Nat.reduceLT, Nat.reduceLeDiff, Nat.reducePow, Int.reduceLT, Int.reduceLE, Int.reduceNeg, Int.reduceToNat]
    refine callK_intro c16 ?_
    simp (dsimp := false) (maxDischargeDepth := 16) only [go_sem, ↓reduceIte, reduceCtorEq, Nat.reduceEqDiff, Nat.reduceAdd, Nat.reduceMul, Nat.reduceSub, Nat.reduceLT, Nat.reduceLeDiff, Nat.reducePow, Int.reduceLT, Int.reduceLE, Int.reduceNeg, Int.reduceToNat]
    refine callK_intro H1 ?_
    simp (dsimp := false) (maxDischargeDepth := 16) only [go_sem, ↓reduceIte, reduceCtorEq, Nat.reduceEqDiff, Nat.reduceAdd, Nat.reduceMul, Nat.reduceSub, Nat.reduceLT, Nat.reduceLeDiff, Nat.reducePow, Int.reduceLT, Int.reduceLE, Int.reduceNeg, Int.reduceToNat]
    refine callK_intro H2 ?_
    simp (dsimp := false) (maxDischargeDepth := 16) only [go_sem, ↓reduceIte, reduceCtorEq, Nat.reduceEqDiff, Nat.reduceAdd, Nat.reduceMul, Nat.reduceSub, Nat.reduceLT, Nat.reduceLeDiff, Nat.reducePow, Int.reduceLT, Int.reduceLE, Int.reduceNeg, Int.reduceToNat]
    refine callK_intro c16 ?_
    simp (dsimp := false) (maxDischargeDepth := 16) only [go_sem, ↓reduceIte, reduceCtorEq, Nat.reduceEqDiff, Nat.reduceAdd, Nat.reduceMul, Nat.reduceSub, Nat.reduceLT, Nat.reduceLeDiff, Nat.reducePow, Int.reduceLT, Int.reduceLE, Int.reduceNeg, Int.reduceToNat]
    exact finB rfl
  | true =>
  have s1 : a.n.length + b.n.length ≤ 40 ∧ a.e.length + b.e.length ≤ 80 := by omega
  have e1 := ovS_eq va vb s1
  have e2 := ovS_eq vb va (by omega)
  have el := ovP_len va vb
  have hall : ∀ p ∈ ovP a b, isM a b p := fun p hp => (memP a b p).1 hp
  have hnd := ovP_nodup a b
  have hhead := ovP_head a b
  generalize ovP a b = l at *
  generalize ovP b a = k at *
  have H5 := c18 a b
  have H6 := c18 b a
  refine conT (X := [(99, [], [])]) (rs := [.tmp 4]) Try.func6 (by kernel_rfl) rfl rfl (by kernel_rfl) ?_
  simp (dsimp := false) (maxDischargeDepth := 16) only [go_sem, ↓reduceIte, reduceCtorEq, Nat.reduceEqDiff, Nat.reduceAdd, Nat.reduceMul, Nat.reduceSub, Nat.reduceLT, Nat.reduceLeDiff, Nat.reducePow, Int.reduceLT, Int.reduceLE, Int.reduceNeg, Int.reduceToNat]
  refine callK_intro c16 ?_
  simp (dsimp := false) (maxDischargeDepth := 16) only [go_sem, ↓reduceIte, reduceCtorEq, Nat.reduceEqDiff, Nat.reduceAdd, Nat.reduceMul, Nat.reduceSub, Nat.reduceLT, Nat.reduceLeDiff, Nat.reducePow, Int.reduceLT, Int.reduceLE, Int.reduceNeg, Int.reduceToNat]
  refine callK_intro H1 ?_
  simp (dsimp := false) (maxDischargeDepth := 16) only [go_sem, ↓reduceIte, reduceCtorEq, Nat.reduceEqDiff, Nat.reduceAdd, Nat.reduceMul, Nat.reduceSub, Nat.reduceLT, Nat.reduceLeDiff, Nat.reducePow, Int.reduceLT, Int.reduceLE, Int.reduceNeg, Int.reduceToNat]
  refine callK_intro H2 ?_
  simp (dsimp := false) (maxDischargeDepth := 16) only [go_sem, ↓reduceIte, reduceCtorEq, Nat.reduceEqDiff, Nat.reduceAdd, Nat.reduceMul, Nat.reduceSub, Nat.reduceLT, Nat.reduceLeDiff, Nat.reducePow, Int.reduceLT, Int.reduceLE, Int.reduceNeg, Int.reduceToNat]
  refine callK_intro H3 ?_
  simp (dsimp := false) (maxDischargeDepth := 16) only [go_sem, ↓reduceIte, reduceCtorEq, Nat.reduceEqDiff, Nat.reduceAdd, Nat.reduceMul, Nat.reduceSub, Nat.reduceLT, Nat.reduceLeDiff, Nat.reducePow, Int.reduceLT, Int.reduceLE, Int.reduceNeg, Int.reduceToNat]
  refine callK_intro H4 ?_
  simp (dsimp := false) (maxDischargeDepth := 16) only [go_sem, ↓reduceIte, reduceCtorEq, Nat.reduceEqDiff, Nat.reduceAdd, Nat.reduceMul, Nat.reduceSub, Nat.reduceLT, Nat.reduceLeDiff, Nat.reducePow, Int.reduceLT, Int.reduceLE, Int.reduceNeg, Int.reduceToNat]
  by_cases hbig : 2000 < l.length
  · rw [if_pos hbig] at e1
    rw [if_pos (by omega)] at e2
    rw [e1] at H5
    rw [e2] at H6
    refine callK_intro H5 ?_
    simp (dsimp := false) (maxDischargeDepth := 16) only [go_sem, ↓reduceIte, reduceCtorEq, Nat.reduceEqDiff, Nat.reduceAdd, Nat.reduceMul, Nat.reduceSub, Nat.reduceLT, Nat.reduceLeDiff, Nat.reducePow, Int.reduceLT, Int.reduceLE, Int.reduceNeg, Int.reduceToNat]
    refine callK_intro H6 ?_
    simp (dsimp := false) (maxDischargeDepth := 16) only [go_sem, ↓reduceIte, reduceCtorEq, Nat.reduceEqDiff, Nat.reduceAdd, Nat.reduceMul, Nat.reduceSub, Nat.reduceLT, Nat.reduceLeDiff, Nat.reducePow, Int.reduceLT, Int.reduceLE, Int.reduceNeg, Int.reduceToNat]
    refine condK_intro (fun q1 => absurd q1 (by decide)) (fun q1 => ?_)
    simp (dsimp := false) (maxDischargeDepth := 16) only [go_sem, ↓reduceIte, reduceCtorEq, Nat.reduceEqDiff, Nat.reduceAdd, Nat.reduceMul, Nat.reduceSub, Nat.reduceLT, Nat.reduceLeDiff, Nat.reducePow, Int.reduceLT, Int.reduceLE, Int.reduceNeg, Int.reduceToNat, q1]
    refine condK_intro (fun q2 => absurd q2 (by decide)) (fun q2 => ?_)
    simp (dsimp := false) (maxDischargeDepth := 16) only [go_sem, ↓reduceIte, reduceCtorEq, Nat.reduceEqDiff, Nat.reduceAdd, Nat.reduceMul, Nat.reduceSub, Nat.reduceLT, Nat.reduceLeDiff, Nat.reducePow, Int.reduceLT, Int.reduceLE, Int.reduceNeg, Int.reduceToNat, q1, q2]
    refine condK_intro (fun q3 => ?_) (fun q3 => absurd q3 (by decide))
    simp (dsimp := false) (maxDischargeDepth := 16) only [go_sem, ↓reduceIte, reduceCtorEq, Nat.reduceEqDiff, Nat.reduceAdd, Nat.reduceMul, Nat.reduceSub, Nat.reduceLT, Nat.reduceLeDiff, Nat.reducePow, Int.reduceLT, Int.reduceLE, Int.reduceNeg, Int.reduceToNat, q1, q2, q3]
    refine condK_intro (fun q4 => ?_) (fun q4 => absurd q4 (by decide))
    simp (dsimp := false) (maxDischargeDepth := 16) only [go_sem, ↓reduceIte, reduceCtorEq, Nat.reduceEqDiff, Nat.reduceAdd, Nat.reduceMul, Nat.reduceSub, Nat.reduceLT, Nat.reduceLeDiff, Nat.reducePow, Int.reduceLT, Int.reduceLE, Int.reduceNeg, Int.reduceToNat, q1, q2, q3, q4]
    exact finB rfl
  · rw [if_neg hbig] at e1
    rw [if_neg (by omega)] at e2
    rw [e1] at H5
    rw [e2] at H6
    refine callK_intro H5 ?_
    simp (dsimp := false) (maxDischargeDepth := 16) only [go_sem, ↓reduceIte, reduceCtorEq, Nat.reduceEqDiff, Nat.reduceAdd, Nat.reduceMul, Nat.reduceSub, Nat.reduceLT, Nat.reduceLeDiff, Nat.reducePow, Int.reduceLT, Int.reduceLE, Int.reduceNeg, Int.reduceToNat]
    refine callK_intro H6 ?_
    simp (dsimp := false) (maxDischargeDepth := 16) only [go_sem, ↓reduceIte, reduceCtorEq, Nat.reduceEqDiff, Nat.reduceAdd, Nat.reduceMul, Nat.reduceSub, Nat.reduceLT, Nat.reduceLeDiff, Nat.reducePow, Int.reduceLT, Int.reduceLE, Int.reduceNeg, Int.reduceToNat]
    refine condK_intro (fun q1 => absurd q1 (by decide)) (fun q1 => ?_)
    simp (dsimp := false) (maxDischargeDepth := 16) only [go_sem, ↓reduceIte, reduceCtorEq, Nat.reduceEqDiff, Nat.reduceAdd, Nat.reduceMul, Nat.reduceSub, Nat.reduceLT, Nat.reduceLeDiff, Nat.reducePow, Int.reduceLT, Int.reduceLE, Int.reduceNeg, Int.reduceToNat, q1]
    refine condK_intro (fun q2 => absurd (ineq q2) (by omega)) (fun q2 => ?_)
    simp (dsimp := false) (maxDischargeDepth := 16) only [go_sem, ↓reduceIte, reduceCtorEq, Nat.reduceEqDiff, Nat.reduceAdd, Nat.reduceMul, Nat.reduceSub, Nat.reduceLT, Nat.reduceLeDiff, Nat.reducePow, Int.reduceLT, Int.reduceLE, Int.reduceNeg, Int.reduceToNat, q1, q2]
    refine loopK_intro (fun (i : Nat) s => i ≤ l.length ∧ s.t 5 = .box (5, 0, 0) 0 ∧ s.b (5, 0, 0) = some ⟨gcs a, false⟩ ∧ s.t 6 = .box (6, 0, 0) 0 ∧ s.b (6, 0, 0) = some ⟨gcs b, false⟩ ∧ s.t 7 = olv (l.map fun p => glue a b p.1 p.2) ∧
      s.t 63 = olv (l.map fun p => glue a b p.1 p.2) ∧ s.t 64 = iv l.length ∧ s.t 65 = iv i) (fun i => l.length - i) ?_ ?_
    · refine ⟨0, by omega, rfl, rfl, rfl, rfl, rfl, rfl, ?_, rfl⟩
      simp (dsimp := false) (maxDischargeDepth := 16) only [go_sem, ↓reduceIte, reduceCtorEq, Nat.reduceEqDiff, Nat.reduceAdd, Nat.reduceMul, Nat.reduceSub, Nat.reduceLT, Nat.reduceLeDiff, Nat.reducePow, Int.reduceLT, Int.reduceLE, Int.reduceNeg, Int.reduceToNat]
    rintro i s ⟨hi, t5, b5, t6, b6, t7, t63, t64, t65⟩
    simp (dsimp := false) (maxDischargeDepth := 16) only [go_sem, ↓reduceIte, reduceCtorEq, Nat.reduceEqDiff, Nat.reduceAdd, Nat.reduceMul, Nat.reduceSub, Nat.reduceLT, Nat.reduceLeDiff, Nat.reducePow, Int.reduceLT, Int.reduceLE, Int.reduceNeg, Int.reduceToNat, t5, b5, t6, b6, t7, t63, t64, t65]
    refine condK_dec (fun h6 => ?_) (fun h6 => ?_)
    rotate_left
    · have hpos : 0 < l.length := by
        cases l with
        | nil => simp at hhead
        | cons p l => simp
      have hl0 : l[0] = (List.replicate b.n.length (-1), List.replicate b.e.length (-1)) := by
        cases l with
        | nil => simp at hhead
        | cons p l => simpa using hhead
      have hcount : (glue a b l[0].1 l[0].2).g.n.length = a.n.length + b.n.length := by rw [hl0]; exact glue_first a b _
      have w1 : IntKind.i64.wrap ((a.n.length : Int) + b.n.length) = (a.n.length : Int) + b.n.length := wrap_i64 _ (by omega) (by omega)
      simp (dsimp := false) (maxDischargeDepth := 16) only [go_sem, ↓reduceIte, reduceCtorEq, Nat.reduceEqDiff, Nat.reduceAdd, Nat.reduceMul, Nat.reduceSub, Nat.reduceLT, Nat.reduceLeDiff, Nat.reducePow, Int.reduceLT, Int.reduceLE, Int.reduceNeg, Int.reduceToNat, t5, b5, t6, b6, t7, t63, t64, t65, h6]
      refine condK_dec (fun h7 => ?_) (fun h7 => absurd (show (0 : Int) < l.length by omega) h7)
      simp (dsimp := false) (maxDischargeDepth := 16) only [go_sem, ↓reduceIte, reduceCtorEq, Nat.reduceEqDiff, Nat.reduceAdd, Nat.reduceMul, Nat.reduceSub, Nat.reduceLT, Nat.reduceLeDiff, Nat.reducePow, Int.reduceLT, Int.reduceLE, Int.reduceNeg, Int.reduceToNat, t5, b5, t6, b6, t7, t63, t64, t65, h6, h7, idx_int, hpos, w1, hcount]
      refine finB ?_
      simp
    have hM := hall _ (List.getElem_mem h6)
    obtain ⟨gl, gr, gj⟩ := glue_all va vb (glue_small s1 hM) hM
    have K1 := c31 a (glue a b l[i].1 l[i].2).g (glue a b l[i].1 l[i].2).l
    have K2 := c31 b (glue a b l[i].1 l[i].2).g (glue a b l[i].1 l[i].2).r
    have K3 := c27 a b (glue a b l[i].1 l[i].2).g (glue a b l[i].1 l[i].2).l (glue a b l[i].1 l[i].2).r
    rw [gl] at K1
    rw [gr] at K2
    rw [gj] at K3
    have w2 : IntKind.i64.wrap ((i : Int) - 1) = (i : Int) - 1 := wrap_i64 _ (by omega) (by omega)
    simp (dsimp := false) (maxDischargeDepth := 16) only [go_sem, ↓reduceIte, reduceCtorEq, Nat.reduceEqDiff, Nat.reduceAdd, Nat.reduceMul, Nat.reduceSub, Nat.reduceLT, Nat.reduceLeDiff, Nat.reducePow, Int.reduceLT, Int.reduceLE, Int.reduceNeg, Int.reduceToNat, t5, b5, t6, b6, t7, t63, t64, t65, h6, idx_nat]
    refine callK_intro K1 ?_
    simp (dsimp := false) (maxDischargeDepth := 16) only [go_sem, ↓reduceIte, reduceCtorEq, Nat.reduceEqDiff, Nat.reduceAdd, Nat.reduceMul, Nat.reduceSub, Nat.reduceLT, Nat.reduceLeDiff, Nat.reducePow, Int.reduceLT, Int.reduceLE, Int.reduceNeg, Int.reduceToNat, t5, b5, t6, b6, t7, t63, t64, t65, h6]
    refine callK_intro K2 ?_
    simp (dsimp := false) (maxDischargeDepth := 16) only [go_sem, ↓reduceIte, reduceCtorEq, Nat.reduceEqDiff, Nat.reduceAdd, Nat.reduceMul, Nat.reduceSub, Nat.reduceLT, Nat.reduceLeDiff, Nat.reducePow, Int.reduceLT, Int.reduceLE, Int.reduceNeg, Int.reduceToNat, t5, b5, t6, b6, t7, t63, t64, t65, h6]
    refine callK_intro K3 ?_
    simp (dsimp := false) (maxDischargeDepth := 16) only [go_sem, ↓reduceIte, reduceCtorEq, Nat.reduceEqDiff, Nat.reduceAdd, Nat.reduceMul, Nat.reduceSub, Nat.reduceLT, Nat.reduceLeDiff, Nat.reducePow, Int.reduceLT, Int.reduceLE, Int.reduceNeg, Int.reduceToNat, t5, b5, t6, b6, t7, t63, t64, t65, h6]
    refine condK_dec (fun h9 => ?_) (fun h9 => ?_)
    · have r1 : (0 : Int) ≤ (i : Int) - 1 := by omega
      have r2 : ((i : Int) - 1).toNat < l.length := by omega
      have K4 := c32 (glue a b l[((i : Int) - 1).toNat].1 l[((i : Int) - 1).toNat].2) (glue a b l[i].1 l[i].2)
      have hne : glue a b l[((i : Int) - 1).toNat].1 l[((i : Int) - 1).toNat].2 ≠ glue a b l[i].1 l[i].2 := fun e => by
        have e2 := glue_inj (hall _ (List.getElem_mem r2)) hM e
        have e3 : l[((i : Int) - 1).toNat]? = l[i]? := by rw [List.getElem?_eq_getElem r2, List.getElem?_eq_getElem h6, e2]
        have := (List.getElem?_inj r2 hnd).1 e3
        omega
      rw [decide_eq_false hne] at K4
      simp (dsimp := false) (maxDischargeDepth := 16) only [go_sem, ↓reduceIte, reduceCtorEq, Nat.reduceEqDiff, Nat.reduceAdd, Nat.reduceMul, Nat.reduceSub, Nat.reduceLT, Nat.reduceLeDiff, Nat.reducePow, Int.reduceLT, Int.reduceLE, Int.reduceNeg, Int.reduceToNat, t5, b5, t6, b6, t7, t63, t64, t65, h6, h9, w2, idx_int, r1, r2]
      refine callK_intro K4 ?_
      simp (dsimp := false) (maxDischargeDepth := 16) only [go_sem, ↓reduceIte, reduceCtorEq, Nat.reduceEqDiff, Nat.reduceAdd, Nat.reduceMul, Nat.reduceSub, Nat.reduceLT, Nat.reduceLeDiff, Nat.reducePow, Int.reduceLT, Int.reduceLE, Int.reduceNeg, Int.reduceToNat, t5, b5, t6, b6, t7, t63, t64, t65, h6, h9]
      exact ⟨i + 1, by omega, by omega, by rw [wrapN _ (by omega)]⟩
    · simp (dsimp := false) (maxDischargeDepth := 16) only [go_sem, ↓reduceIte, reduceCtorEq, Nat.reduceEqDiff, Nat.reduceAdd, Nat.reduceMul, Nat.reduceSub, Nat.reduceLT, Nat.reduceLeDiff, Nat.reducePow, Int.reduceLT, Int.reduceLE, Int.reduceNeg, Int.reduceToNat, t5, b5, t6, b6, t7, t63, t64, t65, h6, h9]
      exact ⟨i + 1, by omega, by omega, by rw [wrapN _ (by omega)]⟩
end Go.Sy
