/- Contracts: the reference's quotient by partitions. -/
import Derived.Test.YtkhheblmgbiniaaWE
set_option linter.unusedSimpArgs false
namespace Go.Sy
open Go Go.Proofs

/-- The least elements of the classes of the first i. -/
def rts (p : List Int) (i : Nat) : List Nat := (List.range i).filter fun (x : Nat) => decide (p.getD x 0 = (x : Int))
theorem rts_yes {p : List Int} {i : Nat} (h : p.getD i 0 = (i : Int)) : rts p (i + 1) = rts p i ++ [i] := by
  unfold rts
  rw [List.range_succ, List.filter_append]
  simp only [List.filter_cons, List.filter_nil]
  rw [if_pos (by simpa using h)]
theorem rts_no {p : List Int} {i : Nat} (h : p.getD i 0 ≠ (i : Int)) : rts p (i + 1) = rts p i := by
  unfold rts
  rw [List.range_succ, List.filter_append]
  simp only [List.filter_cons, List.filter_nil]
  rw [if_neg (by simpa using h), List.append_nil]
theorem rts_len (p : List Int) (i : Nat) : (rts p i).length ≤ i := by
  unfold rts
  exact Nat.le_trans (List.length_filter_le _ _) (by simp)
def nodeAt (l : List Int) (x : Nat) : Int := l.getD x 0
def edgeAt (l : List Ed) (P : List Int) (x : Nat) : Ed := ((l.getD x (0, 0, 0)).1, P.getD (l.getD x (0, 0, 0)).2.1.toNat 0, P.getD (l.getD x (0, 0, 0)).2.2.toNat 0)
/-- The quotient by partitions of the nodes and of the edges. -/
def quo (a : Gr) (p q : List Int) : Qu :=
  ⟨⟨(rts p p.length).map (nodeAt a.n), (rts q q.length).map (edgeAt a.e (nq p p.length).1)⟩, ⟨(nq p p.length).1, (nq q q.length).1⟩⟩
theorem edgeAt_at {l : List Ed} {P : List Int} {i : Nat} (h : i < l.length) (r1 : l[i].2.1.toNat < P.length) (r2 : l[i].2.2.toNat < P.length) : edgeAt l P i = (l[i].1, P[l[i].2.1.toNat], P[l[i].2.2.toNat]) := by
  rw [edgeAt, getD_at h, getD_at r1, getD_at r2]
set_option maxHeartbeats 1000000 in
theorem c147 (a : Gr) (p q : List Int) (hp : isP p) (hq : isP q) (hpl : p.length = a.n.length) (hql : q.length = a.e.length) (hn : a.n.length ≤ 80) (he : a.e.length ≤ 80)
    (hR : ∀ x ∈ a.e, 0 ≤ x.2.1 ∧ x.2.1 < a.n.length ∧ 0 ≤ x.2.2 ∧ x.2.2 < a.n.length) : Con Try.prog 147 [gv a, lv p, lv q] 0 (qv (quo a p q)) := by
  refine conT (X := []) (rs := [.cell 6 92]) Try.func147 (by kernel_rfl) rfl rfl (by kernel_rfl) ?_
  simp (dsimp := false) (maxDischargeDepth := 16) only [go_sem, ↓reduceIte, reduceCtorEq, Nat.reduceEqDiff, Nat.reduceAdd, Nat.reduceMul, Nat.reduceSub, Nat.reduceLT, Nat.reduceLeDiff, Nat.reducePow, Int.reduceLT, Int.reduceLE, Int.reduceNeg, Int.reduceToNat]
  refine callK_intro (c162 p (by omega) hp) ?_
  simp (dsimp := false) (maxDischargeDepth := 16) only [go_sem, ↓reduceIte, reduceCtorEq, Nat.reduceEqDiff, Nat.reduceAdd, Nat.reduceMul, Nat.reduceSub, Nat.reduceLT, Nat.reduceLeDiff, Nat.reducePow, Int.reduceLT, Int.reduceLE, Int.reduceNeg, Int.reduceToNat]
  refine callK_intro (c162 q (by omega) hq) ?_
  simp (dsimp := false) (maxDischargeDepth := 16) only [go_sem, ↓reduceIte, reduceCtorEq, Nat.reduceEqDiff, Nat.reduceAdd, Nat.reduceMul, Nat.reduceSub, Nat.reduceLT, Nat.reduceLeDiff, Nat.reducePow, Int.reduceLT, Int.reduceLE, Int.reduceNeg, Int.reduceToNat]
  have hPl := nq_len p p.length
  unfold quo
  generalize (nq p p.length).1 = P at *
  generalize (nq q q.length).1 = Q at *
  refine loopK_intro (fun (i : Nat) s => i ≤ p.length ∧ s.t 1 = lv p ∧ s.t 2 = lv q ∧ s.t 3 = .box (3, 0, 0) 0 ∧ s.b (3, 0, 0) = some ⟨gcs a, false⟩ ∧ s.t 6 = .box (6, 0, 0) 0 ∧ (∃ z1 z2 z3 z4, s.b (6, 0, 0) = some ⟨[z1, z2, z3, z4], false⟩) ∧
    s.t 7 = .box (7, 0, 0) 0 ∧ s.t 8 = iv i ∧ ∃ tk, s.b (7, 0, 0) = some ⟨[lvT ((rts p i).map (nodeAt a.n)) tk, .list 3 [] .nil, lv P, lv Q], false⟩ ∧ tokOK s tk = true) (fun i => p.length - i) ?_ ?_
  · exact ⟨0, by omega, rfl, rfl, rfl, rfl, rfl, ⟨_, _, _, _, rfl⟩, rfl, rfl, .nil, rfl, rfl⟩
  rintro i s ⟨hi, t1, t2, t3, b3, t6, ⟨z1, z2, z3, z4, b6⟩, t7, t8, tk, b7, htk⟩
  simp (dsimp := false) (maxDischargeDepth := 16) only [go_sem, ↓reduceIte, reduceCtorEq, Nat.reduceEqDiff, Nat.reduceAdd, Nat.reduceMul, Nat.reduceSub, Nat.reduceLT, Nat.reduceLeDiff, Nat.reducePow, Int.reduceLT, Int.reduceLE, Int.reduceNeg, Int.reduceToNat, t1, t2, t3, b3, t6, b6, t7, t8, b7]
  refine condK_dec (fun h6 => ?_) (fun h6 => ?_)
  · have h7 : i < a.n.length := by omega
    have hrl := rts_len p i
    simp (dsimp := false) (maxDischargeDepth := 16) only [go_sem, ↓reduceIte, reduceCtorEq, Nat.reduceEqDiff, Nat.reduceAdd, Nat.reduceMul, Nat.reduceSub, Nat.reduceLT, Nat.reduceLeDiff, Nat.reducePow, Int.reduceLT, Int.reduceLE, Int.reduceNeg, Int.reduceToNat, t1, t2, t3, b3, t6, b6, t7, t8, b7, h6, idx_nat]
    refine condK_intro (fun h8 => ?_) (fun h8 => ?_)
    · simp (dsimp := false) (maxDischargeDepth := 16) only [go_sem, ↓reduceIte, reduceCtorEq, Nat.reduceEqDiff, Nat.reduceAdd, Nat.reduceMul, Nat.reduceSub, Nat.reduceLT, Nat.reduceLeDiff, Nat.reducePow, Int.reduceLT, Int.reduceLE, Int.reduceNeg, Int.reduceToNat, t1, t2, t3, b3, t6, b6, t7, t8, b7, h6, h7, h8, idx_nat, htk]
      refine ⟨⟨by omega, by omega⟩, i + 1, by omega, by omega, ⟨_, _, _, _, rfl⟩, by rw [wrapN _ (by omega)], .own (38, s.g 38, 0), ?_, ?_⟩
      · rw [rts_yes (by rw [getD_at h6]; exact beqT h8), List.map_append]
        simp only [List.map_cons, List.map_nil, map1_app, nodeAt, getD_at h7]
      · simp (dsimp := false) (maxDischargeDepth := 16) only [go_sem, ↓reduceIte, reduceCtorEq, Nat.reduceEqDiff, Nat.reduceAdd, Nat.reduceMul, Nat.reduceSub, Nat.reduceLT, Nat.reduceLeDiff, Nat.reducePow, Int.reduceLT, Int.reduceLE, Int.reduceNeg, Int.reduceToNat]
    · simp (dsimp := false) (maxDischargeDepth := 16) only [go_sem, ↓reduceIte, reduceCtorEq, Nat.reduceEqDiff, Nat.reduceAdd, Nat.reduceMul, Nat.reduceSub, Nat.reduceLT, Nat.reduceLeDiff, Nat.reducePow, Int.reduceLT, Int.reduceLE, Int.reduceNeg, Int.reduceToNat, t1, t2, t3, b3, t6, b6, t7, t8, b7, h6, h8]
      refine ⟨i + 1, by omega, by omega, ⟨_, _, _, _, rfl⟩, by rw [wrapN _ (by omega)], tk, ?_, ?_⟩
      · rw [rts_no (by rw [getD_at h6]; exact beqF h8)]
      · simp (dsimp := false) (maxDischargeDepth := 16) only [go_sem, ↓reduceIte, reduceCtorEq, Nat.reduceEqDiff, Nat.reduceAdd, Nat.reduceMul, Nat.reduceSub, Nat.reduceLT, Nat.reduceLeDiff, Nat.reducePow, Int.reduceLT, Int.reduceLE, Int.reduceNeg, Int.reduceToNat, htk]
  simp (dsimp := false) (maxDischargeDepth := 16) only [go_sem, ↓reduceIte, reduceCtorEq, Nat.reduceEqDiff, Nat.reduceAdd, Nat.reduceMul, Nat.reduceSub, Nat.reduceLT, Nat.reduceLeDiff, Nat.reducePow, Int.reduceLT, Int.reduceLE, Int.reduceNeg, Int.reduceToNat, t1, t2, t3, b3, t6, b6, t7, t8, b7, h6]
  have : i = p.length := by omega
  subst this
  generalize (rts p p.length).map (nodeAt a.n) = G at *
  refine loopK_intro (fun (i : Nat) s => i ≤ q.length ∧ s.t 2 = lv q ∧ s.t 3 = .box (3, 0, 0) 0 ∧ s.b (3, 0, 0) = some ⟨gcs a, false⟩ ∧ s.t 6 = .box (6, 0, 0) 0 ∧ s.b (6, 0, 0) = some ⟨[z1, z2, z3, z4], false⟩ ∧
    s.t 7 = .box (7, 0, 0) 0 ∧ s.t 9 = iv i ∧ ∃ tk2, s.b (7, 0, 0) = some ⟨[lvT G tk, elT' ((rts q i).map (edgeAt a.e P)) tk2, lv P, lv Q], false⟩ ∧ tokOK s tk2 = true) (fun i => q.length - i) ?_ ?_
  · exact ⟨0, by omega, t2, t3, b3, t6, b6, t7, rfl, .nil, b7, rfl⟩
  clear t1 t2 t3 b3 t6 b6 t7 t8 b7 h6 hi htk
  rintro i s ⟨hi, t2, t3, b3, t6, b6, t7, t9, tk2, b7, htk⟩
  simp (dsimp := false) (maxDischargeDepth := 16) only [go_sem, ↓reduceIte, reduceCtorEq, Nat.reduceEqDiff, Nat.reduceAdd, Nat.reduceMul, Nat.reduceSub, Nat.reduceLT, Nat.reduceLeDiff, Nat.reducePow, Int.reduceLT, Int.reduceLE, Int.reduceNeg, Int.reduceToNat, t2, t3, b3, t6, b6, t7, t9, b7]
  refine condK_dec (fun h6 => ?_) (fun h6 => ?_)
  · have h7 : i < a.e.length := by omega
    have hrl := rts_len q i
    have hx := hR _ (List.getElem_mem h7)
    have r1 : a.e[i].2.1.toNat < P.length := by omega
    have r2 : a.e[i].2.2.toNat < P.length := by omega
    have r3 := hx.1
    have r4 := hx.2.2.1
    simp (dsimp := false) (maxDischargeDepth := 16) only [go_sem, ↓reduceIte, reduceCtorEq, Nat.reduceEqDiff, Nat.reduceAdd, Nat.reduceMul, Nat.reduceSub, Nat.reduceLT, Nat.reduceLeDiff, Nat.reducePow, Int.reduceLT, Int.reduceLE, Int.reduceNeg, Int.reduceToNat, t2, t3, b3, t6, b6, t7, t9, b7, h6, idx_nat]
    refine condK_intro (fun h8 => ?_) (fun h8 => ?_)
    · simp (dsimp := false) (maxDischargeDepth := 16) only [go_sem, ↓reduceIte, reduceCtorEq, Nat.reduceEqDiff, Nat.reduceAdd, Nat.reduceMul, Nat.reduceSub, Nat.reduceLT, Nat.reduceLeDiff, Nat.reducePow, Int.reduceLT, Int.reduceLE, Int.reduceNeg, Int.reduceToNat, t2, t3, b3, t6, b6, t7, t9, b7, h6, h7, h8, idx_nat, idx_int, r1, r2, r3, r4, htk]
      refine ⟨⟨by omega, by omega⟩, i + 1, by omega, by omega, by rw [wrapN _ (by omega)], .own (79, s.g 79, 0), ?_, ?_⟩
      · rw [rts_yes (by rw [getD_at h6]; exact beqT h8), List.map_append]
        simp only [List.map_cons, List.map_nil, edgeAt_at h7 r1 r2, map3_app]
        rfl
      · simp (dsimp := false) (maxDischargeDepth := 16) only [go_sem, ↓reduceIte, reduceCtorEq, Nat.reduceEqDiff, Nat.reduceAdd, Nat.reduceMul, Nat.reduceSub, Nat.reduceLT, Nat.reduceLeDiff, Nat.reducePow, Int.reduceLT, Int.reduceLE, Int.reduceNeg, Int.reduceToNat]
    · simp (dsimp := false) (maxDischargeDepth := 16) only [go_sem, ↓reduceIte, reduceCtorEq, Nat.reduceEqDiff, Nat.reduceAdd, Nat.reduceMul, Nat.reduceSub, Nat.reduceLT, Nat.reduceLeDiff, Nat.reducePow, Int.reduceLT, Int.reduceLE, Int.reduceNeg, Int.reduceToNat, t2, t3, b3, t6, b6, t7, t9, b7, h6, h8]
      refine ⟨i + 1, by omega, by omega, by rw [wrapN _ (by omega)], tk2, ?_, ?_⟩
      · rw [rts_no (by rw [getD_at h6]; exact beqF h8)]
      · simp (dsimp := false) (maxDischargeDepth := 16) only [go_sem, ↓reduceIte, reduceCtorEq, Nat.reduceEqDiff, Nat.reduceAdd, Nat.reduceMul, Nat.reduceSub, Nat.reduceLT, Nat.reduceLeDiff, Nat.reducePow, Int.reduceLT, Int.reduceLE, Int.reduceNeg, Int.reduceToNat, htk]
  · simp (dsimp := false) (maxDischargeDepth := 16) only [go_sem, ↓reduceIte, reduceCtorEq, Nat.reduceEqDiff, Nat.reduceAdd, Nat.reduceMul, Nat.reduceSub, Nat.reduceLT, Nat.reduceLeDiff, Nat.reducePow, Int.reduceLT, Int.reduceLE, Int.reduceNeg, Int.reduceToNat, t2, t3, b3, t6, b6, t7, t9, b7, h6]
    have : i = q.length := by omega
    subst this
    exact finK ⟨rfl, rfl⟩
end Go.Sy
