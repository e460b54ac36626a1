/- Contracts: the factorization of a morphism, as the program and as the document put it. -/
import Derived.Test.YtkhheblmgbiniaaOntoG5
set_option linter.unusedSimpArgs false
namespace Go.Sy
open Go Go.Proofs

def facV (r : Gr × Mo × Mo × Int) : AV := .tup [gv r.1, mv r.2.1, mv r.2.2.1, iv r.2.2.2]
attribute [go_sem] facV
def fcE (b : Gr) (N l : List Int) : List Ed := l.map fun x => ((b.e.getD x.toNat (0, 0, 0)).1, idxP (fun y => (b.e.getD x.toNat (0, 0, 0)).2.1 == y) N, idxP (fun y => (b.e.getD x.toNat (0, 0, 0)).2.2 == y) N)
theorem fcE_succ {b : Gr} {N l : List Int} {i : Nat} (h : i < l.length) : fcE b N (l.take (i + 1)) = fcE b N (l.take i) ++ [((b.e.getD l[i].toNat (0, 0, 0)).1, idxP (fun y => (b.e.getD l[i].toNat (0, 0, 0)).2.1 == y) N, idxP (fun y => (b.e.getD l[i].toNat (0, 0, 0)).2.2 == y) N)] := take_map h
theorem facP_eq' {a b : Gr} {m : Mo} (h : mErr a b m = 0) : facR a b m = (⟨thr (sq m.n) b.n, fcE b (sq m.n) (sq m.e)⟩, ⟨plc (sq m.n) m.n, plc (sq m.e) m.e⟩, ⟨sq m.n, sq m.e⟩, 0) := facP_eq h
set_option maxHeartbeats 2000000 in
theorem c45 (a b : Gr) (m : Mo) : Con Try.prog 45 [gv a, gv b, mv m] 0 (facV (facR a b m)) := by
  refine conT (X := [(17, [], [(6, [11], []), (7, [11], [])])]) (rs := [.cell 6 25, .cell 7 41, .cell 8 41, .tmp 9]) Try.func45 (by kernel_rfl) rfl rfl (by kernel_rfl) ?_
  simp (dsimp := false) (maxDischargeDepth := 16) only [go_sem, ↓reduceIte, reduceCtorEq, Nat.reduceEqDiff, Nat.reduceAdd, Nat.reduceMul, Nat.reduceSub, Nat.reduceLT, Nat.reduceLeDiff, Nat.reducePow, Int.reduceLT, Int.reduceLE, Int.reduceNeg, Int.reduceToNat]
  refine callK_intro (c70 a b m) ?_
  simp (dsimp := false) (maxDischargeDepth := 16) only [go_sem, ↓reduceIte, reduceCtorEq, Nat.reduceEqDiff, Nat.reduceAdd, Nat.reduceMul, Nat.reduceSub, Nat.reduceLT, Nat.reduceLeDiff, Nat.reducePow, Int.reduceLT, Int.reduceLE, Int.reduceNeg, Int.reduceToNat]
  refine condK_intro (fun h1 => ?_) (fun h1 => ?_)
  · simp (dsimp := false) (maxDischargeDepth := 16) only [go_sem, ↓reduceIte, reduceCtorEq, Nat.reduceEqDiff, Nat.reduceAdd, Nat.reduceMul, Nat.reduceSub, Nat.reduceLT, Nat.reduceLeDiff, Nat.reducePow, Int.reduceLT, Int.reduceLE, Int.reduceNeg, Int.reduceToNat, h1]
    have e : facR a b m = (⟨[], []⟩, ⟨[], []⟩, ⟨[], []⟩, mErr a b m) := if_pos (by simpa using h1)
    rw [e]
    exact finK ⟨rfl, rfl⟩
  have g1 : mErr a b m = 0 := by simpa using h1
  have o := mErr_ok g1
  have r := mErr_rng g1
  have ga := gErr_small o.1
  rw [facP_eq' g1]
  have sn : m.n.length ≤ 1000 := by omega
  have se : m.e.length ≤ 1000 := by omega
  have rn : ∀ x ∈ sq m.n, 0 ≤ x ∧ x.toNat < b.n.length := fun x hx => by have := r.1 x ((mem_sq _ _).1 hx); omega
  have re : ∀ x ∈ sq m.e, 0 ≤ x ∧ x.toNat < b.e.length := fun x hx => by have := r.2 x ((mem_sq _ _).1 hx); omega
  have K1 := c91 m.n (by omega)
  have K2 := c91 m.e (by omega)
  have ln := sq_len m.n
  have le := sq_len m.e
  simp (dsimp := false) (maxDischargeDepth := 16) only [go_sem, ↓reduceIte, reduceCtorEq, Nat.reduceEqDiff, Nat.reduceAdd, Nat.reduceMul, Nat.reduceSub, Nat.reduceLT, Nat.reduceLeDiff, Nat.reducePow, Int.reduceLT, Int.reduceLE, Int.reduceNeg, Int.reduceToNat, h1]
  clear h1 g1 o r ga
  refine callK_intro K1 ?_
  simp (dsimp := false) (maxDischargeDepth := 16) only [go_sem, ↓reduceIte, reduceCtorEq, Nat.reduceEqDiff, Nat.reduceAdd, Nat.reduceMul, Nat.reduceSub, Nat.reduceLT, Nat.reduceLeDiff, Nat.reducePow, Int.reduceLT, Int.reduceLE, Int.reduceNeg, Int.reduceToNat]
  refine callK_intro K2 ?_
  simp (dsimp := false) (maxDischargeDepth := 16) only [go_sem, ↓reduceIte, reduceCtorEq, Nat.reduceEqDiff, Nat.reduceAdd, Nat.reduceMul, Nat.reduceSub, Nat.reduceLT, Nat.reduceLeDiff, Nat.reducePow, Int.reduceLT, Int.reduceLE, Int.reduceNeg, Int.reduceToNat]
  clear K1 K2
  have P1 := c76 m.n (sq m.n) (by omega)
  have P2 := c76 m.e (sq m.e) (by omega)
  generalize plc (sq m.n) m.n = pn at *
  generalize plc (sq m.e) m.e = pe at *
  generalize sq m.n = N at *
  generalize sq m.e = M at *
  refine loopK_intro (fun (i : Nat) s => i ≤ N.length ∧ s.t 4 = .box (4, 0, 0) 0 ∧ s.b (4, 0, 0) = some ⟨gcs b, false⟩ ∧ s.t 5 = .box (5, 0, 0) 0 ∧ s.b (5, 0, 0) = some ⟨mcs m, false⟩ ∧ s.t 6 = .box (6, 0, 0) 0 ∧ (∃ z1 z2, s.b (6, 0, 0) = some ⟨[z1, z2], false⟩) ∧
    s.t 7 = .box (7, 0, 0) 0 ∧ (∃ z1 z2, s.b (7, 0, 0) = some ⟨[z1, z2], false⟩) ∧ s.t 8 = .box (8, 0, 0) 0 ∧ (∃ z1 z2, s.b (8, 0, 0) = some ⟨[z1, z2], false⟩) ∧ s.t 11 = .box (11, 0, 0) 0 ∧ s.b (11, 0, 0) = some ⟨mcs ⟨N, M⟩, false⟩ ∧ s.t 12 = .box (12, 0, 0) 0 ∧
    s.t 36 = lv N ∧ s.t 37 = iv N.length ∧ s.t 38 = iv i ∧ ∃ k1, s.b (12, 0, 0) = some ⟨[lvT (thr (N.take i) b.n) k1, .list 3 [] .nil], false⟩ ∧ tokOK s k1 = true) (fun i => N.length - i) ?_ ?_
  · exact ⟨0, by omega, rfl, rfl, rfl, rfl, rfl, ⟨_, _, rfl⟩, rfl, ⟨_, _, rfl⟩, rfl, ⟨_, _, rfl⟩, rfl, rfl, rfl, rfl, rfl, rfl, .nil, rfl, rfl⟩
  rintro i s ⟨hi, t4, b4, t5, b5, t6, ⟨z1, z2, b6⟩, t7, ⟨y1, y2, b7⟩, t8, ⟨x1, x2, b8⟩, t11, b11, t12, t36, t37, t38, k1, b12, a1⟩
  simp (dsimp := false) (maxDischargeDepth := 16) only [go_sem, ↓reduceIte, reduceCtorEq, Nat.reduceEqDiff, Nat.reduceAdd, Nat.reduceMul, Nat.reduceSub, Nat.reduceLT, Nat.reduceLeDiff, Nat.reducePow, Int.reduceLT, Int.reduceLE, Int.reduceNeg, Int.reduceToNat, t4, b4, t5, b5, t6, b6, t7, b7, t8, b8, t11, b11, t12, t36, t37, t38, b12]
  refine condK_dec (fun h6 => ?_) (fun h6 => ?_)
  · obtain ⟨r0, r1⟩ := rn _ (List.getElem_mem h6)
    have pl : (thr (N.take i) b.n).length = i := by simp [thr]; omega
    simp (dsimp := false) (maxDischargeDepth := 16) only [go_sem, ↓reduceIte, reduceCtorEq, Nat.reduceEqDiff, Nat.reduceAdd, Nat.reduceMul, Nat.reduceSub, Nat.reduceLT, Nat.reduceLeDiff, Nat.reducePow, Int.reduceLT, Int.reduceLE, Int.reduceNeg, Int.reduceToNat, t4, b4, t5, b5, t6, b6, t7, b7, t8, b8, t11, b11, t12, t36, t37, t38, b12, h6, idx_nat, idx_int, r0, r1, a1, pl]
    refine ⟨⟨by omega, by omega⟩, i + 1, by omega, by omega, ⟨_, _, rfl⟩, ⟨_, _, rfl⟩, ⟨_, _, rfl⟩, by rw [wrapN _ (by omega)], .own (50, s.g 50, 0), ?_, ?_⟩
    · rw [thr_succ h6, map1_app, getD_at r1]
    · simp (dsimp := false) (maxDischargeDepth := 16) only [go_sem, ↓reduceIte, reduceCtorEq, Nat.reduceEqDiff, Nat.reduceAdd, Nat.reduceMul, Nat.reduceSub, Nat.reduceLT, Nat.reduceLeDiff, Nat.reducePow, Int.reduceLT, Int.reduceLE, Int.reduceNeg, Int.reduceToNat, a1]
  · simp (dsimp := false) (maxDischargeDepth := 16) only [go_sem, ↓reduceIte, reduceCtorEq, Nat.reduceEqDiff, Nat.reduceAdd, Nat.reduceMul, Nat.reduceSub, Nat.reduceLT, Nat.reduceLeDiff, Nat.reducePow, Int.reduceLT, Int.reduceLE, Int.reduceNeg, Int.reduceToNat, t4, b4, t5, b5, t6, b6, t7, b7, t8, b8, t11, b11, t12, t36, t37, t38, b12, h6]
    have hin : i = N.length := by omega
    subst hin
    rw [List.take_length] at b12
    generalize thr N b.n = gn at *
    refine loopK_intro (fun (i : Nat) s => i ≤ M.length ∧ s.t 4 = .box (4, 0, 0) 0 ∧ s.b (4, 0, 0) = some ⟨gcs b, false⟩ ∧ s.t 5 = .box (5, 0, 0) 0 ∧ s.b (5, 0, 0) = some ⟨mcs m, false⟩ ∧ s.t 6 = .box (6, 0, 0) 0 ∧ s.b (6, 0, 0) = some ⟨[z1, z2], false⟩ ∧
      s.t 7 = .box (7, 0, 0) 0 ∧ s.b (7, 0, 0) = some ⟨[y1, y2], false⟩ ∧ s.t 8 = .box (8, 0, 0) 0 ∧ s.b (8, 0, 0) = some ⟨[x1, x2], false⟩ ∧ s.t 11 = .box (11, 0, 0) 0 ∧ s.b (11, 0, 0) = some ⟨mcs ⟨N, M⟩, false⟩ ∧ s.t 12 = .box (12, 0, 0) 0 ∧
      s.t 54 = lv M ∧ s.t 55 = iv M.length ∧ s.t 56 = iv i ∧ ∃ k2, s.b (12, 0, 0) = some ⟨[lvT gn k1, elT' (fcE b N (M.take i)) k2], false⟩ ∧ tokOK s k2 = true) (fun i => M.length - i) ?_ ?_
    · exact ⟨0, by omega, t4, b4, t5, b5, t6, b6, t7, b7, t8, b8, t11, b11, t12, rfl, rfl, rfl, .nil, b12, rfl⟩
    clear t4 b4 t5 b5 t6 b6 t7 b7 t8 b8 t11 b11 t12 t36 t37 t38 b12 a1 h6 hi
    rintro i s ⟨hi, t4, b4, t5, b5, t6, b6, t7, b7, t8, b8, t11, b11, t12, t54, t55, t56, k2, b12, a2⟩
    simp (dsimp := false) (maxDischargeDepth := 16) only [go_sem, ↓reduceIte, reduceCtorEq, Nat.reduceEqDiff, Nat.reduceAdd, Nat.reduceMul, Nat.reduceSub, Nat.reduceLT, Nat.reduceLeDiff, Nat.reducePow, Int.reduceLT, Int.reduceLE, Int.reduceNeg, Int.reduceToNat, t4, b4, t5, b5, t6, b6, t7, b7, t8, b8, t11, b11, t12, t54, t55, t56, b12]
    refine condK_dec (fun h6 => ?_) (fun h6 => ?_)
    · obtain ⟨r0, r1⟩ := re _ (List.getElem_mem h6)
      have pl : (fcE b N (M.take i)).length = i := by simp [fcE]; omega
      have C1 := c92 N (b.e[M[i].toNat]).2.1
      have C2 := c92 N (b.e[M[i].toNat]).2.2
      simp (dsimp := false) (maxDischargeDepth := 16) only [go_sem, ↓reduceIte, reduceCtorEq, Nat.reduceEqDiff, Nat.reduceAdd, Nat.reduceMul, Nat.reduceSub, Nat.reduceLT, Nat.reduceLeDiff, Nat.reducePow, Int.reduceLT, Int.reduceLE, Int.reduceNeg, Int.reduceToNat, t4, b4, t5, b5, t6, b6, t7, b7, t8, b8, t11, b11, t12, t54, t55, t56, b12, h6, idx_nat, idx_int, r0, r1, a2, pl]
      refine callK_intro C1 ?_
      simp (dsimp := false) (maxDischargeDepth := 16) only [go_sem, ↓reduceIte, reduceCtorEq, Nat.reduceEqDiff, Nat.reduceAdd, Nat.reduceMul, Nat.reduceSub, Nat.reduceLT, Nat.reduceLeDiff, Nat.reducePow, Int.reduceLT, Int.reduceLE, Int.reduceNeg, Int.reduceToNat, t4, b4, t5, b5, t6, b6, t7, b7, t8, b8, t11, b11, t12, t54, t55, t56, b12, h6, idx_nat, idx_int, r0, r1, a2, pl]
      refine callK_intro C2 ?_
      simp (dsimp := false) (maxDischargeDepth := 16) only [go_sem, ↓reduceIte, reduceCtorEq, Nat.reduceEqDiff, Nat.reduceAdd, Nat.reduceMul, Nat.reduceSub, Nat.reduceLT, Nat.reduceLeDiff, Nat.reducePow, Int.reduceLT, Int.reduceLE, Int.reduceNeg, Int.reduceToNat, t4, b4, t5, b5, t6, b6, t7, b7, t8, b8, t11, b11, t12, t54, t55, t56, b12, h6, idx_nat, idx_int, r0, r1, a2, pl]
      refine ⟨⟨by omega, by omega⟩, i + 1, by omega, by omega, by rw [wrapN _ (by omega)], .own (81, s.g 81, 0), ?_, ?_⟩
      · rw [fcE_succ h6, List.map_append, List.map_singleton, getD_at r1]
        rfl
      · simp (dsimp := false) (maxDischargeDepth := 16) only [go_sem, ↓reduceIte, reduceCtorEq, Nat.reduceEqDiff, Nat.reduceAdd, Nat.reduceMul, Nat.reduceSub, Nat.reduceLT, Nat.reduceLeDiff, Nat.reducePow, Int.reduceLT, Int.reduceLE, Int.reduceNeg, Int.reduceToNat, a2]
    · simp (dsimp := false) (maxDischargeDepth := 16) only [go_sem, ↓reduceIte, reduceCtorEq, Nat.reduceEqDiff, Nat.reduceAdd, Nat.reduceMul, Nat.reduceSub, Nat.reduceLT, Nat.reduceLeDiff, Nat.reducePow, Int.reduceLT, Int.reduceLE, Int.reduceNeg, Int.reduceToNat, t4, b4, t5, b5, t6, b6, t7, b7, t8, b8, t11, b11, t12, t54, t55, t56, b12, h6]
      have hin : i = M.length := by omega
      subst hin
      rw [List.take_length] at b12
      refine callK_intro P1 ?_
      simp (dsimp := false) (maxDischargeDepth := 16) only [go_sem, ↓reduceIte, reduceCtorEq, Nat.reduceEqDiff, Nat.reduceAdd, Nat.reduceMul, Nat.reduceSub, Nat.reduceLT, Nat.reduceLeDiff, Nat.reducePow, Int.reduceLT, Int.reduceLE, Int.reduceNeg, Int.reduceToNat, t4, b4, t5, b5, t6, b6, t7, b7, t8, b8, t11, b11, t12, t54, t55, t56, b12, h6]
      refine callK_intro P2 ?_
      simp (dsimp := false) (maxDischargeDepth := 16) only [go_sem, ↓reduceIte, reduceCtorEq, Nat.reduceEqDiff, Nat.reduceAdd, Nat.reduceMul, Nat.reduceSub, Nat.reduceLT, Nat.reduceLeDiff, Nat.reducePow, Int.reduceLT, Int.reduceLE, Int.reduceNeg, Int.reduceToNat, t4, b4, t5, b5, t6, b6, t7, b7, t8, b8, t11, b11, t12, t54, t55, t56, b12, h6]
      simp (dsimp := false) only [List.take_length]
      exact ⟨rfl, finK ⟨rfl, rfl⟩⟩

/-- What the table of places holds at a number. -/
def rkO (p : Nat → Bool) (j : Nat) : Int := if p j = true then rk p j else 0
def facE (b : Gr) (p : Nat → Bool) (i : Nat) : Ed := ((b.e.getD i (0, 0, 0)).1, rk p (b.e.getD i (0, 0, 0)).2.1, rk p (b.e.getD i (0, 0, 0)).2.2)
theorem rk_nat (p : Nat → Bool) (j : Nat) : rk p (j : Int) = ((sel p j).length : Int) := by simp [rk]
theorem thr_tab {l zs : List Int} {n : Nat} (h : ∀ x ∈ l, 0 ≤ x ∧ x < n) (hz : ∀ j, j < n → zs.getD j 0 = rkO (has l) j) : thr l zs = l.map (rk (has l)) := by
  refine List.map_congr_left fun x hx => ?_
  have := h x hx
  obtain ⟨j, rfl⟩ := Int.eq_ofNat_of_zero_le this.1
  rw [Int.toNat_natCast, hz j (by omega), rkO, if_pos (has_iff.2 hx)]
set_option maxHeartbeats 4000000 in
theorem c46 (a b : Gr) (m : Mo) : Con Try.prog 46 [gv a, gv b, mv m] 0 (facV (facR a b m)) := by
  refine conT (X := [(25, [], [(6, [13, 12], []), (7, [12], [])]), (23, [14], []), (24, [15], [])]) (rs := [.cell 6 25, .cell 7 41, .cell 8 41, .tmp 9]) Try.func46 (by kernel_rfl) rfl rfl (by kernel_rfl) ?_
  simp (dsimp := false) (maxDischargeDepth := 16) only [go_sem, ↓reduceIte, reduceCtorEq, Nat.reduceEqDiff, Nat.reduceAdd, Nat.reduceMul, Nat.reduceSub, Nat.reduceLT, Nat.reduceLeDiff, Nat.reducePow, Int.reduceLT, Int.reduceLE, Int.reduceNeg, Int.reduceToNat]
  refine callK_intro (c72 a b m) ?_
  simp (dsimp := false) (maxDischargeDepth := 16) only [go_sem, ↓reduceIte, reduceCtorEq, Nat.reduceEqDiff, Nat.reduceAdd, Nat.reduceMul, Nat.reduceSub, Nat.reduceLT, Nat.reduceLeDiff, Nat.reducePow, Int.reduceLT, Int.reduceLE, Int.reduceNeg, Int.reduceToNat]
  refine condK_intro (fun h1 => ?_) (fun h1 => ?_)
  · simp (dsimp := false) (maxDischargeDepth := 16) only [go_sem, ↓reduceIte, reduceCtorEq, Nat.reduceEqDiff, Nat.reduceAdd, Nat.reduceMul, Nat.reduceSub, Nat.reduceLT, Nat.reduceLeDiff, Nat.reducePow, Int.reduceLT, Int.reduceLE, Int.reduceNeg, Int.reduceToNat, h1]
    have e : facR a b m = (⟨[], []⟩, ⟨[], []⟩, ⟨[], []⟩, mErr a b m) := if_pos (by simpa using h1)
    rw [e]
    exact finK ⟨rfl, rfl⟩
  have g1 : mErr a b m = 0 := by simpa using h1
  have o := mErr_ok g1
  have r := mErr_rng g1
  have ga := gErr_small o.1
  have gb := gErr_small o.2.1
  have eR : facR a b m = (facG b (has m.n) (has m.e), ⟨m.n.map (rk (has m.n)), m.e.map (rk (has m.e))⟩, ⟨selN (has m.n) b.n.length, selN (has m.e) b.e.length⟩, 0) := if_neg (by simp [g1])
  rw [eR]
  have ends := fun i h1 h2 => im_ends g1 (i := i) h1 h2
  have rn := r.1
  have re := r.2
  have cn : ∀ i : Nat, m.n.contains (i : Int) = has m.n i := fun _ => rfl
  have ce : ∀ i : Nat, m.e.contains (i : Int) = has m.e i := fun _ => rfl
  have tab := fun zs => thr_tab (l := m.n) (zs := zs) rn
  have tae := fun zs => thr_tab (l := m.e) (zs := zs) re
  have sn : m.n.length ≤ 1000 := by omega
  have se : m.e.length ≤ 1000 := by omega
  simp (dsimp := false) (maxDischargeDepth := 16) only [go_sem, ↓reduceIte, reduceCtorEq, Nat.reduceEqDiff, Nat.reduceAdd, Nat.reduceMul, Nat.reduceSub, Nat.reduceLT, Nat.reduceLeDiff, Nat.reducePow, Int.reduceLT, Int.reduceLE, Int.reduceNeg, Int.reduceToNat, h1, Int.toNat_natCast, bi_zero]
  refine ⟨⟨by omega, by omega, by omega⟩, ⟨by omega, by omega, by omega⟩, ?_⟩
  have hsl := sel_le
  have gbn := gb.1.1
  have gbe := gb.1.2
  clear h1 g1 o r ga gb eR
  unfold facG
  generalize has m.n = p at *
  generalize has m.e = q at *
  refine loopK_intro (fun (i : Nat) s => i ≤ b.n.length ∧ s.t 4 = .box (4, 0, 0) 0 ∧ s.b (4, 0, 0) = some ⟨gcs b, false⟩ ∧ s.t 5 = .box (5, 0, 0) 0 ∧ s.b (5, 0, 0) = some ⟨mcs m, false⟩ ∧ s.t 6 = .box (6, 0, 0) 0 ∧ (∃ z1 z2, s.b (6, 0, 0) = some ⟨[z1, z2], false⟩) ∧
    s.t 7 = .box (7, 0, 0) 0 ∧ (∃ z1 z2, s.b (7, 0, 0) = some ⟨[z1, z2], false⟩) ∧ s.t 8 = .box (8, 0, 0) 0 ∧ (∃ z1 z2, s.b (8, 0, 0) = some ⟨[z1, z2], false⟩) ∧ s.t 11 = .box (11, 0, 0) 0 ∧ s.t 12 = .box (12, 0, 0) 0 ∧ s.t 13 = .box (13, 0, 0) 0 ∧
    s.b (13, 0, 0) = some ⟨[.list 1 [] .nil, .list 1 [] .nil], false⟩ ∧ s.t 14 = .sl (32, 0, 0) b.n.length 1 ∧ s.t 15 = .sl (36, 0, 0) b.e.length 1 ∧ s.b (36, 0, 0) = some ⟨bi (List.replicate b.e.length 0), false⟩ ∧ s.t 16 = iv i ∧
    ∃ k1 k2, ∃ zs : List Int, s.b (11, 0, 0) = some ⟨[lvT ((sel p i).map fun j => b.n.getD j 0) k1, .list 3 [] .nil], false⟩ ∧ s.b (12, 0, 0) = some ⟨[lvT (selN p i) k2, .list 1 [] .nil], false⟩ ∧ s.b (32, 0, 0) = some ⟨bi zs, false⟩ ∧
      zs.length = b.n.length ∧ (∀ j, j < i → zs.getD j 0 = rkO p j) ∧ (∀ j, i ≤ j → zs.getD j 0 = 0) ∧ tokOK s k1 = true ∧ tokOK s k2 = true ∧ tkIn [(62, 0)] k1 = true ∧ tkIn [(68, 0)] k2 = true) (fun i => b.n.length - i) ?_ ?_
  · refine ⟨0, by omega, rfl, rfl, rfl, rfl, rfl, ⟨_, _, rfl⟩, rfl, ⟨_, _, rfl⟩, rfl, ⟨_, _, rfl⟩, rfl, rfl, rfl, rfl, rfl, rfl, rfl, rfl, .nil, .nil, _, rfl, rfl, rfl, by simp, fun j hj => by omega, fun j _ => ?_, rfl, rfl, rfl, rfl⟩
    rw [List.getD_eq_getElem?_getD, List.getElem?_replicate]
    split <;> rfl
  rintro i s ⟨hi, t4, b4, t5, b5, t6, ⟨z1, z2, b6⟩, t7, ⟨y1, y2, b7⟩, t8, ⟨x1, x2, b8⟩, t11, t12, t13, b13, t14, t15, b36, t16, k1, k2, zs, b11, b12, b32, hz, hall, hrest, a1, a2, i1, i2⟩
  simp (dsimp := false) (maxDischargeDepth := 16) only [go_sem, ↓reduceIte, reduceCtorEq, Nat.reduceEqDiff, Nat.reduceAdd, Nat.reduceMul, Nat.reduceSub, Nat.reduceLT, Nat.reduceLeDiff, Nat.reducePow, Int.reduceLT, Int.reduceLE, Int.reduceNeg, Int.reduceToNat, t4, b4, t5, b5, t6, b6, t7, b7, t8, b8, t11, t12, t13, b13, t14, t15, b36, t16, b11, b12, b32]
  refine condK_dec (fun h6 => ?_) (fun h6 => ?_)
  · have hzl : i < zs.length := by omega
    have l1 := hsl p i
    have C1 := c93 m.n i
    rw [cn] at C1
    simp (dsimp := false) (maxDischargeDepth := 16) only [go_sem, ↓reduceIte, reduceCtorEq, Nat.reduceEqDiff, Nat.reduceAdd, Nat.reduceMul, Nat.reduceSub, Nat.reduceLT, Nat.reduceLeDiff, Nat.reducePow, Int.reduceLT, Int.reduceLE, Int.reduceNeg, Int.reduceToNat, t4, b4, t5, b5, t6, b6, t7, b7, t8, b8, t11, t12, t13, b13, t14, t15, b36, t16, b11, b12, b32, h6]
    refine callK_intro C1 ?_
    cases h8 : p i with
    | true =>
      have k12 : ∀ (s : St) (d n : Nat) (x : AV), tokOK s k2 = true → tokOK (s.ntok d n x (tokKey k1)) k2 = true := fun s d n x h => tk_kill i1 i2 rfl h
      have q2 : ∀ (f : Key → Bool) (g : Nat), killO f (tokKey k2) (62, g, 0) = f (62, g, 0) := fun f g => kill_tk i2 rfl f
      simp (dsimp := false) (maxDischargeDepth := 16) only [go_sem, ↓reduceIte, reduceCtorEq, Nat.reduceEqDiff, Nat.reduceAdd, Nat.reduceMul, Nat.reduceSub, Nat.reduceLT, Nat.reduceLeDiff, Nat.reducePow, Int.reduceLT, Int.reduceLE, Int.reduceNeg, Int.reduceToNat, t4, b4, t5, b5, t6, b6, t7, b7, t8, b8, t11, t12, t13, b13, t14, t15, b36, t16, b11, b12, b32, h6, idx_nat, idx_sl, bi_set1, hzl, bi_len, a1, a2, k12, selN_len]
      refine ⟨by omega, ⟨by omega, by omega⟩, ⟨by omega, by omega⟩, i + 1, by omega, by omega, ⟨_, _, rfl⟩, ⟨_, _, rfl⟩, ⟨_, _, rfl⟩, by rw [wrapN _ (by omega)], .own (62, s.g 62, 0), .own (68, s.g 68, 0), _, by rw [sel_yes h8, List.map_append, List.map_singleton, map1_app, getD_at h6], by rw [selN_yes h8, map1_app], rfl, by simpa using hz, fun j hj => ?_, fun j hj => ?_, ?_, ?_, rfl, rfl⟩
      · rw [set_at hzl]
        split
        · rename_i e
          rw [e, rkO, if_pos h8, rk_nat]
        · exact hall j (by omega)
      · rw [set_at hzl, if_neg (by omega)]
        exact hrest j (by omega)
      all_goals simp (dsimp := false) (maxDischargeDepth := 16) only [go_sem, ↓reduceIte, reduceCtorEq, Nat.reduceEqDiff, Nat.reduceAdd, Nat.reduceMul, Nat.reduceSub, Nat.reduceLT, Nat.reduceLeDiff, Nat.reducePow, Int.reduceLT, Int.reduceLE, Int.reduceNeg, Int.reduceToNat, a1, a2, k12, q2]
    | false =>
      simp (dsimp := false) (maxDischargeDepth := 16) only [go_sem, ↓reduceIte, reduceCtorEq, Nat.reduceEqDiff, Nat.reduceAdd, Nat.reduceMul, Nat.reduceSub, Nat.reduceLT, Nat.reduceLeDiff, Nat.reducePow, Int.reduceLT, Int.reduceLE, Int.reduceNeg, Int.reduceToNat, t4, b4, t5, b5, t6, b6, t7, b7, t8, b8, t11, t12, t13, b13, t14, t15, b36, t16, b11, b12, b32, h6]
      refine ⟨i + 1, by omega, by omega, ⟨_, _, rfl⟩, ⟨_, _, rfl⟩, ⟨_, _, rfl⟩, by rw [wrapN _ (by omega)], k1, k2, zs, by rw [sel_no h8], by rw [selN_no h8], rfl, hz, fun j hj => ?_, fun j hj => hrest j (by omega), a1, a2, i1, i2⟩
      by_cases hji : j = i
      · rw [hji, hrest i (by omega), rkO, if_neg (by rw [h8]; decide)]
      · exact hall j (by omega)
  · simp (dsimp := false) (maxDischargeDepth := 16) only [go_sem, ↓reduceIte, reduceCtorEq, Nat.reduceEqDiff, Nat.reduceAdd, Nat.reduceMul, Nat.reduceSub, Nat.reduceLT, Nat.reduceLeDiff, Nat.reducePow, Int.reduceLT, Int.reduceLE, Int.reduceNeg, Int.reduceToNat, t4, b4, t5, b5, t6, b6, t7, b7, t8, b8, t11, t12, t13, b13, t14, t15, b36, t16, b11, b12, b32, h6]
    have hin : i = b.n.length := by omega
    rw [hin] at hall b11 b12
    have hN : ((sel p b.n.length).map fun j => b.n.getD j 0).length ≤ 40 := by have := hsl p b.n.length; simp; omega
    generalize (sel p b.n.length).map (fun j => b.n.getD j 0) = N at *
    generalize selN p b.n.length = M at *
    refine loopK_intro (fun (i : Nat) s => i ≤ b.e.length ∧ s.t 4 = .box (4, 0, 0) 0 ∧ s.b (4, 0, 0) = some ⟨gcs b, false⟩ ∧ s.t 5 = .box (5, 0, 0) 0 ∧ s.b (5, 0, 0) = some ⟨mcs m, false⟩ ∧ s.t 6 = .box (6, 0, 0) 0 ∧ s.b (6, 0, 0) = some ⟨[z1, z2], false⟩ ∧
      s.t 7 = .box (7, 0, 0) 0 ∧ s.b (7, 0, 0) = some ⟨[y1, y2], false⟩ ∧ s.t 8 = .box (8, 0, 0) 0 ∧ s.b (8, 0, 0) = some ⟨[x1, x2], false⟩ ∧ s.t 11 = .box (11, 0, 0) 0 ∧ s.t 12 = .box (12, 0, 0) 0 ∧ s.t 13 = .box (13, 0, 0) 0 ∧
      s.b (13, 0, 0) = some ⟨[.list 1 [] .nil, .list 1 [] .nil], false⟩ ∧ s.t 14 = .sl (32, 0, 0) b.n.length 1 ∧ s.t 15 = .sl (36, 0, 0) b.e.length 1 ∧ s.b (32, 0, 0) = some ⟨bi zs, false⟩ ∧ s.t 17 = iv i ∧
      ∃ k3 k4, ∃ us : List Int, s.b (11, 0, 0) = some ⟨[lvT N k1, elT' ((sel q i).map (facE b p)) k3], false⟩ ∧ s.b (12, 0, 0) = some ⟨[lvT M k2, lvT (selN q i) k4], false⟩ ∧ s.b (36, 0, 0) = some ⟨bi us, false⟩ ∧
        us.length = b.e.length ∧ (∀ j, j < i → us.getD j 0 = rkO q j) ∧ (∀ j, i ≤ j → us.getD j 0 = 0) ∧ tokOK s k3 = true ∧ tokOK s k4 = true ∧ tkIn [(108, 0)] k3 = true ∧ tkIn [(114, 0)] k4 = true) (fun i => b.e.length - i) ?_ ?_
    · refine ⟨0, by omega, t4, b4, t5, b5, t6, b6, t7, b7, t8, b8, t11, t12, t13, b13, t14, t15, b32, rfl, .nil, .nil, _, b11, b12, b36, by simp, fun j hj => by omega, fun j _ => ?_, rfl, rfl, rfl, rfl⟩
      rw [List.getD_eq_getElem?_getD, List.getElem?_replicate]
      split <;> rfl
    clear t4 b4 t5 b5 t6 b6 t7 b7 t8 b8 t11 t12 t13 b13 t14 t15 b36 t16 b11 b12 b32 a1 a2 i1 i2 h6 hi hin
    rintro i s ⟨hi, t4, b4, t5, b5, t6, b6, t7, b7, t8, b8, t11, t12, t13, b13, t14, t15, b32, t17, k3, k4, us, b11, b12, b36, hu, ual, ures, a3, a4, i3, i4⟩
    simp (dsimp := false) (maxDischargeDepth := 16) only [go_sem, ↓reduceIte, reduceCtorEq, Nat.reduceEqDiff, Nat.reduceAdd, Nat.reduceMul, Nat.reduceSub, Nat.reduceLT, Nat.reduceLeDiff, Nat.reducePow, Int.reduceLT, Int.reduceLE, Int.reduceNeg, Int.reduceToNat, t4, b4, t5, b5, t6, b6, t7, b7, t8, b8, t11, t12, t13, b13, t14, t15, b32, t17, b11, b12, b36]
    refine condK_dec (fun h6 => ?_) (fun h6 => ?_)
    · have hul : i < us.length := by omega
      have l1 := hsl q i
      have C1 := c93 m.e i
      rw [ce] at C1
      simp (dsimp := false) (maxDischargeDepth := 16) only [go_sem, ↓reduceIte, reduceCtorEq, Nat.reduceEqDiff, Nat.reduceAdd, Nat.reduceMul, Nat.reduceSub, Nat.reduceLT, Nat.reduceLeDiff, Nat.reducePow, Int.reduceLT, Int.reduceLE, Int.reduceNeg, Int.reduceToNat, t4, b4, t5, b5, t6, b6, t7, b7, t8, b8, t11, t12, t13, b13, t14, t15, b32, t17, b11, b12, b36, h6]
      refine callK_intro C1 ?_
      cases h8 : q i with
      | true =>
        obtain ⟨e1, e2, e3, e4, e5, e6⟩ := ends i h6 h8
        have fe : facE b p i = (b.e[i].1, rk p b.e[i].2.1, rk p b.e[i].2.2) := by rw [facE, getD_at h6]
        rw [getD_at h6] at e1 e2 e3 e4 e5 e6
        have v1 : rkO p b.e[i].2.1.toNat = rk p b.e[i].2.1 := by rw [rkO, if_pos e3, Int.toNat_of_nonneg e1]
        have v2 : rkO p b.e[i].2.2.toNat = rk p b.e[i].2.2 := by rw [rkO, if_pos e6, Int.toNat_of_nonneg e4]
        have f1 : b.e[i].2.1.toNat < b.n.length := by omega
        have f2 : b.e[i].2.2.toNat < b.n.length := by omega
        have g1 := bi_head (zs := zs) (k := b.e[i].2.1.toNat) (by omega) ((hall _ f1).trans v1)
        have g2 := bi_head (zs := zs) (k := b.e[i].2.2.toNat) (by omega) ((hall _ f2).trans v2)
        have c1 : b.e[i].2.1.toNat * 1 < (bi zs).length := by rw [bi_len]; omega
        have c2 : b.e[i].2.2.toNat * 1 < (bi zs).length := by rw [bi_len]; omega
        have k34 : ∀ (s : St) (d n : Nat) (x : AV), tokOK s k4 = true → tokOK (s.ntok d n x (tokKey k3)) k4 = true := fun s d n x h => tk_kill i3 i4 rfl h
        have q2 : ∀ (f : Key → Bool) (g : Nat), killO f (tokKey k4) (108, g, 0) = f (108, g, 0) := fun f g => kill_tk i4 rfl f
        simp (dsimp := false) (maxDischargeDepth := 16) only [go_sem, ↓reduceIte, reduceCtorEq, Nat.reduceEqDiff, Nat.reduceAdd, Nat.reduceMul, Nat.reduceSub, Nat.reduceLT, Nat.reduceLeDiff, Nat.reducePow, Int.reduceLT, Int.reduceLE, Int.reduceNeg, Int.reduceToNat, t4, b4, t5, b5, t6, b6, t7, b7, t8, b8, t11, t12, t13, b13, t14, t15, b32, t17, b11, b12, b36, h6, idx_nat, idx_sl, idx_slI, bi_set1, hul, e1, e4, f1, f2, g1, g2, c1, c2, a3, a4, k34, selN_len]
        refine ⟨by rw [bi_len]; omega, ⟨by omega, by omega⟩, ⟨by omega, by omega⟩, i + 1, by omega, by omega, by rw [wrapN _ (by omega)], .own (108, s.g 108, 0), .own (114, s.g 114, 0), _, ?_, by rw [selN_yes h8, map1_app], rfl, by simpa using hu, fun j hj => ?_, fun j hj => ?_, ?_, ?_, rfl, rfl⟩
        · rw [sel_yes h8, List.map_append, List.map_append, List.map_singleton, List.map_singleton, fe]
          rfl
        · rw [set_at hul]
          split
          · rename_i e
            rw [e, rkO, if_pos h8, rk_nat]
          · exact ual j (by omega)
        · rw [set_at hul, if_neg (by omega)]
          exact ures j (by omega)
        all_goals simp (dsimp := false) (maxDischargeDepth := 16) only [go_sem, ↓reduceIte, reduceCtorEq, Nat.reduceEqDiff, Nat.reduceAdd, Nat.reduceMul, Nat.reduceSub, Nat.reduceLT, Nat.reduceLeDiff, Nat.reducePow, Int.reduceLT, Int.reduceLE, Int.reduceNeg, Int.reduceToNat, a3, a4, k34, q2]
      | false =>
        simp (dsimp := false) (maxDischargeDepth := 16) only [go_sem, ↓reduceIte, reduceCtorEq, Nat.reduceEqDiff, Nat.reduceAdd, Nat.reduceMul, Nat.reduceSub, Nat.reduceLT, Nat.reduceLeDiff, Nat.reducePow, Int.reduceLT, Int.reduceLE, Int.reduceNeg, Int.reduceToNat, t4, b4, t5, b5, t6, b6, t7, b7, t8, b8, t11, t12, t13, b13, t14, t15, b32, t17, b11, b12, b36, h6]
        refine ⟨i + 1, by omega, by omega, by rw [wrapN _ (by omega)], k3, k4, us, by rw [sel_no h8], by rw [selN_no h8], rfl, hu, fun j hj => ?_, fun j hj => ures j (by omega), a3, a4, i3, i4⟩
        by_cases hji : j = i
        · rw [hji, ures i (by omega), rkO, if_neg (by rw [h8]; decide)]
        · exact ual j (by omega)
    · have hin : i = b.e.length := by omega
      rw [hin] at ual b11 b12
      have T1 := tab zs hall
      have T2 := tae us ual
      have D1 := c94 m.n zs (by omega) (fun x hx => by have := rn x hx; omega)
      have D2 := c94 m.e us (by omega) (fun x hx => by have := re x hx; omega)
      rw [T1] at D1
      rw [T2] at D2
      simp (dsimp := false) (maxDischargeDepth := 16) only [go_sem, ↓reduceIte, reduceCtorEq, Nat.reduceEqDiff, Nat.reduceAdd, Nat.reduceMul, Nat.reduceSub, Nat.reduceLT, Nat.reduceLeDiff, Nat.reducePow, Int.reduceLT, Int.reduceLE, Int.reduceNeg, Int.reduceToNat, t4, b4, t5, b5, t6, b6, t7, b7, t8, b8, t11, t12, t13, b13, t14, t15, b32, t17, b11, b12, b36, h6, bi_len, hz, hu]
      refine callK_intro D1 ?_
      simp (dsimp := false) (maxDischargeDepth := 16) only [go_sem, ↓reduceIte, reduceCtorEq, Nat.reduceEqDiff, Nat.reduceAdd, Nat.reduceMul, Nat.reduceSub, Nat.reduceLT, Nat.reduceLeDiff, Nat.reducePow, Int.reduceLT, Int.reduceLE, Int.reduceNeg, Int.reduceToNat, t4, b4, t5, b5, t6, b6, t7, b7, t8, b8, t11, t12, t13, b13, t14, t15, b32, t17, b11, b12, b36, h6, bi_len, hz, hu]
      refine callK_intro D2 ?_
      simp (dsimp := false) (maxDischargeDepth := 16) only [go_sem, ↓reduceIte, reduceCtorEq, Nat.reduceEqDiff, Nat.reduceAdd, Nat.reduceMul, Nat.reduceSub, Nat.reduceLT, Nat.reduceLeDiff, Nat.reducePow, Int.reduceLT, Int.reduceLE, Int.reduceNeg, Int.reduceToNat, t4, b4, t5, b5, t6, b6, t7, b7, t8, b8, t11, t12, t13, b13, t14, t15, b32, t17, b11, b12, b36, h6, bi_len, hz, hu]
      exact ⟨rfl, finK ⟨rfl, rfl⟩⟩
end Go.Sy

/- FactorFactor: the law's contract. -/
set_option linter.unusedSimpArgs false
namespace Go.Sy
open Go Go.Proofs

def hit (l : List Int) (k : Nat) : Bool := l.any fun x => x == (k : Int)
theorem hit_succ {l : List Int} {k i : Nat} (h : i < l.length) : hit (l.take (i + 1)) k = (hit (l.take i) k || (l[i] == (k : Int))) := by
  unfold hit
  rw [List.take_add_one, List.getElem?_eq_getElem h, List.any_append]
  simp
theorem hit_all (l : List Int) (k : Nat) : hit l k = l.contains (k : Int) := by
  rw [Bool.eq_iff_iff, hit, List.any_eq_true, List.contains_iff_mem]
  constructor
  · rintro ⟨x, h1, h2⟩
    exact beq_iff_eq.1 h2 ▸ h1
  · intro h
    exact ⟨_, h, by simp⟩
theorem covB_no {n i : Nat} {l : List Int} (h : i < n) (h1 : l.contains (i : Int) = false) : covB l n = false := by
  rw [Bool.eq_false_iff]
  intro e
  have := List.all_eq_true.1 e i (List.mem_range.2 h)
  rw [h1] at this
  cases this
theorem covB_yes {n : Nat} {l : List Int} (h : ∀ j, j < n → l.contains (j : Int) = true) : covB l n = true := List.all_eq_true.2 fun i hi => h i (List.mem_range.1 hi)
theorem c96 (l : List Int) (n : Nat) (hn : n ≤ 1000000) : Con Try.prog 96 [lv l, iv n] 0 (bv (covB l n)) := by
  refine Con.assume (enters_of Try.func96 (by kernel_rfl) rfl) fun hb => ?_
  have hlen := bnd_lv (hb _ (List.mem_cons_self ..))
  clear hb
  refine conT (X := []) (rs := [.tmp 4]) Try.func96 (by kernel_rfl) rfl rfl (by kernel_rfl) ?_
  simp (dsimp := false) (maxDischargeDepth := 16) only [go_sem, ↓reduceIte, reduceCtorEq, Nat.reduceEqDiff, Nat.reduceAdd, Nat.reduceMul, Nat.reduceSub, Nat.reduceLT, Nat.reduceLeDiff, Nat.reducePow, Int.reduceLT, Int.reduceLE, Int.reduceNeg, Int.reduceToNat]
  refine loopK_intro (fun (k : Nat) s => k ≤ n ∧ s.t 0 = lv l ∧ s.t 1 = iv n ∧ s.t 5 = iv k ∧ ∀ j, j < k → l.contains (j : Int) = true) (fun k => n - k) ⟨0, by omega, rfl, rfl, rfl, fun j hj => by omega⟩ ?_
  rintro k s ⟨hk, t0, t1, t5, hall⟩
  simp (dsimp := false) (maxDischargeDepth := 16) only [go_sem, ↓reduceIte, reduceCtorEq, Nat.reduceEqDiff, Nat.reduceAdd, Nat.reduceMul, Nat.reduceSub, Nat.reduceLT, Nat.reduceLeDiff, Nat.reducePow, Int.reduceLT, Int.reduceLE, Int.reduceNeg, Int.reduceToNat, t0, t1, t5]
  refine condK_dec (fun h6 => ?_) (fun h6 => ?_)
  · simp (dsimp := false) (maxDischargeDepth := 16) only [go_sem, ↓reduceIte, reduceCtorEq, Nat.reduceEqDiff, Nat.reduceAdd, Nat.reduceMul, Nat.reduceSub, Nat.reduceLT, Nat.reduceLeDiff, Nat.reducePow, Int.reduceLT, Int.reduceLE, Int.reduceNeg, Int.reduceToNat, t0, t1, t5, h6]
    refine loopK_intro (fun (i : Nat) s => i ≤ l.length ∧ s.t 0 = lv l ∧ s.t 1 = iv n ∧ s.t 5 = iv k ∧ s.t 6 = bv (hit (l.take i) k) ∧ s.t 7 = iv i) (fun i => l.length - i) ⟨0, by omega, t0, t1, t5, rfl, rfl⟩ ?_
    clear t0 t1 t5
    rintro i s ⟨hi, t0, t1, t5, t6, t7⟩
    simp (dsimp := false) (maxDischargeDepth := 16) only [go_sem, ↓reduceIte, reduceCtorEq, Nat.reduceEqDiff, Nat.reduceAdd, Nat.reduceMul, Nat.reduceSub, Nat.reduceLT, Nat.reduceLeDiff, Nat.reducePow, Int.reduceLT, Int.reduceLE, Int.reduceNeg, Int.reduceToNat, t0, t1, t5, t6, t7]
    refine condK_dec (fun h7 => ?_) (fun h7 => ?_)
    · have hs := hit_succ (k := k) h7
      generalize hit (l.take i) k = B at *
      cases B with
      | true =>
        simp (dsimp := false) (maxDischargeDepth := 16) only [go_sem, ↓reduceIte, reduceCtorEq, Nat.reduceEqDiff, Nat.reduceAdd, Nat.reduceMul, Nat.reduceSub, Nat.reduceLT, Nat.reduceLeDiff, Nat.reducePow, Int.reduceLT, Int.reduceLE, Int.reduceNeg, Int.reduceToNat, t0, t1, t5, t6, t7, h7, idx_nat]
        exact ⟨i + 1, by omega, by omega, by rw [hs]; rfl, by rw [wrapN _ (by omega)]⟩
      | false =>
        simp (dsimp := false) (maxDischargeDepth := 16) only [go_sem, ↓reduceIte, reduceCtorEq, Nat.reduceEqDiff, Nat.reduceAdd, Nat.reduceMul, Nat.reduceSub, Nat.reduceLT, Nat.reduceLeDiff, Nat.reducePow, Int.reduceLT, Int.reduceLE, Int.reduceNeg, Int.reduceToNat, t0, t1, t5, t6, t7, h7, idx_nat]
        exact ⟨i + 1, by omega, by omega, by rw [hs]; rfl, by rw [wrapN _ (by omega)]⟩
    · have hin : i = l.length := by omega
      subst hin
      rw [List.take_length, hit_all] at t6
      cases hB : l.contains (k : Int) with
      | true =>
        rw [hB] at t6
        simp (dsimp := false) (maxDischargeDepth := 16) only [go_sem, ↓reduceIte, reduceCtorEq, Nat.reduceEqDiff, Nat.reduceAdd, Nat.reduceMul, Nat.reduceSub, Nat.reduceLT, Nat.reduceLeDiff, Nat.reducePow, Int.reduceLT, Int.reduceLE, Int.reduceNeg, Int.reduceToNat, t0, t1, t5, t6, t7, h7]
        refine ⟨k + 1, by omega, by omega, by rw [wrapN _ (by omega)], fun j hj => ?_⟩
        by_cases hjk : j = k
        · rw [hjk]; exact hB
        · exact hall j (by omega)
      | false =>
        rw [hB] at t6
        simp (dsimp := false) (maxDischargeDepth := 16) only [go_sem, ↓reduceIte, reduceCtorEq, Nat.reduceEqDiff, Nat.reduceAdd, Nat.reduceMul, Nat.reduceSub, Nat.reduceLT, Nat.reduceLeDiff, Nat.reducePow, Int.reduceLT, Int.reduceLE, Int.reduceNeg, Int.reduceToNat, t0, t1, t5, t6, t7, h7]
        exact finB (covB_no h6 hB)
  · simp (dsimp := false) (maxDischargeDepth := 16) only [go_sem, ↓reduceIte, reduceCtorEq, Nat.reduceEqDiff, Nat.reduceAdd, Nat.reduceMul, Nat.reduceSub, Nat.reduceLT, Nat.reduceLeDiff, Nat.reducePow, Int.reduceLT, Int.reduceLE, Int.reduceNeg, Int.reduceToNat, t0, t1, t5, h6]
    exact finB (covB_yes fun j hj => hall j (by omega))
theorem c48 (a b : Gr) (m : Mo) : Con Try.prog 48 [gv a, gv b, mv m] 0 (bv (surR a b m)) := by
  refine conT (X := []) (rs := [.tmp 6]) Try.func48 (by kernel_rfl) rfl rfl (by kernel_rfl) ?_
  simp (dsimp := false) (maxDischargeDepth := 16) only [go_sem, ↓reduceIte, reduceCtorEq, Nat.reduceEqDiff, Nat.reduceAdd, Nat.reduceMul, Nat.reduceSub, Nat.reduceLT, Nat.reduceLeDiff, Nat.reducePow, Int.reduceLT, Int.reduceLE, Int.reduceNeg, Int.reduceToNat]
  refine callK_intro (c72 a b m) ?_
  simp (dsimp := false) (maxDischargeDepth := 16) only [go_sem, ↓reduceIte, reduceCtorEq, Nat.reduceEqDiff, Nat.reduceAdd, Nat.reduceMul, Nat.reduceSub, Nat.reduceLT, Nat.reduceLeDiff, Nat.reducePow, Int.reduceLT, Int.reduceLE, Int.reduceNeg, Int.reduceToNat]
  unfold surR
  cases h1 : (mErr a b m == 0) with
  | false =>
    simp (dsimp := false) (maxDischargeDepth := 16) only [go_sem, ↓reduceIte, reduceCtorEq, Nat.reduceEqDiff, Nat.reduceAdd, Nat.reduceMul, Nat.reduceSub, Nat.reduceLT, Nat.reduceLeDiff, Nat.reducePow, Int.reduceLT, Int.reduceLE, Int.reduceNeg, Int.reduceToNat, h1]
    exact finB rfl
  | true =>
    have gb := gErr_small (mErr_ok (beq_iff_eq.1 h1)).2.1
    have K1 := c96 m.n b.n.length (by omega)
    have K2 := c96 m.e b.e.length (by omega)
    generalize covB m.n b.n.length = B1 at *
    generalize covB m.e b.e.length = B2 at *
    simp (dsimp := false) (maxDischargeDepth := 16) only [go_sem, ↓reduceIte, reduceCtorEq, Nat.reduceEqDiff, Nat.reduceAdd, Nat.reduceMul, Nat.reduceSub, Nat.reduceLT, Nat.reduceLeDiff, Nat.reducePow, Int.reduceLT, Int.reduceLE, Int.reduceNeg, Int.reduceToNat, h1]
    refine callK_intro K1 ?_
    cases B1 with
    | false =>
      simp (dsimp := false) (maxDischargeDepth := 16) only [go_sem, ↓reduceIte, reduceCtorEq, Nat.reduceEqDiff, Nat.reduceAdd, Nat.reduceMul, Nat.reduceSub, Nat.reduceLT, Nat.reduceLeDiff, Nat.reducePow, Int.reduceLT, Int.reduceLE, Int.reduceNeg, Int.reduceToNat, h1]
      exact finB rfl
    | true =>
      simp (dsimp := false) (maxDischargeDepth := 16) only [go_sem, ↓reduceIte, reduceCtorEq, Nat.reduceEqDiff, Nat.reduceAdd, Nat.reduceMul, Nat.reduceSub, Nat.reduceLT, Nat.reduceLeDiff, Nat.reducePow, Int.reduceLT, Int.reduceLE, Int.reduceNeg, Int.reduceToNat, h1]
      refine callK_intro K2 ?_
      simp (dsimp := false) (maxDischargeDepth := 16) only [go_sem, ↓reduceIte, reduceCtorEq, Nat.reduceEqDiff, Nat.reduceAdd, Nat.reduceMul, Nat.reduceSub, Nat.reduceLT, Nat.reduceLeDiff, Nat.reducePow, Int.reduceLT, Int.reduceLE, Int.reduceNeg, Int.reduceToNat, h1]
      exact finB rfl
structure Ar where
  g : Gr
  m : Mo
def arcs (x : Ar) : List AV := gcs x.g ++ mcs x.m
def arv (x : Ar) : AV := .agg (arcs x)
attribute [go_sem] arcs arv
set_option maxHeartbeats 4000000 in
theorem c10 (a : Gr) (x : Ar) : Con Try.prog 10 [gv a, arv x] 0 (bv true) := by
  refine Con.assume (enters_of Try.func10 (by kernel_rfl) rfl) fun hb => ?_
  have HA : ∃ A : Bool, Con Try.prog 22 [gv a] 0 (bv A) ∧ (A = true → a.n.length ≤ 45 ∧ a.e.length ≤ 90) := ⟨_, c22 a, by simp⟩
  have HB : ∃ A : Bool, Con Try.prog 22 [gv x.g] 0 (bv A) ∧ (A = true → x.g.n.length ≤ 45 ∧ x.g.e.length ≤ 90) := ⟨_, c22 x.g, by simp⟩
  obtain ⟨A, KA, ha⟩ := HA
  obtain ⟨B, KB, hb'⟩ := HB
  clear hb
  cases A with
  | false =>
    refine conT (X := [(99, [], [])]) (rs := [.tmp 4]) Try.func10 (by kernel_rfl) rfl rfl (by kernel_rfl) ?_
    simp (dsimp := false) (maxDischargeDepth := 16) only [go_sem, ↓reduceIte, reduceCtorEq, Nat.reduceEqDiff, Nat.reduceAdd, Nat.reduceMul, Nat.reduceSub, Nat.reduceLT, Nat.reduceLeDiff, Nat.reducePow, Int.reduceLT, Int.reduceLE, Int.reduceNeg, Int.reduceToNat]
    refine callK_intro c16 ?_
    simp (dsimp := false) (maxDischargeDepth := 16) only [go_sem, ↓reduceIte, reduceCtorEq, Nat.reduceEqDiff, Nat.reduceAdd, Nat.reduceMul, Nat.reduceSub, Nat.reduceLT, Nat.reduceLeDiff, Nat.reducePow, Int.reduceLT, Int.reduceLE, Int.reduceNeg, Int.reduceToNat]
    refine callK_intro KA ?_
    simp (dsimp := false) (maxDischargeDepth := 16) only [go_sem, ↓reduceIte, reduceCtorEq, Nat.reduceEqDiff, Nat.reduceAdd, Nat.reduceMul, Nat.reduceSub, Nat.reduceLT, Nat.reduceLeDiff, Nat.reducePow, Int.reduceLT, Int.reduceLE, Int.reduceNeg, Int.reduceToNat]
    refine callK_intro c16 ?_
    simp (dsimp := false) (maxDischargeDepth := 16) only [go_sem, ↓reduceIte, reduceCtorEq, Nat.reduceEqDiff, Nat.reduceAdd, Nat.reduceMul, Nat.reduceSub, Nat.reduceLT, Nat.reduceLeDiff, Nat.reducePow, Int.reduceLT, Int.reduceLE, Int.reduceNeg, Int.reduceToNat]
    exact finB rfl
  | true =>
  cases B with
  | false =>
    refine conT (X := [(99, [], [])]) (rs := [.tmp 4]) Try.func10 (by kernel_rfl) rfl rfl (by kernel_rfl) ?_
    simp (dsimp := false) (maxDischargeDepth := 16) only [go_sem, ↓reduceIte, reduceCtorEq, Nat.reduceEqDiff, Nat.reduceAdd, Nat.reduceMul, Nat.reduceSub, Nat.reduceLT, Nat.reduceLeDiff, Nat.reducePow, Int.reduceLT, Int.reduceLE, Int.reduceNeg, Int.reduceToNat]
    refine callK_intro c16 ?_
    simp (dsimp := false) (maxDischargeDepth := 16) only [go_sem, ↓reduceIte, reduceCtorEq, Nat.reduceEqDiff, Nat.reduceAdd, Nat.reduceMul, Nat.reduceSub, Nat.reduceLT, Nat.reduceLeDiff, Nat.reducePow, Int.reduceLT, Int.reduceLE, Int.reduceNeg, Int.reduceToNat]
    refine callK_intro KA ?_
    simp (dsimp := false) (maxDischargeDepth := 16) only [go_sem, ↓reduceIte, reduceCtorEq, Nat.reduceEqDiff, Nat.reduceAdd, Nat.reduceMul, Nat.reduceSub, Nat.reduceLT, Nat.reduceLeDiff, Nat.reducePow, Int.reduceLT, Int.reduceLE, Int.reduceNeg, Int.reduceToNat]
    refine callK_intro KB ?_
    simp (dsimp := false) (maxDischargeDepth := 16) only [go_sem, ↓reduceIte, reduceCtorEq, Nat.reduceEqDiff, Nat.reduceAdd, Nat.reduceMul, Nat.reduceSub, Nat.reduceLT, Nat.reduceLeDiff, Nat.reducePow, Int.reduceLT, Int.reduceLE, Int.reduceNeg, Int.reduceToNat]
    refine callK_intro c16 ?_
    simp (dsimp := false) (maxDischargeDepth := 16) only [go_sem, ↓reduceIte, reduceCtorEq, Nat.reduceEqDiff, Nat.reduceAdd, Nat.reduceMul, Nat.reduceSub, Nat.reduceLT, Nat.reduceLeDiff, Nat.reducePow, Int.reduceLT, Int.reduceLE, Int.reduceNeg, Int.reduceToNat]
    exact finB rfl
  | true =>
  have ha := ha rfl
  have hb' := hb' rfl
  by_cases q1 : (100 : Int) < x.m.n.length
  · refine conT (X := [(99, [], [])]) (rs := [.tmp 4]) Try.func10 (by kernel_rfl) rfl rfl (by kernel_rfl) ?_
    simp (dsimp := false) (maxDischargeDepth := 16) only [go_sem, ↓reduceIte, reduceCtorEq, Nat.reduceEqDiff, Nat.reduceAdd, Nat.reduceMul, Nat.reduceSub, Nat.reduceLT, Nat.reduceLeDiff, Nat.reducePow, Int.reduceLT, Int.reduceLE, Int.reduceNeg, Int.reduceToNat]
    refine callK_intro c16 ?_
    simp (dsimp := false) (maxDischargeDepth := 16) only [go_sem, ↓reduceIte, reduceCtorEq, Nat.reduceEqDiff, Nat.reduceAdd, Nat.reduceMul, Nat.reduceSub, Nat.reduceLT, Nat.reduceLeDiff, Nat.reducePow, Int.reduceLT, Int.reduceLE, Int.reduceNeg, Int.reduceToNat]
    refine callK_intro KA ?_
    simp (dsimp := false) (maxDischargeDepth := 16) only [go_sem, ↓reduceIte, reduceCtorEq, Nat.reduceEqDiff, Nat.reduceAdd, Nat.reduceMul, Nat.reduceSub, Nat.reduceLT, Nat.reduceLeDiff, Nat.reducePow, Int.reduceLT, Int.reduceLE, Int.reduceNeg, Int.reduceToNat]
    refine callK_intro KB ?_
    simp (dsimp := false) (maxDischargeDepth := 16) only [go_sem, ↓reduceIte, reduceCtorEq, Nat.reduceEqDiff, Nat.reduceAdd, Nat.reduceMul, Nat.reduceSub, Nat.reduceLT, Nat.reduceLeDiff, Nat.reducePow, Int.reduceLT, Int.reduceLE, Int.reduceNeg, Int.reduceToNat, q1]
    refine callK_intro c16 ?_
    simp (dsimp := false) (maxDischargeDepth := 16) only [go_sem, ↓reduceIte, reduceCtorEq, Nat.reduceEqDiff, Nat.reduceAdd, Nat.reduceMul, Nat.reduceSub, Nat.reduceLT, Nat.reduceLeDiff, Nat.reducePow, Int.reduceLT, Int.reduceLE, Int.reduceNeg, Int.reduceToNat]
    exact finB rfl
  by_cases q2 : (100 : Int) < x.m.e.length
  · refine conT (X := [(99, [], [])]) (rs := [.tmp 4]) Try.func10 (by kernel_rfl) rfl rfl (by kernel_rfl) ?_
    simp (dsimp := false) (maxDischargeDepth := 16) only [go_sem, ↓reduceIte, reduceCtorEq, Nat.reduceEqDiff, Nat.reduceAdd, Nat.reduceMul, Nat.reduceSub, Nat.reduceLT, Nat.reduceLeDiff, Nat.reducePow, Int.reduceLT, Int.reduceLE, Int.reduceNeg, Int.reduceToNat]
    refine callK_intro c16 ?_
    simp (dsimp := false) (maxDischargeDepth := 16) only [go_sem, ↓reduceIte, reduceCtorEq, Nat.reduceEqDiff, Nat.reduceAdd, Nat.reduceMul, Nat.reduceSub, Nat.reduceLT, Nat.reduceLeDiff, Nat.reducePow, Int.reduceLT, Int.reduceLE, Int.reduceNeg, Int.reduceToNat]
    refine callK_intro KA ?_
    simp (dsimp := false) (maxDischargeDepth := 16) only [go_sem, ↓reduceIte, reduceCtorEq, Nat.reduceEqDiff, Nat.reduceAdd, Nat.reduceMul, Nat.reduceSub, Nat.reduceLT, Nat.reduceLeDiff, Nat.reducePow, Int.reduceLT, Int.reduceLE, Int.reduceNeg, Int.reduceToNat]
    refine callK_intro KB ?_
    simp (dsimp := false) (maxDischargeDepth := 16) only [go_sem, ↓reduceIte, reduceCtorEq, Nat.reduceEqDiff, Nat.reduceAdd, Nat.reduceMul, Nat.reduceSub, Nat.reduceLT, Nat.reduceLeDiff, Nat.reducePow, Int.reduceLT, Int.reduceLE, Int.reduceNeg, Int.reduceToNat, q1, q2]
    refine callK_intro c16 ?_
    simp (dsimp := false) (maxDischargeDepth := 16) only [go_sem, ↓reduceIte, reduceCtorEq, Nat.reduceEqDiff, Nat.reduceAdd, Nat.reduceMul, Nat.reduceSub, Nat.reduceLT, Nat.reduceLeDiff, Nat.reducePow, Int.reduceLT, Int.reduceLE, Int.reduceNeg, Int.reduceToNat]
    exact finB rfl
  have K3 := c19 a (by omega) (by omega)
  have K4 := c19 x.g (by omega) (by omega)
  have H45 := c45 a x.g x.m
  have H46 := c46 a x.g x.m
  have hok : mErr a x.g x.m = 0 → _ := facR_ok (a := a) (b := x.g) (m := x.m)
  have hR : facR a x.g x.m = if mErr a x.g x.m ≠ 0 then (⟨[], []⟩, ⟨[], []⟩, ⟨[], []⟩, mErr a x.g x.m) else
    (facG x.g (has x.m.n) (has x.m.e), ⟨x.m.n.map (rk (has x.m.n)), x.m.e.map (rk (has x.m.e))⟩, ⟨selN (has x.m.n) x.g.n.length, selN (has x.m.e) x.g.e.length⟩, 0) := rfl
  generalize facG x.g (has x.m.n) (has x.m.e) = G at *
  generalize (⟨x.m.n.map (rk (has x.m.n)), x.m.e.map (rk (has x.m.e))⟩ : Mo) = U at *
  generalize (⟨selN (has x.m.n) x.g.n.length, selN (has x.m.e) x.g.e.length⟩ : Mo) = V at *
  generalize facR a x.g x.m = R at *
  by_cases he : mErr a x.g x.m = 0
  · rw [if_neg (by simp [he])] at hR
    subst hR
    obtain ⟨e1, e2, e3⟩ := hok he
    have J1 := c47 G G
    have J2 := c35 U U
    have J3 := c35 V V
    have J4 := c36 a G x.g U V
    have J5 := c35 x.m x.m
    have J6 := c48 a G U
    have J7 := c31 G x.g V
    rw [decide_eq_true rfl] at J1 J2 J3 J5
    rw [e1] at J4
    rw [e2] at J6
    rw [e3] at J7
    clear e1 e2 e3 hok he ha hb'
    refine conT (X := [(99, [], [])]) (rs := [.tmp 4]) Try.func10 (by kernel_rfl) rfl rfl (by kernel_rfl) ?_
    simp (dsimp := false) (maxDischargeDepth := 16) only [go_sem, ↓reduceIte, reduceCtorEq, Nat.reduceEqDiff, Nat.reduceAdd, Nat.reduceMul, Nat.reduceSub, Nat.reduceLT, Nat.reduceLeDiff, Nat.reducePow, Int.reduceLT, Int.reduceLE, Int.reduceNeg, Int.reduceToNat]
    refine callK_intro c16 ?_
    simp (dsimp := false) (maxDischargeDepth := 16) only [go_sem, ↓reduceIte, reduceCtorEq, Nat.reduceEqDiff, Nat.reduceAdd, Nat.reduceMul, Nat.reduceSub, Nat.reduceLT, Nat.reduceLeDiff, Nat.reducePow, Int.reduceLT, Int.reduceLE, Int.reduceNeg, Int.reduceToNat]
    refine callK_intro KA ?_
    simp (dsimp := false) (maxDischargeDepth := 16) only [go_sem, ↓reduceIte, reduceCtorEq, Nat.reduceEqDiff, Nat.reduceAdd, Nat.reduceMul, Nat.reduceSub, Nat.reduceLT, Nat.reduceLeDiff, Nat.reducePow, Int.reduceLT, Int.reduceLE, Int.reduceNeg, Int.reduceToNat]
    refine callK_intro KB ?_
    simp (dsimp := false) (maxDischargeDepth := 16) only [go_sem, ↓reduceIte, reduceCtorEq, Nat.reduceEqDiff, Nat.reduceAdd, Nat.reduceMul, Nat.reduceSub, Nat.reduceLT, Nat.reduceLeDiff, Nat.reducePow, Int.reduceLT, Int.reduceLE, Int.reduceNeg, Int.reduceToNat, q1, q2]
    refine callK_intro K3 ?_
    simp (dsimp := false) (maxDischargeDepth := 16) only [go_sem, ↓reduceIte, reduceCtorEq, Nat.reduceEqDiff, Nat.reduceAdd, Nat.reduceMul, Nat.reduceSub, Nat.reduceLT, Nat.reduceLeDiff, Nat.reducePow, Int.reduceLT, Int.reduceLE, Int.reduceNeg, Int.reduceToNat, q1, q2]
    refine callK_intro K4 ?_
    simp (dsimp := false) (maxDischargeDepth := 16) only [go_sem, ↓reduceIte, reduceCtorEq, Nat.reduceEqDiff, Nat.reduceAdd, Nat.reduceMul, Nat.reduceSub, Nat.reduceLT, Nat.reduceLeDiff, Nat.reducePow, Int.reduceLT, Int.reduceLE, Int.reduceNeg, Int.reduceToNat, q1, q2]
    refine callK_intro H45 ?_
    simp (dsimp := false) (maxDischargeDepth := 16) only [go_sem, ↓reduceIte, reduceCtorEq, Nat.reduceEqDiff, Nat.reduceAdd, Nat.reduceMul, Nat.reduceSub, Nat.reduceLT, Nat.reduceLeDiff, Nat.reducePow, Int.reduceLT, Int.reduceLE, Int.reduceNeg, Int.reduceToNat, q1, q2]
    refine callK_intro H46 ?_
    simp (dsimp := false) (maxDischargeDepth := 16) only [go_sem, ↓reduceIte, reduceCtorEq, Nat.reduceEqDiff, Nat.reduceAdd, Nat.reduceMul, Nat.reduceSub, Nat.reduceLT, Nat.reduceLeDiff, Nat.reducePow, Int.reduceLT, Int.reduceLE, Int.reduceNeg, Int.reduceToNat, q1, q2]
    refine condK_intro (fun q3 => absurd q3 (by decide)) (fun q3 => ?_)
    simp (dsimp := false) (maxDischargeDepth := 16) only [go_sem, ↓reduceIte, reduceCtorEq, Nat.reduceEqDiff, Nat.reduceAdd, Nat.reduceMul, Nat.reduceSub, Nat.reduceLT, Nat.reduceLeDiff, Nat.reducePow, Int.reduceLT, Int.reduceLE, Int.reduceNeg, Int.reduceToNat, q1, q2, q3]
    refine callK_intro J1 ?_
    simp (dsimp := false) (maxDischargeDepth := 16) only [go_sem, ↓reduceIte, reduceCtorEq, Nat.reduceEqDiff, Nat.reduceAdd, Nat.reduceMul, Nat.reduceSub, Nat.reduceLT, Nat.reduceLeDiff, Nat.reducePow, Int.reduceLT, Int.reduceLE, Int.reduceNeg, Int.reduceToNat, q1, q2, q3]
    refine callK_intro J2 ?_
    simp (dsimp := false) (maxDischargeDepth := 16) only [go_sem, ↓reduceIte, reduceCtorEq, Nat.reduceEqDiff, Nat.reduceAdd, Nat.reduceMul, Nat.reduceSub, Nat.reduceLT, Nat.reduceLeDiff, Nat.reducePow, Int.reduceLT, Int.reduceLE, Int.reduceNeg, Int.reduceToNat, q1, q2, q3]
    refine callK_intro J3 ?_
    simp (dsimp := false) (maxDischargeDepth := 16) only [go_sem, ↓reduceIte, reduceCtorEq, Nat.reduceEqDiff, Nat.reduceAdd, Nat.reduceMul, Nat.reduceSub, Nat.reduceLT, Nat.reduceLeDiff, Nat.reducePow, Int.reduceLT, Int.reduceLE, Int.reduceNeg, Int.reduceToNat, q1, q2, q3]
    refine callK_intro J4 ?_
    simp (dsimp := false) (maxDischargeDepth := 16) only [go_sem, ↓reduceIte, reduceCtorEq, Nat.reduceEqDiff, Nat.reduceAdd, Nat.reduceMul, Nat.reduceSub, Nat.reduceLT, Nat.reduceLeDiff, Nat.reducePow, Int.reduceLT, Int.reduceLE, Int.reduceNeg, Int.reduceToNat, q1, q2, q3]
    refine condK_intro (fun q5 => ?_) (fun q5 => absurd q5 (by decide))
    simp (dsimp := false) (maxDischargeDepth := 16) only [go_sem, ↓reduceIte, reduceCtorEq, Nat.reduceEqDiff, Nat.reduceAdd, Nat.reduceMul, Nat.reduceSub, Nat.reduceLT, Nat.reduceLeDiff, Nat.reducePow, Int.reduceLT, Int.reduceLE, Int.reduceNeg, Int.reduceToNat, q1, q2, q3, q5]
    refine callK_intro J5 ?_
    simp (dsimp := false) (maxDischargeDepth := 16) only [go_sem, ↓reduceIte, reduceCtorEq, Nat.reduceEqDiff, Nat.reduceAdd, Nat.reduceMul, Nat.reduceSub, Nat.reduceLT, Nat.reduceLeDiff, Nat.reducePow, Int.reduceLT, Int.reduceLE, Int.reduceNeg, Int.reduceToNat, q1, q2, q3, q5]
    refine callK_intro J6 ?_
    simp (dsimp := false) (maxDischargeDepth := 16) only [go_sem, ↓reduceIte, reduceCtorEq, Nat.reduceEqDiff, Nat.reduceAdd, Nat.reduceMul, Nat.reduceSub, Nat.reduceLT, Nat.reduceLeDiff, Nat.reducePow, Int.reduceLT, Int.reduceLE, Int.reduceNeg, Int.reduceToNat, q1, q2, q3, q5]
    refine callK_intro J7 ?_
    simp (dsimp := false) (maxDischargeDepth := 16) only [go_sem, ↓reduceIte, reduceCtorEq, Nat.reduceEqDiff, Nat.reduceAdd, Nat.reduceMul, Nat.reduceSub, Nat.reduceLT, Nat.reduceLeDiff, Nat.reducePow, Int.reduceLT, Int.reduceLE, Int.reduceNeg, Int.reduceToNat, q1, q2, q3, q5]
    exact finB rfl
  · rw [if_pos (by simpa using he)] at hR
    subst hR
    have J1 := c47 ⟨[], []⟩ ⟨[], []⟩
    have J2 := c35 ⟨[], []⟩ ⟨[], []⟩
    rw [decide_eq_true rfl] at J1 J2
    clear hok ha hb'
    generalize mErr a x.g x.m = E at *
    refine conT (X := [(99, [], [])]) (rs := [.tmp 4]) Try.func10 (by kernel_rfl) rfl rfl (by kernel_rfl) ?_
    simp (dsimp := false) (maxDischargeDepth := 16) only [go_sem, ↓reduceIte, reduceCtorEq, Nat.reduceEqDiff, Nat.reduceAdd, Nat.reduceMul, Nat.reduceSub, Nat.reduceLT, Nat.reduceLeDiff, Nat.reducePow, Int.reduceLT, Int.reduceLE, Int.reduceNeg, Int.reduceToNat]
    refine callK_intro c16 ?_
    simp (dsimp := false) (maxDischargeDepth := 16) only [go_sem, ↓reduceIte, reduceCtorEq, Nat.reduceEqDiff, Nat.reduceAdd, Nat.reduceMul, Nat.reduceSub, Nat.reduceLT, Nat.reduceLeDiff, Nat.reducePow, Int.reduceLT, Int.reduceLE, Int.reduceNeg, Int.reduceToNat]
    refine callK_intro KA ?_
    simp (dsimp := false) (maxDischargeDepth := 16) only [go_sem, ↓reduceIte, reduceCtorEq, Nat.reduceEqDiff, Nat.reduceAdd, Nat.reduceMul, Nat.reduceSub, Nat.reduceLT, Nat.reduceLeDiff, Nat.reducePow, Int.reduceLT, Int.reduceLE, Int.reduceNeg, Int.reduceToNat]
    refine callK_intro KB ?_
    simp (dsimp := false) (maxDischargeDepth := 16) only [go_sem, ↓reduceIte, reduceCtorEq, Nat.reduceEqDiff, Nat.reduceAdd, Nat.reduceMul, Nat.reduceSub, Nat.reduceLT, Nat.reduceLeDiff, Nat.reducePow, Int.reduceLT, Int.reduceLE, Int.reduceNeg, Int.reduceToNat, q1, q2]
    refine callK_intro K3 ?_
    simp (dsimp := false) (maxDischargeDepth := 16) only [go_sem, ↓reduceIte, reduceCtorEq, Nat.reduceEqDiff, Nat.reduceAdd, Nat.reduceMul, Nat.reduceSub, Nat.reduceLT, Nat.reduceLeDiff, Nat.reducePow, Int.reduceLT, Int.reduceLE, Int.reduceNeg, Int.reduceToNat, q1, q2]
    refine callK_intro K4 ?_
    simp (dsimp := false) (maxDischargeDepth := 16) only [go_sem, ↓reduceIte, reduceCtorEq, Nat.reduceEqDiff, Nat.reduceAdd, Nat.reduceMul, Nat.reduceSub, Nat.reduceLT, Nat.reduceLeDiff, Nat.reducePow, Int.reduceLT, Int.reduceLE, Int.reduceNeg, Int.reduceToNat, q1, q2]
    refine callK_intro H45 ?_
    simp (dsimp := false) (maxDischargeDepth := 16) only [go_sem, ↓reduceIte, reduceCtorEq, Nat.reduceEqDiff, Nat.reduceAdd, Nat.reduceMul, Nat.reduceSub, Nat.reduceLT, Nat.reduceLeDiff, Nat.reducePow, Int.reduceLT, Int.reduceLE, Int.reduceNeg, Int.reduceToNat, q1, q2]
    refine callK_intro H46 ?_
    simp (dsimp := false) (maxDischargeDepth := 16) only [go_sem, ↓reduceIte, reduceCtorEq, Nat.reduceEqDiff, Nat.reduceAdd, Nat.reduceMul, Nat.reduceSub, Nat.reduceLT, Nat.reduceLeDiff, Nat.reducePow, Int.reduceLT, Int.reduceLE, Int.reduceNeg, Int.reduceToNat, q1, q2]
    refine condK_intro (fun q3 => absurd q3 (by simp)) (fun q3 => ?_)
    simp (dsimp := false) (maxDischargeDepth := 16) only [go_sem, ↓reduceIte, reduceCtorEq, Nat.reduceEqDiff, Nat.reduceAdd, Nat.reduceMul, Nat.reduceSub, Nat.reduceLT, Nat.reduceLeDiff, Nat.reducePow, Int.reduceLT, Int.reduceLE, Int.reduceNeg, Int.reduceToNat, q1, q2, q3]
    refine callK_intro J1 ?_
    simp (dsimp := false) (maxDischargeDepth := 16) only [go_sem, ↓reduceIte, reduceCtorEq, Nat.reduceEqDiff, Nat.reduceAdd, Nat.reduceMul, Nat.reduceSub, Nat.reduceLT, Nat.reduceLeDiff, Nat.reducePow, Int.reduceLT, Int.reduceLE, Int.reduceNeg, Int.reduceToNat, q1, q2, q3]
    refine callK_intro J2 ?_
    simp (dsimp := false) (maxDischargeDepth := 16) only [go_sem, ↓reduceIte, reduceCtorEq, Nat.reduceEqDiff, Nat.reduceAdd, Nat.reduceMul, Nat.reduceSub, Nat.reduceLT, Nat.reduceLeDiff, Nat.reducePow, Int.reduceLT, Int.reduceLE, Int.reduceNeg, Int.reduceToNat, q1, q2, q3]
    refine callK_intro J2 ?_
    simp (dsimp := false) (maxDischargeDepth := 16) only [go_sem, ↓reduceIte, reduceCtorEq, Nat.reduceEqDiff, Nat.reduceAdd, Nat.reduceMul, Nat.reduceSub, Nat.reduceLT, Nat.reduceLeDiff, Nat.reducePow, Int.reduceLT, Int.reduceLE, Int.reduceNeg, Int.reduceToNat, q1, q2, q3]
    refine condK_intro (fun q4 => ?_) (fun q4 => absurd (by simpa using q4) he)
    simp (dsimp := false) (maxDischargeDepth := 16) only [go_sem, ↓reduceIte, reduceCtorEq, Nat.reduceEqDiff, Nat.reduceAdd, Nat.reduceMul, Nat.reduceSub, Nat.reduceLT, Nat.reduceLeDiff, Nat.reducePow, Int.reduceLT, Int.reduceLE, Int.reduceNeg, Int.reduceToNat, q1, q2, q3, q4]
    refine condK_intro (fun q5 => ?_) (fun q5 => absurd q5 (by simp))
    simp (dsimp := false) (maxDischargeDepth := 16) only [go_sem, ↓reduceIte, reduceCtorEq, Nat.reduceEqDiff, Nat.reduceAdd, Nat.reduceMul, Nat.reduceSub, Nat.reduceLT, Nat.reduceLeDiff, Nat.reducePow, Int.reduceLT, Int.reduceLE, Int.reduceNeg, Int.reduceToNat, q1, q2, q3, q4, q5]
    refine callK_intro J1 ?_
    simp (dsimp := false) (maxDischargeDepth := 16) only [go_sem, ↓reduceIte, reduceCtorEq, Nat.reduceEqDiff, Nat.reduceAdd, Nat.reduceMul, Nat.reduceSub, Nat.reduceLT, Nat.reduceLeDiff, Nat.reducePow, Int.reduceLT, Int.reduceLE, Int.reduceNeg, Int.reduceToNat, q1, q2, q3, q4, q5]
    refine callK_intro J2 ?_
    simp (dsimp := false) (maxDischargeDepth := 16) only [go_sem, ↓reduceIte, reduceCtorEq, Nat.reduceEqDiff, Nat.reduceAdd, Nat.reduceMul, Nat.reduceSub, Nat.reduceLT, Nat.reduceLeDiff, Nat.reducePow, Int.reduceLT, Int.reduceLE, Int.reduceNeg, Int.reduceToNat, q1, q2, q3, q4, q5]
    refine callK_intro J2 ?_
    simp (dsimp := false) (maxDischargeDepth := 16) only [go_sem, ↓reduceIte, reduceCtorEq, Nat.reduceEqDiff, Nat.reduceAdd, Nat.reduceMul, Nat.reduceSub, Nat.reduceLT, Nat.reduceLeDiff, Nat.reducePow, Int.reduceLT, Int.reduceLE, Int.reduceNeg, Int.reduceToNat, q1, q2, q3, q4, q5]
    exact finB rfl
end Go.Sy

/- Contracts: the document's way to put a graph's nodes together as numbers say. -/
set_option linter.unusedSimpArgs false
namespace Go.Sy
open Go Go.Proofs

def lu8 (l : List Int) : AV := .list 1 (l.map fun x => [u8 x]) .no
attribute [go_sem] lu8
theorem c97 (l : List Int) (hl : l ≠ []) (hs : l.length ≤ 1000000) (hr : ∀ x ∈ l, 0 ≤ x ∧ x ≤ 255) : Con Try.prog 97 [lu8 l] 0 (lv l) := by
  refine conT (X := []) (rs := [.tmp 2]) Try.func97 (by kernel_rfl) rfl rfl (by kernel_rfl) ?_
  simp (dsimp := false) (maxDischargeDepth := 16) only [go_sem, ↓reduceIte, reduceCtorEq, Nat.reduceEqDiff, Nat.reduceAdd, Nat.reduceMul, Nat.reduceSub, Nat.reduceLT, Nat.reduceLeDiff, Nat.reducePow, Int.reduceLT, Int.reduceLE, Int.reduceNeg, Int.reduceToNat]
  refine loopK_intro (fun (i : Nat) s => i ≤ l.length ∧ s.t 0 = lu8 l ∧ s.t 4 = iv i ∧ ∃ tk, s.t 3 = lvT (l.take i) tk ∧ tokOK s tk = true) (fun i => l.length - i) ⟨0, by omega, rfl, rfl, .own (5, 0, 0), rfl, rfl⟩ ?_
  rintro i s ⟨hi, t0, t4, tk, t3, htk⟩
  simp (dsimp := false) (maxDischargeDepth := 16) only [go_sem, ↓reduceIte, reduceCtorEq, Nat.reduceEqDiff, Nat.reduceAdd, Nat.reduceMul, Nat.reduceSub, Nat.reduceLT, Nat.reduceLeDiff, Nat.reducePow, Int.reduceLT, Int.reduceLE, Int.reduceNeg, Int.reduceToNat, t0, t4, t3]
  refine condK_dec (fun h6 => ?_) (fun h6 => ?_)
  · have pl : (l.take i).length = i := by rw [List.length_take]; omega
    have w := wrap_byte (hr _ (List.getElem_mem h6))
    simp (dsimp := false) (maxDischargeDepth := 16) only [go_sem, ↓reduceIte, reduceCtorEq, Nat.reduceEqDiff, Nat.reduceAdd, Nat.reduceMul, Nat.reduceSub, Nat.reduceLT, Nat.reduceLeDiff, Nat.reducePow, Int.reduceLT, Int.reduceLE, Int.reduceNeg, Int.reduceToNat, t0, t4, t3, h6, idx_nat, htk, pl, w]
    refine ⟨⟨by omega, by omega⟩, i + 1, by omega, by omega, by rw [wrapN _ (by omega)], _, by rw [take1 h6], ?_⟩
    simp (dsimp := false) (maxDischargeDepth := 16) only [go_sem, ↓reduceIte, reduceCtorEq, Nat.reduceEqDiff, Nat.reduceAdd, Nat.reduceMul, Nat.reduceSub, Nat.reduceLT, Nat.reduceLeDiff, Nat.reducePow, Int.reduceLT, Int.reduceLE, Int.reduceNeg, Int.reduceToNat]
  · have hin : i = l.length := by omega
    subst hin
    rw [List.take_length] at t3
    have hz : ((l.length : Int) == 0) = false := by
      have : 0 < l.length := List.length_pos_iff.2 hl
      simp
      exact hl
    simp (dsimp := false) (maxDischargeDepth := 16) only [go_sem, ↓reduceIte, reduceCtorEq, Nat.reduceEqDiff, Nat.reduceAdd, Nat.reduceMul, Nat.reduceSub, Nat.reduceLT, Nat.reduceLeDiff, Nat.reducePow, Int.reduceLT, Int.reduceLE, Int.reduceNeg, Int.reduceToNat, t0, t4, t3, h6, hz]
    exact finL rfl
theorem c157 (p : List Int) (hl : p.length ≤ 80) (hp : isP p) : Con Try.prog 157 [lv p] 0 (bv true) := by
  refine conT (X := []) (rs := [.tmp 2]) Try.func157 (by kernel_rfl) rfl rfl (by kernel_rfl) ?_
  simp (dsimp := false) (maxDischargeDepth := 16) only [go_sem, ↓reduceIte, reduceCtorEq, Nat.reduceEqDiff, Nat.reduceAdd, Nat.reduceMul, Nat.reduceSub, Nat.reduceLT, Nat.reduceLeDiff, Nat.reducePow, Int.reduceLT, Int.reduceLE, Int.reduceNeg, Int.reduceToNat]
  refine condK_dec (fun h1 => ?_) (fun h1 => ?_)
  · exfalso; omega
  simp (dsimp := false) (maxDischargeDepth := 16) only [go_sem, ↓reduceIte, reduceCtorEq, Nat.reduceEqDiff, Nat.reduceAdd, Nat.reduceMul, Nat.reduceSub, Nat.reduceLT, Nat.reduceLeDiff, Nat.reducePow, Int.reduceLT, Int.reduceLE, Int.reduceNeg, Int.reduceToNat, h1]
  refine loopK_intro (fun (i : Nat) s => i ≤ p.length ∧ s.t 0 = lv p ∧ s.t 3 = iv i) (fun i => p.length - i) ⟨0, by omega, rfl, rfl⟩ ?_
  rintro i s ⟨hi, t0, t3⟩
  simp (dsimp := false) (maxDischargeDepth := 16) only [go_sem, ↓reduceIte, reduceCtorEq, Nat.reduceEqDiff, Nat.reduceAdd, Nat.reduceMul, Nat.reduceSub, Nat.reduceLT, Nat.reduceLeDiff, Nat.reducePow, Int.reduceLT, Int.reduceLE, Int.reduceNeg, Int.reduceToNat, t0, t3]
  refine condK_dec (fun h6 => ?_) (fun h6 => ?_)
  · obtain ⟨r0, r1, r3⟩ := hp i h6
    rw [getD_at h6] at r0 r1 r3
    have r2 : p[i].toNat < p.length := by omega
    rw [getD_at r2] at r3
    have n1 : ¬ p[i] < 0 := by omega
    have n2 : ¬ (i : Int) < p[i] := by omega
    simp (dsimp := false) (maxDischargeDepth := 16) only [go_sem, ↓reduceIte, reduceCtorEq, Nat.reduceEqDiff, Nat.reduceAdd, Nat.reduceMul, Nat.reduceSub, Nat.reduceLT, Nat.reduceLeDiff, Nat.reducePow, Int.reduceLT, Int.reduceLE, Int.reduceNeg, Int.reduceToNat, t0, t3, h6, idx_nat, idx_int, r0, r2, r3, n1, n2, bne_self_eq_false]
    exact ⟨i + 1, by omega, by omega, by rw [wrapN _ (by omega)]⟩
  · simp (dsimp := false) (maxDischargeDepth := 16) only [go_sem, ↓reduceIte, reduceCtorEq, Nat.reduceEqDiff, Nat.reduceAdd, Nat.reduceMul, Nat.reduceSub, Nat.reduceLT, Nat.reduceLeDiff, Nat.reducePow, Int.reduceLT, Int.reduceLE, Int.reduceNeg, Int.reduceToNat, t0, t3, h6]
    exact finB rfl
theorem c141 (p : List Int) (hl : p.length ≤ 80) (hp : isP p) : Con Try.prog 141 [lv p] 0 (iv 0) := by
  refine conT (X := []) (rs := [.tmp 2]) Try.func141 (by kernel_rfl) rfl rfl (by kernel_rfl) ?_
  simp (dsimp := false) (maxDischargeDepth := 16) only [go_sem, ↓reduceIte, reduceCtorEq, Nat.reduceEqDiff, Nat.reduceAdd, Nat.reduceMul, Nat.reduceSub, Nat.reduceLT, Nat.reduceLeDiff, Nat.reducePow, Int.reduceLT, Int.reduceLE, Int.reduceNeg, Int.reduceToNat]
  refine condK_dec (fun h1 => ?_) (fun h1 => ?_)
  · exfalso; omega
  simp (dsimp := false) (maxDischargeDepth := 16) only [go_sem, ↓reduceIte, reduceCtorEq, Nat.reduceEqDiff, Nat.reduceAdd, Nat.reduceMul, Nat.reduceSub, Nat.reduceLT, Nat.reduceLeDiff, Nat.reducePow, Int.reduceLT, Int.reduceLE, Int.reduceNeg, Int.reduceToNat, h1]
  refine callK_intro (c157 p hl hp) ?_
  simp (dsimp := false) (maxDischargeDepth := 16) only [go_sem, ↓reduceIte, reduceCtorEq, Nat.reduceEqDiff, Nat.reduceAdd, Nat.reduceMul, Nat.reduceSub, Nat.reduceLT, Nat.reduceLeDiff, Nat.reducePow, Int.reduceLT, Int.reduceLE, Int.reduceNeg, Int.reduceToNat, h1]
  exact finI rfl
theorem c100 (p : List Int) (hl : p.length ≤ 80) (hp : isP p) : Con Try.prog 100 [lv p] 0 (.tup [lv (nq p p.length).1, iv (nq p p.length).2, iv 0]) := by
  refine conT (X := []) (rs := [.tmp 2, .tmp 3, .tmp 4]) Try.func100 (by kernel_rfl) rfl rfl (by kernel_rfl) ?_
  simp (dsimp := false) (maxDischargeDepth := 16) only [go_sem, ↓reduceIte, reduceCtorEq, Nat.reduceEqDiff, Nat.reduceAdd, Nat.reduceMul, Nat.reduceSub, Nat.reduceLT, Nat.reduceLeDiff, Nat.reducePow, Int.reduceLT, Int.reduceLE, Int.reduceNeg, Int.reduceToNat]
  refine callK_intro (c141 p hl hp) ?_
  simp (dsimp := false) (maxDischargeDepth := 16) only [go_sem, ↓reduceIte, reduceCtorEq, Nat.reduceEqDiff, Nat.reduceAdd, Nat.reduceMul, Nat.reduceSub, Nat.reduceLT, Nat.reduceLeDiff, Nat.reducePow, Int.reduceLT, Int.reduceLE, Int.reduceNeg, Int.reduceToNat]
  refine condK_intro (fun q => absurd q (by decide)) (fun q => ?_)
  simp (dsimp := false) (maxDischargeDepth := 16) only [go_sem, ↓reduceIte, reduceCtorEq, Nat.reduceEqDiff, Nat.reduceAdd, Nat.reduceMul, Nat.reduceSub, Nat.reduceLT, Nat.reduceLeDiff, Nat.reducePow, Int.reduceLT, Int.reduceLE, Int.reduceNeg, Int.reduceToNat, q]
  refine loopK_intro (fun (i : Nat) s => i ≤ p.length ∧ s.t 0 = lv p ∧ s.t 7 = iv (nq p i).2 ∧ s.t 8 = iv i ∧ ∃ tk, s.t 6 = lvT (nq p i).1 tk ∧ tokOK s tk = true) (fun i => p.length - i) ?_ ?_
  · exact ⟨0, by omega, rfl, rfl, rfl, .nil, rfl, rfl⟩
  rintro i s ⟨hi, t0, t7, t8, tk, t6, htk⟩
  simp (dsimp := false) (maxDischargeDepth := 16) only [go_sem, ↓reduceIte, reduceCtorEq, Nat.reduceEqDiff, Nat.reduceAdd, Nat.reduceMul, Nat.reduceSub, Nat.reduceLT, Nat.reduceLeDiff, Nat.reducePow, Int.reduceLT, Int.reduceLE, Int.reduceNeg, Int.reduceToNat, t0, t7, t8, t6]
  refine condK_dec (fun h6 => ?_) (fun h6 => ?_)
  · have hll := nq_len p i
    have hb := nq_bound p i
    have hroot := fun h1 => nq_root (p := p) h6 h1
    have hkid := fun h1 h2 => nq_kid (p := p) h6 h1 h2
    obtain ⟨r0, r1, r3⟩ := hp i h6
    rw [getD_at h6] at r0 r1
    generalize (nq p i).1 = L at *
    generalize (nq p i).2 = c at *
    simp (dsimp := false) (maxDischargeDepth := 16) only [go_sem, ↓reduceIte, reduceCtorEq, Nat.reduceEqDiff, Nat.reduceAdd, Nat.reduceMul, Nat.reduceSub, Nat.reduceLT, Nat.reduceLeDiff, Nat.reducePow, Int.reduceLT, Int.reduceLE, Int.reduceNeg, Int.reduceToNat, t0, t7, t8, t6, h6, idx_nat]
    refine condK_intro (fun h8 => ?_) (fun h8 => ?_)
    · simp (dsimp := false) (maxDischargeDepth := 16) only [go_sem, ↓reduceIte, reduceCtorEq, Nat.reduceEqDiff, Nat.reduceAdd, Nat.reduceMul, Nat.reduceSub, Nat.reduceLT, Nat.reduceLeDiff, Nat.reducePow, Int.reduceLT, Int.reduceLE, Int.reduceNeg, Int.reduceToNat, t0, t7, t8, t6, h6, h8, idx_nat, htk, hll]
      refine ⟨⟨by omega, by omega⟩, i + 1, by omega, by omega, ?_, by rw [wrapN _ (by omega)], .own (29, s.g 29, 0), ?_, ?_⟩
      · rw [hroot (beqT h8)]
        rw [wrap_i64 _ (by omega) (by omega)]
      · rw [hroot (beqT h8), map1_app]
      · simp (dsimp := false) (maxDischargeDepth := 16) only [go_sem, ↓reduceIte, reduceCtorEq, Nat.reduceEqDiff, Nat.reduceAdd, Nat.reduceMul, Nat.reduceSub, Nat.reduceLT, Nat.reduceLeDiff, Nat.reducePow, Int.reduceLT, Int.reduceLE, Int.reduceNeg, Int.reduceToNat]
    · have hne := beqF h8
      have r2 : p[i].toNat < L.length := by omega
      have r2' : p[i].toNat < i := by omega
      simp (dsimp := false) (maxDischargeDepth := 16) only [go_sem, ↓reduceIte, reduceCtorEq, Nat.reduceEqDiff, Nat.reduceAdd, Nat.reduceMul, Nat.reduceSub, Nat.reduceLT, Nat.reduceLeDiff, Nat.reducePow, Int.reduceLT, Int.reduceLE, Int.reduceNeg, Int.reduceToNat, t0, t7, t8, t6, h6, h8, idx_nat, idx_int, r0, r2, r2', htk, hll]
      have hk := hkid hne r2
      clear hroot hkid r3 r1 r0 hne h8 hb
      refine ⟨⟨by omega, by omega⟩, i + 1, by omega, by omega, ?_, by rw [wrapN _ (by omega)], .own (41, s.g 41, 0), ?_, ?_⟩
      · rw [hk]
      · rw [hk, map1_app]
      · simp (dsimp := false) (maxDischargeDepth := 16) only [go_sem, ↓reduceIte, reduceCtorEq, Nat.reduceEqDiff, Nat.reduceAdd, Nat.reduceMul, Nat.reduceSub, Nat.reduceLT, Nat.reduceLeDiff, Nat.reducePow, Int.reduceLT, Int.reduceLE, Int.reduceNeg, Int.reduceToNat]
  · simp (dsimp := false) (maxDischargeDepth := 16) only [go_sem, ↓reduceIte, reduceCtorEq, Nat.reduceEqDiff, Nat.reduceAdd, Nat.reduceMul, Nat.reduceSub, Nat.reduceLT, Nat.reduceLeDiff, Nat.reducePow, Int.reduceLT, Int.reduceLE, Int.reduceNeg, Int.reduceToNat, t0, t7, t8, t6, h6]
    have hin : i = p.length := by omega
    subst hin
    generalize nq p p.length = Z at *
    exact finK ⟨rfl, rfl⟩
/-- Two classes put together. -/
def mrg (p : List Int) (a b : Nat) : List Int := p.map fun z => if z == (if p.getD b 0 > p.getD a 0 then p.getD b 0 else p.getD a 0) then (if p.getD b 0 < p.getD a 0 then p.getD b 0 else p.getD a 0) else z
theorem c99 (p : List Int) (a b : Nat) (hl : p.length ≤ 1000000) (ha : a < p.length) (hb : b < p.length) : Con Try.prog 99 [lv p, iv a, iv b] 0 (lv (mrg p a b)) := by
  refine conT (X := []) (rs := [.tmp 6]) Try.func99 (by kernel_rfl) rfl rfl (by kernel_rfl) ?_
  unfold mrg
  rw [getD_at ha, getD_at hb]
  simp (dsimp := false) (maxDischargeDepth := 16) only [go_sem, ↓reduceIte, reduceCtorEq, Nat.reduceEqDiff, Nat.reduceAdd, Nat.reduceMul, Nat.reduceSub, Nat.reduceLT, Nat.reduceLeDiff, Nat.reducePow, Int.reduceLT, Int.reduceLE, Int.reduceNeg, Int.reduceToNat, idx_nat, ha, hb]
  generalize (if p[b] > p[a] then p[b] else p[a]) = H
  generalize (if p[b] < p[a] then p[b] else p[a]) = L
  refine loopK_intro (fun (i : Nat) s => i ≤ p.length ∧ s.t 0 = lv p ∧ s.t 7 = iv L ∧ s.t 8 = iv H ∧ s.t 10 = iv i ∧ ∃ tk, s.t 9 = lvT ((p.take i).map fun z => if z == H then L else z) tk ∧ tokOK s tk = true) (fun i => p.length - i) ⟨0, by omega, rfl, rfl, rfl, rfl, .nil, rfl, rfl⟩ ?_
  rintro i s ⟨hi, t0, t7, t8, t10, tk, t9, htk⟩
  simp (dsimp := false) (maxDischargeDepth := 16) only [go_sem, ↓reduceIte, reduceCtorEq, Nat.reduceEqDiff, Nat.reduceAdd, Nat.reduceMul, Nat.reduceSub, Nat.reduceLT, Nat.reduceLeDiff, Nat.reducePow, Int.reduceLT, Int.reduceLE, Int.reduceNeg, Int.reduceToNat, t0, t7, t8, t10, t9]
  refine condK_dec (fun h6 => ?_) (fun h6 => ?_)
  · have pl : ((p.take i).map fun z => if z == H then L else z).length = i := by simp; omega
    have hs := take_map (f := fun z => if z == H then L else z) h6
    generalize (p.take i).map (fun z => if z == H then L else z) = M at *
    simp (dsimp := false) (maxDischargeDepth := 16) only [go_sem, ↓reduceIte, reduceCtorEq, Nat.reduceEqDiff, Nat.reduceAdd, Nat.reduceMul, Nat.reduceSub, Nat.reduceLT, Nat.reduceLeDiff, Nat.reducePow, Int.reduceLT, Int.reduceLE, Int.reduceNeg, Int.reduceToNat, t0, t7, t8, t10, t9, h6, idx_nat]
    refine condK_intro (fun h8 => ?_) (fun h8 => ?_)
    · simp (dsimp := false) (maxDischargeDepth := 16) only [go_sem, ↓reduceIte, reduceCtorEq, Nat.reduceEqDiff, Nat.reduceAdd, Nat.reduceMul, Nat.reduceSub, Nat.reduceLT, Nat.reduceLeDiff, Nat.reducePow, Int.reduceLT, Int.reduceLE, Int.reduceNeg, Int.reduceToNat, t0, t7, t8, t10, t9, h6, h8, idx_nat, htk, pl]
      refine ⟨⟨by omega, by omega⟩, i + 1, by omega, by omega, by rw [wrapN _ (by omega)], .own (47, s.g 47, 0), ?_, ?_⟩
      · rw [hs, if_pos h8, map1_app]
      · simp (dsimp := false) (maxDischargeDepth := 16) only [go_sem, ↓reduceIte, reduceCtorEq, Nat.reduceEqDiff, Nat.reduceAdd, Nat.reduceMul, Nat.reduceSub, Nat.reduceLT, Nat.reduceLeDiff, Nat.reducePow, Int.reduceLT, Int.reduceLE, Int.reduceNeg, Int.reduceToNat]
    · simp (dsimp := false) (maxDischargeDepth := 16) only [go_sem, ↓reduceIte, reduceCtorEq, Nat.reduceEqDiff, Nat.reduceAdd, Nat.reduceMul, Nat.reduceSub, Nat.reduceLT, Nat.reduceLeDiff, Nat.reducePow, Int.reduceLT, Int.reduceLE, Int.reduceNeg, Int.reduceToNat, t0, t7, t8, t10, t9, h6, h8, idx_nat, htk, pl]
      refine ⟨⟨by omega, by omega⟩, i + 1, by omega, by omega, by rw [wrapN _ (by omega)], .own (47, s.g 47, 0), ?_, ?_⟩
      · rw [hs, if_neg (by rw [h8]; decide), map1_app]
      · simp (dsimp := false) (maxDischargeDepth := 16) only [go_sem, ↓reduceIte, reduceCtorEq, Nat.reduceEqDiff, Nat.reduceAdd, Nat.reduceMul, Nat.reduceSub, Nat.reduceLT, Nat.reduceLeDiff, Nat.reducePow, Int.reduceLT, Int.reduceLE, Int.reduceNeg, Int.reduceToNat]
  · simp (dsimp := false) (maxDischargeDepth := 16) only [go_sem, ↓reduceIte, reduceCtorEq, Nat.reduceEqDiff, Nat.reduceAdd, Nat.reduceMul, Nat.reduceSub, Nat.reduceLT, Nat.reduceLeDiff, Nat.reducePow, Int.reduceLT, Int.reduceLE, Int.reduceNeg, Int.reduceToNat, t0, t7, t8, t10, t9, h6]
    refine finL ?_
    rw [show i = p.length by omega, List.take_length]
def pairB (a b : List Int) (i k : Nat) : Bool := (a.getD i 0 == a.getD k 0) == (b.getD i 0 == b.getD k 0)
/-- Equal elements at the same pairs of places. -/
def alkB (a b : List Int) : Bool := (a.length : Int) == (b.length : Int) && (List.range a.length).all fun i => (List.range i).all fun k => pairB a b i k
theorem c50 (a b : List Int) : Con Try.prog 50 [lv a, lv b] 0 (bv (alkB a b)) := by
  refine Con.assume (enters_of Try.func50 (by kernel_rfl) rfl) fun hb => ?_
  have hl := bnd_lv (hb _ (List.mem_cons_self ..))
  clear hb
  refine conT (X := []) (rs := [.tmp 4]) Try.func50 (by kernel_rfl) rfl rfl (by kernel_rfl) ?_
  simp (dsimp := false) (maxDischargeDepth := 16) only [go_sem, ↓reduceIte, reduceCtorEq, Nat.reduceEqDiff, Nat.reduceAdd, Nat.reduceMul, Nat.reduceSub, Nat.reduceLT, Nat.reduceLeDiff, Nat.reducePow, Int.reduceLT, Int.reduceLE, Int.reduceNeg, Int.reduceToNat]
  refine condK_intro (fun h1 => ?_) (fun h1 => ?_)
  · simp (dsimp := false) (maxDischargeDepth := 16) only [go_sem, ↓reduceIte, reduceCtorEq, Nat.reduceEqDiff, Nat.reduceAdd, Nat.reduceMul, Nat.reduceSub, Nat.reduceLT, Nat.reduceLeDiff, Nat.reducePow, Int.reduceLT, Int.reduceLE, Int.reduceNeg, Int.reduceToNat, h1]
    refine finB ?_
    rw [alkB, Bool.and_eq_false_iff]
    left
    simpa using h1
  have hab : (a.length : Int) = b.length := by simpa using h1
  have hab' : a.length = b.length := by omega
  have eB : alkB a b = (List.range a.length).all fun i => (List.range i).all fun k => pairB a b i k := by rw [alkB, hab]; simp
  rw [eB]
  simp (dsimp := false) (maxDischargeDepth := 16) only [go_sem, ↓reduceIte, reduceCtorEq, Nat.reduceEqDiff, Nat.reduceAdd, Nat.reduceMul, Nat.reduceSub, Nat.reduceLT, Nat.reduceLeDiff, Nat.reducePow, Int.reduceLT, Int.reduceLE, Int.reduceNeg, Int.reduceToNat, h1]
  refine loopK_intro (fun (i : Nat) s => i ≤ a.length ∧ s.t 0 = lv a ∧ s.t 1 = lv b ∧ s.t 13 = iv a.length ∧ s.t 14 = iv i ∧ ∀ j, j < i → ∀ k, k < j → pairB a b j k = true) (fun i => a.length - i) ⟨0, by omega, rfl, rfl, rfl, rfl, fun j hj => by omega⟩ ?_
  rintro i s ⟨hi, t0, t1, t13, t14, hall⟩
  simp (dsimp := false) (maxDischargeDepth := 16) only [go_sem, ↓reduceIte, reduceCtorEq, Nat.reduceEqDiff, Nat.reduceAdd, Nat.reduceMul, Nat.reduceSub, Nat.reduceLT, Nat.reduceLeDiff, Nat.reducePow, Int.reduceLT, Int.reduceLE, Int.reduceNeg, Int.reduceToNat, t0, t1, t13, t14]
  refine condK_dec (fun h6 => ?_) (fun h6 => ?_)
  · simp (dsimp := false) (maxDischargeDepth := 16) only [go_sem, ↓reduceIte, reduceCtorEq, Nat.reduceEqDiff, Nat.reduceAdd, Nat.reduceMul, Nat.reduceSub, Nat.reduceLT, Nat.reduceLeDiff, Nat.reducePow, Int.reduceLT, Int.reduceLE, Int.reduceNeg, Int.reduceToNat, t0, t1, t13, t14, h6]
    refine loopK_intro (fun (k : Nat) s => k ≤ i ∧ s.t 0 = lv a ∧ s.t 1 = lv b ∧ s.t 13 = iv a.length ∧ s.t 14 = iv i ∧ s.t 5 = iv i ∧ s.t 17 = iv i ∧ s.t 18 = iv k ∧ ∀ j, j < k → pairB a b i j = true) (fun k => i - k) ⟨0, by omega, t0, t1, t13, t14, rfl, rfl, rfl, fun j hj => by omega⟩ ?_
    clear t0 t1 t13 t14
    rintro k s ⟨hk, t0, t1, t13, t14, t5, t17, t18, hin⟩
    simp (dsimp := false) (maxDischargeDepth := 16) only [go_sem, ↓reduceIte, reduceCtorEq, Nat.reduceEqDiff, Nat.reduceAdd, Nat.reduceMul, Nat.reduceSub, Nat.reduceLT, Nat.reduceLeDiff, Nat.reducePow, Int.reduceLT, Int.reduceLE, Int.reduceNeg, Int.reduceToNat, t0, t1, t13, t14, t5, t17, t18]
    refine condK_dec (fun h7 => ?_) (fun h7 => ?_)
    · have r1 : i < b.length := by omega
      have r2 : k < a.length := by omega
      have r3 : k < b.length := by omega
      have e : pairB a b i k = ((a[i] == a[k]) == (b[i] == b[k])) := by rw [pairB, getD_at h6, getD_at r1, getD_at r2, getD_at r3]
      simp (dsimp := false) (maxDischargeDepth := 16) only [go_sem, ↓reduceIte, reduceCtorEq, Nat.reduceEqDiff, Nat.reduceAdd, Nat.reduceMul, Nat.reduceSub, Nat.reduceLT, Nat.reduceLeDiff, Nat.reducePow, Int.reduceLT, Int.reduceLE, Int.reduceNeg, Int.reduceToNat, t0, t1, t13, t14, t5, t17, t18, h6, h7, idx_nat, r1, r2, r3, bin_neb]
      refine condK_intro (fun h8 => ?_) (fun h8 => ?_)
      · simp (dsimp := false) (maxDischargeDepth := 16) only [go_sem, ↓reduceIte, reduceCtorEq, Nat.reduceEqDiff, Nat.reduceAdd, Nat.reduceMul, Nat.reduceSub, Nat.reduceLT, Nat.reduceLeDiff, Nat.reducePow, Int.reduceLT, Int.reduceLE, Int.reduceNeg, Int.reduceToNat, t0, t1, t13, t14, t5, t17, t18, h6, h7, h8]
        refine finB ?_
        rw [Bool.eq_false_iff]
        intro e2
        have := List.all_eq_true.1 (List.all_eq_true.1 e2 i (List.mem_range.2 h6)) k (List.mem_range.2 h7)
        rw [e] at this
        rw [bne, this] at h8
        cases h8
      · simp (dsimp := false) (maxDischargeDepth := 16) only [go_sem, ↓reduceIte, reduceCtorEq, Nat.reduceEqDiff, Nat.reduceAdd, Nat.reduceMul, Nat.reduceSub, Nat.reduceLT, Nat.reduceLeDiff, Nat.reducePow, Int.reduceLT, Int.reduceLE, Int.reduceNeg, Int.reduceToNat, t0, t1, t13, t14, t5, t17, t18, h6, h7, h8]
        refine ⟨k + 1, by omega, by omega, by rw [wrapN _ (by omega)], fun j hj => ?_⟩
        by_cases hjk : j = k
        · rw [hjk, e]
          rw [bne] at h8
          simpa using h8
        · exact hin j (by omega)
    · simp (dsimp := false) (maxDischargeDepth := 16) only [go_sem, ↓reduceIte, reduceCtorEq, Nat.reduceEqDiff, Nat.reduceAdd, Nat.reduceMul, Nat.reduceSub, Nat.reduceLT, Nat.reduceLeDiff, Nat.reducePow, Int.reduceLT, Int.reduceLE, Int.reduceNeg, Int.reduceToNat, t0, t1, t13, t14, t5, t17, t18, h7]
      refine ⟨i + 1, by omega, by omega, by rw [wrapN _ (by omega)], fun j hj k' hk' => ?_⟩
      by_cases hji : j = i
      · rw [hji]; exact hin k' (by omega)
      · exact hall j (by omega) k' hk'
  · simp (dsimp := false) (maxDischargeDepth := 16) only [go_sem, ↓reduceIte, reduceCtorEq, Nat.reduceEqDiff, Nat.reduceAdd, Nat.reduceMul, Nat.reduceSub, Nat.reduceLT, Nat.reduceLeDiff, Nat.reducePow, Int.reduceLT, Int.reduceLE, Int.reduceNeg, Int.reduceToNat, t0, t1, t13, t14, h6]
    refine finB ?_
    exact List.all_eq_true.2 fun i hi => List.all_eq_true.2 fun k hk => hall i (by have := List.mem_range.1 hi; omega) k (List.mem_range.1 hk)
end Go.Sy

/- Contracts: the document's image of a graph by numbers. -/
set_option linter.unusedSimpArgs false
namespace Go.Sy
open Go Go.Proofs

/-! ### The classes of nodes -/
def imK (code : List Int) (i : Nat) : Int := (code.getD (i % code.length) 0).tmod ((i : Int) + 1)
def imOK (gn code : List Int) (i : Nat) : Bool := decide (imK code i < (i : Int)) && gn.getD (imK code i).toNat 0 == gn.getD i 0
def imP (gn code : List Int) : Nat → List Int
  | 0 => rng gn.length
  | i + 1 => if i + 1 < gn.length ∧ imOK gn code (i + 1) = true then mrg (imP gn code i) (imK code (i + 1)).toNat (i + 1) else imP gn code i
theorem mrg_len (p : List Int) (a b : Nat) : (mrg p a b).length = p.length := by simp [mrg]
theorem imP_len (gn code : List Int) : ∀ i, (imP gn code i).length = gn.length
  | 0 => rng_len _
  | i + 1 => by
    rw [imP]
    split
    · rw [mrg_len, imP_len]
    · exact imP_len gn code i
theorem mrg_at {p : List Int} {a b i : Nat} (h : i < p.length) : (mrg p a b).getD i 0 = if p.getD i 0 = (if p.getD b 0 > p.getD a 0 then p.getD b 0 else p.getD a 0) then (if p.getD b 0 < p.getD a 0 then p.getD b 0 else p.getD a 0) else p.getD i 0 := by
  rw [getD_at (by rw [mrg_len]; exact h), getD_at h (d := 0)]
  simp only [mrg, List.getElem_map, beq_iff_eq]
theorem isP_low {p : List Int} (hp : isP p) {i : Nat} (hi : i < p.length) : (p.getD i 0).toNat < p.length := by
  have := hp i hi
  omega
theorem rep_isP {p p' : List Int} {H L : Int} (hp : isP p) (hl : p'.length = p.length) (hL : 0 ≤ L) (hLH : L ≤ H) (hlt : L.toNat < p.length) (hr : p.getD L.toNat 0 = L)
    (hat : ∀ j, j < p.length → p'.getD j 0 = if p.getD j 0 = H then L else p.getD j 0) : isP p' := by
  intro i hi
  rw [hl] at hi
  obtain ⟨p1, p2, p3⟩ := hp i hi
  have li := isP_low hp hi
  show 0 ≤ p'.getD i 0 ∧ p'.getD i 0 ≤ i ∧ p'.getD (p'.getD i 0).toNat 0 = p'.getD i 0
  rw [hat i hi]
  by_cases h1 : p.getD i 0 = H
  · rw [if_pos h1, hat _ hlt, hr]
    refine ⟨hL, by omega, ?_⟩
    split <;> rfl
  · rw [if_neg h1, hat _ li, p3, if_neg h1]
    exact ⟨p1, p2, rfl⟩
theorem rep_ty {gn p p' : List Int} {H L : Int} (hp : ∀ i, i < p.length → gn.getD (p.getD i 0).toNat 0 = gn.getD i 0) (hl : p'.length = p.length) (hHL : gn.getD H.toNat 0 = gn.getD L.toNat 0)
    (hat : ∀ j, j < p.length → p'.getD j 0 = if p.getD j 0 = H then L else p.getD j 0) : ∀ i, i < p'.length → gn.getD (p'.getD i 0).toNat 0 = gn.getD i 0 := by
  intro i hi
  rw [hl] at hi
  have q := hp i hi
  rw [hat i hi]
  by_cases h1 : p.getD i 0 = H
  · rw [if_pos h1, ← hHL, ← h1]
    exact q
  · rw [if_neg h1]
    exact q
theorem mrg_isP {p : List Int} {a b : Nat} (hp : isP p) (ha : a < p.length) (hb : b < p.length) : isP (mrg p a b) := by
  obtain ⟨a1, a2, a3⟩ := hp a ha
  obtain ⟨b1, b2, b3⟩ := hp b hb
  have la := isP_low hp ha
  have lb := isP_low hp hb
  have hat := fun j hj => mrg_at (p := p) (a := a) (b := b) (i := j) hj
  by_cases hc : p.getD b 0 > p.getD a 0
  · simp only [if_pos hc, if_neg (show ¬ p.getD b 0 < p.getD a 0 by omega)] at hat
    exact rep_isP hp (mrg_len _ _ _) a1 (by omega) la a3 hat
  · by_cases hd : p.getD b 0 < p.getD a 0
    · simp only [if_neg hc, if_pos hd] at hat
      exact rep_isP hp (mrg_len _ _ _) b1 (by omega) lb b3 hat
    · simp only [if_neg hc, if_neg hd] at hat
      exact rep_isP hp (mrg_len _ _ _) a1 (by omega) la a3 hat
theorem mrg_ty {gn p : List Int} {a b : Nat} (hp : ∀ i, i < p.length → gn.getD (p.getD i 0).toNat 0 = gn.getD i 0) (ha : a < p.length) (hb : b < p.length) (hab : gn.getD a 0 = gn.getD b 0) :
    ∀ i, i < (mrg p a b).length → gn.getD ((mrg p a b).getD i 0).toNat 0 = gn.getD i 0 := by
  have qa := hp a ha
  have qb := hp b hb
  have hat := fun j hj => mrg_at (p := p) (a := a) (b := b) (i := j) hj
  by_cases hc : p.getD b 0 > p.getD a 0
  · simp only [if_pos hc, if_neg (show ¬ p.getD b 0 < p.getD a 0 by omega)] at hat
    exact rep_ty hp (mrg_len _ _ _) (by rw [qa, qb, hab]) hat
  · by_cases hd : p.getD b 0 < p.getD a 0
    · simp only [if_neg hc, if_pos hd] at hat
      exact rep_ty hp (mrg_len _ _ _) (by rw [qa, qb, hab]) hat
    · simp only [if_neg hc, if_neg hd] at hat
      exact rep_ty hp (mrg_len _ _ _) rfl hat
theorem imP_isP (gn code : List Int) (hc : ∀ x ∈ code, 0 ≤ x) (h0 : code ≠ []) : ∀ i, isP (imP gn code i) ∧ ∀ j, j < gn.length → gn.getD ((imP gn code i).getD j 0).toNat 0 = gn.getD j 0
  | 0 => by
    refine ⟨fun j hj => ?_, fun j hj => ?_⟩
    · rw [imP, rng_len] at hj
      show 0 ≤ (rng gn.length).getD j 0 ∧ (rng gn.length).getD j 0 ≤ j ∧ (rng gn.length).getD ((rng gn.length).getD j 0).toNat 0 = (rng gn.length).getD j 0
      rw [rng_at hj, Int.toNat_natCast, rng_at hj]
      omega
    · rw [imP, rng_at hj, Int.toNat_natCast]
  | i + 1 => by
    obtain ⟨h1, h2⟩ := imP_isP gn code hc h0 i
    rw [imP]
    split
    · rename_i h
      obtain ⟨h3, h4⟩ := h
      simp only [imOK, Bool.and_eq_true, decide_eq_true_eq, beq_iff_eq] at h4
      have hl := imP_len gn code i
      have hk : (imK code (i + 1)).toNat < (imP gn code i).length := by omega
      refine ⟨mrg_isP h1 hk (by omega), fun j hj => mrg_ty (fun i hi => h2 i (by omega)) hk (by omega) h4.2 j (by rw [mrg_len]; omega)⟩
    · exact ⟨h1, h2⟩
/-! ### The edges -/
def imX (g : Gr) (q : List Int) (i : Nat) : Ed := ((g.e.getD i (0, 0, 0)).1, q.getD (g.e.getD i (0, 0, 0)).2.1.toNat 0, q.getD (g.e.getD i (0, 0, 0)).2.2.toNat 0)
def imC (code : List Int) (n : Nat) : Bool := (code.getD (n % code.length) 0).tmod 2 == 0
def lh (E : List Ed) (x : Ed) (c : Nat → Bool) : Nat → Int
  | 0 => -1
  | k + 1 => if E.getD k (0, 0, 0) = x ∧ c k = true then (k : Int) else lh E x c k
theorem lh_spec (E : List Ed) (x : Ed) (c : Nat → Bool) : ∀ k, lh E x c k = -1 ∨ ∃ j : Nat, j < k ∧ lh E x c k = (j : Int) ∧ E.getD j (0, 0, 0) = x
  | 0 => .inl rfl
  | k + 1 => by
    rw [lh]
    split
    · rename_i h
      exact .inr ⟨k, by omega, rfl, h.1⟩
    · rcases lh_spec E x c k with h | ⟨j, h1, h2, h3⟩
      · exact .inl h
      · exact .inr ⟨j, by omega, h2, h3⟩
def imE (g : Gr) (q code : List Int) : Nat → List Ed × List Int
  | 0 => ([], [])
  | i + 1 => if lh (imE g q code i).1 (imX g q i) (fun k => imC code (i + k)) (imE g q code i).1.length < 0 then ((imE g q code i).1 ++ [imX g q i], (imE g q code i).2 ++ [((imE g q code i).1.length : Int)])
    else ((imE g q code i).1, (imE g q code i).2 ++ [lh (imE g q code i).1 (imX g q i) (fun k => imC code (i + k)) (imE g q code i).1.length])
structure IE (g : Gr) (q : List Int) (i : Nat) (E : List Ed) (M : List Int) : Prop where
  len : M.length = i
  up : E.length ≤ i
  at_ : ∀ j, j < i → 0 ≤ M.getD j 0 ∧ (M.getD j 0).toNat < E.length ∧ E.getD (M.getD j 0).toNat (0, 0, 0) = imX g q j
  mem : ∀ x ∈ E, ∃ j, j < i ∧ x = imX g q j
theorem imE_ok (g : Gr) (q code : List Int) : ∀ i, IE g q i (imE g q code i).1 (imE g q code i).2
  | 0 => ⟨rfl, by simp [imE], fun j hj => by omega, fun x hx => by simp [imE] at hx⟩
  | i + 1 => by
    obtain ⟨h1, h2, h3, h4⟩ := imE_ok g q code i
    rw [imE]
    generalize (imE g q code i).1 = E at *
    generalize (imE g q code i).2 = M at *
    have hs := lh_spec E (imX g q i) (fun k => imC code (i + k)) E.length
    generalize lh E (imX g q i) (fun k => imC code (i + k)) E.length = a at *
    have gl : ∀ (x : Int) (j : Nat), j < i → (M ++ [x]).getD j 0 = M.getD j 0 := fun x j hj => getD_app_lt (by omega)
    have ge : ∀ (x : Int), (M ++ [x]).getD i 0 = x := fun x => getD_app_eq h1
    split
    · refine ⟨by simp [h1], by simp; omega, fun j hj => ?_, fun x hx => ?_⟩
      · by_cases hji : j = i
        · subst hji
          dsimp only
          rw [ge]
          refine ⟨by omega, by simp, ?_⟩
          rw [Int.toNat_natCast, getD_at (by simp)]
          simp
        · obtain ⟨a1, a2, a3⟩ := h3 j (by omega)
          dsimp only
          rw [gl _ j (by omega)]
          have hll : (E ++ [imX g q i]).length = E.length + 1 := by simp
          have a2' : (M.getD j 0).toNat < (E ++ [imX g q i]).length := by rw [hll]; exact Nat.lt_succ_of_lt a2
          refine ⟨a1, a2', ?_⟩
          rw [getD_at a2', List.getElem_append_left a2, ← a3, getD_at a2]
      · rcases List.mem_append.1 hx with hx | hx
        · obtain ⟨j, j1, j2⟩ := h4 x hx
          exact ⟨j, by omega, j2⟩
        · simp at hx
          exact ⟨i, by omega, hx⟩
    · rename_i hneg
      refine ⟨by simp [h1], by dsimp only; omega, fun j hj => ?_, fun x hx => ?_⟩
      · by_cases hji : j = i
        · subst hji
          dsimp only
          rw [ge]
          rcases hs with hs | ⟨k, k1, k2, k3⟩
          · omega
          · rw [k2, Int.toNat_natCast]
            exact ⟨by omega, k1, k3⟩
        · dsimp only
          rw [gl _ j (by omega)]
          exact h3 j (by omega)
      · obtain ⟨j, j1, j2⟩ := h4 x hx
        exact ⟨j, by omega, j2⟩
def imQ (g : Gr) (code : List Int) : List Int := imP g.n code (g.n.length - 1)
def imR (g : Gr) (code : List Int) : Gr × Mo :=
  (⟨(rts (imQ g code) g.n.length).map (nodeAt g.n), (imE g (nq (imQ g code) g.n.length).1 code g.e.length).1⟩, ⟨(nq (imQ g code) g.n.length).1, (imE g (nq (imQ g code) g.n.length).1 code g.e.length).2⟩)
theorem imR_ok {g : Gr} (hg : gErr g = 0) {code : List Int} (hc : ∀ x ∈ code, 0 ≤ x) (h0 : code ≠ []) : mErr g (imR g code).1 (imR g code).2 = 0 := by
  have gs := gErr_small hg
  obtain ⟨p1, p2⟩ := imP_isP g.n code hc h0 (g.n.length - 1)
  have pl := imP_len g.n code (g.n.length - 1)
  have hsp := (nq_spec p1 g.n.length (by omega)).2
  have hql := nq_len (imQ g code) g.n.length
  have hie := imE_ok g (nq (imQ g code) g.n.length).1 code g.e.length
  have hsp : ∀ j, j < g.n.length → 0 ≤ (nq (imQ g code) g.n.length).1.getD j 0 ∧ (rts (imQ g code) g.n.length)[((nq (imQ g code) g.n.length).1.getD j 0).toNat]? = some ((imQ g code).getD j 0).toNat := hsp
  have hty : ∀ j, j < g.n.length → g.n.getD ((imQ g code).getD j 0).toNat 0 = g.n.getD j 0 := p2
  have hlow : ∀ j, j < g.n.length → ((imQ g code).getD j 0).toNat < g.n.length := fun j hj => by have := p1 j (by omega); have : (imQ g code).getD j 0 ≤ j := this.2.1; omega
  have hrl := rts_len (imQ g code) g.n.length
  show mErr g ⟨(rts (imQ g code) g.n.length).map (nodeAt g.n), (imE g (nq (imQ g code) g.n.length).1 code g.e.length).1⟩ ⟨(nq (imQ g code) g.n.length).1, (imE g (nq (imQ g code) g.n.length).1 code g.e.length).2⟩ = 0
  generalize (nq (imQ g code) g.n.length).1 = q at *
  generalize (imE g q code g.e.length).1 = E at *
  generalize (imE g q code g.e.length).2 = M at *
  generalize hR : rts (imQ g code) g.n.length = R at *
  have qn : ∀ j, j < g.n.length → 0 ≤ q.getD j 0 ∧ (q.getD j 0).toNat < R.length ∧ (R.map (nodeAt g.n)).getD (q.getD j 0).toNat 0 = g.n.getD j 0 := fun j hj => by
    obtain ⟨a1, a2⟩ := hsp j hj
    have hlt := (List.getElem?_eq_some_iff.1 a2).1
    refine ⟨a1, hlt, ?_⟩
    rw [List.getD_eq_getElem?_getD, List.getElem?_map, a2]
    exact hty j hj
  have xv : ∀ j, j < g.e.length → edOK R.length (imX g q j) := fun j hj => by
    have r := edge_in hg hj
    have t := gs.2.2 _ (List.getElem_mem hj)
    rw [← getD_at hj (d := (0, 0, 0))] at t
    have u1 := qn (g.e.getD j (0, 0, 0)).2.1.toNat (by omega)
    have u2 := qn (g.e.getD j (0, 0, 0)).2.2.toNat (by omega)
    unfold imX edOK
    dsimp only
    exact ⟨t.1, u1.1, by omega, u2.1, by omega⟩
  have gv : gErr ⟨R.map (nodeAt g.n), E⟩ = 0 := by
    have up := hie.up
    rw [gErr, if_pos (by simp; omega), if_pos]
    refine ⟨fun t ht => ?_, fun x hx => ?_⟩
    · obtain ⟨j, hj, rfl⟩ := List.mem_map.1 ht
      have hj : j < g.n.length := by
        rw [← hR] at hj
        have := (List.mem_filter.1 hj).1
        simpa using this
      show 0 ≤ g.n.getD j 0 ∧ g.n.getD j 0 ≤ 99
      rw [getD_at hj]
      exact gs.2.1 _ (List.getElem_mem hj)
    · obtain ⟨j, j1, rfl⟩ := hie.mem x hx
      have := xv j j1
      simpa using this
  refine mErr_zero hg gv hql hie.len (fun i hi => ?_) (fun i hi => ?_)
  · obtain ⟨a1, a2, a3⟩ := qn i hi
    rw [nodeErr]
    dsimp only
    rw [if_neg (by rw [List.length_map]; omega), if_neg (by rw [a3]; simp)]
  · obtain ⟨a1, a2, a3⟩ := hie.at_ i hi
    rw [edgeErr]
    dsimp only
    rw [if_neg (by omega), a3, if_neg (by simp [imX]), if_neg (by simp [imX])]
end Go.Sy

/- Contracts: the document's image of a graph by numbers: the walk. -/
set_option linter.unusedSimpArgs false
namespace Go.Sy
open Go Go.Proofs

theorem tmod_nat (a b : Nat) : (a : Int).tmod (b : Int) = ((a % b : Nat) : Int) := (Int.ofNat_tmod a b).symm
theorem edEq (a b : Ed) : (a.1 == b.1 && (a.2.1 == b.2.1 && a.2.2 == b.2.2)) = decide (a = b) := by
  obtain ⟨a1, a2, a3⟩ := a
  obtain ⟨b1, b2, b3⟩ := b
  rw [Bool.eq_iff_iff]
  simp
set_option maxHeartbeats 8000000 in
theorem c49 (g : Gr) (code : List Int) (hg : gErr g = 0) (h0 : code ≠ []) (hs : code.length ≤ 1000000) (hr : ∀ x ∈ code, 0 ≤ x ∧ x ≤ 255) : Con Try.prog 49 [gv g, lu8 code] 0 (.tup [gv (imR g code).1, mv (imR g code).2]) := by
  have gs := gErr_small hg
  obtain ⟨p1, p2⟩ := imP_isP g.n code (fun x hx => (hr x hx).1) h0 (g.n.length - 1)
  have pl := imP_len g.n code (g.n.length - 1)
  have hpos : 0 < code.length := List.length_pos_iff.2 h0
  have hc0 : ¬ ((code.length : Int) = 0) := by omega
  refine conT (X := [(30, [], [(4, [14], [])])]) (rs := [.cell 4 25, .cell 5 41]) Try.func49 (by kernel_rfl) rfl rfl (by kernel_rfl) ?_
  simp (dsimp := false) (maxDischargeDepth := 16) only [go_sem, ↓reduceIte, reduceCtorEq, Nat.reduceEqDiff, Nat.reduceAdd, Nat.reduceMul, Nat.reduceSub, Nat.reduceLT, Nat.reduceLeDiff, Nat.reducePow, Int.reduceLT, Int.reduceLE, Int.reduceNeg, Int.reduceToNat]
  refine callK_intro (c97 code h0 hs hr) ?_
  simp (dsimp := false) (maxDischargeDepth := 16) only [go_sem, ↓reduceIte, reduceCtorEq, Nat.reduceEqDiff, Nat.reduceAdd, Nat.reduceMul, Nat.reduceSub, Nat.reduceLT, Nat.reduceLeDiff, Nat.reducePow, Int.reduceLT, Int.reduceLE, Int.reduceNeg, Int.reduceToNat]
  refine callK_intro (c98 g.n.length (by omega)) ?_
  simp (dsimp := false) (maxDischargeDepth := 16) only [go_sem, ↓reduceIte, reduceCtorEq, Nat.reduceEqDiff, Nat.reduceAdd, Nat.reduceMul, Nat.reduceSub, Nat.reduceLT, Nat.reduceLeDiff, Nat.reducePow, Int.reduceLT, Int.reduceLE, Int.reduceNeg, Int.reduceToNat]
  refine loopK_intro (fun (j : Nat) s => (j = 0 ∨ j + 1 ≤ g.n.length) ∧ s.t 2 = .box (2, 0, 0) 0 ∧ s.b (2, 0, 0) = some ⟨gcs g, false⟩ ∧ s.t 4 = .box (4, 0, 0) 0 ∧ (∃ z1 z2, s.b (4, 0, 0) = some ⟨[z1, z2], false⟩) ∧ s.t 5 = .box (5, 0, 0) 0 ∧ (∃ z1 z2, s.b (5, 0, 0) = some ⟨[z1, z2], false⟩) ∧
    s.t 6 = lv code ∧ s.t 7 = lv (imP g.n code j) ∧ s.t 8 = iv ((j + 1 : Nat) : Int)) (fun j => g.n.length - j) ?_ ?_
  · exact ⟨0, .inl rfl, rfl, rfl, rfl, ⟨_, _, rfl⟩, rfl, ⟨_, _, rfl⟩, rfl, rfl, rfl⟩
  rintro j s ⟨hj, t2, b2, t4, ⟨z1, z2, b4⟩, t5, ⟨y1, y2, b5⟩, t6, t7, t8⟩
  simp (dsimp := false) (maxDischargeDepth := 16) only [go_sem, ↓reduceIte, reduceCtorEq, Nat.reduceEqDiff, Nat.reduceAdd, Nat.reduceMul, Nat.reduceSub, Nat.reduceLT, Nat.reduceLeDiff, Nat.reducePow, Int.reduceLT, Int.reduceLE, Int.reduceNeg, Int.reduceToNat, t2, b2, t4, b4, t5, b5, t6, t7, t8]
  refine condK_dec (fun h6 => ?_) (fun h6 => ?_)
  · have ipl := imP_len g.n code j
    have hm : (j + 1) % code.length < code.length := Nat.mod_lt _ hpos
    have hcx := hr _ (List.getElem_mem hm)
    have w1 : IntKind.i64.wrap (((j + 1 : Nat) : Int) + 1) = ((j + 1 + 1 : Nat) : Int) := wrapN _ (by omega)
    have n1 : ¬ (((j + 1 + 1 : Nat) : Int) = 0) := by omega
    have hk0 : 0 ≤ (code[(j + 1) % code.length]).tmod ((j + 1 + 1 : Nat) : Int) := Int.tmod_nonneg _ hcx.1
    have hk1 : (code[(j + 1) % code.length]).tmod ((j + 1 + 1 : Nat) : Int) < ((j + 1 + 1 : Nat) : Int) := Int.tmod_lt_of_pos _ (by omega)
    have eK : imK code (j + 1) = (code[(j + 1) % code.length]).tmod ((j + 1 + 1 : Nat) : Int) := by rw [imK, getD_at hm]; rfl
    have eP : imP g.n code (j + 1) = if j + 1 < g.n.length ∧ imOK g.n code (j + 1) = true then mrg (imP g.n code j) (imK code (j + 1)).toNat (j + 1) else imP g.n code j := rfl
    obtain ⟨k, hk⟩ := Int.eq_ofNat_of_zero_le hk0
    rw [hk] at hk1 eK
    rw [imOK, eK] at eP
    simp (dsimp := false) (maxDischargeDepth := 16) only [go_sem, ↓reduceIte, reduceCtorEq, Nat.reduceEqDiff, Nat.reduceAdd, Nat.reduceMul, Nat.reduceSub, Nat.reduceLT, Nat.reduceLeDiff, Nat.reducePow, Int.reduceLT, Int.reduceLE, Int.reduceNeg, Int.reduceToNat, t2, b2, t4, b4, t5, b5, t6, t7, t8, h6, tmod_nat, idx_nat, hm, hc0, w1, n1, hk]
    by_cases h8 : k < j + 1
    · have r1 : k < g.n.length := by omega
      have r2 : k < (imP g.n code j).length := by omega
      have r3 : j + 1 < (imP g.n code j).length := by omega
      simp (dsimp := false) (maxDischargeDepth := 16) only [go_sem, ↓reduceIte, reduceCtorEq, Nat.reduceEqDiff, Nat.reduceAdd, Nat.reduceMul, Nat.reduceSub, Nat.reduceLT, Nat.reduceLeDiff, Nat.reducePow, Int.reduceLT, Int.reduceLE, Int.reduceNeg, Int.reduceToNat, t2, b2, t4, b4, t5, b5, t6, t7, t8, h6, h8, r1, idx_nat]
      refine condK_intro (fun h9 => ?_) (fun h9 => ?_)
      · simp (dsimp := false) (maxDischargeDepth := 16) only [go_sem, ↓reduceIte, reduceCtorEq, Nat.reduceEqDiff, Nat.reduceAdd, Nat.reduceMul, Nat.reduceSub, Nat.reduceLT, Nat.reduceLeDiff, Nat.reducePow, Int.reduceLT, Int.reduceLE, Int.reduceNeg, Int.reduceToNat, t2, b2, t4, b4, t5, b5, t6, t7, t8, h6, h8, h9]
        refine callK_intro (c99 (imP g.n code j) k (j + 1) (by omega) r2 r3) ?_
        simp (dsimp := false) (maxDischargeDepth := 16) only [go_sem, ↓reduceIte, reduceCtorEq, Nat.reduceEqDiff, Nat.reduceAdd, Nat.reduceMul, Nat.reduceSub, Nat.reduceLT, Nat.reduceLeDiff, Nat.reducePow, Int.reduceLT, Int.reduceLE, Int.reduceNeg, Int.reduceToNat, t2, b2, t4, b4, t5, b5, t6, t7, t8, h6, h8, h9]
        refine ⟨j + 1, by omega, .inr (by omega), ⟨_, _, rfl⟩, ⟨_, _, rfl⟩, ?_, by rw [w1]⟩
        rw [eP, if_pos]
        · rfl
        · refine ⟨h6, ?_⟩
          rw [Int.toNat_natCast, getD_at r1, getD_at h6, h9, decide_eq_true (by omega)]
          rfl
      · simp (dsimp := false) (maxDischargeDepth := 16) only [go_sem, ↓reduceIte, reduceCtorEq, Nat.reduceEqDiff, Nat.reduceAdd, Nat.reduceMul, Nat.reduceSub, Nat.reduceLT, Nat.reduceLeDiff, Nat.reducePow, Int.reduceLT, Int.reduceLE, Int.reduceNeg, Int.reduceToNat, t2, b2, t4, b4, t5, b5, t6, t7, t8, h6, h8, h9]
        refine ⟨j + 1, by omega, .inr (by omega), ⟨_, _, rfl⟩, ⟨_, _, rfl⟩, ?_, by rw [w1]⟩
        rw [eP, if_neg]
        rintro ⟨_, h⟩
        rw [Int.toNat_natCast, getD_at r1, getD_at h6, h9, Bool.and_false] at h
        cases h
    · simp (dsimp := false) (maxDischargeDepth := 16) only [go_sem, ↓reduceIte, reduceCtorEq, Nat.reduceEqDiff, Nat.reduceAdd, Nat.reduceMul, Nat.reduceSub, Nat.reduceLT, Nat.reduceLeDiff, Nat.reducePow, Int.reduceLT, Int.reduceLE, Int.reduceNeg, Int.reduceToNat, t2, b2, t4, b4, t5, b5, t6, t7, t8, h6, h8]
      refine ⟨j + 1, by omega, .inr (by omega), ⟨_, _, rfl⟩, ⟨_, _, rfl⟩, ?_, by rw [w1]⟩
      rw [eP, if_neg]
      rintro ⟨_, h⟩
      rw [decide_eq_false (by omega), Bool.false_and] at h
      cases h
  have hin : j = g.n.length - 1 := by omega
  subst hin
  simp (dsimp := false) (maxDischargeDepth := 16) only [go_sem, ↓reduceIte, reduceCtorEq, Nat.reduceEqDiff, Nat.reduceAdd, Nat.reduceMul, Nat.reduceSub, Nat.reduceLT, Nat.reduceLeDiff, Nat.reducePow, Int.reduceLT, Int.reduceLE, Int.reduceNeg, Int.reduceToNat, t2, b2, t4, b4, t5, b5, t6, t7, t8, h6]
  unfold imR
  have eQ : imQ g code = imP g.n code (g.n.length - 1) := rfl
  rw [eQ]
  generalize imP g.n code (g.n.length - 1) = p at *
  obtain ⟨np, sp⟩ := nq_spec p1 p.length (Nat.le_refl _)
  have K1 := c100 p (by omega) p1
  rw [np, pl] at K1
  rw [pl] at sp
  have fp : ∀ zs : List Int, zs.length = (rts p p.length).length → (∀ j, j < p.length → zs[((nq p p.length).1.getD j 0).toNat]? = some (nodeAt g.n j)) → zs = (rts p p.length).map (nodeAt g.n) := fun zs h1 h2 => class_list p1 h1 h2
  rw [pl] at fp
  have lp := nq_len p g.n.length
  have rp := rts_len p g.n.length
  have hie := imE_ok g (nq p g.n.length).1 code
  have alp : ∀ j, j < g.n.length → nodeAt g.n j = nodeAt g.n (p.getD j 0).toNat := fun j hj => (p2 j hj).symm
  clear p2 h6 hj
  generalize (nq p g.n.length).1 = q at *
  generalize rts p g.n.length = R at *
  obtain ⟨u13, e13⟩ : ∃ γ, s.g 13 = γ := ⟨_, rfl⟩
  obtain ⟨u14, e14⟩ : ∃ γ, s.g 14 = γ := ⟨_, rfl⟩
  obtain ⟨u70, e70⟩ : ∃ γ, s.g 70 = γ := ⟨_, rfl⟩
  refine callK_intro K1 ?_
  simp (dsimp := false) (maxDischargeDepth := 16) only [go_sem, ↓reduceIte, reduceCtorEq, Nat.reduceEqDiff, Nat.reduceAdd, Nat.reduceMul, Nat.reduceSub, Nat.reduceLT, Nat.reduceLeDiff, Nat.reducePow, Int.reduceLT, Int.reduceLE, Int.reduceNeg, Int.reduceToNat, t2, b2, t4, b4, t5, b5, t6, t7, t8, Int.toNat_natCast, bi_zero, e13, e14, e70]
  refine ⟨⟨by omega, by omega, by omega⟩, ?_⟩
  refine loopK_intro (fun (i : Nat) s => i ≤ g.n.length ∧ s.t 2 = .box (2, 0, 0) 0 ∧ s.b (2, 0, 0) = some ⟨gcs g, false⟩ ∧ s.t 4 = .box (4, 0, 0) 0 ∧ s.b (4, 0, 0) = some ⟨[z1, z2], false⟩ ∧ s.t 5 = .box (5, 0, 0) 0 ∧ s.b (5, 0, 0) = some ⟨[y1, y2], false⟩ ∧
    s.t 6 = lv code ∧ s.t 10 = lv q ∧ s.t 13 = .box (13, u13, 0) 0 ∧ s.b (13, u13, 0) = some ⟨[.sl (70, u70, 0) R.length 1, .list 3 [] .nil], false⟩ ∧ s.t 14 = .box (14, u14, 0) 0 ∧ s.b (14, u14, 0) = some ⟨[lv q, .list 1 [] .nil], false⟩ ∧ s.t 15 = iv i ∧
    ∃ zs : List Int, s.b (70, u70, 0) = some ⟨bi zs, false⟩ ∧ zs.length = R.length ∧ ∀ j, j < i → zs[(q.getD j 0).toNat]? = some (nodeAt g.n j)) (fun i => g.n.length - i) ?_ ?_
  · refine ⟨0, by omega, ?_, ?_, ?_, ?_, ?_, ?_, ?_, ?_, ?_, ?_, ?_, ?_, rfl, List.replicate R.length 0, ?_, by simp, fun j hj => by omega⟩
    all_goals simp (dsimp := false) (maxDischargeDepth := 16) only [go_sem, ↓reduceIte, reduceCtorEq, Nat.reduceEqDiff, Nat.reduceAdd, Nat.reduceMul, Nat.reduceSub, Nat.reduceLT, Nat.reduceLeDiff, Nat.reducePow, Int.reduceLT, Int.reduceLE, Int.reduceNeg, Int.reduceToNat, t2, b2, t4, b4, t5, b5, t6, e13, e14, e70]
  clear t2 b2 t4 b4 t5 b5 t6 t7 t8 e13 e14 e70
  rintro i s ⟨hi, t2, b2, t4, b4, t5, b5, t6, t10, t13, b13, t14, b14, t15, zs, b70, hz, hall⟩
  simp (dsimp := false) (maxDischargeDepth := 16) only [go_sem, ↓reduceIte, reduceCtorEq, Nat.reduceEqDiff, Nat.reduceAdd, Nat.reduceMul, Nat.reduceSub, Nat.reduceLT, Nat.reduceLeDiff, Nat.reducePow, Int.reduceLT, Int.reduceLE, Int.reduceNeg, Int.reduceToNat, t2, b2, t4, b4, t5, b5, t6, t10, t13, b13, t14, b14, t15, b70]
  refine condK_dec (fun h6 => ?_) (fun h6 => ?_)
  · have h7 : i < q.length := by omega
    have hs' := sp i (by omega)
    have hlt := (List.getElem?_eq_some_iff.1 hs'.2).1
    have r0 := hs'.1
    have hall2 := class_set sp alp hz h6 hall
    rw [getD_at h7] at hlt r0 hall2
    have hna : nodeAt g.n i = g.n[i] := getD_at h6
    rw [hna] at hall2
    have hzl : q[i].toNat < zs.length := by omega
    simp (dsimp := false) (maxDischargeDepth := 16) only [go_sem, ↓reduceIte, reduceCtorEq, Nat.reduceEqDiff, Nat.reduceAdd, Nat.reduceMul, Nat.reduceSub, Nat.reduceLT, Nat.reduceLeDiff, Nat.reducePow, Int.reduceLT, Int.reduceLE, Int.reduceNeg, Int.reduceToNat, t2, b2, t4, b4, t5, b5, t6, t10, t13, b13, t14, b14, t15, b70, h6, h7, idx_nat, idx_slI, r0, hlt]
    exact ⟨by rw [bi_len]; omega, i + 1, by omega, by omega, by rw [wrapN _ (by omega)], zs.set q[i].toNat g.n[i], by rw [Nat.mul_one, bi_set hzl], by simpa using hz, hall2⟩
  simp (dsimp := false) (maxDischargeDepth := 16) only [go_sem, ↓reduceIte, reduceCtorEq, Nat.reduceEqDiff, Nat.reduceAdd, Nat.reduceMul, Nat.reduceSub, Nat.reduceLT, Nat.reduceLeDiff, Nat.reducePow, Int.reduceLT, Int.reduceLE, Int.reduceNeg, Int.reduceToNat, t2, b2, t4, b4, t5, b5, t6, t10, t13, b13, t14, b14, t15, b70, h6]
  have hin : i = g.n.length := by omega
  rw [hin] at hall
  have hzs := fp zs hz hall
  refine loopK_intro (fun (i : Nat) s => i ≤ g.e.length ∧ s.t 2 = .box (2, 0, 0) 0 ∧ s.b (2, 0, 0) = some ⟨gcs g, false⟩ ∧ s.t 4 = .box (4, 0, 0) 0 ∧ s.b (4, 0, 0) = some ⟨[z1, z2], false⟩ ∧ s.t 5 = .box (5, 0, 0) 0 ∧ s.b (5, 0, 0) = some ⟨[y1, y2], false⟩ ∧
    s.t 6 = lv code ∧ s.t 10 = lv q ∧ s.t 13 = .box (13, u13, 0) 0 ∧ s.t 14 = .box (14, u14, 0) 0 ∧ s.b (70, u70, 0) = some ⟨bi zs, false⟩ ∧ s.t 16 = iv i ∧
    ∃ k1 k2, s.b (13, u13, 0) = some ⟨[.sl (70, u70, 0) R.length 1, elT' (imE g q code i).1 k1], false⟩ ∧ s.b (14, u14, 0) = some ⟨[lv q, lvT (imE g q code i).2 k2], false⟩ ∧ tokOK s k1 = true ∧ tokOK s k2 = true ∧ tkIn [(162, 0)] k1 = true ∧ tkIn [(168, 0)] k2 = true) (fun i => g.e.length - i) ?_ ?_
  · exact ⟨0, by omega, t2, b2, t4, b4, t5, b5, t6, t10, t13, t14, b70, rfl, .nil, .nil, b13, b14, rfl, rfl, rfl, rfl⟩
  clear t2 b2 t4 b4 t5 b5 t6 t10 t13 b13 t14 b14 t15 b70 h6 hi hin
  rintro i s ⟨hi, t2, b2, t4, b4, t5, b5, t6, t10, t13, t14, b70, t16, k1, k2, b13, b14, a1, a2, i1, i2⟩
  simp (dsimp := false) (maxDischargeDepth := 16) only [go_sem, ↓reduceIte, reduceCtorEq, Nat.reduceEqDiff, Nat.reduceAdd, Nat.reduceMul, Nat.reduceSub, Nat.reduceLT, Nat.reduceLeDiff, Nat.reducePow, Int.reduceLT, Int.reduceLE, Int.reduceNeg, Int.reduceToNat, t2, b2, t4, b4, t5, b5, t6, t10, t13, t14, b70, t16, b13, b14]
  refine condK_dec (fun h6 => ?_) (fun h6 => ?_)
  · have hx := edge_in hg h6
    rw [getD_at h6] at hx
    have f1 : g.e[i].2.1.toNat < q.length := by omega
    have f2 : g.e[i].2.2.toNat < q.length := by omega
    have f3 := hx.1
    have f4 := hx.2.2.1
    have eX : imX g q i = (g.e[i].1, q[g.e[i].2.1.toNat], q[g.e[i].2.2.toNat]) := by rw [imX, getD_at h6, getD_at f1, getD_at f2]
    have hIE := hie i
    have eE : imE g q code (i + 1) = if lh (imE g q code i).1 (imX g q i) (fun k => imC code (i + k)) (imE g q code i).1.length < 0 then ((imE g q code i).1 ++ [imX g q i], (imE g q code i).2 ++ [((imE g q code i).1.length : Int)])
      else ((imE g q code i).1, (imE g q code i).2 ++ [lh (imE g q code i).1 (imX g q i) (fun k => imC code (i + k)) (imE g q code i).1.length]) := rfl
    rw [eX] at eE
    simp (dsimp := false) (maxDischargeDepth := 16) only [go_sem, ↓reduceIte, reduceCtorEq, Nat.reduceEqDiff, Nat.reduceAdd, Nat.reduceMul, Nat.reduceSub, Nat.reduceLT, Nat.reduceLeDiff, Nat.reducePow, Int.reduceLT, Int.reduceLE, Int.reduceNeg, Int.reduceToNat, t2, b2, t4, b4, t5, b5, t6, t10, t13, t14, b70, t16, b13, b14, h6, idx_nat, idx_int, f1, f2, f3, f4]
    generalize (imE g q code i).1 = E at *
    generalize (imE g q code i).2 = M at *
    generalize hXX : (g.e[i].1, q[g.e[i].2.1.toNat], q[g.e[i].2.2.toNat]) = Z at *
    have hZ1 : g.e[i].1 = Z.1 := by rw [← hXX]
    have hZ2 : q[g.e[i].2.1.toNat] = Z.2.1 := by rw [← hXX]
    have hZ3 : q[g.e[i].2.2.toNat] = Z.2.2 := by rw [← hXX]
    simp (dsimp := false) only [hZ1, hZ2, hZ3]
    have hup := hIE.up
    have hml := hIE.len
    refine loopK_intro (fun (k : Nat) s' => k ≤ E.length ∧ s'.t 2 = .box (2, 0, 0) 0 ∧ s'.b (2, 0, 0) = some ⟨gcs g, false⟩ ∧ s'.t 4 = .box (4, 0, 0) 0 ∧ s'.b (4, 0, 0) = some ⟨[z1, z2], false⟩ ∧ s'.t 5 = .box (5, 0, 0) 0 ∧ s'.b (5, 0, 0) = some ⟨[y1, y2], false⟩ ∧
      s'.t 6 = lv code ∧ s'.t 10 = lv q ∧ s'.t 13 = .box (13, u13, 0) 0 ∧ s'.t 14 = .box (14, u14, 0) 0 ∧ s'.b (70, u70, 0) = some ⟨bi zs, false⟩ ∧ s'.t 16 = iv i ∧ s'.b (13, u13, 0) = some ⟨[.sl (70, u70, 0) R.length 1, elT' E k1], false⟩ ∧ s'.b (14, u14, 0) = some ⟨[lv q, lvT M k2], false⟩ ∧
      tokOK s' k1 = true ∧ tokOK s' k2 = true ∧ s'.t 17 = .box (17, s.g 17, 0) 0 ∧ s'.b (17, s.g 17, 0) = some ⟨ecs Z, false⟩ ∧ s'.t 18 = iv (lh E Z (fun k => imC code (i + k)) k) ∧ s'.t 19 = iv k) (fun k => E.length - k) ?_ ?_
    · refine ⟨0, by omega, ?_, ?_, ?_, ?_, ?_, ?_, ?_, ?_, ?_, ?_, ?_, ?_, ?_, ?_, ?_, ?_, rfl, ?_, rfl, rfl⟩
      all_goals simp (dsimp := false) (maxDischargeDepth := 16) only [go_sem, ↓reduceIte, reduceCtorEq, Nat.reduceEqDiff, Nat.reduceAdd, Nat.reduceMul, Nat.reduceSub, Nat.reduceLT, Nat.reduceLeDiff, Nat.reducePow, Int.reduceLT, Int.reduceLE, Int.reduceNeg, Int.reduceToNat, t2, b2, t4, b4, t5, b5, t6, t10, t13, t14, b70, t16, b13, b14, a1, a2]
    clear t2 b2 t4 b4 t5 b5 t6 t10 t13 t14 b70 t16 b13 b14 a1 a2
    rintro k s' ⟨hk, t2, b2, t4, b4, t5, b5, t6, t10, t13, t14, b70, t16, b13, b14, a1, a2, t17, b17, t18, t19⟩
    simp (dsimp := false) (maxDischargeDepth := 16) only [go_sem, ↓reduceIte, reduceCtorEq, Nat.reduceEqDiff, Nat.reduceAdd, Nat.reduceMul, Nat.reduceSub, Nat.reduceLT, Nat.reduceLeDiff, Nat.reducePow, Int.reduceLT, Int.reduceLE, Int.reduceNeg, Int.reduceToNat, t2, b2, t4, b4, t5, b5, t6, t10, t13, t14, b70, t16, b13, b14, t17, b17, t18, t19]
    refine condK_dec (fun h7 => ?_) (fun h7 => ?_)
    · have eL : lh E Z (fun k => imC code (i + k)) (k + 1) = if E.getD k (0, 0, 0) = Z ∧ imC code (i + k) = true then (k : Int) else lh E Z (fun k => imC code (i + k)) k := rfl
      have hm : (i + k) % code.length < code.length := Nat.mod_lt _ hpos
      have w2 : IntKind.i64.wrap ((i : Int) + (k : Int)) = ((i + k : Nat) : Int) := by rw [wrap_i64 _ (by omega) (by omega)]; omega
      have eC : imC code (i + k) = ((code[(i + k) % code.length]).tmod 2 == 0) := by rw [imC, getD_at hm]
      rw [getD_at h7, eC] at eL
      simp (dsimp := false) (maxDischargeDepth := 16) only [go_sem, ↓reduceIte, reduceCtorEq, Nat.reduceEqDiff, Nat.reduceAdd, Nat.reduceMul, Nat.reduceSub, Nat.reduceLT, Nat.reduceLeDiff, Nat.reducePow, Int.reduceLT, Int.reduceLE, Int.reduceNeg, Int.reduceToNat, t2, b2, t4, b4, t5, b5, t6, t10, t13, t14, b70, t16, b13, b14, t17, b17, t18, t19, h7, idx_nat, edEq]
      by_cases h8 : E[k] = Z
      · have n2 : ¬ ((2 : Int) = 0) := by decide
        simp (dsimp := false) (maxDischargeDepth := 16) only [go_sem, ↓reduceIte, reduceCtorEq, Nat.reduceEqDiff, Nat.reduceAdd, Nat.reduceMul, Nat.reduceSub, Nat.reduceLT, Nat.reduceLeDiff, Nat.reducePow, Int.reduceLT, Int.reduceLE, Int.reduceNeg, Int.reduceToNat, t2, b2, t4, b4, t5, b5, t6, t10, t13, t14, b70, t16, b13, b14, t17, b17, t18, t19, h7, h8, idx_nat, w2, hc0, n2, tmod_nat, hm]
        refine condK_intro (fun h9 => ?_) (fun h9 => ?_)
        · simp (dsimp := false) (maxDischargeDepth := 16) only [go_sem, ↓reduceIte, reduceCtorEq, Nat.reduceEqDiff, Nat.reduceAdd, Nat.reduceMul, Nat.reduceSub, Nat.reduceLT, Nat.reduceLeDiff, Nat.reducePow, Int.reduceLT, Int.reduceLE, Int.reduceNeg, Int.reduceToNat, t2, b2, t4, b4, t5, b5, t6, t10, t13, t14, b70, t16, b13, b14, t17, b17, t18, t19, h7, h8, h9]
          exact ⟨k + 1, by omega, by omega, a1, a2, by rw [eL, if_pos ⟨h8, h9⟩], by rw [wrapN _ (by omega)]⟩
        · simp (dsimp := false) (maxDischargeDepth := 16) only [go_sem, ↓reduceIte, reduceCtorEq, Nat.reduceEqDiff, Nat.reduceAdd, Nat.reduceMul, Nat.reduceSub, Nat.reduceLT, Nat.reduceLeDiff, Nat.reducePow, Int.reduceLT, Int.reduceLE, Int.reduceNeg, Int.reduceToNat, t2, b2, t4, b4, t5, b5, t6, t10, t13, t14, b70, t16, b13, b14, t17, b17, t18, t19, h7, h8, h9]
          exact ⟨k + 1, by omega, by omega, a1, a2, by rw [eL, if_neg (fun h => by rw [h9] at h; cases h.2)], by rw [wrapN _ (by omega)]⟩
      · simp (dsimp := false) (maxDischargeDepth := 16) only [go_sem, ↓reduceIte, reduceCtorEq, Nat.reduceEqDiff, Nat.reduceAdd, Nat.reduceMul, Nat.reduceSub, Nat.reduceLT, Nat.reduceLeDiff, Nat.reducePow, Int.reduceLT, Int.reduceLE, Int.reduceNeg, Int.reduceToNat, t2, b2, t4, b4, t5, b5, t6, t10, t13, t14, b70, t16, b13, b14, t17, b17, t18, t19, h7, h8]
        exact ⟨k + 1, by omega, by omega, a1, a2, by rw [eL, if_neg (fun h => h8 h.1)], by rw [wrapN _ (by omega)]⟩
    · have hke : k = E.length := by omega
      rw [hke] at t18
      generalize lh E Z (fun k => imC code (i + k)) E.length = a at *
      simp (dsimp := false) (maxDischargeDepth := 16) only [go_sem, ↓reduceIte, reduceCtorEq, Nat.reduceEqDiff, Nat.reduceAdd, Nat.reduceMul, Nat.reduceSub, Nat.reduceLT, Nat.reduceLeDiff, Nat.reducePow, Int.reduceLT, Int.reduceLE, Int.reduceNeg, Int.reduceToNat, t2, b2, t4, b4, t5, b5, t6, t10, t13, t14, b70, t16, b13, b14, t17, b17, t18, t19, h7]
      refine condK_dec (fun h8 => ?_) (fun h8 => ?_)
      · have k12 : ∀ (s : St) (d n : Nat) (x : AV), tokOK s k2 = true → tokOK (s.ntok d n x (tokKey k1)) k2 = true := fun s d n x h => tk_kill i1 i2 rfl h
        have q2 : ∀ (f : Key → Bool) (g : Nat), killO f (tokKey k2) (162, g, 0) = f (162, g, 0) := fun f g => kill_tk i2 rfl f
        simp (dsimp := false) (maxDischargeDepth := 16) only [go_sem, ↓reduceIte, reduceCtorEq, Nat.reduceEqDiff, Nat.reduceAdd, Nat.reduceMul, Nat.reduceSub, Nat.reduceLT, Nat.reduceLeDiff, Nat.reducePow, Int.reduceLT, Int.reduceLE, Int.reduceNeg, Int.reduceToNat, t2, b2, t4, b4, t5, b5, t6, t10, t13, t14, b70, t16, b13, b14, t17, b17, t18, t19, h7, h8, a1, a2, k12]
        refine ⟨⟨by omega, by omega⟩, ⟨by omega, by omega⟩, i + 1, by omega, by omega, by rw [wrapN _ (by omega)], .own (162, s'.g 162, 0), .own (168, s'.g 168, 0), ?_, ?_, ?_, ?_, rfl, rfl⟩
        · rw [eE, if_pos h8, List.map_append]
          rfl
        · rw [eE, if_pos h8, map1_app]
        all_goals simp (dsimp := false) (maxDischargeDepth := 16) only [go_sem, ↓reduceIte, reduceCtorEq, Nat.reduceEqDiff, Nat.reduceAdd, Nat.reduceMul, Nat.reduceSub, Nat.reduceLT, Nat.reduceLeDiff, Nat.reducePow, Int.reduceLT, Int.reduceLE, Int.reduceNeg, Int.reduceToNat, a1, a2, k12, q2]
      · simp (dsimp := false) (maxDischargeDepth := 16) only [go_sem, ↓reduceIte, reduceCtorEq, Nat.reduceEqDiff, Nat.reduceAdd, Nat.reduceMul, Nat.reduceSub, Nat.reduceLT, Nat.reduceLeDiff, Nat.reducePow, Int.reduceLT, Int.reduceLE, Int.reduceNeg, Int.reduceToNat, t2, b2, t4, b4, t5, b5, t6, t10, t13, t14, b70, t16, b13, b14, t17, b17, t18, t19, h7, h8, a1, a2]
        have k21 : ∀ (s : St) (d n : Nat) (x : AV), tokOK s k1 = true → tokOK (s.ntok d n x (tokKey k2)) k1 = true := fun s d n x h => tk_kill i2 i1 rfl h
        refine ⟨⟨by omega, by omega⟩, i + 1, by omega, by omega, by rw [wrapN _ (by omega)], k1, .own (168, s'.g 168, 0), ?_, ?_, ?_, ?_, i1, rfl⟩
        · rw [eE, if_neg h8]
        · rw [eE, if_neg h8, map1_app]
        all_goals simp (dsimp := false) (maxDischargeDepth := 16) only [go_sem, ↓reduceIte, reduceCtorEq, Nat.reduceEqDiff, Nat.reduceAdd, Nat.reduceMul, Nat.reduceSub, Nat.reduceLT, Nat.reduceLeDiff, Nat.reducePow, Int.reduceLT, Int.reduceLE, Int.reduceNeg, Int.reduceToNat, a1, a2, k21]
  · have hin : i = g.e.length := by omega
    subst hin
    simp (dsimp := false) (maxDischargeDepth := 16) only [go_sem, ↓reduceIte, reduceCtorEq, Nat.reduceEqDiff, Nat.reduceAdd, Nat.reduceMul, Nat.reduceSub, Nat.reduceLT, Nat.reduceLeDiff, Nat.reducePow, Int.reduceLT, Int.reduceLE, Int.reduceNeg, Int.reduceToNat, t2, b2, t4, b4, t5, b5, t6, t10, t13, t14, b70, t16, b13, b14, h6]
    rw [← hzs]
    refine ⟨rfl, .tup _ _ rfl fun i x r hx hr => ?_⟩
    match i, hx, hr with
    | 0, hx, hr =>
      simp only [List.getElem?_cons_zero, Option.some.injEq] at hx hr
      subst hx hr
      refine .agg _ _ rfl fun i x r hx hr => ?_
      match i, hx, hr with
      | 0, hx, hr =>
        simp only [List.getElem?_cons_zero, Option.some.injEq] at hx hr
        subst hx hr
        exact fin0S (b := false) (by simp (dsimp := false) (maxDischargeDepth := 16) only [go_sem, ↓reduceIte, reduceCtorEq, Nat.reduceEqDiff, Nat.reduceAdd, Nat.reduceMul, Nat.reduceSub, Nat.reduceLT, Nat.reduceLeDiff, Nat.reducePow, Int.reduceLT, Int.reduceLE, Int.reduceNeg, Int.reduceToNat, b70]) hz
      | 1, hx, hr =>
        simp only [List.getElem?_cons_zero, List.getElem?_cons_succ, Option.some.injEq] at hx hr
        subst hx hr
        exact .inl ⟨rfl, rfl⟩
    | 1, hx, hr =>
      simp only [List.getElem?_cons_zero, List.getElem?_cons_succ, Option.some.injEq] at hx hr
      subst hx hr
      refine .agg _ _ rfl fun i x r hx hr => ?_
      match i, hx, hr with
      | 0, hx, hr =>
        simp only [List.getElem?_cons_zero, Option.some.injEq] at hx hr
        subst hx hr
        exact .inl ⟨rfl, rfl⟩
      | 1, hx, hr =>
        simp only [List.getElem?_cons_zero, List.getElem?_cons_succ, Option.some.injEq] at hx hr
        subst hx hr
        exact .inl ⟨rfl, rfl⟩
end Go.Sy

/- Plain law: one quotient identifies what a morphism identifies. -/
namespace Go.Sy
open Go Go.Proofs

theorem getD_take {l : List Int} {n i : Nat} (h : i < n) : (l.take n).getD i 0 = l.getD i 0 := by
  rw [List.getD_eq_getElem?_getD, List.getD_eq_getElem?_getD, List.getElem?_take, if_pos h]
theorem allP_complete : ∀ (n : Nat) (p : List Int), p.length = n → isP p → p ∈ allP n
  | 0, p, hl, _ => by
    rw [List.eq_nil_of_length_eq_zero hl]
    simp [allP]
  | n + 1, p, hl, hp => by
    have h1 : (p.take n).length = n := by rw [List.length_take]; omega
    have h2 : isP (p.take n) := fun i hi => by
      rw [h1] at hi
      obtain ⟨a1, a2, a3⟩ := hp i (by omega)
      show 0 ≤ (p.take n).getD i 0 ∧ (p.take n).getD i 0 ≤ i ∧ (p.take n).getD ((p.take n).getD i 0).toNat 0 = (p.take n).getD i 0
      rw [getD_take hi, getD_take (by omega)]
      exact ⟨a1, a2, a3⟩
    have ih := allP_complete n _ h1 h2
    obtain ⟨a1, a2, a3⟩ := hp n (by omega)
    rw [allP, List.mem_flatMap]
    refine ⟨p.take n, ih, ?_⟩
    unfold ext
    rw [List.mem_map]
    refine ⟨(p.getD n 0).toNat, List.mem_filter.2 ⟨List.mem_range.2 (by omega), ?_⟩, ?_⟩
    · by_cases h : p.getD n 0 = n
      · rw [h, Int.toNat_natCast]
        simp
      · have hlt : (p.getD n 0).toNat < n := by omega
        rw [getD_take hlt, a3]
        simp
        right
        rw [← List.getD_eq_getElem?_getD]
        omega
    · have e : (((p.getD n 0).toNat : Nat) : Int) = p.getD n 0 := by omega
      rw [e, getD_at (show n < p.length by omega)]
      have : p = p.take (n + 1) := by rw [List.take_of_length_le (by omega)]
      conv => rhs; rw [this]
      rw [List.take_add_one, List.getElem?_eq_getElem (by omega)]
      rfl
theorem allP_nodup : ∀ n, (allP n).Nodup
  | 0 => by simp [allP]
  | n + 1 => by
    rw [allP, List.nodup_iff_pairwise_ne, List.pairwise_flatMap]
    constructor
    · intro p _
      unfold ext
      rw [List.pairwise_map]
      refine (List.nodup_iff_pairwise_ne.1 (List.nodup_range.filter _)).imp fun {x y} hne e => hne ?_
      have := List.append_cancel_left e
      simp at this
      omega
    · refine (List.nodup_iff_pairwise_ne.1 (allP_nodup n)).imp_of_mem fun {p p'} hp hp' hne x hx y hy e => hne ?_
      subst e
      have l1 := allP_mem n p hp
      have l2 := allP_mem n p' hp'
      unfold ext at hx hy
      obtain ⟨u, _, rfl⟩ := List.mem_map.1 hx
      obtain ⟨v, _, h⟩ := List.mem_map.1 hy
      exact (List.append_inj h (by omega)).1.symm
theorem flat_one {α β : Type} {g : α → List β} {x : α} : ∀ {L : List α}, L.Nodup → x ∈ L → (∀ y ∈ L, y ≠ x → g y = []) → L.flatMap g = g x
  | [], _, h, _ => by simp at h
  | y :: L, hd, h, h2 => by
    obtain ⟨hy, hd⟩ := List.nodup_cons.1 hd
    rw [List.flatMap_cons]
    rcases List.mem_cons.1 h with rfl | h
    · have : L.flatMap g = [] := List.flatMap_eq_nil_iff.2 fun z hz => h2 z (by simp [hz]) (fun e => hy (e ▸ hz))
      rw [this, List.append_nil]
    · rw [h2 y (by simp) (fun e => hy (e ▸ h)), List.nil_append]
      exact flat_one hd h fun z hz => h2 z (by simp [hz])
theorem filter_one {α : Type} {f : α → Bool} {x : α} {L : List α} (hd : L.Nodup) (h : x ∈ L) (hx : f x = true) (h2 : ∀ y ∈ L, f y = true → y = x) : L.filter f = [x] := by
  have e : L.filter f = L.flatMap fun y => if f y = true then [y] else [] := by
    clear hd h h2
    induction L with
    | nil => rfl
    | cons y L ih =>
      rw [List.filter_cons, List.flatMap_cons, ← ih]
      split <;> rfl
  rw [e, flat_one hd h fun y hy hne => if_neg fun hf => hne (h2 y hy hf), if_pos hx]
/-! ### The partition of a list's places -/
theorem idxP_least {α : Type} (p : α → Bool) : ∀ (l : List α) (j : Nat) (h : j < l.length), p l[j] = true → idxP p l ≤ (j : Int) ∧ 0 ≤ idxP p l
  | x :: l, 0, _, h => by
    have h : p x = true := h
    simp [idxP, h]
  | x :: l, j + 1, hj, h => by
    by_cases hx : p x = true
    · simp [idxP, hx]
      omega
    · obtain ⟨h1, h2⟩ := idxP_least p l j (by simpa using hj) (by simpa using h)
      simp only [idxP, hx, Bool.false_eq_true, if_false]
      rw [if_neg (by omega)]
      omega
def cn (l : List Int) : List Int := plc l l
theorem cn_len (l : List Int) : (cn l).length = l.length := plc_len _ _
theorem cn_spec {l : List Int} {i : Nat} (h : i < l.length) : ∃ k : Nat, k ≤ i ∧ (cn l).getD i 0 = (k : Int) ∧ l.getD k 0 = l.getD i 0 ∧ ∀ j, j < k → l.getD j 0 ≠ l.getD i 0 := by
  have e : (cn l).getD i 0 = idxP (fun y => l[i] == y) l := by rw [cn, getD_at (by rw [plc_len]; exact h)]; simp [plc]
  obtain ⟨h1, h2⟩ := idxP_least (fun y => l[i] == y) l i h (by simp)
  rcases plc_val l l h with ⟨h3, _⟩ | ⟨k, k1, k2, k3⟩
  · have h3 : (cn l).getD i 0 = -1 := h3
    omega
  · have k2 : (cn l).getD i 0 = (k : Int) := k2
    refine ⟨k, by omega, k2, k3, fun j hj he => ?_⟩
    have hjl : j < l.length := by omega
    rw [getD_at hjl, getD_at h] at he
    have := (idxP_least (fun y => l[i] == y) l j hjl (by simp [he])).1
    omega
theorem cn_eq {l : List Int} {i k : Nat} (hi : i < l.length) (hk : k < l.length) : (cn l).getD i 0 = (cn l).getD k 0 ↔ l.getD i 0 = l.getD k 0 := by
  obtain ⟨a, a1, a2, a3, a4⟩ := cn_spec hi
  obtain ⟨b, b1, b2, b3, b4⟩ := cn_spec hk
  constructor
  · intro h
    have : a = b := by omega
    subst this
    rw [← a3, b3]
  · intro h
    rcases Nat.lt_trichotomy a b with c | c | c
    · exact absurd (a3.trans h) (b4 a c)
    · rw [a2, b2, c]
    · exact absurd (b3.trans h.symm) (a4 b c)
theorem cn_isP (l : List Int) : isP (cn l) := fun i hi => by
  rw [cn_len] at hi
  obtain ⟨a, a1, a2, a3, a4⟩ := cn_spec hi
  show 0 ≤ (cn l).getD i 0 ∧ (cn l).getD i 0 ≤ i ∧ (cn l).getD ((cn l).getD i 0).toNat 0 = (cn l).getD i 0
  refine ⟨by omega, by omega, ?_⟩
  rw [a2, Int.toNat_natCast, ← a2, cn_eq (by omega) hi]
  exact a3
theorem isP_low' {p : List Int} (hp : isP p) {i : Nat} (hi : i < p.length) : (p.getD i 0).toNat < p.length := by
  obtain ⟨h1, h2, _⟩ := hp i hi
  omega
theorem isP_ker {p q : List Int} (hp : isP p) (hq : isP q) (hl : p.length = q.length) (h : ∀ i k, i < p.length → k < p.length → (p.getD i 0 = p.getD k 0 ↔ q.getD i 0 = q.getD k 0)) : p = q := by
  refine List.ext_getElem hl fun i h1 h2 => ?_
  rw [← getD_at h1 (d := 0), ← getD_at h2 (d := 0)]
  obtain ⟨p1, p2, p3⟩ := hp i h1
  obtain ⟨q1, q2, q3⟩ := hq i h2
  have lp := isP_low' hp h1
  have lq := isP_low' hq h2
  have e1 := (h _ i lp h1).1 p3
  have e2 := (h _ i (by omega) h1).2 q3
  have a1 := (hq _ (show (p.getD i 0).toNat < q.length by omega)).2.1
  have a2 := (hp _ (show (q.getD i 0).toNat < p.length by omega)).2.1
  omega
theorem alkB_iff {a b : List Int} (hl : a.length = b.length) : alkB a b = true ↔ ∀ i k, i < a.length → k < a.length → (a.getD i 0 = a.getD k 0 ↔ b.getD i 0 = b.getD k 0) := by
  have h0 : ((a.length : Int) == (b.length : Int)) = true := by rw [hl]; simp
  rw [alkB, h0, Bool.true_and]
  have hp : ∀ i k, pairB a b i k = true ↔ (a.getD i 0 = a.getD k 0 ↔ b.getD i 0 = b.getD k 0) := fun i k => by
    rw [pairB, beq_iff_eq, Bool.eq_iff_iff, beq_iff_eq, beq_iff_eq]
  constructor
  · intro h i k hi hk
    have h1 := fun i hi k hk => (hp i k).1 (List.all_eq_true.1 (List.all_eq_true.1 h i (List.mem_range.2 hi)) k (List.mem_range.2 hk))
    rcases Nat.lt_trichotomy i k with c | c | c
    · have := h1 k hk i c
      exact ⟨fun e => (this.1 e.symm).symm, fun e => (this.2 e.symm).symm⟩
    · rw [c]; simp
    · exact h1 i hi k c
  · intro h
    exact List.all_eq_true.2 fun i hi => List.all_eq_true.2 fun k hk => (hp i k).2 (h i k (List.mem_range.1 hi) (by have := List.mem_range.1 hk; have := List.mem_range.1 hi; omega))
/-- The numbers of the classes tell the same apart as the partition. -/
theorem nq_eq {p : List Int} (hp : isP p) {i k : Nat} (hi : i < p.length) (hk : k < p.length) : (nq p p.length).1.getD i 0 = (nq p p.length).1.getD k 0 ↔ p.getD i 0 = p.getD k 0 := by
  have sp := (nq_spec hp p.length (Nat.le_refl _)).2
  constructor
  · intro h
    have a := sp i hi
    have b := sp k hk
    rw [h, b.2] at a
    have e := Option.some.inj a.2
    have p1 := (hp i hi).1
    have p2 := (hp k hk).1
    omega
  · exact class_eq (rts_nodup p p.length) sp hi hk
theorem rk_inj {p : Nat → Bool} {n : Nat} {x y : Int} (hx : 0 ≤ x ∧ x < n) (hy : 0 ≤ y ∧ y < n) (px : p x.toNat = true) (py : p y.toNat = true) (h : rk p x = rk p y) : x = y := by
  obtain ⟨a, rfl⟩ := Int.eq_ofNat_of_zero_le hx.1
  obtain ⟨b, rfl⟩ := Int.eq_ofNat_of_zero_le hy.1
  have e1 := (rk_at (show a < n by omega) (by simpa using px)).2
  have e2 := (rk_at (show b < n by omega) (by simpa using py)).2
  rw [h, e2] at e1
  exact e1.symm
/-- The places of a morphism's images tell the same apart as the images. -/
theorem map_rk {l : List Int} {n : Nat} (h : ∀ x ∈ l, 0 ≤ x ∧ x < n) {i k : Nat} (hi : i < l.length) (hk : k < l.length) : (l.map (rk (has l))).getD i 0 = (l.map (rk (has l))).getD k 0 ↔ l.getD i 0 = l.getD k 0 := by
  rw [getD_at (by simpa using hi), getD_at (by simpa using hk), getD_at hi, getD_at hk, List.getElem_map, List.getElem_map]
  have a := h _ (List.getElem_mem hi)
  have b := h _ (List.getElem_mem hk)
  constructor
  · refine rk_inj a b ?_ ?_
    · rw [has_iff, Int.toNat_of_nonneg a.1]; exact List.getElem_mem hi
    · rw [has_iff, Int.toNat_of_nonneg b.1]; exact List.getElem_mem hk
  · intro e; rw [e]
theorem alk_cn {l : List Int} {n : Nat} (h : ∀ x ∈ l, 0 ≤ x ∧ x < n) {p : List Int} (hp : isP p) (hl : p.length = l.length) : alkB (nq p p.length).1 (l.map (rk (has l))) = true ↔ p = cn l := by
  have hn := nq_len p p.length
  rw [alkB_iff (by rw [hn, List.length_map, hl]), hn]
  constructor
  · intro hh
    refine isP_ker hp (cn_isP l) (by rw [cn_len, hl]) fun i k hi hk => ?_
    rw [cn_eq (by omega) (by omega), ← map_rk h (by omega) (by omega), ← nq_eq hp hi hk]
    exact hh i k hi hk
  · rintro rfl i k hi hk
    rw [nq_eq hp hi hk, map_rk h (by omega) (by omega), cn_eq (by omega) (by omega)]
def likeQ (u : Mo) (x : Qu) : Bool := alkB x.o.n u.n && alkB x.o.e u.e
theorem quL_one {a b : Gr} {m : Mo} (hm : mErr a b m = 0) : (quL a).filter (likeQ ⟨m.n.map (rk (has m.n)), m.e.map (rk (has m.e))⟩) = [quo a (cn m.n) (cn m.e)] := by
  have o := mErr_ok hm
  have r := mErr_rng hm
  have ln := o.2.2.1
  have le := o.2.2.2.1
  have okp : okP a (cn m.n) = true := List.all_eq_true.2 fun i hi => by
    have hi := List.mem_range.1 hi
    rw [cn_len] at hi
    obtain ⟨k, k1, k2, k3, _⟩ := cn_spec hi
    have n1 := mErr_node hm (show i < a.n.length by omega)
    have n2 := mErr_node hm (show k < a.n.length by omega)
    rw [k2, Int.toNat_natCast, beq_iff_eq, ← n1.2.2, ← n2.2.2, k3]
  have okq : okQ a (cn m.n) (cn m.e) = true := List.all_eq_true.2 fun i hi => by
    have hi := List.mem_range.1 hi
    rw [cn_len] at hi
    obtain ⟨k, k1, k2, k3, _⟩ := cn_spec hi
    have n1 := mErr_edge hm (show i < a.e.length by omega)
    have n2 := mErr_edge hm (show k < a.e.length by omega)
    have r1 := edge_in o.1 (show i < a.e.length by omega)
    have r2 := edge_in o.1 (show k < a.e.length by omega)
    rw [k3] at n2
    rw [k2, Int.toNat_natCast]
    unfold sameE
    simp only [Bool.and_eq_true, beq_iff_eq]
    refine ⟨by rw [n1.2.2.1, n2.2.2.1], ?_, ?_⟩
    · rw [cn_eq (by omega) (by omega), n1.2.2.2.1, n2.2.2.2.1]
    · rw [cn_eq (by omega) (by omega), n1.2.2.2.2, n2.2.2.2.2]
  have hN : cn m.n ∈ allP a.n.length := allP_complete _ _ (by rw [cn_len, ln]) (cn_isP _)
  have hE : cn m.e ∈ allP a.e.length := allP_complete _ _ (by rw [cn_len, le]) (cn_isP _)
  have like : ∀ p ∈ allP a.n.length, ∀ q ∈ allP a.e.length, likeQ ⟨m.n.map (rk (has m.n)), m.e.map (rk (has m.e))⟩ (quo a p q) = true ↔ p = cn m.n ∧ q = cn m.e := by
    intro p hp q hq
    have h1 : (quo a p q).o.n = (nq p p.length).1 := rfl
    have h2 : (quo a p q).o.e = (nq q q.length).1 := rfl
    unfold likeQ
    dsimp only
    rw [Bool.and_eq_true, h1, h2, alk_cn r.1 (allP_isP _ p hp) (by rw [allP_mem _ p hp, ln]), alk_cn r.2 (allP_isP _ q hq) (by rw [allP_mem _ q hq, le])]
  unfold quL
  rw [List.filter_flatMap, flat_one (allP_nodup _) hN]
  · unfold quF
    rw [if_pos okp, List.filter_map]
    have : List.filter (likeQ ⟨m.n.map (rk (has m.n)), m.e.map (rk (has m.e))⟩ ∘ quo a (cn m.n)) (List.filter (okQ a (cn m.n)) (allP a.e.length)) = [cn m.e] := by
      refine filter_one ((allP_nodup _).filter _) (List.mem_filter.2 ⟨hE, okq⟩) ((like _ hN _ hE).2 ⟨rfl, rfl⟩) fun q hq hf => ?_
      exact ((like _ hN q (List.mem_filter.1 hq).1).1 hf).2
    rw [this]
    rfl
  · intro p hp hne
    unfold quF
    split
    · rw [List.filter_map, List.map_eq_nil_iff, List.filter_eq_nil_iff]
      intro q hq hf
      exact hne ((like p hp q (List.mem_filter.1 hq).1).1 hf).1
    · rfl
end Go.Sy

/- FactorOnto: the law's contract. -/
set_option linter.unusedSimpArgs false
namespace Go.Sy
open Go Go.Proofs

theorem quP_or {a : Gr} (h : gErr a = 0) : quP a = ([], 3) ∨ (quP a = (quL a, 0) ∧ (quL a).length ≤ 2000) := by
  rw [quP, if_neg (by simp [h])]
  split
  · exact .inl rfl
  · split
    · exact .inl rfl
    · exact .inr ⟨rfl, by omega⟩
set_option maxHeartbeats 4000000 in
theorem c11 (d : Dr) (codes : List Int) (hd : drOK d) (hr : ∀ x ∈ codes, 0 ≤ x ∧ x ≤ 255) : Con Try.prog 11 [dv d, lu8 codes] 0 (bv true) := by
  have H1 := c29 d 5 4
  generalize smallD d 5 4 = D at *
  cases D with
  | false =>
    refine conT (X := [(99, [], [])]) (rs := [.tmp 4]) Try.func11 (by kernel_rfl) rfl rfl (by kernel_rfl) ?_
    simp (dsimp := false) (maxDischargeDepth := 16) only [go_sem, ↓reduceIte, reduceCtorEq, Nat.reduceEqDiff, Nat.reduceAdd, Nat.reduceMul, Nat.reduceSub, Nat.reduceLT, Nat.reduceLeDiff, Nat.reducePow, Int.reduceLT, Int.reduceLE, Int.reduceNeg, Int.reduceToNat]
    refine callK_intro c16 ?_
    simp (dsimp := false) (maxDischargeDepth := 16) only [go_sem, ↓reduceIte, reduceCtorEq, Nat.reduceEqDiff, Nat.reduceAdd, Nat.reduceMul, Nat.reduceSub, Nat.reduceLT, Nat.reduceLeDiff, Nat.reducePow, Int.reduceLT, Int.reduceLE, Int.reduceNeg, Int.reduceToNat]
    refine callK_intro H1 ?_
    simp (dsimp := false) (maxDischargeDepth := 16) only [go_sem, ↓reduceIte, reduceCtorEq, Nat.reduceEqDiff, Nat.reduceAdd, Nat.reduceMul, Nat.reduceSub, Nat.reduceLT, Nat.reduceLeDiff, Nat.reducePow, Int.reduceLT, Int.reduceLE, Int.reduceNeg, Int.reduceToNat]
    refine callK_intro c16 ?_
    simp (dsimp := false) (maxDischargeDepth := 16) only [go_sem, ↓reduceIte, reduceCtorEq, Nat.reduceEqDiff, Nat.reduceAdd, Nat.reduceMul, Nat.reduceSub, Nat.reduceLT, Nat.reduceLeDiff, Nat.reducePow, Int.reduceLT, Int.reduceLE, Int.reduceNeg, Int.reduceToNat]
    exact finB rfl
  | true =>
  by_cases q1 : codes = []
  · subst q1
    refine conT (X := [(99, [], [])]) (rs := [.tmp 4]) Try.func11 (by kernel_rfl) rfl rfl (by kernel_rfl) ?_
    simp (dsimp := false) (maxDischargeDepth := 16) only [go_sem, ↓reduceIte, reduceCtorEq, Nat.reduceEqDiff, Nat.reduceAdd, Nat.reduceMul, Nat.reduceSub, Nat.reduceLT, Nat.reduceLeDiff, Nat.reducePow, Int.reduceLT, Int.reduceLE, Int.reduceNeg, Int.reduceToNat]
    refine callK_intro c16 ?_
    simp (dsimp := false) (maxDischargeDepth := 16) only [go_sem, ↓reduceIte, reduceCtorEq, Nat.reduceEqDiff, Nat.reduceAdd, Nat.reduceMul, Nat.reduceSub, Nat.reduceLT, Nat.reduceLeDiff, Nat.reducePow, Int.reduceLT, Int.reduceLE, Int.reduceNeg, Int.reduceToNat]
    refine callK_intro H1 ?_
    simp (dsimp := false) (maxDischargeDepth := 16) only [go_sem, ↓reduceIte, reduceCtorEq, Nat.reduceEqDiff, Nat.reduceAdd, Nat.reduceMul, Nat.reduceSub, Nat.reduceLT, Nat.reduceLeDiff, Nat.reducePow, Int.reduceLT, Int.reduceLE, Int.reduceNeg, Int.reduceToNat]
    refine condK_intro (fun q => ?_) (fun q => absurd q (by decide))
    simp (dsimp := false) (maxDischargeDepth := 16) only [go_sem, ↓reduceIte, reduceCtorEq, Nat.reduceEqDiff, Nat.reduceAdd, Nat.reduceMul, Nat.reduceSub, Nat.reduceLT, Nat.reduceLeDiff, Nat.reducePow, Int.reduceLT, Int.reduceLE, Int.reduceNeg, Int.reduceToNat, q]
    refine callK_intro c16 ?_
    simp (dsimp := false) (maxDischargeDepth := 16) only [go_sem, ↓reduceIte, reduceCtorEq, Nat.reduceEqDiff, Nat.reduceAdd, Nat.reduceMul, Nat.reduceSub, Nat.reduceLT, Nat.reduceLeDiff, Nat.reducePow, Int.reduceLT, Int.reduceLE, Int.reduceNeg, Int.reduceToNat]
    exact finB rfl
  have z1 : ((codes.length : Int) == 0) = false := by simpa using q1
  by_cases q2 : (10 : Int) < codes.length
  · refine conT (X := [(99, [], [])]) (rs := [.tmp 4]) Try.func11 (by kernel_rfl) rfl rfl (by kernel_rfl) ?_
    simp (dsimp := false) (maxDischargeDepth := 16) only [go_sem, ↓reduceIte, reduceCtorEq, Nat.reduceEqDiff, Nat.reduceAdd, Nat.reduceMul, Nat.reduceSub, Nat.reduceLT, Nat.reduceLeDiff, Nat.reducePow, Int.reduceLT, Int.reduceLE, Int.reduceNeg, Int.reduceToNat]
    refine callK_intro c16 ?_
    simp (dsimp := false) (maxDischargeDepth := 16) only [go_sem, ↓reduceIte, reduceCtorEq, Nat.reduceEqDiff, Nat.reduceAdd, Nat.reduceMul, Nat.reduceSub, Nat.reduceLT, Nat.reduceLeDiff, Nat.reducePow, Int.reduceLT, Int.reduceLE, Int.reduceNeg, Int.reduceToNat]
    refine callK_intro H1 ?_
    simp (dsimp := false) (maxDischargeDepth := 16) only [go_sem, ↓reduceIte, reduceCtorEq, Nat.reduceEqDiff, Nat.reduceAdd, Nat.reduceMul, Nat.reduceSub, Nat.reduceLT, Nat.reduceLeDiff, Nat.reducePow, Int.reduceLT, Int.reduceLE, Int.reduceNeg, Int.reduceToNat, z1, q2]
    refine callK_intro c16 ?_
    simp (dsimp := false) (maxDischargeDepth := 16) only [go_sem, ↓reduceIte, reduceCtorEq, Nat.reduceEqDiff, Nat.reduceAdd, Nat.reduceMul, Nat.reduceSub, Nat.reduceLT, Nat.reduceLeDiff, Nat.reducePow, Int.reduceLT, Int.reduceLE, Int.reduceNeg, Int.reduceToNat]
    exact finB rfl
  obtain ⟨vg, ng, eg⟩ := made_ok hd
  have H2 := c30 d hd
  generalize made d = a at *
  have H3 := c49 a codes vg q1 (by omega) hr
  have ok := imR_ok vg (fun x hx => (hr x hx).1) q1
  have H4 := c45 a (imR a codes).1 (imR a codes).2
  have one := quL_one ok
  have eF : facR a (imR a codes).1 (imR a codes).2 = (facG (imR a codes).1 (has (imR a codes).2.n) (has (imR a codes).2.e), ⟨(imR a codes).2.n.map (rk (has (imR a codes).2.n)), (imR a codes).2.e.map (rk (has (imR a codes).2.e))⟩,
    ⟨selN (has (imR a codes).2.n) (imR a codes).1.n.length, selN (has (imR a codes).2.e) (imR a codes).1.e.length⟩, 0) := if_neg (by simp [ok])
  rw [eF] at H4
  generalize (⟨(imR a codes).2.n.map (rk (has (imR a codes).2.n)), (imR a codes).2.e.map (rk (has (imR a codes).2.e))⟩ : Mo) = U at *
  generalize facG (imR a codes).1 (has (imR a codes).2.n) (has (imR a codes).2.e) = G at *
  generalize (⟨selN (has (imR a codes).2.n) (imR a codes).1.n.length, selN (has (imR a codes).2.e) (imR a codes).1.e.length⟩ : Mo) = V at *
  generalize (imR a codes).1 = b at *
  generalize (imR a codes).2 = m at *
  have H5 := c23 a
  rcases quP_or vg with e5 | ⟨e5, e6⟩
  · rw [e5] at H5
    refine conT (X := [(99, [], [])]) (rs := [.tmp 4]) Try.func11 (by kernel_rfl) rfl rfl (by kernel_rfl) ?_
    simp (dsimp := false) (maxDischargeDepth := 16) only [go_sem, ↓reduceIte, reduceCtorEq, Nat.reduceEqDiff, Nat.reduceAdd, Nat.reduceMul, Nat.reduceSub, Nat.reduceLT, Nat.reduceLeDiff, Nat.reducePow, Int.reduceLT, Int.reduceLE, Int.reduceNeg, Int.reduceToNat]
    refine callK_intro c16 ?_
    simp (dsimp := false) (maxDischargeDepth := 16) only [go_sem, ↓reduceIte, reduceCtorEq, Nat.reduceEqDiff, Nat.reduceAdd, Nat.reduceMul, Nat.reduceSub, Nat.reduceLT, Nat.reduceLeDiff, Nat.reducePow, Int.reduceLT, Int.reduceLE, Int.reduceNeg, Int.reduceToNat]
    refine callK_intro H1 ?_
    simp (dsimp := false) (maxDischargeDepth := 16) only [go_sem, ↓reduceIte, reduceCtorEq, Nat.reduceEqDiff, Nat.reduceAdd, Nat.reduceMul, Nat.reduceSub, Nat.reduceLT, Nat.reduceLeDiff, Nat.reducePow, Int.reduceLT, Int.reduceLE, Int.reduceNeg, Int.reduceToNat, z1, q2]
    refine callK_intro H2 ?_
    simp (dsimp := false) (maxDischargeDepth := 16) only [go_sem, ↓reduceIte, reduceCtorEq, Nat.reduceEqDiff, Nat.reduceAdd, Nat.reduceMul, Nat.reduceSub, Nat.reduceLT, Nat.reduceLeDiff, Nat.reducePow, Int.reduceLT, Int.reduceLE, Int.reduceNeg, Int.reduceToNat, z1, q2]
    refine callK_intro H3 ?_
    simp (dsimp := false) (maxDischargeDepth := 16) only [go_sem, ↓reduceIte, reduceCtorEq, Nat.reduceEqDiff, Nat.reduceAdd, Nat.reduceMul, Nat.reduceSub, Nat.reduceLT, Nat.reduceLeDiff, Nat.reducePow, Int.reduceLT, Int.reduceLE, Int.reduceNeg, Int.reduceToNat, z1, q2]
    refine callK_intro H4 ?_
    simp (dsimp := false) (maxDischargeDepth := 16) only [go_sem, ↓reduceIte, reduceCtorEq, Nat.reduceEqDiff, Nat.reduceAdd, Nat.reduceMul, Nat.reduceSub, Nat.reduceLT, Nat.reduceLeDiff, Nat.reducePow, Int.reduceLT, Int.reduceLE, Int.reduceNeg, Int.reduceToNat, z1, q2]
    refine callK_intro H5 ?_
    simp (dsimp := false) (maxDischargeDepth := 16) only [go_sem, ↓reduceIte, reduceCtorEq, Nat.reduceEqDiff, Nat.reduceAdd, Nat.reduceMul, Nat.reduceSub, Nat.reduceLT, Nat.reduceLeDiff, Nat.reducePow, Int.reduceLT, Int.reduceLE, Int.reduceNeg, Int.reduceToNat, z1, q2]
    refine condK_intro (fun q3 => absurd q3 (by decide)) (fun q3 => ?_)
    simp (dsimp := false) (maxDischargeDepth := 16) only [go_sem, ↓reduceIte, reduceCtorEq, Nat.reduceEqDiff, Nat.reduceAdd, Nat.reduceMul, Nat.reduceSub, Nat.reduceLT, Nat.reduceLeDiff, Nat.reducePow, Int.reduceLT, Int.reduceLE, Int.reduceNeg, Int.reduceToNat, z1, q2, q3]
    refine condK_intro (fun q4 => ?_) (fun q4 => absurd q4 (by decide))
    simp (dsimp := false) (maxDischargeDepth := 16) only [go_sem, ↓reduceIte, reduceCtorEq, Nat.reduceEqDiff, Nat.reduceAdd, Nat.reduceMul, Nat.reduceSub, Nat.reduceLT, Nat.reduceLeDiff, Nat.reducePow, Int.reduceLT, Int.reduceLE, Int.reduceNeg, Int.reduceToNat, z1, q2, q3, q4]
    refine condK_intro (fun q5 => ?_) (fun q5 => absurd q5 (by decide))
    simp (dsimp := false) (maxDischargeDepth := 16) only [go_sem, ↓reduceIte, reduceCtorEq, Nat.reduceEqDiff, Nat.reduceAdd, Nat.reduceMul, Nat.reduceSub, Nat.reduceLT, Nat.reduceLeDiff, Nat.reducePow, Int.reduceLT, Int.reduceLE, Int.reduceNeg, Int.reduceToNat, z1, q2, q3, q4, q5]
    exact finB rfl
  · rw [e5] at H5
    generalize quL a = L at *
    refine conT (X := [(99, [], [])]) (rs := [.tmp 4]) Try.func11 (by kernel_rfl) rfl rfl (by kernel_rfl) ?_
    simp (dsimp := false) (maxDischargeDepth := 16) only [go_sem, ↓reduceIte, reduceCtorEq, Nat.reduceEqDiff, Nat.reduceAdd, Nat.reduceMul, Nat.reduceSub, Nat.reduceLT, Nat.reduceLeDiff, Nat.reducePow, Int.reduceLT, Int.reduceLE, Int.reduceNeg, Int.reduceToNat]
    refine callK_intro c16 ?_
    simp (dsimp := false) (maxDischargeDepth := 16) only [go_sem, ↓reduceIte, reduceCtorEq, Nat.reduceEqDiff, Nat.reduceAdd, Nat.reduceMul, Nat.reduceSub, Nat.reduceLT, Nat.reduceLeDiff, Nat.reducePow, Int.reduceLT, Int.reduceLE, Int.reduceNeg, Int.reduceToNat]
    refine callK_intro H1 ?_
    simp (dsimp := false) (maxDischargeDepth := 16) only [go_sem, ↓reduceIte, reduceCtorEq, Nat.reduceEqDiff, Nat.reduceAdd, Nat.reduceMul, Nat.reduceSub, Nat.reduceLT, Nat.reduceLeDiff, Nat.reducePow, Int.reduceLT, Int.reduceLE, Int.reduceNeg, Int.reduceToNat, z1, q2]
    refine callK_intro H2 ?_
    simp (dsimp := false) (maxDischargeDepth := 16) only [go_sem, ↓reduceIte, reduceCtorEq, Nat.reduceEqDiff, Nat.reduceAdd, Nat.reduceMul, Nat.reduceSub, Nat.reduceLT, Nat.reduceLeDiff, Nat.reducePow, Int.reduceLT, Int.reduceLE, Int.reduceNeg, Int.reduceToNat, z1, q2]
    refine callK_intro H3 ?_
    simp (dsimp := false) (maxDischargeDepth := 16) only [go_sem, ↓reduceIte, reduceCtorEq, Nat.reduceEqDiff, Nat.reduceAdd, Nat.reduceMul, Nat.reduceSub, Nat.reduceLT, Nat.reduceLeDiff, Nat.reducePow, Int.reduceLT, Int.reduceLE, Int.reduceNeg, Int.reduceToNat, z1, q2]
    refine callK_intro H4 ?_
    simp (dsimp := false) (maxDischargeDepth := 16) only [go_sem, ↓reduceIte, reduceCtorEq, Nat.reduceEqDiff, Nat.reduceAdd, Nat.reduceMul, Nat.reduceSub, Nat.reduceLT, Nat.reduceLeDiff, Nat.reducePow, Int.reduceLT, Int.reduceLE, Int.reduceNeg, Int.reduceToNat, z1, q2]
    refine callK_intro H5 ?_
    simp (dsimp := false) (maxDischargeDepth := 16) only [go_sem, ↓reduceIte, reduceCtorEq, Nat.reduceEqDiff, Nat.reduceAdd, Nat.reduceMul, Nat.reduceSub, Nat.reduceLT, Nat.reduceLeDiff, Nat.reducePow, Int.reduceLT, Int.reduceLE, Int.reduceNeg, Int.reduceToNat, z1, q2]
    refine condK_intro (fun q3 => absurd q3 (by decide)) (fun q3 => ?_)
    simp (dsimp := false) (maxDischargeDepth := 16) only [go_sem, ↓reduceIte, reduceCtorEq, Nat.reduceEqDiff, Nat.reduceAdd, Nat.reduceMul, Nat.reduceSub, Nat.reduceLT, Nat.reduceLeDiff, Nat.reducePow, Int.reduceLT, Int.reduceLE, Int.reduceNeg, Int.reduceToNat, z1, q2, q3]
    refine loopK_intro (fun (i : Nat) s => i ≤ L.length ∧ s.t 9 = .box (9, 0, 0) 0 ∧ s.b (9, 0, 0) = some ⟨mcs U, false⟩ ∧ s.t 69 = qlv L ∧ s.t 70 = iv L.length ∧ s.t 71 = iv i ∧ s.t 14 = iv ((L.take i).filter (likeQ U)).length) (fun i => L.length - i) ?_ ?_
    · exact ⟨0, by omega, rfl, rfl, rfl, rfl, rfl, rfl⟩
    rintro i s ⟨hi, t9, b9, t69, t70, t71, t14⟩
    simp (dsimp := false) (maxDischargeDepth := 16) only [go_sem, ↓reduceIte, reduceCtorEq, Nat.reduceEqDiff, Nat.reduceAdd, Nat.reduceMul, Nat.reduceSub, Nat.reduceLT, Nat.reduceLeDiff, Nat.reducePow, Int.reduceLT, Int.reduceLE, Int.reduceNeg, Int.reduceToNat, t9, b9, t69, t70, t71, t14]
    refine condK_dec (fun h6 => ?_) (fun h6 => ?_)
    · have C1 := c50 L[i].o.n U.n
      have C2 := c50 L[i].o.e U.e
      have eL : likeQ U L[i] = (alkB L[i].o.n U.n && alkB L[i].o.e U.e) := rfl
      have lf := List.length_filter_le (likeQ U) (L.take i)
      rw [List.length_take] at lf
      have w : IntKind.i64.wrap ((((L.take i).filter (likeQ U)).length : Int) + 1) = ((((L.take i).filter (likeQ U)).length + 1 : Nat) : Int) := wrapN _ (by omega)
      have no : likeQ U L[i] = false → ((L.take (i + 1)).filter (likeQ U)) = ((L.take i).filter (likeQ U)) := fun h => filter_no h6 h
      have yes : likeQ U L[i] = true → ((L.take (i + 1)).filter (likeQ U)) = ((L.take i).filter (likeQ U)) ++ [L[i]] := fun h => filter_yes h6 h
      rw [eL] at no yes
      generalize alkB L[i].o.n U.n = B1 at *
      generalize alkB L[i].o.e U.e = B2 at *
      generalize (L.take i).filter (likeQ U) = F at *
      simp (dsimp := false) (maxDischargeDepth := 16) only [go_sem, ↓reduceIte, reduceCtorEq, Nat.reduceEqDiff, Nat.reduceAdd, Nat.reduceMul, Nat.reduceSub, Nat.reduceLT, Nat.reduceLeDiff, Nat.reducePow, Int.reduceLT, Int.reduceLE, Int.reduceNeg, Int.reduceToNat, t9, b9, t69, t70, t71, t14, h6, idx_nat]
      refine callK_intro C1 ?_
      cases B1 with
      | false =>
        simp (dsimp := false) (maxDischargeDepth := 16) only [go_sem, ↓reduceIte, reduceCtorEq, Nat.reduceEqDiff, Nat.reduceAdd, Nat.reduceMul, Nat.reduceSub, Nat.reduceLT, Nat.reduceLeDiff, Nat.reducePow, Int.reduceLT, Int.reduceLE, Int.reduceNeg, Int.reduceToNat, t9, b9, t69, t70, t71, t14, h6]
        exact ⟨i + 1, by omega, by omega, by rw [wrapN _ (by omega)], by rw [no rfl]⟩
      | true =>
        simp (dsimp := false) (maxDischargeDepth := 16) only [go_sem, ↓reduceIte, reduceCtorEq, Nat.reduceEqDiff, Nat.reduceAdd, Nat.reduceMul, Nat.reduceSub, Nat.reduceLT, Nat.reduceLeDiff, Nat.reducePow, Int.reduceLT, Int.reduceLE, Int.reduceNeg, Int.reduceToNat, t9, b9, t69, t70, t71, t14, h6]
        refine callK_intro C2 ?_
        cases B2 with
        | false =>
          simp (dsimp := false) (maxDischargeDepth := 16) only [go_sem, ↓reduceIte, reduceCtorEq, Nat.reduceEqDiff, Nat.reduceAdd, Nat.reduceMul, Nat.reduceSub, Nat.reduceLT, Nat.reduceLeDiff, Nat.reducePow, Int.reduceLT, Int.reduceLE, Int.reduceNeg, Int.reduceToNat, t9, b9, t69, t70, t71, t14, h6]
          exact ⟨i + 1, by omega, by omega, by rw [wrapN _ (by omega)], by rw [no rfl]⟩
        | true =>
          simp (dsimp := false) (maxDischargeDepth := 16) only [go_sem, ↓reduceIte, reduceCtorEq, Nat.reduceEqDiff, Nat.reduceAdd, Nat.reduceMul, Nat.reduceSub, Nat.reduceLT, Nat.reduceLeDiff, Nat.reducePow, Int.reduceLT, Int.reduceLE, Int.reduceNeg, Int.reduceToNat, t9, b9, t69, t70, t71, t14, h6]
          exact ⟨i + 1, by omega, by omega, by rw [wrapN _ (by omega)], by rw [w, yes rfl, List.length_append]; rfl⟩
    · have hin : i = L.length := by omega
      subst hin
      rw [List.take_length, one] at t14
      simp (dsimp := false) (maxDischargeDepth := 16) only [go_sem, ↓reduceIte, reduceCtorEq, Nat.reduceEqDiff, Nat.reduceAdd, Nat.reduceMul, Nat.reduceSub, Nat.reduceLT, Nat.reduceLeDiff, Nat.reducePow, Int.reduceLT, Int.reduceLE, Int.reduceNeg, Int.reduceToNat, t9, b9, t69, t70, t71, t14, h6]
      exact finB rfl
end Go.Sy
