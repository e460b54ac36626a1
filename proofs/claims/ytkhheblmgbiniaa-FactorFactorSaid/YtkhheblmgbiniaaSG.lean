/- Contracts: the factorization of a morphism, as the program and as the document put it. -/
import Derived.Test.YtkhheblmgbiniaaS2
import Derived.Test.YtkhheblmgbiniaaM6
import Derived.Test.YtkhheblmgbiniaaE7
set_option linter.unusedSimpArgs false
namespace Go.Sy
open Go Go.Proofs

def facV (r : Gr × Mo × Mo × Int) : AV := .tup [gv r.1, mv r.2.1, mv r.2.2.1, iv r.2.2.2]
attribute [go_sem] facV
def fcE (b : Gr) (N l : List Int) : List Ed := l.map fun x => ((b.e.getD x.toNat (0, 0, 0)).1, idxP (fun y => (b.e.getD x.toNat (0, 0, 0)).2.1 == y) N, idxP (fun y => (b.e.getD x.toNat (0, 0, 0)).2.2 == y) N)
theorem fcE_succ {b : Gr} {N l : List Int} {i : Nat} (h : i < l.length) : fcE b N (l.take (i + 1)) = fcE b N (l.take i) ++ [((b.e.getD l[i].toNat (0, 0, 0)).1, idxP (fun y => (b.e.getD l[i].toNat (0, 0, 0)).2.1 == y) N, idxP (fun y => (b.e.getD l[i].toNat (0, 0, 0)).2.2 == y) N)] := take_map h
theorem facP_eq' {a b : Gr} {m : Mo} (h : mErr a b m = 0) : facR a b m = (⟨thr (sq m.n) b.n, fcE b (sq m.n) (sq m.e)⟩, ⟨plc (sq m.n) m.n, plc (sq m.e) m.e⟩, ⟨sq m.n, sq m.e⟩, 0) := facP_eq h
set_option maxHeartbeats 2000000 in
theorem c45 (a b : Gr) (m : Mo) : Con Try.prog 45 [gv a, gv b, mv m] 0 (facV (facR a b m)) := by
  refine conT (X := [(17, [], [(6, [11], []), (7, [11], [])])]) (rs := [.cell 6 25, .cell 7 41, .cell 8 41, .tmp 9]) Try.func45 (by kernel_rfl) rfl rfl (by kernel_rfl) ?_
  simp (dsimp := false) (maxDischargeDepth := 16) only [go_sem, ↓reduceIte, reduceCtorEq, Nat.reduceEqDiff, Nat.reduceAdd, Nat.reduceMul, Nat.reduceSub, Nat.reduceLT, Nat.reduceLeDiff, Nat.reducePow, Int.reduceLT, Int.reduceLE, Int.reduceNeg, Int.reduceToNat]
  refine callK_intro (c70 a b m) ?_
  simp (dsimp := false) (maxDischargeDepth := 16) only [go_sem, ↓reduceIte, reduceCtorEq, Nat.reduceEqDiff, Nat.reduceAdd, Nat.reduceMul, Nat.reduceSub, Nat.reduceLT, Nat.reduceLeDiff, Nat.reducePow, Int.reduceLT, Int.reduceLE, Int.reduceNeg, Int.reduceToNat]
  refine condK_intro (fun h1 => ?_) (fun h1 => ?_)
  · simp (dsimp := false) (maxDischargeDepth := 16) only [go_sem, ↓reduceIte, reduceCtorEq, Nat.reduceEqDiff, Nat.reduceAdd, Nat.reduceMul, Nat.reduceSub, Nat.reduceLT, Nat.reduceLeDiff, Nat.reducePow, Int.reduceLT, Int.reduceLE, Int.reduceNeg, Int.reduceToNat, h1]
    have e : facR a b m = (⟨[], []⟩, ⟨[], []⟩, ⟨[], []⟩, mErr a b m) := if_pos (by simpa using h1)
    rw [e]
    exact finK ⟨rfl, rfl⟩
  have g1 : mErr a b m = 0 := by simpa using h1
  have o := mErr_ok g1
  have r := mErr_rng g1
  have ga := gErr_small o.1
  rw [facP_eq' g1]
  have sn : m.n.length ≤ 1000 := by omega
  have se : m.e.length ≤ 1000 := by omega
  have rn : ∀ x ∈ sq m.n, 0 ≤ x ∧ x.toNat < b.n.length := fun x hx => by have := r.1 x ((mem_sq _ _).1 hx); omega
  have re : ∀ x ∈ sq m.e, 0 ≤ x ∧ x.toNat < b.e.length := fun x hx => by have := r.2 x ((mem_sq _ _).1 hx); omega
  have K1 := c91 m.n (by omega)
  have K2 := c91 m.e (by omega)
  have ln := sq_len m.n
  have le := sq_len m.e
  simp (dsimp := false) (maxDischargeDepth := 16) only [go_sem, ↓reduceIte, reduceCtorEq, Nat.reduceEqDiff, Nat.reduceAdd, Nat.reduceMul, Nat.reduceSub, Nat.reduceLT, Nat.reduceLeDiff, Nat.reducePow, Int.reduceLT, Int.reduceLE, Int.reduceNeg, Int.reduceToNat, h1]
  clear h1 g1 o r ga
  refine callK_intro K1 ?_
  simp (dsimp := false) (maxDischargeDepth := 16) only [go_sem, ↓reduceIte, reduceCtorEq, Nat.reduceEqDiff, Nat.reduceAdd, Nat.reduceMul, Nat.reduceSub, Nat.reduceLT, Nat.reduceLeDiff, Nat.reducePow, Int.reduceLT, Int.reduceLE, Int.reduceNeg, Int.reduceToNat]
  refine callK_intro K2 ?_
  simp (dsimp := false) (maxDischargeDepth := 16) only [go_sem, ↓reduceIte, reduceCtorEq, Nat.reduceEqDiff, Nat.reduceAdd, Nat.reduceMul, Nat.reduceSub, Nat.reduceLT, Nat.reduceLeDiff, Nat.reducePow, Int.reduceLT, Int.reduceLE, Int.reduceNeg, Int.reduceToNat]
  clear K1 K2
  have P1 := c76 m.n (sq m.n) (by omega)
  have P2 := c76 m.e (sq m.e) (by omega)
  generalize plc (sq m.n) m.n = pn at *
  generalize plc (sq m.e) m.e = pe at *
  generalize sq m.n = N at *
  generalize sq m.e = M at *
  refine loopK_intro (fun (i : Nat) s => i ≤ N.length ∧ s.t 4 = .box (4, 0, 0) 0 ∧ s.b (4, 0, 0) = some ⟨gcs b, false⟩ ∧ s.t 5 = .box (5, 0, 0) 0 ∧ s.b (5, 0, 0) = some ⟨mcs m, false⟩ ∧ s.t 6 = .box (6, 0, 0) 0 ∧ (∃ z1 z2, s.b (6, 0, 0) = some ⟨[z1, z2], false⟩) ∧
    s.t 7 = .box (7, 0, 0) 0 ∧ (∃ z1 z2, s.b (7, 0, 0) = some ⟨[z1, z2], false⟩) ∧ s.t 8 = .box (8, 0, 0) 0 ∧ (∃ z1 z2, s.b (8, 0, 0) = some ⟨[z1, z2], false⟩) ∧ s.t 11 = .box (11, 0, 0) 0 ∧ s.b (11, 0, 0) = some ⟨mcs ⟨N, M⟩, false⟩ ∧ s.t 12 = .box (12, 0, 0) 0 ∧
    s.t 36 = lv N ∧ s.t 37 = iv N.length ∧ s.t 38 = iv i ∧ ∃ k1, s.b (12, 0, 0) = some ⟨[lvT (thr (N.take i) b.n) k1, .list 3 [] .nil], false⟩ ∧ tokOK s k1 = true) (fun i => N.length - i) ?_ ?_
  · exact ⟨0, by omega, rfl, rfl, rfl, rfl, rfl, ⟨_, _, rfl⟩, rfl, ⟨_, _, rfl⟩, rfl, ⟨_, _, rfl⟩, rfl, rfl, rfl, rfl, rfl, rfl, .nil, rfl, rfl⟩
  rintro i s ⟨hi, t4, b4, t5, b5, t6, ⟨z1, z2, b6⟩, t7, ⟨y1, y2, b7⟩, t8, ⟨x1, x2, b8⟩, t11, b11, t12, t36, t37, t38, k1, b12, a1⟩
  simp (dsimp := false) (maxDischargeDepth := 16) only [go_sem, ↓reduceIte, reduceCtorEq, Nat.reduceEqDiff, Nat.reduceAdd, Nat.reduceMul, Nat.reduceSub, Nat.reduceLT, Nat.reduceLeDiff, Nat.reducePow, Int.reduceLT, Int.reduceLE, Int.reduceNeg, Int.reduceToNat, t4, b4, t5, b5, t6, b6, t7, b7, t8, b8, t11, b11, t12, t36, t37, t38, b12]
  refine condK_dec (fun h6 => ?_) (fun h6 => ?_)
  · obtain ⟨r0, r1⟩ := rn _ (List.getElem_mem h6)
    have pl : (thr (N.take i) b.n).length = i := by simp [thr]; omega
    simp (dsimp := false) (maxDischargeDepth := 16) only [go_sem, ↓reduceIte, reduceCtorEq, Nat.reduceEqDiff, Nat.reduceAdd, Nat.reduceMul, Nat.reduceSub, Nat.reduceLT, Nat.reduceLeDiff, Nat.reducePow, Int.reduceLT, Int.reduceLE, Int.reduceNeg, Int.reduceToNat, t4, b4, t5, b5, t6, b6, t7, b7, t8, b8, t11, b11, t12, t36, t37, t38, b12, h6, idx_nat, idx_int, r0, r1, a1, pl]
    refine ⟨⟨by omega, by omega⟩, i + 1, by omega, by omega, ⟨_, _, rfl⟩, ⟨_, _, rfl⟩, ⟨_, _, rfl⟩, by rw [wrapN _ (by omega)], .own (50, s.g 50, 0), ?_, ?_⟩
    · rw [thr_succ h6, map1_app, getD_at r1]
    · simp (dsimp := false) (maxDischargeDepth := 16) only [go_sem, ↓reduceIte, reduceCtorEq, Nat.reduceEqDiff, Nat.reduceAdd, Nat.reduceMul, Nat.reduceSub, Nat.reduceLT, Nat.reduceLeDiff, Nat.reducePow, Int.reduceLT, Int.reduceLE, Int.reduceNeg, Int.reduceToNat, a1]
  · simp (dsimp := false) (maxDischargeDepth := 16) only [go_sem, ↓reduceIte, reduceCtorEq, Nat.reduceEqDiff, Nat.reduceAdd, Nat.reduceMul, Nat.reduceSub, Nat.reduceLT, Nat.reduceLeDiff, Nat.reducePow, Int.reduceLT, Int.reduceLE, Int.reduceNeg, Int.reduceToNat, t4, b4, t5, b5, t6, b6, t7, b7, t8, b8, t11, b11, t12, t36, t37, t38, b12, h6]
    have hin : i = N.length := by omega
    subst hin
    rw [List.take_length] at b12
    generalize thr N b.n = gn at *
    refine loopK_intro (fun (i : Nat) s => i ≤ M.length ∧ s.t 4 = .box (4, 0, 0) 0 ∧ s.b (4, 0, 0) = some ⟨gcs b, false⟩ ∧ s.t 5 = .box (5, 0, 0) 0 ∧ s.b (5, 0, 0) = some ⟨mcs m, false⟩ ∧ s.t 6 = .box (6, 0, 0) 0 ∧ s.b (6, 0, 0) = some ⟨[z1, z2], false⟩ ∧
      s.t 7 = .box (7, 0, 0) 0 ∧ s.b (7, 0, 0) = some ⟨[y1, y2], false⟩ ∧ s.t 8 = .box (8, 0, 0) 0 ∧ s.b (8, 0, 0) = some ⟨[x1, x2], false⟩ ∧ s.t 11 = .box (11, 0, 0) 0 ∧ s.b (11, 0, 0) = some ⟨mcs ⟨N, M⟩, false⟩ ∧ s.t 12 = .box (12, 0, 0) 0 ∧
      s.t 54 = lv M ∧ s.t 55 = iv M.length ∧ s.t 56 = iv i ∧ ∃ k2, s.b (12, 0, 0) = some ⟨[lvT gn k1, elT' (fcE b N (M.take i)) k2], false⟩ ∧ tokOK s k2 = true) (fun i => M.length - i) ?_ ?_
    · exact ⟨0, by omega, t4, b4, t5, b5, t6, b6, t7, b7, t8, b8, t11, b11, t12, rfl, rfl, rfl, .nil, b12, rfl⟩
    clear t4 b4 t5 b5 t6 b6 t7 b7 t8 b8 t11 b11 t12 t36 t37 t38 b12 a1 h6 hi
    rintro i s ⟨hi, t4, b4, t5, b5, t6, b6, t7, b7, t8, b8, t11, b11, t12, t54, t55, t56, k2, b12, a2⟩
    simp (dsimp := false) (maxDischargeDepth := 16) only [go_sem, ↓reduceIte, reduceCtorEq, Nat.reduceEqDiff, Nat.reduceAdd, Nat.reduceMul, Nat.reduceSub, Nat.reduceLT, Nat.reduceLeDiff, Nat.reducePow, Int.reduceLT, Int.reduceLE, Int.reduceNeg, Int.reduceToNat, t4, b4, t5, b5, t6, b6, t7, b7, t8, b8, t11, b11, t12, t54, t55, t56, b12]
    refine condK_dec (fun h6 => ?_) (fun h6 => ?_)
    · obtain ⟨r0, r1⟩ := re _ (List.getElem_mem h6)
      have pl : (fcE b N (M.take i)).length = i := by simp [fcE]; omega
      have C1 := c92 N (b.e[M[i].toNat]).2.1
      have C2 := c92 N (b.e[M[i].toNat]).2.2
      simp (dsimp := false) (maxDischargeDepth := 16) only [go_sem, ↓reduceIte, reduceCtorEq, Nat.reduceEqDiff, Nat.reduceAdd, Nat.reduceMul, Nat.reduceSub, Nat.reduceLT, Nat.reduceLeDiff, Nat.reducePow, Int.reduceLT, Int.reduceLE, Int.reduceNeg, Int.reduceToNat, t4, b4, t5, b5, t6, b6, t7, b7, t8, b8, t11, b11, t12, t54, t55, t56, b12, h6, idx_nat, idx_int, r0, r1, a2, pl]
      refine callK_intro C1 ?_
      simp (dsimp := false) (maxDischargeDepth := 16) only [go_sem, ↓reduceIte, reduceCtorEq, Nat.reduceEqDiff, Nat.reduceAdd, Nat.reduceMul, Nat.reduceSub, Nat.reduceLT, Nat.reduceLeDiff, Nat.reducePow, Int.reduceLT, Int.reduceLE, Int.reduceNeg, Int.reduceToNat, t4, b4, t5, b5, t6, b6, t7, b7, t8, b8, t11, b11, t12, t54, t55, t56, b12, h6, idx_nat, idx_int, r0, r1, a2, pl]
      refine callK_intro C2 ?_
      simp (dsimp := false) (maxDischargeDepth := 16) only [go_sem, ↓reduceIte, reduceCtorEq, Nat.reduceEqDiff, Nat.reduceAdd, Nat.reduceMul, Nat.reduceSub, Nat.reduceLT, Nat.reduceLeDiff, Nat.reducePow, Int.reduceLT, Int.reduceLE, Int.reduceNeg, Int.reduceToNat, t4, b4, t5, b5, t6, b6, t7, b7, t8, b8, t11, b11, t12, t54, t55, t56, b12, h6, idx_nat, idx_int, r0, r1, a2, pl]
      refine ⟨⟨by omega, by omega⟩, i + 1, by omega, by omega, by rw [wrapN _ (by omega)], .own (81, s.g 81, 0), ?_, ?_⟩
      · rw [fcE_succ h6, List.map_append, List.map_singleton, getD_at r1]
        rfl
      · simp (dsimp := false) (maxDischargeDepth := 16) only [go_sem, ↓reduceIte, reduceCtorEq, Nat.reduceEqDiff, Nat.reduceAdd, Nat.reduceMul, Nat.reduceSub, Nat.reduceLT, Nat.reduceLeDiff, Nat.reducePow, Int.reduceLT, Int.reduceLE, Int.reduceNeg, Int.reduceToNat, a2]
    · simp (dsimp := false) (maxDischargeDepth := 16) only [go_sem, ↓reduceIte, reduceCtorEq, Nat.reduceEqDiff, Nat.reduceAdd, Nat.reduceMul, Nat.reduceSub, Nat.reduceLT, Nat.reduceLeDiff, Nat.reducePow, Int.reduceLT, Int.reduceLE, Int.reduceNeg, Int.reduceToNat, t4, b4, t5, b5, t6, b6, t7, b7, t8, b8, t11, b11, t12, t54, t55, t56, b12, h6]
      have hin : i = M.length := by omega
      subst hin
      rw [List.take_length] at b12
      refine callK_intro P1 ?_
      simp (dsimp := false) (maxDischargeDepth := 16) only [go_sem, ↓reduceIte, reduceCtorEq, Nat.reduceEqDiff, Nat.reduceAdd, Nat.reduceMul, Nat.reduceSub, Nat.reduceLT, Nat.reduceLeDiff, Nat.reducePow, Int.reduceLT, Int.reduceLE, Int.reduceNeg, Int.reduceToNat, t4, b4, t5, b5, t6, b6, t7, b7, t8, b8, t11, b11, t12, t54, t55, t56, b12, h6]
      refine callK_intro P2 ?_
      simp (dsimp := false) (maxDischargeDepth := 16) only [go_sem, ↓reduceIte, reduceCtorEq, Nat.reduceEqDiff, Nat.reduceAdd, Nat.reduceMul, Nat.reduceSub, Nat.reduceLT, Nat.reduceLeDiff, Nat.reducePow, Int.reduceLT, Int.reduceLE, Int.reduceNeg, Int.reduceToNat, t4, b4, t5, b5, t6, b6, t7, b7, t8, b8, t11, b11, t12, t54, t55, t56, b12, h6]
      simp (dsimp := false) only [List.take_length]
      exact ⟨rfl, finK ⟨rfl, rfl⟩⟩

/-- What the table of places holds at a number. -/
def rkO (p : Nat → Bool) (j : Nat) : Int := if p j = true then rk p j else 0
def facE (b : Gr) (p : Nat → Bool) (i : Nat) : Ed := ((b.e.getD i (0, 0, 0)).1, rk p (b.e.getD i (0, 0, 0)).2.1, rk p (b.e.getD i (0, 0, 0)).2.2)
theorem rk_nat (p : Nat → Bool) (j : Nat) : rk p (j : Int) = ((sel p j).length : Int) := by simp [rk]
theorem thr_tab {l zs : List Int} {n : Nat} (h : ∀ x ∈ l, 0 ≤ x ∧ x < n) (hz : ∀ j, j < n → zs.getD j 0 = rkO (has l) j) : thr l zs = l.map (rk (has l)) := by
  refine List.map_congr_left fun x hx => ?_
  have := h x hx
  obtain ⟨j, rfl⟩ := Int.eq_ofNat_of_zero_le this.1
  rw [Int.toNat_natCast, hz j (by omega), rkO, if_pos (has_iff.2 hx)]
set_option maxHeartbeats 4000000 in
theorem c46 (a b : Gr) (m : Mo) : Con Try.prog 46 [gv a, gv b, mv m] 0 (facV (facR a b m)) := by
  refine conT (X := [(25, [], [(6, [13, 12], []), (7, [12], [])]), (23, [14], []), (24, [15], [])]) (rs := [.cell 6 25, .cell 7 41, .cell 8 41, .tmp 9]) Try.func46 (by kernel_rfl) rfl rfl (by kernel_rfl) ?_
  simp (dsimp := false) (maxDischargeDepth := 16) only [go_sem, ↓reduceIte, reduceCtorEq, Nat.reduceEqDiff, Nat.reduceAdd, Nat.reduceMul, Nat.reduceSub, Nat.reduceLT, Nat.reduceLeDiff, Nat.reducePow, Int.reduceLT, Int.reduceLE, Int.reduceNeg, Int.reduceToNat]
  refine callK_intro (c72 a b m) ?_
  simp (dsimp := false) (maxDischargeDepth := 16) only [go_sem, ↓reduceIte, reduceCtorEq, Nat.reduceEqDiff, Nat.reduceAdd, Nat.reduceMul, Nat.reduceSub, Nat.reduceLT, Nat.reduceLeDiff, Nat.reducePow, Int.reduceLT, Int.reduceLE, Int.reduceNeg, Int.reduceToNat]
  refine condK_intro (fun h1 => ?_) (fun h1 => ?_)
  · simp (dsimp := false) (maxDischargeDepth := 16) only [go_sem, ↓reduceIte, reduceCtorEq, Nat.reduceEqDiff, Nat.reduceAdd, Nat.reduceMul, Nat.reduceSub, Nat.reduceLT, Nat.reduceLeDiff, Nat.reducePow, Int.reduceLT, Int.reduceLE, Int.reduceNeg, Int.reduceToNat, h1]
    have e : facR a b m = (⟨[], []⟩, ⟨[], []⟩, ⟨[], []⟩, mErr a b m) := if_pos (by simpa using h1)
    rw [e]
    exact finK ⟨rfl, rfl⟩
  have g1 : mErr a b m = 0 := by simpa using h1
  have o := mErr_ok g1
  have r := mErr_rng g1
  have ga := gErr_small o.1
  have gb := gErr_small o.2.1
  have eR : facR a b m = (facG b (has m.n) (has m.e), ⟨m.n.map (rk (has m.n)), m.e.map (rk (has m.e))⟩, ⟨selN (has m.n) b.n.length, selN (has m.e) b.e.length⟩, 0) := if_neg (by simp [g1])
  rw [eR]
  have ends := fun i h1 h2 => im_ends g1 (i := i) h1 h2
  have rn := r.1
  have re := r.2
  have cn : ∀ i : Nat, m.n.contains (i : Int) = has m.n i := fun _ => rfl
  have ce : ∀ i : Nat, m.e.contains (i : Int) = has m.e i := fun _ => rfl
  have tab := fun zs => thr_tab (l := m.n) (zs := zs) rn
  have tae := fun zs => thr_tab (l := m.e) (zs := zs) re
  have sn : m.n.length ≤ 1000 := by omega
  have se : m.e.length ≤ 1000 := by omega
  simp (dsimp := false) (maxDischargeDepth := 16) only [go_sem, ↓reduceIte, reduceCtorEq, Nat.reduceEqDiff, Nat.reduceAdd, Nat.reduceMul, Nat.reduceSub, Nat.reduceLT, Nat.reduceLeDiff, Nat.reducePow, Int.reduceLT, Int.reduceLE, Int.reduceNeg, Int.reduceToNat, h1, Int.toNat_natCast, bi_zero]
  refine ⟨⟨by omega, by omega, by omega⟩, ⟨by omega, by omega, by omega⟩, ?_⟩
  have hsl := sel_le
  have gbn := gb.1.1
  have gbe := gb.1.2
  clear h1 g1 o r ga gb eR
  unfold facG
  generalize has m.n = p at *
  generalize has m.e = q at *
  refine loopK_intro (fun (i : Nat) s => i ≤ b.n.length ∧ s.t 4 = .box (4, 0, 0) 0 ∧ s.b (4, 0, 0) = some ⟨gcs b, false⟩ ∧ s.t 5 = .box (5, 0, 0) 0 ∧ s.b (5, 0, 0) = some ⟨mcs m, false⟩ ∧ s.t 6 = .box (6, 0, 0) 0 ∧ (∃ z1 z2, s.b (6, 0, 0) = some ⟨[z1, z2], false⟩) ∧
    s.t 7 = .box (7, 0, 0) 0 ∧ (∃ z1 z2, s.b (7, 0, 0) = some ⟨[z1, z2], false⟩) ∧ s.t 8 = .box (8, 0, 0) 0 ∧ (∃ z1 z2, s.b (8, 0, 0) = some ⟨[z1, z2], false⟩) ∧ s.t 11 = .box (11, 0, 0) 0 ∧ s.t 12 = .box (12, 0, 0) 0 ∧ s.t 13 = .box (13, 0, 0) 0 ∧
    s.b (13, 0, 0) = some ⟨[.list 1 [] .nil, .list 1 [] .nil], false⟩ ∧ s.t 14 = .sl (32, 0, 0) b.n.length 1 ∧ s.t 15 = .sl (36, 0, 0) b.e.length 1 ∧ s.b (36, 0, 0) = some ⟨bi (List.replicate b.e.length 0), false⟩ ∧ s.t 16 = iv i ∧
    ∃ k1 k2, ∃ zs : List Int, s.b (11, 0, 0) = some ⟨[lvT ((sel p i).map fun j => b.n.getD j 0) k1, .list 3 [] .nil], false⟩ ∧ s.b (12, 0, 0) = some ⟨[lvT (selN p i) k2, .list 1 [] .nil], false⟩ ∧ s.b (32, 0, 0) = some ⟨bi zs, false⟩ ∧
      zs.length = b.n.length ∧ (∀ j, j < i → zs.getD j 0 = rkO p j) ∧ (∀ j, i ≤ j → zs.getD j 0 = 0) ∧ tokOK s k1 = true ∧ tokOK s k2 = true ∧ tkIn [(62, 0)] k1 = true ∧ tkIn [(68, 0)] k2 = true) (fun i => b.n.length - i) ?_ ?_
  · refine ⟨0, by omega, rfl, rfl, rfl, rfl, rfl, ⟨_, _, rfl⟩, rfl, ⟨_, _, rfl⟩, rfl, ⟨_, _, rfl⟩, rfl, rfl, rfl, rfl, rfl, rfl, rfl, rfl, .nil, .nil, _, rfl, rfl, rfl, by simp, fun j hj => by omega, fun j _ => ?_, rfl, rfl, rfl, rfl⟩
    rw [List.getD_eq_getElem?_getD, List.getElem?_replicate]
    split <;> rfl
  rintro i s ⟨hi, t4, b4, t5, b5, t6, ⟨z1, z2, b6⟩, t7, ⟨y1, y2, b7⟩, t8, ⟨x1, x2, b8⟩, t11, t12, t13, b13, t14, t15, b36, t16, k1, k2, zs, b11, b12, b32, hz, hall, hrest, a1, a2, i1, i2⟩
  simp (dsimp := false) (maxDischargeDepth := 16) only [go_sem, ↓reduceIte, reduceCtorEq, Nat.reduceEqDiff, Nat.reduceAdd, Nat.reduceMul, Nat.reduceSub, Nat.reduceLT, Nat.reduceLeDiff, Nat.reducePow, Int.reduceLT, Int.reduceLE, Int.reduceNeg, Int.reduceToNat, t4, b4, t5, b5, t6, b6, t7, b7, t8, b8, t11, t12, t13, b13, t14, t15, b36, t16, b11, b12, b32]
  refine condK_dec (fun h6 => ?_) (fun h6 => ?_)
  · have hzl : i < zs.length := by omega
    have l1 := hsl p i
    have C1 := c93 m.n i
    rw [cn] at C1
    simp (dsimp := false) (maxDischargeDepth := 16) only [go_sem, ↓reduceIte, reduceCtorEq, Nat.reduceEqDiff, Nat.reduceAdd, Nat.reduceMul, Nat.reduceSub, Nat.reduceLT, Nat.reduceLeDiff, Nat.reducePow, Int.reduceLT, Int.reduceLE, Int.reduceNeg, Int.reduceToNat, t4, b4, t5, b5, t6, b6, t7, b7, t8, b8, t11, t12, t13, b13, t14, t15, b36, t16, b11, b12, b32, h6]
    refine callK_intro C1 ?_
    cases h8 : p i with
    | true =>
      have k12 : ∀ (s : St) (d n : Nat) (x : AV), tokOK s k2 = true → tokOK (s.ntok d n x (tokKey k1)) k2 = true := fun s d n x h => tk_kill i1 i2 rfl h
      have q2 : ∀ (f : Key → Bool) (g : Nat), killO f (tokKey k2) (62, g, 0) = f (62, g, 0) := fun f g => kill_tk i2 rfl f
      simp (dsimp := false) (maxDischargeDepth := 16) only [go_sem, ↓reduceIte, reduceCtorEq, Nat.reduceEqDiff, Nat.reduceAdd, Nat.reduceMul, Nat.reduceSub, Nat.reduceLT, Nat.reduceLeDiff, Nat.reducePow, Int.reduceLT, Int.reduceLE, Int.reduceNeg, Int.reduceToNat, t4, b4, t5, b5, t6, b6, t7, b7, t8, b8, t11, t12, t13, b13, t14, t15, b36, t16, b11, b12, b32, h6, idx_nat, idx_sl, bi_set1, hzl, bi_len, a1, a2, k12, selN_len]
      refine ⟨by omega, ⟨by omega, by omega⟩, ⟨by omega, by omega⟩, i + 1, by omega, by omega, ⟨_, _, rfl⟩, ⟨_, _, rfl⟩, ⟨_, _, rfl⟩, by rw [wrapN _ (by omega)], .own (62, s.g 62, 0), .own (68, s.g 68, 0), _, by rw [sel_yes h8, List.map_append, List.map_singleton, map1_app, getD_at h6], by rw [selN_yes h8, map1_app], rfl, by simpa using hz, fun j hj => ?_, fun j hj => ?_, ?_, ?_, rfl, rfl⟩
      · rw [set_at hzl]
        split
        · rename_i e
          rw [e, rkO, if_pos h8, rk_nat]
        · exact hall j (by omega)
      · rw [set_at hzl, if_neg (by omega)]
        exact hrest j (by omega)
      all_goals simp (dsimp := false) (maxDischargeDepth := 16) only [go_sem, ↓reduceIte, reduceCtorEq, Nat.reduceEqDiff, Nat.reduceAdd, Nat.reduceMul, Nat.reduceSub, Nat.reduceLT, Nat.reduceLeDiff, Nat.reducePow, Int.reduceLT, Int.reduceLE, Int.reduceNeg, Int.reduceToNat, a1, a2, k12, q2]
    | false =>
      simp (dsimp := false) (maxDischargeDepth := 16) only [go_sem, ↓reduceIte, reduceCtorEq, Nat.reduceEqDiff, Nat.reduceAdd, Nat.reduceMul, Nat.reduceSub, Nat.reduceLT, Nat.reduceLeDiff, Nat.reducePow, Int.reduceLT, Int.reduceLE, Int.reduceNeg, Int.reduceToNat, t4, b4, t5, b5, t6, b6, t7, b7, t8, b8, t11, t12, t13, b13, t14, t15, b36, t16, b11, b12, b32, h6]
      refine ⟨i + 1, by omega, by omega, ⟨_, _, rfl⟩, ⟨_, _, rfl⟩, ⟨_, _, rfl⟩, by rw [wrapN _ (by omega)], k1, k2, zs, by rw [sel_no h8], by rw [selN_no h8], rfl, hz, fun j hj => ?_, fun j hj => hrest j (by omega), a1, a2, i1, i2⟩
      by_cases hji : j = i
      · rw [hji, hrest i (by omega), rkO, if_neg (by rw [h8]; decide)]
      · exact hall j (by omega)
  · simp (dsimp := false) (maxDischargeDepth := 16) only [go_sem, ↓reduceIte, reduceCtorEq, Nat.reduceEqDiff, Nat.reduceAdd, Nat.reduceMul, Nat.reduceSub, Nat.reduceLT, Nat.reduceLeDiff, Nat.reducePow, Int.reduceLT, Int.reduceLE, Int.reduceNeg, Int.reduceToNat, t4, b4, t5, b5, t6, b6, t7, b7, t8, b8, t11, t12, t13, b13, t14, t15, b36, t16, b11, b12, b32, h6]
    have hin : i = b.n.length := by omega
    rw [hin] at hall b11 b12
    have hN : ((sel p b.n.length).map fun j => b.n.getD j 0).length ≤ 40 := by have := hsl p b.n.length; simp; omega
    generalize (sel p b.n.length).map (fun j => b.n.getD j 0) = N at *
    generalize selN p b.n.length = M at *
    refine loopK_intro (fun (i : Nat) s => i ≤ b.e.length ∧ s.t 4 = .box (4, 0, 0) 0 ∧ s.b (4, 0, 0) = some ⟨gcs b, false⟩ ∧ s.t 5 = .box (5, 0, 0) 0 ∧ s.b (5, 0, 0) = some ⟨mcs m, false⟩ ∧ s.t 6 = .box (6, 0, 0) 0 ∧ s.b (6, 0, 0) = some ⟨[z1, z2], false⟩ ∧
      s.t 7 = .box (7, 0, 0) 0 ∧ s.b (7, 0, 0) = some ⟨[y1, y2], false⟩ ∧ s.t 8 = .box (8, 0, 0) 0 ∧ s.b (8, 0, 0) = some ⟨[x1, x2], false⟩ ∧ s.t 11 = .box (11, 0, 0) 0 ∧ s.t 12 = .box (12, 0, 0) 0 ∧ s.t 13 = .box (13, 0, 0) 0 ∧
      s.b (13, 0, 0) = some ⟨[.list 1 [] .nil, .list 1 [] .nil], false⟩ ∧ s.t 14 = .sl (32, 0, 0) b.n.length 1 ∧ s.t 15 = .sl (36, 0, 0) b.e.length 1 ∧ s.b (32, 0, 0) = some ⟨bi zs, false⟩ ∧ s.t 17 = iv i ∧
      ∃ k3 k4, ∃ us : List Int, s.b (11, 0, 0) = some ⟨[lvT N k1, elT' ((sel q i).map (facE b p)) k3], false⟩ ∧ s.b (12, 0, 0) = some ⟨[lvT M k2, lvT (selN q i) k4], false⟩ ∧ s.b (36, 0, 0) = some ⟨bi us, false⟩ ∧
        us.length = b.e.length ∧ (∀ j, j < i → us.getD j 0 = rkO q j) ∧ (∀ j, i ≤ j → us.getD j 0 = 0) ∧ tokOK s k3 = true ∧ tokOK s k4 = true ∧ tkIn [(108, 0)] k3 = true ∧ tkIn [(114, 0)] k4 = true) (fun i => b.e.length - i) ?_ ?_
    · refine ⟨0, by omega, t4, b4, t5, b5, t6, b6, t7, b7, t8, b8, t11, t12, t13, b13, t14, t15, b32, rfl, .nil, .nil, _, b11, b12, b36, by simp, fun j hj => by omega, fun j _ => ?_, rfl, rfl, rfl, rfl⟩
      rw [List.getD_eq_getElem?_getD, List.getElem?_replicate]
      split <;> rfl
    clear t4 b4 t5 b5 t6 b6 t7 b7 t8 b8 t11 t12 t13 b13 t14 t15 b36 t16 b11 b12 b32 a1 a2 i1 i2 h6 hi hin
    rintro i s ⟨hi, t4, b4, t5, b5, t6, b6, t7, b7, t8, b8, t11, t12, t13, b13, t14, t15, b32, t17, k3, k4, us, b11, b12, b36, hu, ual, ures, a3, a4, i3, i4⟩
    simp (dsimp := false) (maxDischargeDepth := 16) only [go_sem, ↓reduceIte, reduceCtorEq, Nat.reduceEqDiff, Nat.reduceAdd, Nat.reduceMul, Nat.reduceSub, Nat.reduceLT, Nat.reduceLeDiff, Nat.reducePow, Int.reduceLT, Int.reduceLE, Int.reduceNeg, Int.reduceToNat, t4, b4, t5, b5, t6, b6, t7, b7, t8, b8, t11, t12, t13, b13, t14, t15, b32, t17, b11, b12, b36]
    refine condK_dec (fun h6 => ?_) (fun h6 => ?_)
    · have hul : i < us.length := by omega
      have l1 := hsl q i
      have C1 := c93 m.e i
      rw [ce] at C1
      simp (dsimp := false) (maxDischargeDepth := 16) only [go_sem, ↓reduceIte, reduceCtorEq, Nat.reduceEqDiff, Nat.reduceAdd, Nat.reduceMul, Nat.reduceSub, Nat.reduceLT, Nat.reduceLeDiff, Nat.reducePow, Int.reduceLT, Int.reduceLE, Int.reduceNeg, Int.reduceToNat, t4, b4, t5, b5, t6, b6, t7, b7, t8, b8, t11, t12, t13, b13, t14, t15, b32, t17, b11, b12, b36, h6]
      refine callK_intro C1 ?_
      cases h8 : q i with
      | true =>
        obtain ⟨e1, e2, e3, e4, e5, e6⟩ := ends i h6 h8
        have fe : facE b p i = (b.e[i].1, rk p b.e[i].2.1, rk p b.e[i].2.2) := by rw [facE, getD_at h6]
        rw [getD_at h6] at e1 e2 e3 e4 e5 e6
        have v1 : rkO p b.e[i].2.1.toNat = rk p b.e[i].2.1 := by rw [rkO, if_pos e3, Int.toNat_of_nonneg e1]
        have v2 : rkO p b.e[i].2.2.toNat = rk p b.e[i].2.2 := by rw [rkO, if_pos e6, Int.toNat_of_nonneg e4]
        have f1 : b.e[i].2.1.toNat < b.n.length := by omega
        have f2 : b.e[i].2.2.toNat < b.n.length := by omega
        have g1 := bi_head (zs := zs) (k := b.e[i].2.1.toNat) (by omega) ((hall _ f1).trans v1)
        have g2 := bi_head (zs := zs) (k := b.e[i].2.2.toNat) (by omega) ((hall _ f2).trans v2)
        have c1 : b.e[i].2.1.toNat * 1 < (bi zs).length := by rw [bi_len]; omega
        have c2 : b.e[i].2.2.toNat * 1 < (bi zs).length := by rw [bi_len]; omega
        have k34 : ∀ (s : St) (d n : Nat) (x : AV), tokOK s k4 = true → tokOK (s.ntok d n x (tokKey k3)) k4 = true := fun s d n x h => tk_kill i3 i4 rfl h
        have q2 : ∀ (f : Key → Bool) (g : Nat), killO f (tokKey k4) (108, g, 0) = f (108, g, 0) := fun f g => kill_tk i4 rfl f
        simp (dsimp := false) (maxDischargeDepth := 16) only [go_sem, ↓reduceIte, reduceCtorEq, Nat.reduceEqDiff, Nat.reduceAdd, Nat.reduceMul, Nat.reduceSub, Nat.reduceLT, Nat.reduceLeDiff, Nat.reducePow, Int.reduceLT, Int.reduceLE, Int.reduceNeg, Int.reduceToNat, t4, b4, t5, b5, t6, b6, t7, b7, t8, b8, t11, t12, t13, b13, t14, t15, b32, t17, b11, b12, b36, h6, idx_nat, idx_sl, idx_slI, bi_set1, hul, e1, e4, f1, f2, g1, g2, c1, c2, a3, a4, k34, selN_len]
        refine ⟨by rw [bi_len]; omega, ⟨by omega, by omega⟩, ⟨by omega, by omega⟩, i + 1, by omega, by omega, by rw [wrapN _ (by omega)], .own (108, s.g 108, 0), .own (114, s.g 114, 0), _, ?_, by rw [selN_yes h8, map1_app], rfl, by simpa using hu, fun j hj => ?_, fun j hj => ?_, ?_, ?_, rfl, rfl⟩
        · rw [sel_yes h8, List.map_append, List.map_append, List.map_singleton, List.map_singleton, fe]
          rfl
        · rw [set_at hul]
          split
          · rename_i e
            rw [e, rkO, if_pos h8, rk_nat]
          · exact ual j (by omega)
        · rw [set_at hul, if_neg (by omega)]
          exact ures j (by omega)
        all_goals simp (dsimp := false) (maxDischargeDepth := 16) only [go_sem, ↓reduceIte, reduceCtorEq, Nat.reduceEqDiff, Nat.reduceAdd, Nat.reduceMul, Nat.reduceSub, Nat.reduceLT, Nat.reduceLeDiff, Nat.reducePow, Int.reduceLT, Int.reduceLE, Int.reduceNeg, Int.reduceToNat, a3, a4, k34, q2]
      | false =>
        simp (dsimp := false) (maxDischargeDepth := 16) only [go_sem, ↓reduceIte, reduceCtorEq, Nat.reduceEqDiff, Nat.reduceAdd, Nat.reduceMul, Nat.reduceSub, Nat.reduceLT, Nat.reduceLeDiff, Nat.reducePow, Int.reduceLT, Int.reduceLE, Int.reduceNeg, Int.reduceToNat, t4, b4, t5, b5, t6, b6, t7, b7, t8, b8, t11, t12, t13, b13, t14, t15, b32, t17, b11, b12, b36, h6]
        refine ⟨i + 1, by omega, by omega, by rw [wrapN _ (by omega)], k3, k4, us, by rw [sel_no h8], by rw [selN_no h8], rfl, hu, fun j hj => ?_, fun j hj => ures j (by omega), a3, a4, i3, i4⟩
        by_cases hji : j = i
        · rw [hji, ures i (by omega), rkO, if_neg (by rw [h8]; decide)]
        · exact ual j (by omega)
    · have hin : i = b.e.length := by omega
      rw [hin] at ual b11 b12
      have T1 := tab zs hall
      have T2 := tae us ual
      have D1 := c94 m.n zs (by omega) (fun x hx => by have := rn x hx; omega)
      have D2 := c94 m.e us (by omega) (fun x hx => by have := re x hx; omega)
      rw [T1] at D1
      rw [T2] at D2
      simp (dsimp := false) (maxDischargeDepth := 16) only [go_sem, ↓reduceIte, reduceCtorEq, Nat.reduceEqDiff, Nat.reduceAdd, Nat.reduceMul, Nat.reduceSub, Nat.reduceLT, Nat.reduceLeDiff, Nat.reducePow, Int.reduceLT, Int.reduceLE, Int.reduceNeg, Int.reduceToNat, t4, b4, t5, b5, t6, b6, t7, b7, t8, b8, t11, t12, t13, b13, t14, t15, b32, t17, b11, b12, b36, h6, bi_len, hz, hu]
      refine callK_intro D1 ?_
      simp (dsimp := false) (maxDischargeDepth := 16) only [go_sem, ↓reduceIte, reduceCtorEq, Nat.reduceEqDiff, Nat.reduceAdd, Nat.reduceMul, Nat.reduceSub, Nat.reduceLT, Nat.reduceLeDiff, Nat.reducePow, Int.reduceLT, Int.reduceLE, Int.reduceNeg, Int.reduceToNat, t4, b4, t5, b5, t6, b6, t7, b7, t8, b8, t11, t12, t13, b13, t14, t15, b32, t17, b11, b12, b36, h6, bi_len, hz, hu]
      refine callK_intro D2 ?_
      simp (dsimp := false) (maxDischargeDepth := 16) only [go_sem, ↓reduceIte, reduceCtorEq, Nat.reduceEqDiff, Nat.reduceAdd, Nat.reduceMul, Nat.reduceSub, Nat.reduceLT, Nat.reduceLeDiff, Nat.reducePow, Int.reduceLT, Int.reduceLE, Int.reduceNeg, Int.reduceToNat, t4, b4, t5, b5, t6, b6, t7, b7, t8, b8, t11, t12, t13, b13, t14, t15, b32, t17, b11, b12, b36, h6, bi_len, hz, hu]
      exact ⟨rfl, finK ⟨rfl, rfl⟩⟩
end Go.Sy
