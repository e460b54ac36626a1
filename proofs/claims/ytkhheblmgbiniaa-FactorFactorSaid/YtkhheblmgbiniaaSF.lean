/- FactorComplete: the law's contract. -/
import Derived.Test.YtkhheblmgbiniaaSC
import Derived.Test.YtkhheblmgbiniaaSE
set_option linter.unusedSimpArgs false
namespace Go.Sy
open Go Go.Proofs

theorem c90 (l : List Ov) (f : FuncId) (caps : List AV) (p : Ov → Bool) (hl : l.length ≤ 1000000) (hp : ∀ x ∈ l, Con Try.prog f (ov x :: caps) 0 (bv (p x))) : Con Try.prog 90 [olv l, .clo f caps] 0 (iv (idxP p l)) := by
  refine conT (X := []) (rs := [.tmp 4]) Try.func90 (by kernel_rfl) rfl rfl (by kernel_rfl) ?_
  simp (dsimp := false) (maxDischargeDepth := 16) only [go_sem, ↓reduceIte, reduceCtorEq, Nat.reduceEqDiff, Nat.reduceAdd, Nat.reduceMul, Nat.reduceSub, Nat.reduceLT, Nat.reduceLeDiff, Nat.reducePow, Int.reduceLT, Int.reduceLE, Int.reduceNeg, Int.reduceToNat]
  refine loopK_intro (fun (i : Nat) s => i ≤ l.length ∧ s.t 0 = olv l ∧ s.t 1 = .clo f caps ∧ s.t 7 = iv l.length ∧ s.t 8 = iv i ∧ ∀ y ∈ l.take i, p y = false) (fun i => l.length - i) ⟨0, by omega, rfl, rfl, rfl, rfl, fun j hj => by simp at hj⟩ ?_
  rintro i s ⟨hi, h0, h1, h7, h8, hn⟩
  simp (dsimp := false) (maxDischargeDepth := 16) only [go_sem, ↓reduceIte, reduceCtorEq, Nat.reduceEqDiff, Nat.reduceAdd, Nat.reduceMul, Nat.reduceSub, Nat.reduceLT, Nat.reduceLeDiff, Nat.reducePow, Int.reduceLT, Int.reduceLE, Int.reduceNeg, Int.reduceToNat, h0, h1, h7, h8]
  refine condK_dec (fun h6 => ?_) (fun h6 => ?_)
  · simp (dsimp := false) (maxDischargeDepth := 16) only [go_sem, ↓reduceIte, reduceCtorEq, Nat.reduceEqDiff, Nat.reduceAdd, Nat.reduceMul, Nat.reduceSub, Nat.reduceLT, Nat.reduceLeDiff, Nat.reducePow, Int.reduceLT, Int.reduceLE, Int.reduceNeg, Int.reduceToNat, h0, h1, h7, h8, h6, idx_nat]
    refine callK_intro (hp _ (List.getElem_mem h6)) ?_
    simp (dsimp := false) (maxDischargeDepth := 16) only [go_sem, ↓reduceIte, reduceCtorEq, Nat.reduceEqDiff, Nat.reduceAdd, Nat.reduceMul, Nat.reduceSub, Nat.reduceLT, Nat.reduceLeDiff, Nat.reducePow, Int.reduceLT, Int.reduceLE, Int.reduceNeg, Int.reduceToNat, h0, h1, h7, h8, h6]
    refine condK_intro (fun h9 => ?_) (fun h9 => ?_)
    · simp (dsimp := false) (maxDischargeDepth := 16) only [go_sem, ↓reduceIte, reduceCtorEq, Nat.reduceEqDiff, Nat.reduceAdd, Nat.reduceMul, Nat.reduceSub, Nat.reduceLT, Nat.reduceLeDiff, Nat.reducePow, Int.reduceLT, Int.reduceLE, Int.reduceNeg, Int.reduceToNat, h0, h1, h7, h8, h6, h9]
      exact finI (idxP_hit h6 hn h9)
    · simp (dsimp := false) (maxDischargeDepth := 16) only [go_sem, ↓reduceIte, reduceCtorEq, Nat.reduceEqDiff, Nat.reduceAdd, Nat.reduceMul, Nat.reduceSub, Nat.reduceLT, Nat.reduceLeDiff, Nat.reducePow, Int.reduceLT, Int.reduceLE, Int.reduceNeg, Int.reduceToNat, h0, h1, h7, h8, h6, h9]
      exact ⟨i + 1, by omega, by omega, by rw [wrapN _ (by omega)], take_all h6 hn h9⟩
  · simp (dsimp := false) (maxDischargeDepth := 16) only [go_sem, ↓reduceIte, reduceCtorEq, Nat.reduceEqDiff, Nat.reduceAdd, Nat.reduceMul, Nat.reduceSub, Nat.reduceLT, Nat.reduceLeDiff, Nat.reducePow, Int.reduceLT, Int.reduceLE, Int.reduceNeg, Int.reduceToNat, h0, h1, h7, h8, h6]
    exact finI (idxP_none (take_full h6 hn))
theorem c43 (l : List Ov) (f : FuncId) (caps : List AV) (p : Ov → Bool) (hl : l.length ≤ 1000000) (hp : ∀ x ∈ l, Con Try.prog f (ov x :: caps) 0 (bv (p x))) : Con Try.prog 43 [olv l, .clo f caps] 0 (bv (l.any p)) := by
  refine conT (X := []) (rs := [.tmp 4]) Try.func43 (by kernel_rfl) rfl rfl (by kernel_rfl) ?_
  simp (dsimp := false) (maxDischargeDepth := 16) only [go_sem, ↓reduceIte, reduceCtorEq, Nat.reduceEqDiff, Nat.reduceAdd, Nat.reduceMul, Nat.reduceSub, Nat.reduceLT, Nat.reduceLeDiff, Nat.reducePow, Int.reduceLT, Int.reduceLE, Int.reduceNeg, Int.reduceToNat]
  refine callK_intro (c90 l f caps p hl hp) ?_
  simp (dsimp := false) (maxDischargeDepth := 16) only [go_sem, ↓reduceIte, reduceCtorEq, Nat.reduceEqDiff, Nat.reduceAdd, Nat.reduceMul, Nat.reduceSub, Nat.reduceLT, Nat.reduceLeDiff, Nat.reducePow, Int.reduceLT, Int.reduceLE, Int.reduceNeg, Int.reduceToNat]
  refine finB ?_
  rw [Bool.eq_iff_iff, ← idxP_any]
  simp
theorem c44 (x o : Ov) : Con Try.prog 44 [ov x, .ptr (ocs o)] 0 (bv (decide (x = o))) := by
  refine conT (X := []) (rs := [.tmp 3]) Try.func44 (by kernel_rfl) rfl rfl (by kernel_rfl) ?_
  simp (dsimp := false) (maxDischargeDepth := 16) only [go_sem, ↓reduceIte, reduceCtorEq, Nat.reduceEqDiff, Nat.reduceAdd, Nat.reduceMul, Nat.reduceSub, Nat.reduceLT, Nat.reduceLeDiff, Nat.reducePow, Int.reduceLT, Int.reduceLE, Int.reduceNeg, Int.reduceToNat]
  refine callK_intro (c32 x o) ?_
  simp (dsimp := false) (maxDischargeDepth := 16) only [go_sem, ↓reduceIte, reduceCtorEq, Nat.reduceEqDiff, Nat.reduceAdd, Nat.reduceMul, Nat.reduceSub, Nat.reduceLT, Nat.reduceLeDiff, Nat.reducePow, Int.reduceLT, Int.reduceLE, Int.reduceNeg, Int.reduceToNat]
  exact finB rfl
/-! ### What is chosen is a part -/
theorem sel_mem {p : Nat → Bool} {n j : Nat} : j ∈ sel p n ↔ j < n ∧ p j = true := by simp [sel]
theorem sel_nodup (p : Nat → Bool) (n : Nat) : (sel p n).Nodup := (List.filter_sublist).nodup List.nodup_range
theorem sel_le (p : Nat → Bool) (n : Nat) : (sel p n).length ≤ n := by
  have := List.length_filter_le p (List.range n)
  simpa [sel] using this
theorem sel_place {p : Nat → Bool} {j : Nat} (hp : p j = true) : ∀ {n : Nat}, j < n → (sel p n)[(sel p j).length]? = some j
  | n + 1, hj => by
    by_cases hjn : j = n
    · subst hjn
      rw [sel_yes hp]
      simp
    · have ih := sel_place hp (n := n) (by omega)
      have hlt := (List.getElem?_eq_some_iff.1 ih).1
      by_cases hn : p n = true
      · rw [sel_yes hn, List.getElem?_append_left hlt]
        exact ih
      · rw [sel_no (by simpa using hn)]
        exact ih
theorem atv_place {p : Nat → Bool} {j n : Nat} (h : 0 ≤ atv p j) (hj : j < n) : atv p j < (sel p n).length ∧ (selN p n).getD (atv p j).toNat 0 = (j : Int) := by
  by_cases hp : p j = true
  · have e : atv p j = ((sel p j).length : Int) := if_pos hp
    have h1 := sel_place hp hj
    have h2 := (List.getElem?_eq_some_iff.1 h1).1
    rw [e]
    refine ⟨by omega, ?_⟩
    rw [Int.toNat_natCast, List.getD_eq_getElem?_getD, selN, List.getElem?_map, h1]
    rfl
  · rw [atv, if_neg hp] at h
    omega
theorem selN_dist (p : Nat → Bool) (n : Nat) : dist (selN p n) = true := by
  rw [dist_nodup, selN, List.Nodup, List.pairwise_map]
  exact (sel_nodup p n).imp fun h e => h (by omega)
theorem chR_ok {g : Gr} (hg : gErr g = 0) (p q : Nat → Bool) : injR (chR g p q).1 g (chR g p q).2 = true := by
  have gs := gErr_small hg
  have l1 : (chR g p q).1.n.length = (sel p g.n.length).length := by simp [chR]
  have l2 : (chR g p q).1.e.length = (sel (eok g p q) g.e.length).length := by simp [chR]
  have s1 := sel_le p g.n.length
  have s2 := sel_le (eok g p q) g.e.length
  have hv : gErr (chR g p q).1 = 0 := by
    rw [gErr, if_pos (by omega), if_pos]
    refine ⟨fun t ht => ?_, fun x hx => ?_⟩
    · obtain ⟨j, hj, rfl⟩ := List.mem_map.1 ht
      have := (sel_mem.1 hj).1
      rw [getD_at this]
      exact gs.2.1 _ (List.getElem_mem this)
    · obtain ⟨j, hj, rfl⟩ := List.mem_map.1 hx
      obtain ⟨j1, j2⟩ := sel_mem.1 hj
      simp only [eok, Bool.and_eq_true, decide_eq_true_eq] at j2
      have r := edge_in hg j1
      have t := gs.2.2 _ (List.getElem_mem j1)
      have a1 := atv_place (n := g.n.length) j2.2.1 (by omega)
      have a2 := atv_place (n := g.n.length) j2.2.2 (by omega)
      unfold eat edOK
      rw [getD_at j1] at *
      rw [l1]
      exact ⟨t.1, j2.2.1, a1.1, j2.2.2, a2.1⟩
  have nat : ∀ i, i < (sel p g.n.length).length → ∃ j, j < g.n.length ∧ (selN p g.n.length).getD i 0 = (j : Int) ∧ (chR g p q).1.n.getD i 0 = g.n.getD j 0 := fun i hi => by
    refine ⟨(sel p g.n.length)[i], (sel_mem.1 (List.getElem_mem hi)).1, ?_, ?_⟩
    · rw [getD_at (by rw [selN_len]; exact hi)]
      simp [selN]
    · rw [getD_at (by rw [l1]; exact hi)]
      simp [chR]
  have hm : mErr (chR g p q).1 g (chR g p q).2 = 0 := by
    refine mErr_zero hv hg ?_ ?_ (fun i hi => ?_) (fun i hi => ?_)
    · show (selN p g.n.length).length = _
      rw [selN_len, l1]
    · show (selN (eok g p q) g.e.length).length = _
      rw [selN_len, l2]
    · obtain ⟨j, j1, j2, j3⟩ := nat i (by omega)
      have e : (chR g p q).2.n.getD i 0 = (j : Int) := j2
      rw [nodeErr, e, if_neg (by omega), j3, Int.toNat_natCast, if_neg (by simp)]
    · have hi' : i < (sel (eok g p q) g.e.length).length := by omega
      have hj := sel_mem.1 (List.getElem_mem hi')
      have e1 : (chR g p q).2.e.getD i 0 = (((sel (eok g p q) g.e.length)[i] : Nat) : Int) := by
        show (selN (eok g p q) g.e.length).getD i 0 = _
        rw [getD_at (by rw [selN_len]; exact hi')]
        simp [selN]
      have e2 : (chR g p q).1.e.getD i (0, 0, 0) = eat g p (sel (eok g p q) g.e.length)[i] := by
        rw [getD_at hi]
        simp [chR]
      generalize (sel (eok g p q) g.e.length)[i] = j at *
      obtain ⟨j1, j2⟩ := hj
      simp only [eok, Bool.and_eq_true, decide_eq_true_eq] at j2
      have r := edge_in hg j1
      have a1 := (atv_place (n := g.n.length) j2.2.1 (by omega)).2
      have a2 := (atv_place (n := g.n.length) j2.2.2 (by omega)).2
      have b1 : (chR g p q).2.n.getD (atv p (g.e.getD j (0, 0, 0)).2.1.toNat).toNat 0 = (g.e.getD j (0, 0, 0)).2.1 := by
        show (selN p g.n.length).getD _ 0 = _
        rw [a1]; omega
      have b2 : (chR g p q).2.n.getD (atv p (g.e.getD j (0, 0, 0)).2.2.toNat).toNat 0 = (g.e.getD j (0, 0, 0)).2.2 := by
        show (selN p g.n.length).getD _ 0 = _
        rw [a2]; omega
      rw [edgeErr, e1, e2, if_neg (by omega), Int.toNat_natCast]
      unfold eat
      dsimp only
      rw [b1, b2, if_neg (by simp), if_neg (by simp)]
  have d1 : dist (chR g p q).2.n = true := selN_dist _ _
  have d2 : dist (chR g p q).2.e = true := selN_dist _ _
  rw [injR, hm, d1, d2]
  rfl
set_option maxHeartbeats 2000000 in
theorem c9 (d : Dr) (u v : Int) (hd : drOK d) : Con Try.prog 9 [dv d, u16 u, u16 v] 0 (bv true) := by
  have H1 := c29 d 6 5
  have H2 := c30 d hd
  obtain ⟨vg, ng, eg⟩ := made_ok hd
  generalize made d = g at *
  have H3 := c42 g u vg
  have H4 := c42 g v vg
  have i1 := chR_ok vg (btv u) fun j => btv u (8 + j)
  have i2 := chR_ok vg (btv v) fun j => btv v (8 + j)
  have n1 : (chR g (btv u) fun j => btv u (8 + j)).1.e.length ≤ 10 := by have := sel_le (eok g (btv u) fun j => btv u (8 + j)) g.e.length; simp [chR]; omega
  have n2 : (chR g (btv v) fun j => btv v (8 + j)).1.e.length ≤ 10 := by have := sel_le (eok g (btv v) fun j => btv v (8 + j)) g.e.length; simp [chR]; omega
  generalize (chR g (btv u) fun j => btv u (8 + j)) = A at *
  generalize (chR g (btv v) fun j => btv v (8 + j)) = B at *
  obtain ⟨a, h⟩ := A
  obtain ⟨b, k⟩ := B
  dsimp only at i1 i2 n1 n2 H3 H4
  have H5 := c33 a b g h k
  have e5 : thrR a b g h k = (glue a b (plc h.n k.n) (plc h.e k.e), rst h k (plc h.n k.n) (plc h.e k.e), 0) := by
    rw [thrR, if_neg (by simp [(injR_dist i1).1]), if_neg (by simp [(injR_dist i2).1]), i1, i2]
    rfl
  rw [e5] at H5
  have hM := thru_isM i1 i2
  have va := (mErr_ok (injR_dist i1).1).1
  have vb := (mErr_ok (injR_dist i2).1).1
  have H6 := c18 a b
  have hin := (memP a b (plc h.n k.n, plc h.e k.e)).2 hM
  have e6 := fun hs => ovS_eq (a := a) (b := b) va vb hs
  generalize hO : glue a b (plc h.n k.n) (plc h.e k.e) = O at *
  generalize rst h k (plc h.n k.n) (plc h.e k.e) = R at *
  clear i1 i2 hM e5 va vb
  generalize smallD d 6 5 = D at *
  cases D with
  | false =>
    refine conT (X := [(12, [12], [])]) (rs := [.tmp 6]) Try.func9 (by kernel_rfl) rfl rfl (by kernel_rfl) ?_
    simp (dsimp := false) (maxDischargeDepth := 16) only [go_sem, ↓reduceIte, reduceCtorEq, Nat.reduceEqDiff, Nat.reduceAdd, Nat.reduceMul, Nat.reduceSub, Nat.reduceLT, Nat.reduceLeDiff, Nat.reducePow, Int.reduceLT, Int.reduceLE, Int.reduceNeg, Int.reduceToNat]
    refine callK_intro c16 ?_
    simp (dsimp := false) (maxDischargeDepth := 16) only [go_sem, ↓reduceIte, reduceCtorEq, Nat.reduceEqDiff, Nat.reduceAdd, Nat.reduceMul, Nat.reduceSub, Nat.reduceLT, Nat.reduceLeDiff, Nat.reducePow, Int.reduceLT, Int.reduceLE, Int.reduceNeg, Int.reduceToNat]
    refine callK_intro H1 ?_
    simp (dsimp := false) (maxDischargeDepth := 16) only [go_sem, ↓reduceIte, reduceCtorEq, Nat.reduceEqDiff, Nat.reduceAdd, Nat.reduceMul, Nat.reduceSub, Nat.reduceLT, Nat.reduceLeDiff, Nat.reducePow, Int.reduceLT, Int.reduceLE, Int.reduceNeg, Int.reduceToNat]
    refine callK_intro c16 ?_
    simp (dsimp := false) (maxDischargeDepth := 16) only [go_sem, ↓reduceIte, reduceCtorEq, Nat.reduceEqDiff, Nat.reduceAdd, Nat.reduceMul, Nat.reduceSub, Nat.reduceLT, Nat.reduceLeDiff, Nat.reducePow, Int.reduceLT, Int.reduceLE, Int.reduceNeg, Int.reduceToNat]
    exact finB rfl
  | true =>
  by_cases q1 : a.n.length ≤ 4
  rotate_left
  · have q1' : (4 : Int) < a.n.length := by omega
    refine conT (X := [(12, [12], [])]) (rs := [.tmp 6]) Try.func9 (by kernel_rfl) rfl rfl (by kernel_rfl) ?_
    simp (dsimp := false) (maxDischargeDepth := 16) only [go_sem, ↓reduceIte, reduceCtorEq, Nat.reduceEqDiff, Nat.reduceAdd, Nat.reduceMul, Nat.reduceSub, Nat.reduceLT, Nat.reduceLeDiff, Nat.reducePow, Int.reduceLT, Int.reduceLE, Int.reduceNeg, Int.reduceToNat]
    refine callK_intro c16 ?_
    simp (dsimp := false) (maxDischargeDepth := 16) only [go_sem, ↓reduceIte, reduceCtorEq, Nat.reduceEqDiff, Nat.reduceAdd, Nat.reduceMul, Nat.reduceSub, Nat.reduceLT, Nat.reduceLeDiff, Nat.reducePow, Int.reduceLT, Int.reduceLE, Int.reduceNeg, Int.reduceToNat]
    refine callK_intro H1 ?_
    simp (dsimp := false) (maxDischargeDepth := 16) only [go_sem, ↓reduceIte, reduceCtorEq, Nat.reduceEqDiff, Nat.reduceAdd, Nat.reduceMul, Nat.reduceSub, Nat.reduceLT, Nat.reduceLeDiff, Nat.reducePow, Int.reduceLT, Int.reduceLE, Int.reduceNeg, Int.reduceToNat]
    refine callK_intro H2 ?_
    simp (dsimp := false) (maxDischargeDepth := 16) only [go_sem, ↓reduceIte, reduceCtorEq, Nat.reduceEqDiff, Nat.reduceAdd, Nat.reduceMul, Nat.reduceSub, Nat.reduceLT, Nat.reduceLeDiff, Nat.reducePow, Int.reduceLT, Int.reduceLE, Int.reduceNeg, Int.reduceToNat]
    refine callK_intro H3 ?_
    simp (dsimp := false) (maxDischargeDepth := 16) only [go_sem, ↓reduceIte, reduceCtorEq, Nat.reduceEqDiff, Nat.reduceAdd, Nat.reduceMul, Nat.reduceSub, Nat.reduceLT, Nat.reduceLeDiff, Nat.reducePow, Int.reduceLT, Int.reduceLE, Int.reduceNeg, Int.reduceToNat]
    refine callK_intro H4 ?_
    simp (dsimp := false) (maxDischargeDepth := 16) only [go_sem, ↓reduceIte, reduceCtorEq, Nat.reduceEqDiff, Nat.reduceAdd, Nat.reduceMul, Nat.reduceSub, Nat.reduceLT, Nat.reduceLeDiff, Nat.reducePow, Int.reduceLT, Int.reduceLE, Int.reduceNeg, Int.reduceToNat, q1']
    exact finB rfl
  by_cases q2 : b.n.length ≤ 4
  rotate_left
  · have q1' : ¬ ((a.n.length : Int) > 4) := by omega
    have q2' : ((b.n.length : Int) > 4) := by omega
    refine conT (X := [(12, [12], [])]) (rs := [.tmp 6]) Try.func9 (by kernel_rfl) rfl rfl (by kernel_rfl) ?_
    simp (dsimp := false) (maxDischargeDepth := 16) only [go_sem, ↓reduceIte, reduceCtorEq, Nat.reduceEqDiff, Nat.reduceAdd, Nat.reduceMul, Nat.reduceSub, Nat.reduceLT, Nat.reduceLeDiff, Nat.reducePow, Int.reduceLT, Int.reduceLE, Int.reduceNeg, Int.reduceToNat]
    refine callK_intro c16 ?_
    simp (dsimp := false) (maxDischargeDepth := 16) only [go_sem, ↓reduceIte, reduceCtorEq, Nat.reduceEqDiff, Nat.reduceAdd, Nat.reduceMul, Nat.reduceSub, Nat.reduceLT, Nat.reduceLeDiff, Nat.reducePow, Int.reduceLT, Int.reduceLE, Int.reduceNeg, Int.reduceToNat]
    refine callK_intro H1 ?_
    simp (dsimp := false) (maxDischargeDepth := 16) only [go_sem, ↓reduceIte, reduceCtorEq, Nat.reduceEqDiff, Nat.reduceAdd, Nat.reduceMul, Nat.reduceSub, Nat.reduceLT, Nat.reduceLeDiff, Nat.reducePow, Int.reduceLT, Int.reduceLE, Int.reduceNeg, Int.reduceToNat]
    refine callK_intro H2 ?_
    simp (dsimp := false) (maxDischargeDepth := 16) only [go_sem, ↓reduceIte, reduceCtorEq, Nat.reduceEqDiff, Nat.reduceAdd, Nat.reduceMul, Nat.reduceSub, Nat.reduceLT, Nat.reduceLeDiff, Nat.reducePow, Int.reduceLT, Int.reduceLE, Int.reduceNeg, Int.reduceToNat]
    refine callK_intro H3 ?_
    simp (dsimp := false) (maxDischargeDepth := 16) only [go_sem, ↓reduceIte, reduceCtorEq, Nat.reduceEqDiff, Nat.reduceAdd, Nat.reduceMul, Nat.reduceSub, Nat.reduceLT, Nat.reduceLeDiff, Nat.reducePow, Int.reduceLT, Int.reduceLE, Int.reduceNeg, Int.reduceToNat]
    refine callK_intro H4 ?_
    simp (dsimp := false) (maxDischargeDepth := 16) only [go_sem, ↓reduceIte, reduceCtorEq, Nat.reduceEqDiff, Nat.reduceAdd, Nat.reduceMul, Nat.reduceSub, Nat.reduceLT, Nat.reduceLeDiff, Nat.reducePow, Int.reduceLT, Int.reduceLE, Int.reduceNeg, Int.reduceToNat]
    refine condK_dec (fun q3 => absurd q3 q1') (fun q3 => ?_)
    simp (dsimp := false) (maxDischargeDepth := 16) only [go_sem, ↓reduceIte, reduceCtorEq, Nat.reduceEqDiff, Nat.reduceAdd, Nat.reduceMul, Nat.reduceSub, Nat.reduceLT, Nat.reduceLeDiff, Nat.reducePow, Int.reduceLT, Int.reduceLE, Int.reduceNeg, Int.reduceToNat, q3]
    refine condK_dec (fun q4 => ?_) (fun q4 => absurd q2' q4)
    simp (dsimp := false) (maxDischargeDepth := 16) only [go_sem, ↓reduceIte, reduceCtorEq, Nat.reduceEqDiff, Nat.reduceAdd, Nat.reduceMul, Nat.reduceSub, Nat.reduceLT, Nat.reduceLeDiff, Nat.reducePow, Int.reduceLT, Int.reduceLE, Int.reduceNeg, Int.reduceToNat, q3, q4]
    exact finB rfl
  have q1' : ¬ ((a.n.length : Int) > 4) := by omega
  have q2' : ¬ ((b.n.length : Int) > 4) := by omega
  have e6 := e6 (by omega)
  by_cases hbig : 2000 < (ovP a b).length
  · rw [if_pos hbig] at e6
    rw [e6] at H6
    refine conT (X := [(12, [12], [])]) (rs := [.tmp 6]) Try.func9 (by kernel_rfl) rfl rfl (by kernel_rfl) ?_
    simp (dsimp := false) (maxDischargeDepth := 16) only [go_sem, ↓reduceIte, reduceCtorEq, Nat.reduceEqDiff, Nat.reduceAdd, Nat.reduceMul, Nat.reduceSub, Nat.reduceLT, Nat.reduceLeDiff, Nat.reducePow, Int.reduceLT, Int.reduceLE, Int.reduceNeg, Int.reduceToNat]
    refine callK_intro c16 ?_
    simp (dsimp := false) (maxDischargeDepth := 16) only [go_sem, ↓reduceIte, reduceCtorEq, Nat.reduceEqDiff, Nat.reduceAdd, Nat.reduceMul, Nat.reduceSub, Nat.reduceLT, Nat.reduceLeDiff, Nat.reducePow, Int.reduceLT, Int.reduceLE, Int.reduceNeg, Int.reduceToNat]
    refine callK_intro H1 ?_
    simp (dsimp := false) (maxDischargeDepth := 16) only [go_sem, ↓reduceIte, reduceCtorEq, Nat.reduceEqDiff, Nat.reduceAdd, Nat.reduceMul, Nat.reduceSub, Nat.reduceLT, Nat.reduceLeDiff, Nat.reducePow, Int.reduceLT, Int.reduceLE, Int.reduceNeg, Int.reduceToNat]
    refine callK_intro H2 ?_
    simp (dsimp := false) (maxDischargeDepth := 16) only [go_sem, ↓reduceIte, reduceCtorEq, Nat.reduceEqDiff, Nat.reduceAdd, Nat.reduceMul, Nat.reduceSub, Nat.reduceLT, Nat.reduceLeDiff, Nat.reducePow, Int.reduceLT, Int.reduceLE, Int.reduceNeg, Int.reduceToNat]
    refine callK_intro H3 ?_
    simp (dsimp := false) (maxDischargeDepth := 16) only [go_sem, ↓reduceIte, reduceCtorEq, Nat.reduceEqDiff, Nat.reduceAdd, Nat.reduceMul, Nat.reduceSub, Nat.reduceLT, Nat.reduceLeDiff, Nat.reducePow, Int.reduceLT, Int.reduceLE, Int.reduceNeg, Int.reduceToNat]
    refine callK_intro H4 ?_
    simp (dsimp := false) (maxDischargeDepth := 16) only [go_sem, ↓reduceIte, reduceCtorEq, Nat.reduceEqDiff, Nat.reduceAdd, Nat.reduceMul, Nat.reduceSub, Nat.reduceLT, Nat.reduceLeDiff, Nat.reducePow, Int.reduceLT, Int.reduceLE, Int.reduceNeg, Int.reduceToNat]
    refine condK_dec (fun q3 => absurd q3 q1') (fun q3 => ?_)
    simp (dsimp := false) (maxDischargeDepth := 16) only [go_sem, ↓reduceIte, reduceCtorEq, Nat.reduceEqDiff, Nat.reduceAdd, Nat.reduceMul, Nat.reduceSub, Nat.reduceLT, Nat.reduceLeDiff, Nat.reducePow, Int.reduceLT, Int.reduceLE, Int.reduceNeg, Int.reduceToNat, q3]
    refine condK_dec (fun q4 => absurd q4 q2') (fun q4 => ?_)
    simp (dsimp := false) (maxDischargeDepth := 16) only [go_sem, ↓reduceIte, reduceCtorEq, Nat.reduceEqDiff, Nat.reduceAdd, Nat.reduceMul, Nat.reduceSub, Nat.reduceLT, Nat.reduceLeDiff, Nat.reducePow, Int.reduceLT, Int.reduceLE, Int.reduceNeg, Int.reduceToNat, q3, q4]
    refine callK_intro H5 ?_
    simp (dsimp := false) (maxDischargeDepth := 16) only [go_sem, ↓reduceIte, reduceCtorEq, Nat.reduceEqDiff, Nat.reduceAdd, Nat.reduceMul, Nat.reduceSub, Nat.reduceLT, Nat.reduceLeDiff, Nat.reducePow, Int.reduceLT, Int.reduceLE, Int.reduceNeg, Int.reduceToNat, q3, q4]
    refine callK_intro H6 ?_
    simp (dsimp := false) (maxDischargeDepth := 16) only [go_sem, ↓reduceIte, reduceCtorEq, Nat.reduceEqDiff, Nat.reduceAdd, Nat.reduceMul, Nat.reduceSub, Nat.reduceLT, Nat.reduceLeDiff, Nat.reducePow, Int.reduceLT, Int.reduceLE, Int.reduceNeg, Int.reduceToNat, q3, q4]
    refine condK_intro (fun q5 => absurd q5 (by decide)) (fun q5 => ?_)
    simp (dsimp := false) (maxDischargeDepth := 16) only [go_sem, ↓reduceIte, reduceCtorEq, Nat.reduceEqDiff, Nat.reduceAdd, Nat.reduceMul, Nat.reduceSub, Nat.reduceLT, Nat.reduceLeDiff, Nat.reducePow, Int.reduceLT, Int.reduceLE, Int.reduceNeg, Int.reduceToNat, q3, q4, q5]
    refine condK_intro (fun q6 => ?_) (fun q6 => absurd q6 (by decide))
    simp (dsimp := false) (maxDischargeDepth := 16) only [go_sem, ↓reduceIte, reduceCtorEq, Nat.reduceEqDiff, Nat.reduceAdd, Nat.reduceMul, Nat.reduceSub, Nat.reduceLT, Nat.reduceLeDiff, Nat.reducePow, Int.reduceLT, Int.reduceLE, Int.reduceNeg, Int.reduceToNat, q3, q4, q5, q6]
    refine condK_intro (fun q7 => ?_) (fun q7 => absurd q7 (by decide))
    simp (dsimp := false) (maxDischargeDepth := 16) only [go_sem, ↓reduceIte, reduceCtorEq, Nat.reduceEqDiff, Nat.reduceAdd, Nat.reduceMul, Nat.reduceSub, Nat.reduceLT, Nat.reduceLeDiff, Nat.reducePow, Int.reduceLT, Int.reduceLE, Int.reduceNeg, Int.reduceToNat, q3, q4, q5, q6, q7]
    exact finB rfl
  · rw [if_neg hbig] at e6
    rw [e6] at H6
    have H7 := c43 ((ovP a b).map fun p => glue a b p.1 p.2) 44 [.ptr (ocs O)] (fun x => decide (x = O)) (by simp; omega) (fun x _ => c44 x O)
    have e7 : (((ovP a b).map fun p => glue a b p.1 p.2).any fun x => decide (x = O)) = true := by
      rw [List.any_eq_true]
      exact ⟨O, List.mem_map.2 ⟨_, hin, hO⟩, by simp⟩
    rw [e7] at H7
    generalize (ovP a b).map (fun p => glue a b p.1 p.2) = L at *
    refine conT (X := [(12, [12], [])]) (rs := [.tmp 6]) Try.func9 (by kernel_rfl) rfl rfl (by kernel_rfl) ?_
    simp (dsimp := false) (maxDischargeDepth := 16) only [go_sem, ↓reduceIte, reduceCtorEq, Nat.reduceEqDiff, Nat.reduceAdd, Nat.reduceMul, Nat.reduceSub, Nat.reduceLT, Nat.reduceLeDiff, Nat.reducePow, Int.reduceLT, Int.reduceLE, Int.reduceNeg, Int.reduceToNat]
    refine callK_intro c16 ?_
    simp (dsimp := false) (maxDischargeDepth := 16) only [go_sem, ↓reduceIte, reduceCtorEq, Nat.reduceEqDiff, Nat.reduceAdd, Nat.reduceMul, Nat.reduceSub, Nat.reduceLT, Nat.reduceLeDiff, Nat.reducePow, Int.reduceLT, Int.reduceLE, Int.reduceNeg, Int.reduceToNat]
    refine callK_intro H1 ?_
    simp (dsimp := false) (maxDischargeDepth := 16) only [go_sem, ↓reduceIte, reduceCtorEq, Nat.reduceEqDiff, Nat.reduceAdd, Nat.reduceMul, Nat.reduceSub, Nat.reduceLT, Nat.reduceLeDiff, Nat.reducePow, Int.reduceLT, Int.reduceLE, Int.reduceNeg, Int.reduceToNat]
    refine callK_intro H2 ?_
    simp (dsimp := false) (maxDischargeDepth := 16) only [go_sem, ↓reduceIte, reduceCtorEq, Nat.reduceEqDiff, Nat.reduceAdd, Nat.reduceMul, Nat.reduceSub, Nat.reduceLT, Nat.reduceLeDiff, Nat.reducePow, Int.reduceLT, Int.reduceLE, Int.reduceNeg, Int.reduceToNat]
    refine callK_intro H3 ?_
    simp (dsimp := false) (maxDischargeDepth := 16) only [go_sem, ↓reduceIte, reduceCtorEq, Nat.reduceEqDiff, Nat.reduceAdd, Nat.reduceMul, Nat.reduceSub, Nat.reduceLT, Nat.reduceLeDiff, Nat.reducePow, Int.reduceLT, Int.reduceLE, Int.reduceNeg, Int.reduceToNat]
    refine callK_intro H4 ?_
    simp (dsimp := false) (maxDischargeDepth := 16) only [go_sem, ↓reduceIte, reduceCtorEq, Nat.reduceEqDiff, Nat.reduceAdd, Nat.reduceMul, Nat.reduceSub, Nat.reduceLT, Nat.reduceLeDiff, Nat.reducePow, Int.reduceLT, Int.reduceLE, Int.reduceNeg, Int.reduceToNat]
    refine condK_dec (fun q3 => absurd q3 q1') (fun q3 => ?_)
    simp (dsimp := false) (maxDischargeDepth := 16) only [go_sem, ↓reduceIte, reduceCtorEq, Nat.reduceEqDiff, Nat.reduceAdd, Nat.reduceMul, Nat.reduceSub, Nat.reduceLT, Nat.reduceLeDiff, Nat.reducePow, Int.reduceLT, Int.reduceLE, Int.reduceNeg, Int.reduceToNat, q3]
    refine condK_dec (fun q4 => absurd q4 q2') (fun q4 => ?_)
    simp (dsimp := false) (maxDischargeDepth := 16) only [go_sem, ↓reduceIte, reduceCtorEq, Nat.reduceEqDiff, Nat.reduceAdd, Nat.reduceMul, Nat.reduceSub, Nat.reduceLT, Nat.reduceLeDiff, Nat.reducePow, Int.reduceLT, Int.reduceLE, Int.reduceNeg, Int.reduceToNat, q3, q4]
    refine callK_intro H5 ?_
    simp (dsimp := false) (maxDischargeDepth := 16) only [go_sem, ↓reduceIte, reduceCtorEq, Nat.reduceEqDiff, Nat.reduceAdd, Nat.reduceMul, Nat.reduceSub, Nat.reduceLT, Nat.reduceLeDiff, Nat.reducePow, Int.reduceLT, Int.reduceLE, Int.reduceNeg, Int.reduceToNat, q3, q4]
    refine callK_intro H6 ?_
    simp (dsimp := false) (maxDischargeDepth := 16) only [go_sem, ↓reduceIte, reduceCtorEq, Nat.reduceEqDiff, Nat.reduceAdd, Nat.reduceMul, Nat.reduceSub, Nat.reduceLT, Nat.reduceLeDiff, Nat.reducePow, Int.reduceLT, Int.reduceLE, Int.reduceNeg, Int.reduceToNat, q3, q4]
    refine condK_intro (fun q5 => absurd q5 (by decide)) (fun q5 => ?_)
    simp (dsimp := false) (maxDischargeDepth := 16) only [go_sem, ↓reduceIte, reduceCtorEq, Nat.reduceEqDiff, Nat.reduceAdd, Nat.reduceMul, Nat.reduceSub, Nat.reduceLT, Nat.reduceLeDiff, Nat.reducePow, Int.reduceLT, Int.reduceLE, Int.reduceNeg, Int.reduceToNat, q3, q4, q5]
    refine callK_intro H7 ?_
    simp (dsimp := false) (maxDischargeDepth := 16) only [go_sem, ↓reduceIte, reduceCtorEq, Nat.reduceEqDiff, Nat.reduceAdd, Nat.reduceMul, Nat.reduceSub, Nat.reduceLT, Nat.reduceLeDiff, Nat.reducePow, Int.reduceLT, Int.reduceLE, Int.reduceNeg, Int.reduceToNat, q3, q4, q5]
    exact finB rfl
end Go.Sy
