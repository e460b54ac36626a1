/- Contracts: the program's own glueing. -/
import Derived.Test.YtkhheblmgbiniaaW8
set_option linter.unusedSimpArgs false
namespace Go.Sy
open Go Go.Proofs

theorem c124 (g : Gr) (h : gErr g = 0) (hn : g.n.length ≤ 1000000) (he : g.e.length ≤ 1000000) : Con Try.prog 124 [gv g] 0 (.tup [mv ⟨rng g.n.length, rng g.e.length⟩, iv 0]) := by
  refine conT (X := []) (rs := [.cell 2 41, .tmp 3]) Try.func124 (by kernel_rfl) rfl rfl (by kernel_rfl) ?_
  simp (dsimp := false) (maxDischargeDepth := 16) only [go_sem, ↓reduceIte, reduceCtorEq, Nat.reduceEqDiff, Nat.reduceAdd, Nat.reduceMul, Nat.reduceSub, Nat.reduceLT, Nat.reduceLeDiff, Nat.reducePow, Int.reduceLT, Int.reduceLE, Int.reduceNeg, Int.reduceToNat]
  refine callK_intro (c61 g) ?_
  simp (dsimp := false) (maxDischargeDepth := 16) only [go_sem, ↓reduceIte, reduceCtorEq, Nat.reduceEqDiff, Nat.reduceAdd, Nat.reduceMul, Nat.reduceSub, Nat.reduceLT, Nat.reduceLeDiff, Nat.reducePow, Int.reduceLT, Int.reduceLE, Int.reduceNeg, Int.reduceToNat, h]
  refine condK_intro (fun h1 => absurd h1 (by decide)) (fun h1 => ?_)
  simp (dsimp := false) (maxDischargeDepth := 16) only [go_sem, ↓reduceIte, reduceCtorEq, Nat.reduceEqDiff, Nat.reduceAdd, Nat.reduceMul, Nat.reduceSub, Nat.reduceLT, Nat.reduceLeDiff, Nat.reducePow, Int.reduceLT, Int.reduceLE, Int.reduceNeg, Int.reduceToNat, h, h1]
  refine callK_intro (c149 _ hn) ?_
  simp (dsimp := false) (maxDischargeDepth := 16) only [go_sem, ↓reduceIte, reduceCtorEq, Nat.reduceEqDiff, Nat.reduceAdd, Nat.reduceMul, Nat.reduceSub, Nat.reduceLT, Nat.reduceLeDiff, Nat.reducePow, Int.reduceLT, Int.reduceLE, Int.reduceNeg, Int.reduceToNat, h, h1]
  refine callK_intro (c149 _ he) ?_
  simp (dsimp := false) (maxDischargeDepth := 16) only [go_sem, ↓reduceIte, reduceCtorEq, Nat.reduceEqDiff, Nat.reduceAdd, Nat.reduceMul, Nat.reduceSub, Nat.reduceLT, Nat.reduceLeDiff, Nat.reducePow, Int.reduceLT, Int.reduceLE, Int.reduceNeg, Int.reduceToNat, h, h1]
  exact finK ⟨rfl, rfl⟩
set_option maxHeartbeats 1000000 in
theorem c77 (a b : Gr) (nodes edges : List Int) (hv : gErr a = 0) (ha : a.n.length ≤ 1000) (hae : a.e.length ≤ 1000) (hn : nodes.length ≤ b.n.length) (he : edges.length ≤ b.e.length) (hb : b.n.length ≤ 1000) (hbe : b.e.length ≤ 1000)
    (hR : ∀ x ∈ b.e, 0 ≤ x.2.1 ∧ x.2.1 < nodes.length ∧ 0 ≤ x.2.2 ∧ x.2.2 < nodes.length) : Con Try.prog 77 [gv a, gv b, lv nodes, lv edges] 0 (ov (glue a b nodes edges)) := by
  refine conT (X := []) (rs := [.cell 8 43]) Try.func77 (by kernel_rfl) rfl rfl (by kernel_rfl) ?_
  simp (dsimp := false) (maxDischargeDepth := 16) only [go_sem, ↓reduceIte, reduceCtorEq, Nat.reduceEqDiff, Nat.reduceAdd, Nat.reduceMul, Nat.reduceSub, Nat.reduceLT, Nat.reduceLeDiff, Nat.reducePow, Int.reduceLT, Int.reduceLE, Int.reduceNeg, Int.reduceToNat]
  refine callK_intro (c124 a hv (by omega) (by omega)) ?_
  simp (dsimp := false) (maxDischargeDepth := 16) only [go_sem, ↓reduceIte, reduceCtorEq, Nat.reduceEqDiff, Nat.reduceAdd, Nat.reduceMul, Nat.reduceSub, Nat.reduceLT, Nat.reduceLeDiff, Nat.reducePow, Int.reduceLT, Int.reduceLE, Int.reduceNeg, Int.reduceToNat]
  refine callK_intro (c78 a.n (by omega)) ?_
  simp (dsimp := false) (maxDischargeDepth := 16) only [go_sem, ↓reduceIte, reduceCtorEq, Nat.reduceEqDiff, Nat.reduceAdd, Nat.reduceMul, Nat.reduceSub, Nat.reduceLT, Nat.reduceLeDiff, Nat.reducePow, Int.reduceLT, Int.reduceLE, Int.reduceNeg, Int.reduceToNat]
  refine callK_intro (c125 a.e (by omega)) ?_
  simp (dsimp := false) (maxDischargeDepth := 16) only [go_sem, ↓reduceIte, reduceCtorEq, Nat.reduceEqDiff, Nat.reduceAdd, Nat.reduceMul, Nat.reduceSub, Nat.reduceLT, Nat.reduceLeDiff, Nat.reducePow, Int.reduceLT, Int.reduceLE, Int.reduceNeg, Int.reduceToNat]
  refine loopK_intro (fun (i : Nat) s => i ≤ nodes.length ∧ s.t 3 = lv edges ∧ s.t 5 = .box (5, 0, 0) 0 ∧ s.b (5, 0, 0) = some ⟨gcs b, false⟩ ∧ s.t 8 = .box (8, 0, 0) 0 ∧ (∃ z1 z2 z3 z4 z5 z6, s.b (8, 0, 0) = some ⟨[z1, z2, z3, z4, z5, z6], false⟩) ∧
    s.t 11 = .box (11, 0, 0) 0 ∧ s.t 31 = lv nodes ∧ s.t 32 = iv nodes.length ∧ s.t 33 = iv i ∧ ∃ t1 t2 t3, s.b (11, 0, 0) = some ⟨[lvT (gN a.n b.n nodes i).1 t1, elT' a.e t3, lv (rng a.n.length), lv (rng a.e.length), lvT (gN a.n b.n nodes i).2 t2, .list 1 [] .nil], false⟩ ∧
    tokOK s t1 = true ∧ tokOK s t2 = true ∧ tokOK s t3 = true ∧ tkIn [(24, 0), (53, 0)] t1 = true ∧ tkIn [(61, 0)] t2 = true ∧ tkIn [(27, 0)] t3 = true) (fun i => nodes.length - i)
    ?_ ?_
  · refine ⟨0, by omega, rfl, rfl, rfl, rfl, ⟨_, _, _, _, _, _, rfl⟩, rfl, rfl, rfl, rfl, .own (24, 0, 0), .nil, .own (27, 0, 0), rfl, ?_, rfl, ?_, rfl, rfl, rfl⟩
    · simp (dsimp := false) (maxDischargeDepth := 16) only [go_sem, ↓reduceIte, reduceCtorEq, Nat.reduceEqDiff, Nat.reduceAdd, Nat.reduceMul, Nat.reduceSub, Nat.reduceLT, Nat.reduceLeDiff, Nat.reducePow, Int.reduceLT, Int.reduceLE, Int.reduceNeg, Int.reduceToNat]
    · simp (dsimp := false) (maxDischargeDepth := 16) only [go_sem, ↓reduceIte, reduceCtorEq, Nat.reduceEqDiff, Nat.reduceAdd, Nat.reduceMul, Nat.reduceSub, Nat.reduceLT, Nat.reduceLeDiff, Nat.reducePow, Int.reduceLT, Int.reduceLE, Int.reduceNeg, Int.reduceToNat]
  rintro i s ⟨hi, t3, t5, b5, t8, ⟨z1, z2, z3, z4, z5, z6, b8⟩, t9, t31, t32, t10, k1, k2, k3, b9, a1, a2, a3, i1, i2, i3⟩
  simp (dsimp := false) (maxDischargeDepth := 16) only [go_sem, ↓reduceIte, reduceCtorEq, Nat.reduceEqDiff, Nat.reduceAdd, Nat.reduceMul, Nat.reduceSub, Nat.reduceLT, Nat.reduceLeDiff, Nat.reducePow, Int.reduceLT, Int.reduceLE, Int.reduceNeg, Int.reduceToNat, t3, t5, b5, t8, b8, t9, t31, t32, t10, b9]
  refine condK_dec (fun h6 => ?_) (fun h6 => ?_)
  · have h7 : i < b.n.length := by omega
    simp (dsimp := false) (maxDischargeDepth := 16) only [go_sem, ↓reduceIte, reduceCtorEq, Nat.reduceEqDiff, Nat.reduceAdd, Nat.reduceMul, Nat.reduceSub, Nat.reduceLT, Nat.reduceLeDiff, Nat.reducePow, Int.reduceLT, Int.reduceLE, Int.reduceNeg, Int.reduceToNat, t3, t5, b5, t8, b8, t9, t31, t32, t10, b9, h6, idx_nat]
    refine condK_dec (fun h8 => ?_) (fun h8 => ?_)
    · have k12 : ∀ (s : St) (d n : Nat) (x : AV), tokOK s k2 = true → tokOK (s.ntok d n x (tokKey k1)) k2 = true := fun s d n x h => tk_kill i1 i2 rfl h
      have k13 : ∀ (s : St) (d n : Nat) (x : AV), tokOK s k3 = true → tokOK (s.ntok d n x (tokKey k1)) k3 = true := fun s d n x h => tk_kill i1 i3 rfl h
      have k23 : ∀ (s : St) (d n : Nat) (x : AV), tokOK s k3 = true → tokOK (s.ntok d n x (tokKey k2)) k3 = true := fun s d n x h => tk_kill i2 i3 rfl h
      have q2 : ∀ (f : Key → Bool) (g : Nat), killO f (tokKey k2) (53, g, 0) = f (53, g, 0) := fun f g => kill_tk i2 rfl f
      have l1 := gN_len1 a.n b.n nodes i
      have l2 := gN_len2 a.n b.n nodes i
      simp (dsimp := false) (maxDischargeDepth := 16) only [go_sem, ↓reduceIte, reduceCtorEq, Nat.reduceEqDiff, Nat.reduceAdd, Nat.reduceMul, Nat.reduceSub, Nat.reduceLT, Nat.reduceLeDiff, Nat.reducePow, Int.reduceLT, Int.reduceLE, Int.reduceNeg, Int.reduceToNat, t3, t5, b5, t8, b8, t9, t31, t32, t10, b9, h6, h7, h8, idx_nat, a1, a2, a3, k12, k13, k23]
      refine ⟨⟨by omega, by omega⟩, ⟨by omega, by omega⟩, i + 1, by omega, by omega, ⟨_, _, _, _, _, _, rfl⟩, by rw [wrapN _ (by omega)], .own (53, s.g 53, 0), .own (61, s.g 61, 0), k3, ?_, ?_, ?_, ?_, rfl, rfl, i3⟩
      · rw [gN_neg h6 h7 h8]
        simp only [map1_app]
      all_goals simp (dsimp := false) (maxDischargeDepth := 16) only [go_sem, ↓reduceIte, reduceCtorEq, Nat.reduceEqDiff, Nat.reduceAdd, Nat.reduceMul, Nat.reduceSub, Nat.reduceLT, Nat.reduceLeDiff, Nat.reducePow, Int.reduceLT, Int.reduceLE, Int.reduceNeg, Int.reduceToNat, a1, a2, a3, k12, k13, k23, q2]
    · have k23 : ∀ (s : St) (d n : Nat) (x : AV), tokOK s k3 = true → tokOK (s.ntok d n x (tokKey k2)) k3 = true := fun s d n x h => tk_kill i2 i3 rfl h
      have k21 : ∀ (s : St) (d n : Nat) (x : AV), tokOK s k1 = true → tokOK (s.ntok d n x (tokKey k2)) k1 = true := fun s d n x h => tk_kill i2 i1 rfl h
      have l2 := gN_len2 a.n b.n nodes i
      simp (dsimp := false) (maxDischargeDepth := 16) only [go_sem, ↓reduceIte, reduceCtorEq, Nat.reduceEqDiff, Nat.reduceAdd, Nat.reduceMul, Nat.reduceSub, Nat.reduceLT, Nat.reduceLeDiff, Nat.reducePow, Int.reduceLT, Int.reduceLE, Int.reduceNeg, Int.reduceToNat, t3, t5, b5, t8, b8, t9, t31, t32, t10, b9, h6, h7, h8, idx_nat, a1, a2, a3, k21, k23]
      refine ⟨⟨by omega, by omega⟩, i + 1, by omega, by omega, ⟨_, _, _, _, _, _, rfl⟩, by rw [wrapN _ (by omega)], k1, .own (61, s.g 61, 0), k3, ?_, ?_, ?_, ?_, i1, rfl, i3⟩
      · rw [gN_pos h6 h8]
        simp only [map1_app]
      all_goals simp (dsimp := false) (maxDischargeDepth := 16) only [go_sem, ↓reduceIte, reduceCtorEq, Nat.reduceEqDiff, Nat.reduceAdd, Nat.reduceMul, Nat.reduceSub, Nat.reduceLT, Nat.reduceLeDiff, Nat.reducePow, Int.reduceLT, Int.reduceLE, Int.reduceNeg, Int.reduceToNat, a1, a2, a3, k21, k23]
  · simp (dsimp := false) (maxDischargeDepth := 16) only [go_sem, ↓reduceIte, reduceCtorEq, Nat.reduceEqDiff, Nat.reduceAdd, Nat.reduceMul, Nat.reduceSub, Nat.reduceLT, Nat.reduceLeDiff, Nat.reducePow, Int.reduceLT, Int.reduceLE, Int.reduceNeg, Int.reduceToNat, t3, t5, b5, t8, b8, t9, t31, t32, t10, b9, h6]
    have hin : i = nodes.length := by omega
    subst hin
    have l2 := gN_len2 a.n b.n nodes nodes.length
    have hRR : ∀ R, R = (gN a.n b.n nodes nodes.length).2 → R.length = nodes.length := fun R h => by rw [h, l2]
    unfold glue
    generalize hR0 : (gN a.n b.n nodes nodes.length).2 = R at *
    generalize (gN a.n b.n nodes nodes.length).1 = G at *
    refine loopK_intro (fun (i : Nat) s => i ≤ edges.length ∧ s.t 5 = .box (5, 0, 0) 0 ∧ s.b (5, 0, 0) = some ⟨gcs b, false⟩ ∧ s.t 8 = .box (8, 0, 0) 0 ∧ s.b (8, 0, 0) = some ⟨[z1, z2, z3, z4, z5, z6], false⟩ ∧
      s.t 11 = .box (11, 0, 0) 0 ∧ s.t 65 = lv edges ∧ s.t 66 = iv edges.length ∧ s.t 67 = iv i ∧ ∃ t3 t4, s.b (11, 0, 0) = some ⟨[lvT G k1, elT' (gE a.e b.e R edges i).1 t3, lv (rng a.n.length), lv (rng a.e.length), lvT R k2, lvT (gE a.e b.e R edges i).2 t4], false⟩ ∧
      tokOK s t3 = true ∧ tokOK s t4 = true ∧ tkIn [(27, 0), (104, 0)] t3 = true ∧ tkIn [(112, 0)] t4 = true) (fun i => edges.length - i) ?_ ?_
    · refine ⟨0, by omega, t5, b5, t8, b8, t9, rfl, rfl, rfl, k3, .nil, ?_, ?_, rfl, ?_, rfl⟩
      · simp (dsimp := false) (maxDischargeDepth := 16) only [go_sem, ↓reduceIte, reduceCtorEq, Nat.reduceEqDiff, Nat.reduceAdd, Nat.reduceMul, Nat.reduceSub, Nat.reduceLT, Nat.reduceLeDiff, Nat.reducePow, Int.reduceLT, Int.reduceLE, Int.reduceNeg, Int.reduceToNat, b9, gE]
      · simp (dsimp := false) (maxDischargeDepth := 16) only [go_sem, ↓reduceIte, reduceCtorEq, Nat.reduceEqDiff, Nat.reduceAdd, Nat.reduceMul, Nat.reduceSub, Nat.reduceLT, Nat.reduceLeDiff, Nat.reducePow, Int.reduceLT, Int.reduceLE, Int.reduceNeg, Int.reduceToNat, a3]
      · revert i3
        cases k3 <;> simp [tkIn]
        intro h1 h2
        exact .inl ⟨h1, h2⟩
    clear t3 t5 b5 t8 b8 t9 t10 t31 t32 b9 a1 a2 a3 i1 i2 i3 h6 hi
    rintro i s ⟨hi, t5, b5, t8, b8, t9, t65, t66, t12, q3, q4, b9, a3, a4, i3, i4⟩
    simp (dsimp := false) (maxDischargeDepth := 16) only [go_sem, ↓reduceIte, reduceCtorEq, Nat.reduceEqDiff, Nat.reduceAdd, Nat.reduceMul, Nat.reduceSub, Nat.reduceLT, Nat.reduceLeDiff, Nat.reducePow, Int.reduceLT, Int.reduceLE, Int.reduceNeg, Int.reduceToNat, t5, b5, t8, b8, t9, t65, t66, t12, b9]
    have m1 := gE_len1 a.e b.e R edges i
    have m2 := gE_len2 a.e b.e R edges i
    refine condK_dec (fun h6 => ?_) (fun h6 => ?_)
    · have h7 : i < b.e.length := by omega
      have hx := hR _ (List.getElem_mem h7)
      have r1 : b.e[i].2.1.toNat < R.length := by omega
      have r2 : b.e[i].2.2.toNat < R.length := by omega
      have r3 := hx.1
      have r4 := hx.2.2.1
      simp (dsimp := false) (maxDischargeDepth := 16) only [go_sem, ↓reduceIte, reduceCtorEq, Nat.reduceEqDiff, Nat.reduceAdd, Nat.reduceMul, Nat.reduceSub, Nat.reduceLT, Nat.reduceLeDiff, Nat.reducePow, Int.reduceLT, Int.reduceLE, Int.reduceNeg, Int.reduceToNat, t5, b5, t8, b8, t9, t65, t66, t12, b9, h6, idx_nat]
      refine condK_dec (fun h8 => ?_) (fun h8 => ?_)
      · have k34 : ∀ (s : St) (d n : Nat) (x : AV), tokOK s q4 = true → tokOK (s.ntok d n x (tokKey q3)) q4 = true := fun s d n x h => tk_kill i3 i4 rfl h
        have q5 : ∀ (f : Key → Bool) (g : Nat), killO f (tokKey q4) (104, g, 0) = f (104, g, 0) := fun f g => kill_tk i4 rfl f
        simp (dsimp := false) (maxDischargeDepth := 16) only [go_sem, ↓reduceIte, reduceCtorEq, Nat.reduceEqDiff, Nat.reduceAdd, Nat.reduceMul, Nat.reduceSub, Nat.reduceLT, Nat.reduceLeDiff, Nat.reducePow, Int.reduceLT, Int.reduceLE, Int.reduceNeg, Int.reduceToNat, t5, b5, t8, b8, t9, t65, t66, t12, b9, h6, h7, h8, idx_nat, idx_int, r1, r2, r3, r4, a3, a4, k34]
        refine ⟨⟨by omega, by omega⟩, ⟨by omega, by omega⟩, i + 1, by omega, by omega, by rw [wrapN _ (by omega)], .own (104, s.g 104, 0), .own (112, s.g 112, 0), ?_, ?_, ?_, rfl, rfl⟩
        · rw [gE_neg h6 h7 h8 r1 r2]
          simp only [map1_app, map3_app]
          rfl
        all_goals simp (dsimp := false) (maxDischargeDepth := 16) only [go_sem, ↓reduceIte, reduceCtorEq, Nat.reduceEqDiff, Nat.reduceAdd, Nat.reduceMul, Nat.reduceSub, Nat.reduceLT, Nat.reduceLeDiff, Nat.reducePow, Int.reduceLT, Int.reduceLE, Int.reduceNeg, Int.reduceToNat, a3, a4, k34, q5]
      · have k43 : ∀ (s : St) (d n : Nat) (x : AV), tokOK s q3 = true → tokOK (s.ntok d n x (tokKey q4)) q3 = true := fun s d n x h => tk_kill i4 i3 rfl h
        simp (dsimp := false) (maxDischargeDepth := 16) only [go_sem, ↓reduceIte, reduceCtorEq, Nat.reduceEqDiff, Nat.reduceAdd, Nat.reduceMul, Nat.reduceSub, Nat.reduceLT, Nat.reduceLeDiff, Nat.reducePow, Int.reduceLT, Int.reduceLE, Int.reduceNeg, Int.reduceToNat, t5, b5, t8, b8, t9, t65, t66, t12, b9, h6, h7, h8, idx_nat, a3, a4, k43]
        refine ⟨⟨by omega, by omega⟩, i + 1, by omega, by omega, by rw [wrapN _ (by omega)], q3, .own (112, s.g 112, 0), ?_, ?_, ?_, i3, rfl⟩
        · rw [gE_pos h6 h8]
          simp only [map1_app]
        all_goals simp (dsimp := false) (maxDischargeDepth := 16) only [go_sem, ↓reduceIte, reduceCtorEq, Nat.reduceEqDiff, Nat.reduceAdd, Nat.reduceMul, Nat.reduceSub, Nat.reduceLT, Nat.reduceLeDiff, Nat.reducePow, Int.reduceLT, Int.reduceLE, Int.reduceNeg, Int.reduceToNat, a3, a4, k43]
    · simp (dsimp := false) (maxDischargeDepth := 16) only [go_sem, ↓reduceIte, reduceCtorEq, Nat.reduceEqDiff, Nat.reduceAdd, Nat.reduceMul, Nat.reduceSub, Nat.reduceLT, Nat.reduceLeDiff, Nat.reducePow, Int.reduceLT, Int.reduceLE, Int.reduceNeg, Int.reduceToNat, t5, b5, t8, b8, t9, t65, t66, t12, b9, h6]
      have : i = edges.length := by omega
      subst this
      exact finK ⟨rfl, rfl⟩
end Go.Sy
