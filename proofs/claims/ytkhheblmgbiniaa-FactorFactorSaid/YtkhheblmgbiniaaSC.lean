/- Contracts: the document's overlap through which two morphisms go. -/
import Derived.Test.YtkhheblmgbiniaaSB
set_option linter.unusedSimpArgs false
namespace Go.Sy
open Go Go.Proofs

theorem take1 {p : List Int} {i : Nat} (h : i < p.length) : List.map (fun n => [AV.v (Value.int .i64 n)]) (p.take i) ++ [[AV.v (Value.int .i64 p[i])]] = List.map (fun n => [AV.v (Value.int .i64 n)]) (p.take (i + 1)) := by
  rw [List.take_add_one, List.getElem?_eq_getElem h, List.map_append]
  rfl
theorem take_at' {p : List Int} {i : Nat} (h : i < p.length) : (p.take (i + 1)).length = i + 1 := by rw [List.length_take]; omega
theorem plc_at {k l : List Int} {i : Nat} (h : i < l.length) (h2 : i < (plc k l).length) : (plc k l)[i] = idxP (fun y => l[i] == y) k := by simp [plc]
set_option maxHeartbeats 2000000 in
theorem c34 (a b x : Gr) (h k : Mo) : Con Try.prog 34 [gv a, gv b, gv x, mv h, mv k] 0 (thrV (thrR a b x h k)) := by
  refine conT (X := [(23, [], [(10, [15], [])])]) (rs := [.cell 10 43, .cell 11 41, .tmp 12]) Try.func34 (by kernel_rfl) rfl rfl (by kernel_rfl) ?_
  simp (dsimp := false) (maxDischargeDepth := 16) only [go_sem, ↓reduceIte, reduceCtorEq, Nat.reduceEqDiff, Nat.reduceAdd, Nat.reduceMul, Nat.reduceSub, Nat.reduceLT, Nat.reduceLeDiff, Nat.reducePow, Int.reduceLT, Int.reduceLE, Int.reduceNeg, Int.reduceToNat]
  refine callK_intro (c72 a x h) ?_
  simp (dsimp := false) (maxDischargeDepth := 16) only [go_sem, ↓reduceIte, reduceCtorEq, Nat.reduceEqDiff, Nat.reduceAdd, Nat.reduceMul, Nat.reduceSub, Nat.reduceLT, Nat.reduceLeDiff, Nat.reducePow, Int.reduceLT, Int.reduceLE, Int.reduceNeg, Int.reduceToNat]
  refine condK_intro (fun h1 => ?_) (fun h1 => ?_)
  · simp (dsimp := false) (maxDischargeDepth := 16) only [go_sem, ↓reduceIte, reduceCtorEq, Nat.reduceEqDiff, Nat.reduceAdd, Nat.reduceMul, Nat.reduceSub, Nat.reduceLT, Nat.reduceLeDiff, Nat.reducePow, Int.reduceLT, Int.reduceLE, Int.reduceNeg, Int.reduceToNat, h1]
    have e : thrR a b x h k = (oz, mz, mErr a x h) := if_pos (by simpa using h1)
    rw [e]
    exact finK ⟨rfl, rfl⟩
  have g1 : mErr a x h = 0 := by simpa using h1
  simp (dsimp := false) (maxDischargeDepth := 16) only [go_sem, ↓reduceIte, reduceCtorEq, Nat.reduceEqDiff, Nat.reduceAdd, Nat.reduceMul, Nat.reduceSub, Nat.reduceLT, Nat.reduceLeDiff, Nat.reducePow, Int.reduceLT, Int.reduceLE, Int.reduceNeg, Int.reduceToNat, h1]
  refine callK_intro (c72 b x k) ?_
  simp (dsimp := false) (maxDischargeDepth := 16) only [go_sem, ↓reduceIte, reduceCtorEq, Nat.reduceEqDiff, Nat.reduceAdd, Nat.reduceMul, Nat.reduceSub, Nat.reduceLT, Nat.reduceLeDiff, Nat.reducePow, Int.reduceLT, Int.reduceLE, Int.reduceNeg, Int.reduceToNat, h1]
  refine condK_intro (fun h2 => ?_) (fun h2 => ?_)
  · simp (dsimp := false) (maxDischargeDepth := 16) only [go_sem, ↓reduceIte, reduceCtorEq, Nat.reduceEqDiff, Nat.reduceAdd, Nat.reduceMul, Nat.reduceSub, Nat.reduceLT, Nat.reduceLeDiff, Nat.reducePow, Int.reduceLT, Int.reduceLE, Int.reduceNeg, Int.reduceToNat, h1, h2]
    have e : thrR a b x h k = (oz, mz, mErr b x k) := by rw [thrR, if_neg (by simp [g1]), if_pos (by simpa using h2)]
    rw [e]
    exact finK ⟨rfl, rfl⟩
  have g2 : mErr b x k = 0 := by simpa using h2
  simp (dsimp := false) (maxDischargeDepth := 16) only [go_sem, ↓reduceIte, reduceCtorEq, Nat.reduceEqDiff, Nat.reduceAdd, Nat.reduceMul, Nat.reduceSub, Nat.reduceLT, Nat.reduceLeDiff, Nat.reducePow, Int.reduceLT, Int.reduceLE, Int.reduceNeg, Int.reduceToNat, h1, h2]
  have e0 : thrR a b x h k = if injR a x h && injR b x k then (glue a b (plc h.n k.n) (plc h.e k.e), rst h k (plc h.n k.n) (plc h.e k.e), 0) else (oz, mz, 1) := by rw [thrR, if_neg (by simp [g1]), if_neg (by simp [g2])]
  rw [e0]
  have H1 := c31 a x h
  have H2 := c31 b x k
  generalize injR a x h = r1 at *
  generalize injR b x k = r2 at *
  refine callK_intro H1 ?_
  cases r1 with
  | false =>
    simp (dsimp := false) (maxDischargeDepth := 16) only [go_sem, ↓reduceIte, reduceCtorEq, Nat.reduceEqDiff, Nat.reduceAdd, Nat.reduceMul, Nat.reduceSub, Nat.reduceLT, Nat.reduceLeDiff, Nat.reducePow, Int.reduceLT, Int.reduceLE, Int.reduceNeg, Int.reduceToNat, h1, h2, Bool.not_false]
    exact finK ⟨rfl, rfl⟩
  | true =>
  simp (dsimp := false) (maxDischargeDepth := 16) only [go_sem, ↓reduceIte, reduceCtorEq, Nat.reduceEqDiff, Nat.reduceAdd, Nat.reduceMul, Nat.reduceSub, Nat.reduceLT, Nat.reduceLeDiff, Nat.reducePow, Int.reduceLT, Int.reduceLE, Int.reduceNeg, Int.reduceToNat, h1, h2, Bool.not_true]
  refine callK_intro H2 ?_
  cases r2 with
  | false =>
    simp (dsimp := false) (maxDischargeDepth := 16) only [go_sem, ↓reduceIte, reduceCtorEq, Nat.reduceEqDiff, Nat.reduceAdd, Nat.reduceMul, Nat.reduceSub, Nat.reduceLT, Nat.reduceLeDiff, Nat.reducePow, Int.reduceLT, Int.reduceLE, Int.reduceNeg, Int.reduceToNat, h1, h2, Bool.not_false]
    exact finK ⟨rfl, rfl⟩
  | true =>
  have o1 := mErr_ok g1
  have o2 := mErr_ok g2
  have ga := gErr_small o1.1
  have gb := gErr_small o2.1
  have pl : (plc h.n k.n).length = k.n.length := plc_len _ _
  have ql : (plc h.e k.e).length = k.e.length := plc_len _ _
  have sn : k.n.length ≤ 1000 := by omega
  have se : k.e.length ≤ 1000 := by omega
  have sn' : h.n.length ≤ 1000 := by omega
  have se' : h.e.length ≤ 1000 := by omega
  simp (dsimp := false) (maxDischargeDepth := 16) only [go_sem, ↓reduceIte, reduceCtorEq, Nat.reduceEqDiff, Nat.reduceAdd, Nat.reduceMul, Nat.reduceSub, Nat.reduceLT, Nat.reduceLeDiff, Nat.reducePow, Int.reduceLT, Int.reduceLE, Int.reduceNeg, Int.reduceToNat, h1, h2, Bool.not_true]
  refine ⟨⟨by omega, by omega⟩, ⟨by omega, by omega⟩, ?_⟩
  have HG := c80 a b (plc h.n k.n) (plc h.e k.e) (by omega) (by omega) (by omega) (by omega) (by omega) (by omega) (fun x hx => by
    have := gb.2.2 x hx
    rw [plc_len, o2.2.2.1]
    unfold edOK at this
    omega)
  have HN : ∀ i (hi : i < k.n.length) (hi2 : i < (plc h.n k.n).length), Con Try.prog 79 [lv h.n, iv k.n[i]] 0 (iv (plc h.n k.n)[i]) := fun i hi hi2 => by rw [plc_at hi hi2]; exact c79 h.n k.n[i]
  have HE : ∀ i (hi : i < k.e.length) (hi2 : i < (plc h.e k.e).length), Con Try.prog 79 [lv h.e, iv k.e[i]] 0 (iv (plc h.e k.e)[i]) := fun i hi hi2 => by rw [plc_at hi hi2]; exact c79 h.e k.e[i]
  clear ga gb o1 o2 e0 h1 h2 H1 H2 g1 g2
  rw [if_pos (by rfl)]
  unfold rst
  generalize plc h.n k.n = p at *
  generalize plc h.e k.e = q at *
  generalize glue a b p q = G at *
  refine loopK_intro (fun (i : Nat) s => i ≤ p.length ∧ s.t 5 = .box (5, 0, 0) 0 ∧ s.b (5, 0, 0) = some ⟨gcs a, false⟩ ∧ s.t 6 = .box (6, 0, 0) 0 ∧ s.b (6, 0, 0) = some ⟨gcs b, false⟩ ∧ s.t 8 = .box (8, 0, 0) 0 ∧ s.b (8, 0, 0) = some ⟨mcs h, false⟩ ∧ s.t 9 = .box (9, 0, 0) 0 ∧ s.b (9, 0, 0) = some ⟨mcs k, false⟩ ∧
    s.t 10 = .box (10, 0, 0) 0 ∧ (∃ z1 z2 z3 z4 z5 z6, s.b (10, 0, 0) = some ⟨[z1, z2, z3, z4, z5, z6], false⟩) ∧ s.t 11 = .box (11, 0, 0) 0 ∧ (∃ y1 y2, s.b (11, 0, 0) = some ⟨[y1, y2], false⟩) ∧
    s.t 15 = .box (15, 0, 0) 0 ∧ s.t 17 = .list 1 [] .nil ∧ s.t 18 = iv i ∧ ∃ k1 k2 k3, s.b (15, 0, 0) = some ⟨[lvT (gN h.n k.n p i).1 k1, lvT h.e k2], false⟩ ∧ s.t 16 = lvT (p.take i) k3 ∧
    tokOK s k1 = true ∧ tokOK s k2 = true ∧ tokOK s k3 = true ∧ tkIn [(55, 0), (92, 0)] k1 = true ∧ tkIn [(59, 0)] k2 = true ∧ tkIn [(78, 0)] k3 = true) (fun i => p.length - i) ?_ ?_
  · refine ⟨0, by omega, rfl, rfl, rfl, rfl, rfl, rfl, rfl, rfl, rfl, ⟨_, _, _, _, _, _, rfl⟩, rfl, ⟨_, _, rfl⟩, rfl, rfl, rfl, .own (55, 0, 0), .own (59, 0, 0), .nil, rfl, rfl, ?_, ?_, rfl, rfl, rfl, rfl⟩
    all_goals simp (dsimp := false) (maxDischargeDepth := 16) only [go_sem, ↓reduceIte, reduceCtorEq, Nat.reduceEqDiff, Nat.reduceAdd, Nat.reduceMul, Nat.reduceSub, Nat.reduceLT, Nat.reduceLeDiff, Nat.reducePow, Int.reduceLT, Int.reduceLE, Int.reduceNeg, Int.reduceToNat]
  rintro i s ⟨hi, t5, b5, t6, b6, t8, b8, t9, b9, t10, ⟨z1, z2, z3, z4, z5, z6, b10⟩, t11, ⟨y1, y2, b11⟩, t15, t17, t18, k1, k2, k3, b15, t16, a1, a2, a3, i1, i2, i3⟩
  simp (dsimp := false) (maxDischargeDepth := 16) only [go_sem, ↓reduceIte, reduceCtorEq, Nat.reduceEqDiff, Nat.reduceAdd, Nat.reduceMul, Nat.reduceSub, Nat.reduceLT, Nat.reduceLeDiff, Nat.reducePow, Int.reduceLT, Int.reduceLE, Int.reduceNeg, Int.reduceToNat, t5, b5, t6, b6, t8, b8, t9, b9, t10, b10, t11, b11, t15, t17, t18, b15, t16]
  refine condK_dec (fun h6 => ?_) (fun h6 => ?_)
  · have hp : i < p.length := by omega
    have k12 : ∀ (s : St) (d n : Nat) (x : AV), tokOK s k2 = true → tokOK (s.ntok d n x (tokKey k1)) k2 = true := fun s d n x h => tk_kill i1 i2 rfl h
    have k31 : ∀ (s : St) (d n : Nat) (x : AV), tokOK s k1 = true → tokOK (s.ntok d n x (tokKey k3)) k1 = true := fun s d n x h => tk_kill i3 i1 rfl h
    have k32 : ∀ (s : St) (d n : Nat) (x : AV), tokOK s k2 = true → tokOK (s.ntok d n x (tokKey k3)) k2 = true := fun s d n x h => tk_kill i3 i2 rfl h
    have q3 : ∀ (f : Key → Bool) (g : Nat), killO f (tokKey k1) (78, g, 0) = f (78, g, 0) := fun f g => kill_tk i1 rfl f
    have l1 := gN_len1 h.n k.n p i
    have l3 : (p.take i).length = i := by rw [List.length_take]; omega
    have l4 := take_at' hp
    simp (dsimp := false) (maxDischargeDepth := 16) only [go_sem, ↓reduceIte, reduceCtorEq, Nat.reduceEqDiff, Nat.reduceAdd, Nat.reduceMul, Nat.reduceSub, Nat.reduceLT, Nat.reduceLeDiff, Nat.reducePow, Int.reduceLT, Int.reduceLE, Int.reduceNeg, Int.reduceToNat, t5, b5, t6, b6, t8, b8, t9, b9, t10, b10, t11, b11, t15, t17, t18, b15, t16, h6, idx_nat]
    refine callK_intro (HN i h6 hp) ?_
    simp (dsimp := false) (maxDischargeDepth := 16) only [go_sem, ↓reduceIte, reduceCtorEq, Nat.reduceEqDiff, Nat.reduceAdd, Nat.reduceMul, Nat.reduceSub, Nat.reduceLT, Nat.reduceLeDiff, Nat.reducePow, Int.reduceLT, Int.reduceLE, Int.reduceNeg, Int.reduceToNat, t5, b5, t6, b6, t8, b8, t9, b9, t10, b10, t11, b11, t15, t17, t18, b15, t16, h6, hp, idx_nat, a1, a2, a3, k12, k31, k32, l3, l4, take1, List.getElem_take, Nat.lt_add_one]
    refine ⟨⟨by omega, by omega⟩, ?_⟩
    refine condK_dec (fun h8 => ?_) (fun h8 => ?_)
    · simp (dsimp := false) (maxDischargeDepth := 16) only [go_sem, ↓reduceIte, reduceCtorEq, Nat.reduceEqDiff, Nat.reduceAdd, Nat.reduceMul, Nat.reduceSub, Nat.reduceLT, Nat.reduceLeDiff, Nat.reducePow, Int.reduceLT, Int.reduceLE, Int.reduceNeg, Int.reduceToNat, t5, b5, t6, b6, t8, b8, t9, b9, t10, b10, t11, b11, t15, t17, t18, b15, t16, h6, hp, h8, idx_nat, a1, a2, a3, k12, k31, k32, l3, l4]
      refine ⟨⟨by omega, by omega⟩, i + 1, by omega, by omega, ⟨_, _, _, _, _, _, rfl⟩, ⟨_, _, rfl⟩, by rw [wrapN _ (by omega)], .own (92, s.g 92, 0), k2, .own (78, s.g 78, 0), ?_, by rw [take1 hp], ?_, ?_, ?_, rfl, i2, rfl⟩
      · rw [gN_neg hp h6 h8]
        simp only [map1_app]
      all_goals simp (dsimp := false) (maxDischargeDepth := 16) only [go_sem, ↓reduceIte, reduceCtorEq, Nat.reduceEqDiff, Nat.reduceAdd, Nat.reduceMul, Nat.reduceSub, Nat.reduceLT, Nat.reduceLeDiff, Nat.reducePow, Int.reduceLT, Int.reduceLE, Int.reduceNeg, Int.reduceToNat, a1, a2, a3, k12, k31, k32, q3]
    · simp (dsimp := false) (maxDischargeDepth := 16) only [go_sem, ↓reduceIte, reduceCtorEq, Nat.reduceEqDiff, Nat.reduceAdd, Nat.reduceMul, Nat.reduceSub, Nat.reduceLT, Nat.reduceLeDiff, Nat.reducePow, Int.reduceLT, Int.reduceLE, Int.reduceNeg, Int.reduceToNat, t5, b5, t6, b6, t8, b8, t9, b9, t10, b10, t11, b11, t15, t17, t18, b15, t16, h6, hp, h8, idx_nat, a1, a2, a3, k12, k31, k32, l3, l4]
      refine ⟨i + 1, by omega, by omega, ⟨_, _, _, _, _, _, rfl⟩, ⟨_, _, rfl⟩, by rw [wrapN _ (by omega)], k1, k2, .own (78, s.g 78, 0), ?_, by rw [take1 hp], ?_, ?_, ?_, i1, i2, rfl⟩
      · rw [gN_pos hp h8]
      all_goals simp (dsimp := false) (maxDischargeDepth := 16) only [go_sem, ↓reduceIte, reduceCtorEq, Nat.reduceEqDiff, Nat.reduceAdd, Nat.reduceMul, Nat.reduceSub, Nat.reduceLT, Nat.reduceLeDiff, Nat.reducePow, Int.reduceLT, Int.reduceLE, Int.reduceNeg, Int.reduceToNat, a1, a2, a3, k12, k31, k32]
  · simp (dsimp := false) (maxDischargeDepth := 16) only [go_sem, ↓reduceIte, reduceCtorEq, Nat.reduceEqDiff, Nat.reduceAdd, Nat.reduceMul, Nat.reduceSub, Nat.reduceLT, Nat.reduceLeDiff, Nat.reducePow, Int.reduceLT, Int.reduceLE, Int.reduceNeg, Int.reduceToNat, t5, b5, t6, b6, t8, b8, t9, b9, t10, b10, t11, b11, t15, t17, t18, b15, t16, h6]
    have hin : i = p.length := by omega
    subst hin
    rw [List.take_length] at t16
    generalize (gN h.n k.n p p.length).1 = L at *
    refine loopK_intro (fun (i : Nat) s => i ≤ q.length ∧ s.t 5 = .box (5, 0, 0) 0 ∧ s.b (5, 0, 0) = some ⟨gcs a, false⟩ ∧ s.t 6 = .box (6, 0, 0) 0 ∧ s.b (6, 0, 0) = some ⟨gcs b, false⟩ ∧ s.t 8 = .box (8, 0, 0) 0 ∧ s.b (8, 0, 0) = some ⟨mcs h, false⟩ ∧ s.t 9 = .box (9, 0, 0) 0 ∧ s.b (9, 0, 0) = some ⟨mcs k, false⟩ ∧
      s.t 10 = .box (10, 0, 0) 0 ∧ s.b (10, 0, 0) = some ⟨[z1, z2, z3, z4, z5, z6], false⟩ ∧ s.t 11 = .box (11, 0, 0) 0 ∧ s.b (11, 0, 0) = some ⟨[y1, y2], false⟩ ∧
      s.t 15 = .box (15, 0, 0) 0 ∧ s.t 16 = lvT p k3 ∧ s.t 19 = iv i ∧ ∃ k2 k3, s.b (15, 0, 0) = some ⟨[lvT L k1, lvT (gN h.e k.e q i).1 k2], false⟩ ∧ s.t 17 = lvT (q.take i) k3 ∧
      tokOK s k2 = true ∧ tokOK s k3 = true ∧ tkIn [(59, 0), (125, 0)] k2 = true ∧ tkIn [(111, 0)] k3 = true) (fun i => q.length - i) ?_ ?_
    · refine ⟨0, by omega, t5, b5, t6, b6, t8, b8, t9, b9, t10, b10, t11, b11, t15, t16, rfl, k2, .nil, b15, t17, ?_, rfl, ?_, rfl⟩
      · simp (dsimp := false) (maxDischargeDepth := 16) only [go_sem, ↓reduceIte, reduceCtorEq, Nat.reduceEqDiff, Nat.reduceAdd, Nat.reduceMul, Nat.reduceSub, Nat.reduceLT, Nat.reduceLeDiff, Nat.reducePow, Int.reduceLT, Int.reduceLE, Int.reduceNeg, Int.reduceToNat, a2]
      revert i2
      cases k2 <;> simp [tkIn]
      intro h1 h2
      exact .inl ⟨h1, h2⟩
    clear t5 b5 t6 b6 t8 b8 t9 b9 t10 b10 t11 b11 t15 t16 t17 t18 b15 a1 a2 a3 i1 i2 i3 h6 hi
    rintro i s ⟨hi, t5, b5, t6, b6, t8, b8, t9, b9, t10, b10, t11, b11, t15, t16, t19, k2, k4, b15, t17, a2, a3, i2, i3⟩
    simp (dsimp := false) (maxDischargeDepth := 16) only [go_sem, ↓reduceIte, reduceCtorEq, Nat.reduceEqDiff, Nat.reduceAdd, Nat.reduceMul, Nat.reduceSub, Nat.reduceLT, Nat.reduceLeDiff, Nat.reducePow, Int.reduceLT, Int.reduceLE, Int.reduceNeg, Int.reduceToNat, t5, b5, t6, b6, t8, b8, t9, b9, t10, b10, t11, b11, t15, t17, t19, b15, t16]
    refine condK_dec (fun h6 => ?_) (fun h6 => ?_)
    · have hp : i < q.length := by omega
      have k32 : ∀ (s : St) (d n : Nat) (x : AV), tokOK s k2 = true → tokOK (s.ntok d n x (tokKey k4)) k2 = true := fun s d n x h => tk_kill i3 i2 rfl h
      have q3 : ∀ (f : Key → Bool) (g : Nat), killO f (tokKey k2) (111, g, 0) = f (111, g, 0) := fun f g => kill_tk i2 rfl f
      have l1 := gN_len1 h.e k.e q i
      have l3 : (q.take i).length = i := by rw [List.length_take]; omega
      have l4 := take_at' hp
      simp (dsimp := false) (maxDischargeDepth := 16) only [go_sem, ↓reduceIte, reduceCtorEq, Nat.reduceEqDiff, Nat.reduceAdd, Nat.reduceMul, Nat.reduceSub, Nat.reduceLT, Nat.reduceLeDiff, Nat.reducePow, Int.reduceLT, Int.reduceLE, Int.reduceNeg, Int.reduceToNat, t5, b5, t6, b6, t8, b8, t9, b9, t10, b10, t11, b11, t15, t17, t19, b15, t16, h6, idx_nat]
      refine callK_intro (HE i h6 hp) ?_
      simp (dsimp := false) (maxDischargeDepth := 16) only [go_sem, ↓reduceIte, reduceCtorEq, Nat.reduceEqDiff, Nat.reduceAdd, Nat.reduceMul, Nat.reduceSub, Nat.reduceLT, Nat.reduceLeDiff, Nat.reducePow, Int.reduceLT, Int.reduceLE, Int.reduceNeg, Int.reduceToNat, t5, b5, t6, b6, t8, b8, t9, b9, t10, b10, t11, b11, t15, t17, t19, b15, t16, h6, hp, idx_nat, a2, a3, k32, l3, l4, take1, List.getElem_take, Nat.lt_add_one]
      refine ⟨⟨by omega, by omega⟩, ?_⟩
      refine condK_dec (fun h8 => ?_) (fun h8 => ?_)
      · simp (dsimp := false) (maxDischargeDepth := 16) only [go_sem, ↓reduceIte, reduceCtorEq, Nat.reduceEqDiff, Nat.reduceAdd, Nat.reduceMul, Nat.reduceSub, Nat.reduceLT, Nat.reduceLeDiff, Nat.reducePow, Int.reduceLT, Int.reduceLE, Int.reduceNeg, Int.reduceToNat, t5, b5, t6, b6, t8, b8, t9, b9, t10, b10, t11, b11, t15, t17, t19, b15, t16, h6, hp, h8, idx_nat, a2, a3, k32, l3, l4]
        refine ⟨⟨by omega, by omega⟩, i + 1, by omega, by omega, by rw [wrapN _ (by omega)], .own (125, s.g 125, 0), .own (111, s.g 111, 0), ?_, by rw [take1 hp], ?_, ?_, rfl, rfl⟩
        · rw [gN_neg hp h6 h8]
          simp only [map1_app]
        all_goals simp (dsimp := false) (maxDischargeDepth := 16) only [go_sem, ↓reduceIte, reduceCtorEq, Nat.reduceEqDiff, Nat.reduceAdd, Nat.reduceMul, Nat.reduceSub, Nat.reduceLT, Nat.reduceLeDiff, Nat.reducePow, Int.reduceLT, Int.reduceLE, Int.reduceNeg, Int.reduceToNat, a2, a3, k32, q3]
      · simp (dsimp := false) (maxDischargeDepth := 16) only [go_sem, ↓reduceIte, reduceCtorEq, Nat.reduceEqDiff, Nat.reduceAdd, Nat.reduceMul, Nat.reduceSub, Nat.reduceLT, Nat.reduceLeDiff, Nat.reducePow, Int.reduceLT, Int.reduceLE, Int.reduceNeg, Int.reduceToNat, t5, b5, t6, b6, t8, b8, t9, b9, t10, b10, t11, b11, t15, t17, t19, b15, t16, h6, hp, h8, idx_nat, a2, a3, k32, l3, l4]
        refine ⟨i + 1, by omega, by omega, by rw [wrapN _ (by omega)], k2, .own (111, s.g 111, 0), ?_, by rw [take1 hp], ?_, ?_, i2, rfl⟩
        · rw [gN_pos hp h8]
        all_goals simp (dsimp := false) (maxDischargeDepth := 16) only [go_sem, ↓reduceIte, reduceCtorEq, Nat.reduceEqDiff, Nat.reduceAdd, Nat.reduceMul, Nat.reduceSub, Nat.reduceLT, Nat.reduceLeDiff, Nat.reducePow, Int.reduceLT, Int.reduceLE, Int.reduceNeg, Int.reduceToNat, a2, a3, k32]
    · simp (dsimp := false) (maxDischargeDepth := 16) only [go_sem, ↓reduceIte, reduceCtorEq, Nat.reduceEqDiff, Nat.reduceAdd, Nat.reduceMul, Nat.reduceSub, Nat.reduceLT, Nat.reduceLeDiff, Nat.reducePow, Int.reduceLT, Int.reduceLE, Int.reduceNeg, Int.reduceToNat, t5, b5, t6, b6, t8, b8, t9, b9, t10, b10, t11, b11, t15, t17, t19, b15, t16, h6]
      have hin : i = q.length := by omega
      subst hin
      rw [List.take_length] at t17
      simp (dsimp := false) only [List.take_length]
      refine callK_intro HG ?_
      simp (dsimp := false) (maxDischargeDepth := 16) only [go_sem, ↓reduceIte, reduceCtorEq, Nat.reduceEqDiff, Nat.reduceAdd, Nat.reduceMul, Nat.reduceSub, Nat.reduceLT, Nat.reduceLeDiff, Nat.reducePow, Int.reduceLT, Int.reduceLE, Int.reduceNeg, Int.reduceToNat, t5, b5, t6, b6, t8, b8, t9, b9, t10, b10, t11, b11, t15, t17, t19, b15, t16, h6]
      exact ⟨rfl, finK ⟨rfl, rfl⟩⟩
end Go.Sy
