/- Contracts: the overlap through which two morphisms go, and the rest. -/
import Derived.Test.YtkhheblmgbiniaaSA
set_option linter.unusedSimpArgs false
namespace Go.Sy
open Go Go.Proofs

def oz : Ov := ⟨⟨[], []⟩, ⟨[], []⟩, ⟨[], []⟩⟩
def mz : Mo := ⟨[], []⟩
/-- The rest: where the elements that the overlap adds go, behind those of the first graph. -/
def rst (h k : Mo) (p q : List Int) : Mo := ⟨(gN h.n k.n p p.length).1, (gN h.e k.e q q.length).1⟩
def thrR (a b x : Gr) (h k : Mo) : Ov × Mo × Int := if mErr a x h ≠ 0 then (oz, mz, mErr a x h) else if mErr b x k ≠ 0 then (oz, mz, mErr b x k) else
  if injR a x h && injR b x k then (glue a b (plc h.n k.n) (plc h.e k.e), rst h k (plc h.n k.n) (plc h.e k.e), 0) else (oz, mz, 1)
def thrV (r : Ov × Mo × Int) : AV := .tup [ov r.1, mv r.2.1, iv r.2.2]
attribute [go_sem] thrV
theorem plc_len (k l : List Int) : (plc k l).length = l.length := by simp [plc]
set_option maxHeartbeats 2000000 in
theorem c33 (a b x : Gr) (h k : Mo) : Con Try.prog 33 [gv a, gv b, gv x, mv h, mv k] 0 (thrV (thrR a b x h k)) := by
  refine conT (X := [(24, [], [(10, [18], [])])]) (rs := [.cell 10 43, .cell 11 41, .tmp 12]) Try.func33 (by kernel_rfl) rfl rfl (by kernel_rfl) ?_
  simp (dsimp := false) (maxDischargeDepth := 16) only [go_sem, ↓reduceIte, reduceCtorEq, Nat.reduceEqDiff, Nat.reduceAdd, Nat.reduceMul, Nat.reduceSub, Nat.reduceLT, Nat.reduceLeDiff, Nat.reducePow, Int.reduceLT, Int.reduceLE, Int.reduceNeg, Int.reduceToNat]
  refine callK_intro (c70 a x h) ?_
  simp (dsimp := false) (maxDischargeDepth := 16) only [go_sem, ↓reduceIte, reduceCtorEq, Nat.reduceEqDiff, Nat.reduceAdd, Nat.reduceMul, Nat.reduceSub, Nat.reduceLT, Nat.reduceLeDiff, Nat.reducePow, Int.reduceLT, Int.reduceLE, Int.reduceNeg, Int.reduceToNat]
  refine condK_intro (fun h1 => ?_) (fun h1 => ?_)
  · simp (dsimp := false) (maxDischargeDepth := 16) only [go_sem, ↓reduceIte, reduceCtorEq, Nat.reduceEqDiff, Nat.reduceAdd, Nat.reduceMul, Nat.reduceSub, Nat.reduceLT, Nat.reduceLeDiff, Nat.reducePow, Int.reduceLT, Int.reduceLE, Int.reduceNeg, Int.reduceToNat, h1]
    have e : thrR a b x h k = (oz, mz, mErr a x h) := if_pos (by simpa using h1)
    rw [e]
    exact finK ⟨rfl, rfl⟩
  have g1 : mErr a x h = 0 := by simpa using h1
  simp (dsimp := false) (maxDischargeDepth := 16) only [go_sem, ↓reduceIte, reduceCtorEq, Nat.reduceEqDiff, Nat.reduceAdd, Nat.reduceMul, Nat.reduceSub, Nat.reduceLT, Nat.reduceLeDiff, Nat.reducePow, Int.reduceLT, Int.reduceLE, Int.reduceNeg, Int.reduceToNat, h1]
  refine callK_intro (c70 b x k) ?_
  simp (dsimp := false) (maxDischargeDepth := 16) only [go_sem, ↓reduceIte, reduceCtorEq, Nat.reduceEqDiff, Nat.reduceAdd, Nat.reduceMul, Nat.reduceSub, Nat.reduceLT, Nat.reduceLeDiff, Nat.reducePow, Int.reduceLT, Int.reduceLE, Int.reduceNeg, Int.reduceToNat, h1]
  refine condK_intro (fun h2 => ?_) (fun h2 => ?_)
  · simp (dsimp := false) (maxDischargeDepth := 16) only [go_sem, ↓reduceIte, reduceCtorEq, Nat.reduceEqDiff, Nat.reduceAdd, Nat.reduceMul, Nat.reduceSub, Nat.reduceLT, Nat.reduceLeDiff, Nat.reducePow, Int.reduceLT, Int.reduceLE, Int.reduceNeg, Int.reduceToNat, h1, h2]
    have e : thrR a b x h k = (oz, mz, mErr b x k) := by rw [thrR, if_neg (by simp [g1]), if_pos (by simpa using h2)]
    rw [e]
    exact finK ⟨rfl, rfl⟩
  have g2 : mErr b x k = 0 := by simpa using h2
  simp (dsimp := false) (maxDischargeDepth := 16) only [go_sem, ↓reduceIte, reduceCtorEq, Nat.reduceEqDiff, Nat.reduceAdd, Nat.reduceMul, Nat.reduceSub, Nat.reduceLT, Nat.reduceLeDiff, Nat.reducePow, Int.reduceLT, Int.reduceLE, Int.reduceNeg, Int.reduceToNat, h1, h2]
  have e0 : thrR a b x h k = if injR a x h && injR b x k then (glue a b (plc h.n k.n) (plc h.e k.e), rst h k (plc h.n k.n) (plc h.e k.e), 0) else (oz, mz, 1) := by rw [thrR, if_neg (by simp [g1]), if_neg (by simp [g2])]
  rw [e0]
  have H1 := c75 a x h
  have H2 := c75 b x k
  generalize injR a x h = r1 at *
  generalize injR b x k = r2 at *
  refine callK_intro H1 ?_
  cases r1 with
  | false =>
    simp (dsimp := false) (maxDischargeDepth := 16) only [go_sem, ↓reduceIte, reduceCtorEq, Nat.reduceEqDiff, Nat.reduceAdd, Nat.reduceMul, Nat.reduceSub, Nat.reduceLT, Nat.reduceLeDiff, Nat.reducePow, Int.reduceLT, Int.reduceLE, Int.reduceNeg, Int.reduceToNat, h1, h2, Bool.not_false]
    exact finK ⟨rfl, rfl⟩
  | true =>
  simp (dsimp := false) (maxDischargeDepth := 16) only [go_sem, ↓reduceIte, reduceCtorEq, Nat.reduceEqDiff, Nat.reduceAdd, Nat.reduceMul, Nat.reduceSub, Nat.reduceLT, Nat.reduceLeDiff, Nat.reducePow, Int.reduceLT, Int.reduceLE, Int.reduceNeg, Int.reduceToNat, h1, h2, Bool.not_true]
  refine callK_intro H2 ?_
  cases r2 with
  | false =>
    simp (dsimp := false) (maxDischargeDepth := 16) only [go_sem, ↓reduceIte, reduceCtorEq, Nat.reduceEqDiff, Nat.reduceAdd, Nat.reduceMul, Nat.reduceSub, Nat.reduceLT, Nat.reduceLeDiff, Nat.reducePow, Int.reduceLT, Int.reduceLE, Int.reduceNeg, Int.reduceToNat, h1, h2, Bool.not_false]
    exact finK ⟨rfl, rfl⟩
  | true =>
  simp (dsimp := false) (maxDischargeDepth := 16) only [go_sem, ↓reduceIte, reduceCtorEq, Nat.reduceEqDiff, Nat.reduceAdd, Nat.reduceMul, Nat.reduceSub, Nat.reduceLT, Nat.reduceLeDiff, Nat.reducePow, Int.reduceLT, Int.reduceLE, Int.reduceNeg, Int.reduceToNat, h1, h2, Bool.not_true]
  have o1 := mErr_ok g1
  have o2 := mErr_ok g2
  have ga := gErr_small o1.1
  have gb := gErr_small o2.1
  refine callK_intro (c76 k.n h.n (by omega)) ?_
  simp (dsimp := false) (maxDischargeDepth := 16) only [go_sem, ↓reduceIte, reduceCtorEq, Nat.reduceEqDiff, Nat.reduceAdd, Nat.reduceMul, Nat.reduceSub, Nat.reduceLT, Nat.reduceLeDiff, Nat.reducePow, Int.reduceLT, Int.reduceLE, Int.reduceNeg, Int.reduceToNat, h1, h2]
  refine callK_intro (c76 k.e h.e (by omega)) ?_
  simp (dsimp := false) (maxDischargeDepth := 16) only [go_sem, ↓reduceIte, reduceCtorEq, Nat.reduceEqDiff, Nat.reduceAdd, Nat.reduceMul, Nat.reduceSub, Nat.reduceLT, Nat.reduceLeDiff, Nat.reducePow, Int.reduceLT, Int.reduceLE, Int.reduceNeg, Int.reduceToNat, h1, h2]
  refine callK_intro (c77 a b (plc h.n k.n) (plc h.e k.e) o1.1 (by omega) (by omega) (by rw [plc_len]; omega) (by rw [plc_len]; omega) (by omega) (by omega) (fun x hx => ?_)) ?_
  · have := gb.2.2 x hx
    rw [plc_len, o2.2.2.1]
    unfold edOK at this
    omega
  simp (dsimp := false) (maxDischargeDepth := 16) only [go_sem, ↓reduceIte, reduceCtorEq, Nat.reduceEqDiff, Nat.reduceAdd, Nat.reduceMul, Nat.reduceSub, Nat.reduceLT, Nat.reduceLeDiff, Nat.reducePow, Int.reduceLT, Int.reduceLE, Int.reduceNeg, Int.reduceToNat, h1, h2]
  refine callK_intro (c78 h.n (by omega)) ?_
  simp (dsimp := false) (maxDischargeDepth := 16) only [go_sem, ↓reduceIte, reduceCtorEq, Nat.reduceEqDiff, Nat.reduceAdd, Nat.reduceMul, Nat.reduceSub, Nat.reduceLT, Nat.reduceLeDiff, Nat.reducePow, Int.reduceLT, Int.reduceLE, Int.reduceNeg, Int.reduceToNat, h1, h2]
  refine callK_intro (c78 h.e (by omega)) ?_
  simp (dsimp := false) (maxDischargeDepth := 16) only [go_sem, ↓reduceIte, reduceCtorEq, Nat.reduceEqDiff, Nat.reduceAdd, Nat.reduceMul, Nat.reduceSub, Nat.reduceLT, Nat.reduceLeDiff, Nat.reducePow, Int.reduceLT, Int.reduceLE, Int.reduceNeg, Int.reduceToNat, h1, h2]
  have pl : (plc h.n k.n).length = k.n.length := plc_len _ _
  have ql : (plc h.e k.e).length = k.e.length := plc_len _ _
  have sn : k.n.length ≤ 1000 := by omega
  have se : k.e.length ≤ 1000 := by omega
  have sn' : h.n.length ≤ 1000 := by omega
  have se' : h.e.length ≤ 1000 := by omega
  clear ga gb o1 o2 e0 h1 h2 H1 H2 g1 g2
  rw [if_pos (by rfl)]
  unfold rst
  generalize plc h.n k.n = p at *
  generalize plc h.e k.e = q at *
  generalize glue a b p q = G
  refine loopK_intro (fun (i : Nat) s => i ≤ p.length ∧ s.t 9 = .box (9, 0, 0) 0 ∧ s.b (9, 0, 0) = some ⟨mcs k, false⟩ ∧ s.t 10 = .box (10, 0, 0) 0 ∧ (∃ z1 z2 z3 z4 z5 z6, s.b (10, 0, 0) = some ⟨[z1, z2, z3, z4, z5, z6], false⟩) ∧ s.t 11 = .box (11, 0, 0) 0 ∧ (∃ y1 y2, s.b (11, 0, 0) = some ⟨[y1, y2], false⟩) ∧
    s.t 16 = lv q ∧ s.t 17 = .box (17, 0, 0) 0 ∧ s.b (17, 0, 0) = some ⟨ocs G, false⟩ ∧ s.t 18 = .box (18, 0, 0) 0 ∧ s.t 77 = lv p ∧ s.t 78 = iv p.length ∧ s.t 79 = iv i ∧ ∃ k1 k2, s.b (18, 0, 0) = some ⟨[lvT (gN h.n k.n p i).1 k1, lvT h.e k2], false⟩ ∧
    tokOK s k1 = true ∧ tokOK s k2 = true ∧ tkIn [(72, 0), (94, 0)] k1 = true ∧ tkIn [(75, 0)] k2 = true) (fun i => p.length - i) ?_ ?_
  · refine ⟨0, by omega, rfl, rfl, rfl, ⟨_, _, _, _, _, _, rfl⟩, rfl, ⟨_, _, rfl⟩, rfl, rfl, rfl, rfl, rfl, rfl, rfl, .own (72, 0, 0), .own (75, 0, 0), rfl, ?_, rfl, rfl, rfl⟩
    simp (dsimp := false) (maxDischargeDepth := 16) only [go_sem, ↓reduceIte, reduceCtorEq, Nat.reduceEqDiff, Nat.reduceAdd, Nat.reduceMul, Nat.reduceSub, Nat.reduceLT, Nat.reduceLeDiff, Nat.reducePow, Int.reduceLT, Int.reduceLE, Int.reduceNeg, Int.reduceToNat]
  rintro i s ⟨hi, t9, b9, t10, ⟨z1, z2, z3, z4, z5, z6, b10⟩, t11, ⟨y1, y2, b11⟩, t16, t17, b17, t18, t77, t78, t79, k1, k2, b18, a1, a2, i1, i2⟩
  simp (dsimp := false) (maxDischargeDepth := 16) only [go_sem, ↓reduceIte, reduceCtorEq, Nat.reduceEqDiff, Nat.reduceAdd, Nat.reduceMul, Nat.reduceSub, Nat.reduceLT, Nat.reduceLeDiff, Nat.reducePow, Int.reduceLT, Int.reduceLE, Int.reduceNeg, Int.reduceToNat, t9, b9, t10, b10, t11, b11, t16, t17, b17, t18, t77, t78, t79, b18]
  refine condK_dec (fun h6 => ?_) (fun h6 => ?_)
  · have h7 : i < k.n.length := by omega
    simp (dsimp := false) (maxDischargeDepth := 16) only [go_sem, ↓reduceIte, reduceCtorEq, Nat.reduceEqDiff, Nat.reduceAdd, Nat.reduceMul, Nat.reduceSub, Nat.reduceLT, Nat.reduceLeDiff, Nat.reducePow, Int.reduceLT, Int.reduceLE, Int.reduceNeg, Int.reduceToNat, t9, b9, t10, b10, t11, b11, t16, t17, b17, t18, t77, t78, t79, b18, h6, idx_nat]
    have k12 : ∀ (s : St) (d n : Nat) (x : AV), tokOK s k2 = true → tokOK (s.ntok d n x (tokKey k1)) k2 = true := fun s d n x h => tk_kill i1 i2 rfl h
    have l1 := gN_len1 h.n k.n p i
    refine condK_dec (fun h8 => ?_) (fun h8 => ?_)
    · simp (dsimp := false) (maxDischargeDepth := 16) only [go_sem, ↓reduceIte, reduceCtorEq, Nat.reduceEqDiff, Nat.reduceAdd, Nat.reduceMul, Nat.reduceSub, Nat.reduceLT, Nat.reduceLeDiff, Nat.reducePow, Int.reduceLT, Int.reduceLE, Int.reduceNeg, Int.reduceToNat, t9, b9, t10, b10, t11, b11, t16, t17, b17, t18, t77, t78, t79, b18, h6, h7, h8, idx_nat, a1, a2, k12]
      refine ⟨⟨by omega, by omega⟩, i + 1, by omega, by omega, ⟨_, _, _, _, _, _, rfl⟩, ⟨_, _, rfl⟩, by rw [wrapN _ (by omega)], .own (94, s.g 94, 0), k2, ?_, ?_, ?_, rfl, i2⟩
      · rw [gN_neg h6 h7 h8]
        simp only [map1_app]
      all_goals simp (dsimp := false) (maxDischargeDepth := 16) only [go_sem, ↓reduceIte, reduceCtorEq, Nat.reduceEqDiff, Nat.reduceAdd, Nat.reduceMul, Nat.reduceSub, Nat.reduceLT, Nat.reduceLeDiff, Nat.reducePow, Int.reduceLT, Int.reduceLE, Int.reduceNeg, Int.reduceToNat, a1, a2, k12]
    · simp (dsimp := false) (maxDischargeDepth := 16) only [go_sem, ↓reduceIte, reduceCtorEq, Nat.reduceEqDiff, Nat.reduceAdd, Nat.reduceMul, Nat.reduceSub, Nat.reduceLT, Nat.reduceLeDiff, Nat.reducePow, Int.reduceLT, Int.reduceLE, Int.reduceNeg, Int.reduceToNat, t9, b9, t10, b10, t11, b11, t16, t17, b17, t18, t77, t78, t79, b18, h6, h7, h8, idx_nat, a1, a2, k12]
      refine ⟨i + 1, by omega, by omega, ⟨_, _, _, _, _, _, rfl⟩, ⟨_, _, rfl⟩, by rw [wrapN _ (by omega)], k1, k2, ?_, a1, a2, i1, i2⟩
      rw [gN_pos h6 h8]
  · simp (dsimp := false) (maxDischargeDepth := 16) only [go_sem, ↓reduceIte, reduceCtorEq, Nat.reduceEqDiff, Nat.reduceAdd, Nat.reduceMul, Nat.reduceSub, Nat.reduceLT, Nat.reduceLeDiff, Nat.reducePow, Int.reduceLT, Int.reduceLE, Int.reduceNeg, Int.reduceToNat, t9, b9, t10, b10, t11, b11, t16, t17, b17, t18, t77, t78, t79, b18, h6]
    have hin : i = p.length := by omega
    subst hin
    generalize (gN h.n k.n p p.length).1 = L at *
    refine loopK_intro (fun (i : Nat) s => i ≤ q.length ∧ s.t 9 = .box (9, 0, 0) 0 ∧ s.b (9, 0, 0) = some ⟨mcs k, false⟩ ∧ s.t 10 = .box (10, 0, 0) 0 ∧ s.b (10, 0, 0) = some ⟨[z1, z2, z3, z4, z5, z6], false⟩ ∧ s.t 11 = .box (11, 0, 0) 0 ∧ s.b (11, 0, 0) = some ⟨[y1, y2], false⟩ ∧
      s.t 17 = .box (17, 0, 0) 0 ∧ s.b (17, 0, 0) = some ⟨ocs G, false⟩ ∧ s.t 18 = .box (18, 0, 0) 0 ∧ s.t 97 = lv q ∧ s.t 98 = iv q.length ∧ s.t 99 = iv i ∧ ∃ k2, s.b (18, 0, 0) = some ⟨[lvT L k1, lvT (gN h.e k.e q i).1 k2], false⟩ ∧
      tokOK s k2 = true ∧ tkIn [(75, 0), (114, 0)] k2 = true) (fun i => q.length - i) ?_ ?_
    · refine ⟨0, by omega, t9, b9, t10, b10, t11, b11, t17, b17, t18, rfl, rfl, rfl, k2, b18, a2, ?_⟩
      revert i2
      cases k2 <;> simp [tkIn]
      intro h1 h2
      exact .inl ⟨h1, h2⟩
    clear t9 b9 t10 b10 t11 b11 t16 t17 b17 t18 t77 t78 t79 b18 a1 a2 i1 i2 h6 hi
    rintro i s ⟨hi, t9, b9, t10, b10, t11, b11, t17, b17, t18, t97, t98, t99, k2, b18, a2, i2⟩
    simp (dsimp := false) (maxDischargeDepth := 16) only [go_sem, ↓reduceIte, reduceCtorEq, Nat.reduceEqDiff, Nat.reduceAdd, Nat.reduceMul, Nat.reduceSub, Nat.reduceLT, Nat.reduceLeDiff, Nat.reducePow, Int.reduceLT, Int.reduceLE, Int.reduceNeg, Int.reduceToNat, t9, b9, t10, b10, t11, b11, t17, b17, t18, t97, t98, t99, b18]
    refine condK_dec (fun h6 => ?_) (fun h6 => ?_)
    · have h7 : i < k.e.length := by omega
      simp (dsimp := false) (maxDischargeDepth := 16) only [go_sem, ↓reduceIte, reduceCtorEq, Nat.reduceEqDiff, Nat.reduceAdd, Nat.reduceMul, Nat.reduceSub, Nat.reduceLT, Nat.reduceLeDiff, Nat.reducePow, Int.reduceLT, Int.reduceLE, Int.reduceNeg, Int.reduceToNat, t9, b9, t10, b10, t11, b11, t17, b17, t18, t97, t98, t99, b18, h6, idx_nat]
      have l1 := gN_len1 h.e k.e q i
      refine condK_dec (fun h8 => ?_) (fun h8 => ?_)
      · simp (dsimp := false) (maxDischargeDepth := 16) only [go_sem, ↓reduceIte, reduceCtorEq, Nat.reduceEqDiff, Nat.reduceAdd, Nat.reduceMul, Nat.reduceSub, Nat.reduceLT, Nat.reduceLeDiff, Nat.reducePow, Int.reduceLT, Int.reduceLE, Int.reduceNeg, Int.reduceToNat, t9, b9, t10, b10, t11, b11, t17, b17, t18, t97, t98, t99, b18, h6, h7, h8, idx_nat, a2]
        refine ⟨⟨by omega, by omega⟩, i + 1, by omega, by omega, by rw [wrapN _ (by omega)], .own (114, s.g 114, 0), ?_, ?_, rfl⟩
        · rw [gN_neg h6 h7 h8]
          simp only [map1_app]
        all_goals simp (dsimp := false) (maxDischargeDepth := 16) only [go_sem, ↓reduceIte, reduceCtorEq, Nat.reduceEqDiff, Nat.reduceAdd, Nat.reduceMul, Nat.reduceSub, Nat.reduceLT, Nat.reduceLeDiff, Nat.reducePow, Int.reduceLT, Int.reduceLE, Int.reduceNeg, Int.reduceToNat, a2]
      · simp (dsimp := false) (maxDischargeDepth := 16) only [go_sem, ↓reduceIte, reduceCtorEq, Nat.reduceEqDiff, Nat.reduceAdd, Nat.reduceMul, Nat.reduceSub, Nat.reduceLT, Nat.reduceLeDiff, Nat.reducePow, Int.reduceLT, Int.reduceLE, Int.reduceNeg, Int.reduceToNat, t9, b9, t10, b10, t11, b11, t17, b17, t18, t97, t98, t99, b18, h6, h7, h8, idx_nat, a2]
        refine ⟨i + 1, by omega, by omega, by rw [wrapN _ (by omega)], k2, ?_, a2, i2⟩
        rw [gN_pos h6 h8]
    · simp (dsimp := false) (maxDischargeDepth := 16) only [go_sem, ↓reduceIte, reduceCtorEq, Nat.reduceEqDiff, Nat.reduceAdd, Nat.reduceMul, Nat.reduceSub, Nat.reduceLT, Nat.reduceLeDiff, Nat.reducePow, Int.reduceLT, Int.reduceLE, Int.reduceNeg, Int.reduceToNat, t9, b9, t10, b10, t11, b11, t17, b17, t18, t97, t98, t99, b18, h6]
      have hin : i = q.length := by omega
      rw [hin]

      exact ⟨rfl, finK ⟨rfl, rfl⟩⟩
end Go.Sy
