/- Contracts: overlaps. -/
import Derived.Test.YtkhheblmgbiniaaW3
set_option linter.unusedSimpArgs false
namespace Go.Sy
open Go Go.Proofs

def rng (n : Nat) : List Int := (List.range n).map fun (i : Nat) => (i : Int)
/-- The nodes of an overlap, and where those of b go. -/
def gN (a bn nodes : List Int) : Nat → List Int × List Int
  | 0 => (a, [])
  | i + 1 => if nodes.getD i 0 < 0 then ((gN a bn nodes i).1 ++ [bn.getD i 0], (gN a bn nodes i).2 ++ [((gN a bn nodes i).1.length : Int)]) else ((gN a bn nodes i).1, (gN a bn nodes i).2 ++ [nodes.getD i 0])
def gE (a be : List Ed) (R edges : List Int) : Nat → List Ed × List Int
  | 0 => (a, [])
  | i + 1 => if edges.getD i 0 < 0 then ((gE a be R edges i).1 ++ [((be.getD i (0, 0, 0)).1, R.getD (be.getD i (0, 0, 0)).2.1.toNat 0, R.getD (be.getD i (0, 0, 0)).2.2.toNat 0)], (gE a be R edges i).2 ++ [((gE a be R edges i).1.length : Int)])
    else ((gE a be R edges i).1, (gE a be R edges i).2 ++ [edges.getD i 0])
def glue (a b : Gr) (nodes edges : List Int) : Ov :=
  ⟨⟨(gN a.n b.n nodes nodes.length).1, (gE a.e b.e (gN a.n b.n nodes nodes.length).2 edges edges.length).1⟩, ⟨rng a.n.length, rng a.e.length⟩,
    ⟨(gN a.n b.n nodes nodes.length).2, (gE a.e b.e (gN a.n b.n nodes nodes.length).2 edges edges.length).2⟩⟩
theorem gN_len1 (a bn nodes : List Int) (i : Nat) : (gN a bn nodes i).1.length ≤ a.length + i := by
  induction i with
  | zero => simp [gN]
  | succ i ih => unfold gN; split <;> simp <;> omega
theorem gN_len2 (a bn nodes : List Int) (i : Nat) : (gN a bn nodes i).2.length = i := by
  induction i with
  | zero => simp [gN]
  | succ i ih => unfold gN; split <;> simp <;> omega

theorem gN_neg {a bn nodes : List Int} {i : Nat} (h : i < nodes.length) (h7 : i < bn.length) (h8 : nodes[i] < 0) : gN a bn nodes (i + 1) = ((gN a bn nodes i).1 ++ [bn[i]], (gN a bn nodes i).2 ++ [((gN a bn nodes i).1.length : Int)]) := by
  have e : nodes.getD i 0 = nodes[i] := by simp [h]
  have e2 : bn.getD i 0 = bn[i] := by simp [h7]
  rw [gN, e, e2, if_pos h8]
theorem gN_pos {a bn nodes : List Int} {i : Nat} (h : i < nodes.length) (h8 : ¬ nodes[i] < 0) : gN a bn nodes (i + 1) = ((gN a bn nodes i).1, (gN a bn nodes i).2 ++ [nodes[i]]) := by
  have e : nodes.getD i 0 = nodes[i] := by simp [h]
  rw [gN, e, if_neg h8]
theorem map1_app (l : List Int) (x : Int) : (l ++ [x]).map (fun n => [AV.v (.int .i64 n)]) = l.map (fun n => [AV.v (.int .i64 n)]) ++ [[AV.v (.int .i64 x)]] := by simp
theorem gE_neg {a be : List Ed} {R edges : List Int} {i : Nat} (h : i < edges.length) (h7 : i < be.length) (h8 : edges[i] < 0) (r1 : be[i].2.1.toNat < R.length) (r2 : be[i].2.2.toNat < R.length) :
    gE a be R edges (i + 1) = ((gE a be R edges i).1 ++ [(be[i].1, R[be[i].2.1.toNat], R[be[i].2.2.toNat])], (gE a be R edges i).2 ++ [((gE a be R edges i).1.length : Int)]) := by
  have e : edges.getD i 0 = edges[i] := by simp [h]
  have e2 : be.getD i (0, 0, 0) = be[i] := by simp [h7]
  rw [gE, e, e2, if_pos h8]
  simp [r1, r2]
theorem gE_pos {a be : List Ed} {R edges : List Int} {i : Nat} (h : i < edges.length) (h8 : ¬ edges[i] < 0) : gE a be R edges (i + 1) = ((gE a be R edges i).1, (gE a be R edges i).2 ++ [edges[i]]) := by
  have e : edges.getD i 0 = edges[i] := by simp [h]
  rw [gE, e, if_neg h8]
theorem gE_len1 (a be : List Ed) (R edges : List Int) (i : Nat) : (gE a be R edges i).1.length ≤ a.length + i := by
  induction i with
  | zero => simp [gE]
  | succ i ih => unfold gE; split <;> simp <;> omega
theorem gE_len2 (a be : List Ed) (R edges : List Int) (i : Nat) : (gE a be R edges i).2.length = i := by
  induction i with
  | zero => simp [gE]
  | succ i ih => unfold gE; split <;> simp <;> omega
theorem map3_app (l : List Ed) (x : Ed) : (l ++ [x]).map ecs = l.map ecs ++ [ecs x] := by simp
set_option maxHeartbeats 1000000 in
theorem c80 (a b : Gr) (nodes edges : List Int) (ha : a.n.length ≤ 1000) (hae : a.e.length ≤ 1000) (hn : nodes.length ≤ b.n.length) (he : edges.length ≤ b.e.length) (hb : b.n.length ≤ 1000) (hbe : b.e.length ≤ 1000)
    (hR : ∀ x ∈ b.e, 0 ≤ x.2.1 ∧ x.2.1 < nodes.length ∧ 0 ≤ x.2.2 ∧ x.2.2 < nodes.length) : Con Try.prog 80 [gv a, gv b, lv nodes, lv edges] 0 (ov (glue a b nodes edges)) := by
  refine conT (X := []) (rs := [.cell 8 43]) Try.func80 (by kernel_rfl) rfl rfl (by kernel_rfl) ?_
  simp (dsimp := false) (maxDischargeDepth := 16) only [go_sem, ↓reduceIte, reduceCtorEq, Nat.reduceEqDiff, Nat.reduceAdd, Nat.reduceMul, Nat.reduceSub, Nat.reduceLT, Nat.reduceLeDiff, Nat.reducePow, Int.reduceLT, Int.reduceLE, Int.reduceNeg, Int.reduceToNat]
  refine callK_intro (c19 a (by omega) (by omega)) ?_
  simp (dsimp := false) (maxDischargeDepth := 16) only [go_sem, ↓reduceIte, reduceCtorEq, Nat.reduceEqDiff, Nat.reduceAdd, Nat.reduceMul, Nat.reduceSub, Nat.reduceLT, Nat.reduceLeDiff, Nat.reducePow, Int.reduceLT, Int.reduceLE, Int.reduceNeg, Int.reduceToNat, gvo]
  refine callK_intro (c57 a (by omega) (by omega)) ?_
  simp (dsimp := false) (maxDischargeDepth := 16) only [go_sem, ↓reduceIte, reduceCtorEq, Nat.reduceEqDiff, Nat.reduceAdd, Nat.reduceMul, Nat.reduceSub, Nat.reduceLT, Nat.reduceLeDiff, Nat.reducePow, Int.reduceLT, Int.reduceLE, Int.reduceNeg, Int.reduceToNat]
  refine loopK_intro (fun (i : Nat) s => i ≤ nodes.length ∧ s.t 2 = lv nodes ∧ s.t 3 = lv edges ∧ s.t 5 = .box (5, 0, 0) 0 ∧ s.b (5, 0, 0) = some ⟨gcs b, false⟩ ∧ s.t 8 = .box (8, 0, 0) 0 ∧ (∃ z1 z2 z3 z4 z5 z6, s.b (8, 0, 0) = some ⟨[z1, z2, z3, z4, z5, z6], false⟩) ∧
    s.t 9 = .box (9, 0, 0) 0 ∧ s.t 10 = iv i ∧ ∃ t1 t2 t3, s.b (9, 0, 0) = some ⟨[lvT (gN a.n b.n nodes i).1 t1, elT' a.e t3, lv (rng a.n.length), lv (rng a.e.length), lvT (gN a.n b.n nodes i).2 t2, .list 1 [] .nil], false⟩ ∧
    tokOK s t1 = true ∧ tokOK s t2 = true ∧ tokOK s t3 = true ∧ tkIn [(16, 0), (45, 0)] t1 = true ∧ tkIn [(53, 0)] t2 = true ∧ tkIn [(16, 1)] t3 = true) (fun i => nodes.length - i)
    ?_ ?_
  · refine ⟨0, by omega, rfl, rfl, rfl, rfl, rfl, ⟨_, _, _, _, _, _, rfl⟩, rfl, rfl, .own (16, 0, 0), .nil, .own (16, 0, 1), rfl, ?_, rfl, ?_, rfl, rfl, rfl⟩
    · simp (dsimp := false) (maxDischargeDepth := 16) only [go_sem, ↓reduceIte, reduceCtorEq, Nat.reduceEqDiff, Nat.reduceAdd, Nat.reduceMul, Nat.reduceSub, Nat.reduceLT, Nat.reduceLeDiff, Nat.reducePow, Int.reduceLT, Int.reduceLE, Int.reduceNeg, Int.reduceToNat]
    · simp (dsimp := false) (maxDischargeDepth := 16) only [go_sem, ↓reduceIte, reduceCtorEq, Nat.reduceEqDiff, Nat.reduceAdd, Nat.reduceMul, Nat.reduceSub, Nat.reduceLT, Nat.reduceLeDiff, Nat.reducePow, Int.reduceLT, Int.reduceLE, Int.reduceNeg, Int.reduceToNat]
  rintro i s ⟨hi, t2, t3, t5, b5, t8, ⟨z1, z2, z3, z4, z5, z6, b8⟩, t9, t10, k1, k2, k3, b9, a1, a2, a3, i1, i2, i3⟩
  simp (dsimp := false) (maxDischargeDepth := 16) only [go_sem, ↓reduceIte, reduceCtorEq, Nat.reduceEqDiff, Nat.reduceAdd, Nat.reduceMul, Nat.reduceSub, Nat.reduceLT, Nat.reduceLeDiff, Nat.reducePow, Int.reduceLT, Int.reduceLE, Int.reduceNeg, Int.reduceToNat, t2, t3, t5, b5, t8, b8, t9, t10, b9]
  refine condK_dec (fun h6 => ?_) (fun h6 => ?_)
  · have h7 : i < b.n.length := by omega
    simp (dsimp := false) (maxDischargeDepth := 16) only [go_sem, ↓reduceIte, reduceCtorEq, Nat.reduceEqDiff, Nat.reduceAdd, Nat.reduceMul, Nat.reduceSub, Nat.reduceLT, Nat.reduceLeDiff, Nat.reducePow, Int.reduceLT, Int.reduceLE, Int.reduceNeg, Int.reduceToNat, t2, t3, t5, b5, t8, b8, t9, t10, b9, h6, idx_nat]
    refine condK_dec (fun h8 => ?_) (fun h8 => ?_)
    · have k12 : ∀ (s : St) (d n : Nat) (x : AV), tokOK s k2 = true → tokOK (s.ntok d n x (tokKey k1)) k2 = true := fun s d n x h => tk_kill i1 i2 rfl h
      have k13 : ∀ (s : St) (d n : Nat) (x : AV), tokOK s k3 = true → tokOK (s.ntok d n x (tokKey k1)) k3 = true := fun s d n x h => tk_kill i1 i3 rfl h
      have k23 : ∀ (s : St) (d n : Nat) (x : AV), tokOK s k3 = true → tokOK (s.ntok d n x (tokKey k2)) k3 = true := fun s d n x h => tk_kill i2 i3 rfl h
      have q2 : ∀ (f : Key → Bool) (g : Nat), killO f (tokKey k2) (45, g, 0) = f (45, g, 0) := fun f g => kill_tk i2 rfl f
      have l1 := gN_len1 a.n b.n nodes i
      have l2 := gN_len2 a.n b.n nodes i
      simp (dsimp := false) (maxDischargeDepth := 16) only [go_sem, ↓reduceIte, reduceCtorEq, Nat.reduceEqDiff, Nat.reduceAdd, Nat.reduceMul, Nat.reduceSub, Nat.reduceLT, Nat.reduceLeDiff, Nat.reducePow, Int.reduceLT, Int.reduceLE, Int.reduceNeg, Int.reduceToNat, t2, t3, t5, b5, t8, b8, t9, t10, b9, h6, h7, h8, idx_nat, a1, a2, a3, k12, k13, k23]
      refine ⟨⟨by omega, by omega⟩, ⟨by omega, by omega⟩, i + 1, by omega, by omega, ⟨_, _, _, _, _, _, rfl⟩, by rw [wrapN _ (by omega)], .own (45, s.g 45, 0), .own (53, s.g 53, 0), k3, ?_, ?_, ?_, ?_, rfl, rfl, i3⟩
      · rw [gN_neg h6 h7 h8]
        simp only [map1_app]
      all_goals simp (dsimp := false) (maxDischargeDepth := 16) only [go_sem, ↓reduceIte, reduceCtorEq, Nat.reduceEqDiff, Nat.reduceAdd, Nat.reduceMul, Nat.reduceSub, Nat.reduceLT, Nat.reduceLeDiff, Nat.reducePow, Int.reduceLT, Int.reduceLE, Int.reduceNeg, Int.reduceToNat, a1, a2, a3, k12, k13, k23, q2]
    · have k23 : ∀ (s : St) (d n : Nat) (x : AV), tokOK s k3 = true → tokOK (s.ntok d n x (tokKey k2)) k3 = true := fun s d n x h => tk_kill i2 i3 rfl h
      have k21 : ∀ (s : St) (d n : Nat) (x : AV), tokOK s k1 = true → tokOK (s.ntok d n x (tokKey k2)) k1 = true := fun s d n x h => tk_kill i2 i1 rfl h
      have l2 := gN_len2 a.n b.n nodes i
      simp (dsimp := false) (maxDischargeDepth := 16) only [go_sem, ↓reduceIte, reduceCtorEq, Nat.reduceEqDiff, Nat.reduceAdd, Nat.reduceMul, Nat.reduceSub, Nat.reduceLT, Nat.reduceLeDiff, Nat.reducePow, Int.reduceLT, Int.reduceLE, Int.reduceNeg, Int.reduceToNat, t2, t3, t5, b5, t8, b8, t9, t10, b9, h6, h7, h8, idx_nat, a1, a2, a3, k21, k23]
      refine ⟨⟨by omega, by omega⟩, i + 1, by omega, by omega, ⟨_, _, _, _, _, _, rfl⟩, by rw [wrapN _ (by omega)], k1, .own (53, s.g 53, 0), k3, ?_, ?_, ?_, ?_, i1, rfl, i3⟩
      · rw [gN_pos h6 h8]
        simp only [map1_app]
      all_goals simp (dsimp := false) (maxDischargeDepth := 16) only [go_sem, ↓reduceIte, reduceCtorEq, Nat.reduceEqDiff, Nat.reduceAdd, Nat.reduceMul, Nat.reduceSub, Nat.reduceLT, Nat.reduceLeDiff, Nat.reducePow, Int.reduceLT, Int.reduceLE, Int.reduceNeg, Int.reduceToNat, a1, a2, a3, k21, k23]
  · simp (dsimp := false) (maxDischargeDepth := 16) only [go_sem, ↓reduceIte, reduceCtorEq, Nat.reduceEqDiff, Nat.reduceAdd, Nat.reduceMul, Nat.reduceSub, Nat.reduceLT, Nat.reduceLeDiff, Nat.reducePow, Int.reduceLT, Int.reduceLE, Int.reduceNeg, Int.reduceToNat, t2, t3, t5, b5, t8, b8, t9, t10, b9, h6]
    have hin : i = nodes.length := by omega
    subst hin
    have l2 := gN_len2 a.n b.n nodes nodes.length
    have hRR : ∀ R, R = (gN a.n b.n nodes nodes.length).2 → R.length = nodes.length := fun R h => by rw [h, l2]
    unfold glue
    generalize hR0 : (gN a.n b.n nodes nodes.length).2 = R at *
    generalize (gN a.n b.n nodes nodes.length).1 = G at *
    refine loopK_intro (fun (i : Nat) s => i ≤ edges.length ∧ s.t 3 = lv edges ∧ s.t 5 = .box (5, 0, 0) 0 ∧ s.b (5, 0, 0) = some ⟨gcs b, false⟩ ∧ s.t 8 = .box (8, 0, 0) 0 ∧ s.b (8, 0, 0) = some ⟨[z1, z2, z3, z4, z5, z6], false⟩ ∧
      s.t 9 = .box (9, 0, 0) 0 ∧ s.t 12 = iv i ∧ ∃ t3 t4, s.b (9, 0, 0) = some ⟨[lvT G k1, elT' (gE a.e b.e R edges i).1 t3, lv (rng a.n.length), lv (rng a.e.length), lvT R k2, lvT (gE a.e b.e R edges i).2 t4], false⟩ ∧
      tokOK s t3 = true ∧ tokOK s t4 = true ∧ tkIn [(16, 1), (98, 0)] t3 = true ∧ tkIn [(106, 0)] t4 = true) (fun i => edges.length - i) ?_ ?_
    · refine ⟨0, by omega, t3, t5, b5, t8, b8, t9, rfl, k3, .nil, ?_, ?_, rfl, ?_, rfl⟩
      · simp (dsimp := false) (maxDischargeDepth := 16) only [go_sem, ↓reduceIte, reduceCtorEq, Nat.reduceEqDiff, Nat.reduceAdd, Nat.reduceMul, Nat.reduceSub, Nat.reduceLT, Nat.reduceLeDiff, Nat.reducePow, Int.reduceLT, Int.reduceLE, Int.reduceNeg, Int.reduceToNat, b9, gE]
      · simp (dsimp := false) (maxDischargeDepth := 16) only [go_sem, ↓reduceIte, reduceCtorEq, Nat.reduceEqDiff, Nat.reduceAdd, Nat.reduceMul, Nat.reduceSub, Nat.reduceLT, Nat.reduceLeDiff, Nat.reducePow, Int.reduceLT, Int.reduceLE, Int.reduceNeg, Int.reduceToNat, a3]
      · revert i3
        cases k3 <;> simp [tkIn]
        intro h1 h2
        exact .inl ⟨h1, h2⟩
    clear t2 t3 t5 b5 t8 b8 t9 t10 b9 a1 a2 a3 i1 i2 i3 h6 hi
    rintro i s ⟨hi, t3, t5, b5, t8, b8, t9, t12, q3, q4, b9, a3, a4, i3, i4⟩
    simp (dsimp := false) (maxDischargeDepth := 16) only [go_sem, ↓reduceIte, reduceCtorEq, Nat.reduceEqDiff, Nat.reduceAdd, Nat.reduceMul, Nat.reduceSub, Nat.reduceLT, Nat.reduceLeDiff, Nat.reducePow, Int.reduceLT, Int.reduceLE, Int.reduceNeg, Int.reduceToNat, t3, t5, b5, t8, b8, t9, t12, b9]
    have m1 := gE_len1 a.e b.e R edges i
    have m2 := gE_len2 a.e b.e R edges i
    refine condK_dec (fun h6 => ?_) (fun h6 => ?_)
    · have h7 : i < b.e.length := by omega
      have hx := hR _ (List.getElem_mem h7)
      have r1 : b.e[i].2.1.toNat < R.length := by omega
      have r2 : b.e[i].2.2.toNat < R.length := by omega
      have r3 := hx.1
      have r4 := hx.2.2.1
      simp (dsimp := false) (maxDischargeDepth := 16) only [go_sem, ↓reduceIte, reduceCtorEq, Nat.reduceEqDiff, Nat.reduceAdd, Nat.reduceMul, Nat.reduceSub, Nat.reduceLT, Nat.reduceLeDiff, Nat.reducePow, Int.reduceLT, Int.reduceLE, Int.reduceNeg, Int.reduceToNat, t3, t5, b5, t8, b8, t9, t12, b9, h6, idx_nat]
      refine condK_dec (fun h8 => ?_) (fun h8 => ?_)
      · have k34 : ∀ (s : St) (d n : Nat) (x : AV), tokOK s q4 = true → tokOK (s.ntok d n x (tokKey q3)) q4 = true := fun s d n x h => tk_kill i3 i4 rfl h
        have q5 : ∀ (f : Key → Bool) (g : Nat), killO f (tokKey q4) (98, g, 0) = f (98, g, 0) := fun f g => kill_tk i4 rfl f
        simp (dsimp := false) (maxDischargeDepth := 16) only [go_sem, ↓reduceIte, reduceCtorEq, Nat.reduceEqDiff, Nat.reduceAdd, Nat.reduceMul, Nat.reduceSub, Nat.reduceLT, Nat.reduceLeDiff, Nat.reducePow, Int.reduceLT, Int.reduceLE, Int.reduceNeg, Int.reduceToNat, t3, t5, b5, t8, b8, t9, t12, b9, h6, h7, h8, idx_nat, idx_int, r1, r2, r3, r4, a3, a4, k34]
        refine ⟨⟨by omega, by omega⟩, ⟨by omega, by omega⟩, i + 1, by omega, by omega, by rw [wrapN _ (by omega)], .own (98, s.g 98, 0), .own (106, s.g 106, 0), ?_, ?_, ?_, rfl, rfl⟩
        · rw [gE_neg h6 h7 h8 r1 r2]
          simp only [map1_app, map3_app]
          rfl
        all_goals simp (dsimp := false) (maxDischargeDepth := 16) only [go_sem, ↓reduceIte, reduceCtorEq, Nat.reduceEqDiff, Nat.reduceAdd, Nat.reduceMul, Nat.reduceSub, Nat.reduceLT, Nat.reduceLeDiff, Nat.reducePow, Int.reduceLT, Int.reduceLE, Int.reduceNeg, Int.reduceToNat, a3, a4, k34, q5]
      · have k43 : ∀ (s : St) (d n : Nat) (x : AV), tokOK s q3 = true → tokOK (s.ntok d n x (tokKey q4)) q3 = true := fun s d n x h => tk_kill i4 i3 rfl h
        simp (dsimp := false) (maxDischargeDepth := 16) only [go_sem, ↓reduceIte, reduceCtorEq, Nat.reduceEqDiff, Nat.reduceAdd, Nat.reduceMul, Nat.reduceSub, Nat.reduceLT, Nat.reduceLeDiff, Nat.reducePow, Int.reduceLT, Int.reduceLE, Int.reduceNeg, Int.reduceToNat, t3, t5, b5, t8, b8, t9, t12, b9, h6, h7, h8, idx_nat, a3, a4, k43]
        refine ⟨⟨by omega, by omega⟩, i + 1, by omega, by omega, by rw [wrapN _ (by omega)], q3, .own (106, s.g 106, 0), ?_, ?_, ?_, i3, rfl⟩
        · rw [gE_pos h6 h8]
          simp only [map1_app]
        all_goals simp (dsimp := false) (maxDischargeDepth := 16) only [go_sem, ↓reduceIte, reduceCtorEq, Nat.reduceEqDiff, Nat.reduceAdd, Nat.reduceMul, Nat.reduceSub, Nat.reduceLT, Nat.reduceLeDiff, Nat.reducePow, Int.reduceLT, Int.reduceLE, Int.reduceNeg, Int.reduceToNat, a3, a4, k43]
    · simp (dsimp := false) (maxDischargeDepth := 16) only [go_sem, ↓reduceIte, reduceCtorEq, Nat.reduceEqDiff, Nat.reduceAdd, Nat.reduceMul, Nat.reduceSub, Nat.reduceLT, Nat.reduceLeDiff, Nat.reducePow, Int.reduceLT, Int.reduceLE, Int.reduceNeg, Int.reduceToNat, t3, t5, b5, t8, b8, t9, t12, b9, h6]
      have : i = edges.length := by omega
      subst this
      exact finK ⟨rfl, rfl⟩
end Go.Sy
