/- Contracts: the part of a graph that bits choose. -/
import Derived.Test.YtkhheblmgbiniaaWQ
import Derived.Test.YtkhheblmgbiniaaM5
set_option linter.unusedSimpArgs false
namespace Go.Sy
open Go Go.Proofs

def u16 (x : Int) : AV := .v (.int .u16 x)
attribute [go_sem] u16
def shv (a b : Int) : Int := a.fdiv (2 ^ min b.toNat IntKind.u16.bits)
def anv (a b : Int) : Int := IntKind.u16.wrap (BitVec.ofInt IntKind.u16.bits a &&& BitVec.ofInt IntKind.u16.bits b).toNat
theorem bin_shr0 (a b : Int) : binAV Try.prog .shr 79 (.v (.int .u16 a)) (.v (.int .i64 b)) = if b < 0 then none else some (.v (.int .u16 (shv a b))) := rfl
theorem bin_shr (a : Int) (i : Nat) : binAV Try.prog .shr 79 (.v (.int .u16 a)) (.v (.int .i64 (i : Int))) = some (.v (.int .u16 (shv a i))) := by
  rw [bin_shr0, if_neg (by omega)]
theorem bin_and (a b : Int) : binAV Try.prog .and 79 (.v (.int .u16 a)) (.v (.int .u16 b)) = some (.v (.int .u16 (anv a b))) := rfl
theorem bi_set1 {zs : List Int} {i : Nat} {x : Int} (h : i < zs.length) : (bi zs).take (i * 1) ++ [AV.v (.int .i64 x)] ++ (bi zs).drop (i * 1 + 1) = bi (zs.set i x) := by
  rw [Nat.mul_one]
  exact bi_set h
theorem bi_head {zs : List Int} {k : Nat} {x : Int} (h : k < zs.length) (hx : zs.getD k 0 = x) : (List.drop (k * 1) (bi zs)).head? = some (AV.v (.int .i64 x)) := by
  rw [Nat.mul_one, List.head?_drop, bi, List.getElem?_map, List.getElem?_eq_getElem h, ← hx, getD_at h]
  rfl
theorem set_at {zs : List Int} {i j : Nat} {x : Int} (h : i < zs.length) : (zs.set i x).getD j 0 = if j = i then x else zs.getD j 0 := by
  rw [List.getD_eq_getElem?_getD, List.getElem?_set]
  by_cases hj : j = i
  · rw [if_pos hj.symm, if_pos h, if_pos hj]
    rfl
  · rw [if_neg (fun e => hj e.symm), if_neg hj, List.getD_eq_getElem?_getD]
attribute [go_sem] bin_shr bin_and
def btv (w : Int) (j : Nat) : Bool := anv (shv w j) 1 == 1
def sel (p : Nat → Bool) (n : Nat) : List Nat := (List.range n).filter p
theorem sel_yes {p : Nat → Bool} {i : Nat} (h : p i = true) : sel p (i + 1) = sel p i ++ [i] := by simp [sel, List.range_succ, h]
theorem sel_no {p : Nat → Bool} {i : Nat} (h : p i = false) : sel p (i + 1) = sel p i := by simp [sel, List.range_succ, h]
/-- Where an element goes: its place among those that are chosen, or -1. -/
def atv (p : Nat → Bool) (j : Nat) : Int := if p j = true then ((sel p j).length : Int) else -1
def eok (g : Gr) (p q : Nat → Bool) (j : Nat) : Bool := q j && (decide (0 ≤ atv p (g.e.getD j (0, 0, 0)).2.1.toNat) && decide (0 ≤ atv p (g.e.getD j (0, 0, 0)).2.2.toNat))
def eat (g : Gr) (p : Nat → Bool) (j : Nat) : Ed := ((g.e.getD j (0, 0, 0)).1, atv p (g.e.getD j (0, 0, 0)).2.1.toNat, atv p (g.e.getD j (0, 0, 0)).2.2.toNat)
def selN (p : Nat → Bool) (i : Nat) : List Int := (sel p i).map fun (j : Nat) => (j : Int)
theorem selN_yes {p : Nat → Bool} {i : Nat} (h : p i = true) : selN p (i + 1) = selN p i ++ [(i : Int)] := by simp [selN, sel_yes h]
theorem selN_no {p : Nat → Bool} {i : Nat} (h : p i = false) : selN p (i + 1) = selN p i := by simp [selN, sel_no h]
theorem selN_len (p : Nat → Bool) (i : Nat) : (selN p i).length = (sel p i).length := by simp [selN]
def chR (g : Gr) (p q : Nat → Bool) : Gr × Mo := (⟨(sel p g.n.length).map fun j => g.n.getD j 0, (sel (eok g p q) g.e.length).map (eat g p)⟩, ⟨selN p g.n.length, selN (eok g p q) g.e.length⟩)
set_option maxHeartbeats 2000000 in
theorem c42 (g : Gr) (w : Int) (hg : gErr g = 0) : Con Try.prog 42 [gv g, u16 w] 0 (.tup [gv (chR g (btv w) fun j => btv w (8 + j)).1, mv (chR g (btv w) fun j => btv w (8 + j)).2]) := by
  have hs := gErr_small hg
  generalize hq : (fun j => btv w (8 + j)) = q
  have hq' : ∀ j : Nat, (anv (shv w ((8 + j : Nat) : Int)) 1 == 1) = q j := fun j => by rw [← hq]; rfl
  generalize hp : btv w = p
  have hp' : ∀ j : Nat, (anv (shv w j) 1 == 1) = p j := fun j => by rw [← hp]; rfl
  refine conT (X := [(18, [], [(4, [8], [])])]) (rs := [.cell 4 25, .cell 5 41]) Try.func42 (by kernel_rfl) rfl rfl (by kernel_rfl) ?_
  simp (dsimp := false) (maxDischargeDepth := 16) only [go_sem, ↓reduceIte, reduceCtorEq, Nat.reduceEqDiff, Nat.reduceAdd, Nat.reduceMul, Nat.reduceSub, Nat.reduceLT, Nat.reduceLeDiff, Nat.reducePow, Int.reduceLT, Int.reduceLE, Int.reduceNeg, Int.reduceToNat, Int.toNat_natCast, bi_zero]
  refine ⟨⟨by omega, by omega, by omega⟩, ?_⟩
  have hsl : ∀ p i, (sel p i).length ≤ i := fun p i => by have := List.length_filter_le p (List.range i); simpa [sel] using this
  refine loopK_intro (fun (i : Nat) s => i ≤ g.n.length ∧ s.t 1 = u16 w ∧ s.t 2 = .box (2, 0, 0) 0 ∧ s.b (2, 0, 0) = some ⟨gcs g, false⟩ ∧ s.t 4 = .box (4, 0, 0) 0 ∧ (∃ z1 z2, s.b (4, 0, 0) = some ⟨[z1, z2], false⟩) ∧ s.t 5 = .box (5, 0, 0) 0 ∧ (∃ y1 y2, s.b (5, 0, 0) = some ⟨[y1, y2], false⟩) ∧
    s.t 6 = .sl (16, 0, 0) g.n.length 1 ∧ s.t 7 = .box (7, 0, 0) 0 ∧ s.t 8 = .box (8, 0, 0) 0 ∧ s.t 18 = lv g.n ∧ s.t 19 = iv g.n.length ∧ s.t 20 = iv i ∧
    ∃ k1 k2, ∃ zs : List Int, s.b (7, 0, 0) = some ⟨[lvT ((sel p i).map fun j => g.n.getD j 0) k1, .list 3 [] .nil], false⟩ ∧ s.b (8, 0, 0) = some ⟨[lvT (selN p i) k2, .list 1 [] .nil], false⟩ ∧
      s.b (16, 0, 0) = some ⟨bi zs, false⟩ ∧ zs.length = g.n.length ∧ (∀ j, j < i → zs.getD j 0 = atv p j) ∧ tokOK s k1 = true ∧ tokOK s k2 = true ∧ tkIn [(43, 0)] k1 = true ∧ tkIn [(48, 0)] k2 = true) (fun i => g.n.length - i) ?_ ?_
  · refine ⟨0, by omega, rfl, rfl, rfl, rfl, ⟨_, _, rfl⟩, rfl, ⟨_, _, rfl⟩, rfl, rfl, rfl, rfl, rfl, rfl, .nil, .nil, _, rfl, rfl, rfl, by simp, fun j hj => by omega, rfl, rfl, rfl, rfl⟩
  rintro i s ⟨hi, t1, t2, b2, t4, ⟨z1, z2, b4⟩, t5, ⟨y1, y2, b5⟩, t6, t7, t8, t18, t19, t20, k1, k2, zs, b7, b8, b16, hz, hall, a1, a2, i1, i2⟩
  simp (dsimp := false) (maxDischargeDepth := 16) only [go_sem, ↓reduceIte, reduceCtorEq, Nat.reduceEqDiff, Nat.reduceAdd, Nat.reduceMul, Nat.reduceSub, Nat.reduceLT, Nat.reduceLeDiff, Nat.reducePow, Int.reduceLT, Int.reduceLE, Int.reduceNeg, Int.reduceToNat, t1, t2, b2, t4, b4, t5, b5, t6, t7, t8, t18, t19, t20, b7, b8, b16]
  refine condK_dec (fun h6 => ?_) (fun h6 => ?_)
  · have l1 := hsl p i
    have hzl : i < zs.length := by omega
    simp (dsimp := false) (maxDischargeDepth := 16) only [go_sem, ↓reduceIte, reduceCtorEq, Nat.reduceEqDiff, Nat.reduceAdd, Nat.reduceMul, Nat.reduceSub, Nat.reduceLT, Nat.reduceLeDiff, Nat.reducePow, Int.reduceLT, Int.reduceLE, Int.reduceNeg, Int.reduceToNat, t1, t2, b2, t4, b4, t5, b5, t6, t7, t8, t18, t19, t20, b7, b8, b16, h6, idx_nat, idx_sl, hp', bi_set1, hzl]
    refine ⟨by rw [bi_len]; omega, ?_⟩
    refine condK_intro (fun h8 => ?_) (fun h8 => ?_)
    · have k12 : ∀ (s : St) (d n : Nat) (x : AV), tokOK s k2 = true → tokOK (s.ntok d n x (tokKey k1)) k2 = true := fun s d n x h => tk_kill i1 i2 rfl h
      have q2 : ∀ (f : Key → Bool) (g : Nat), killO f (tokKey k2) (43, g, 0) = f (43, g, 0) := fun f g => kill_tk i2 rfl f
      simp (dsimp := false) (maxDischargeDepth := 16) only [go_sem, ↓reduceIte, reduceCtorEq, Nat.reduceEqDiff, Nat.reduceAdd, Nat.reduceMul, Nat.reduceSub, Nat.reduceLT, Nat.reduceLeDiff, Nat.reducePow, Int.reduceLT, Int.reduceLE, Int.reduceNeg, Int.reduceToNat, t1, t2, b2, t4, b4, t5, b5, t6, t7, t8, t18, t19, t20, b7, b8, b16, h6, h8, idx_nat, idx_sl, hp', a1, a2, k12, bi_set1, hzl, List.length_set, bi_len, selN_len]
      refine ⟨by omega, ⟨by omega, by omega⟩, ⟨by omega, by omega⟩, i + 1, by omega, by omega, ⟨_, _, rfl⟩, ⟨_, _, rfl⟩, by rw [wrapN _ (by omega)], .own (43, s.g 43, 0), .own (48, s.g 48, 0), _, by rw [sel_yes h8, List.map_append, List.map_singleton, map1_app, getD_at h6], by rw [selN_yes h8, map1_app], rfl, by simpa using hz, fun j hj => ?_, ?_, ?_, rfl, rfl⟩
      · rw [List.set_set, set_at hzl]
        split
        · rename_i e
          rw [e, atv, if_pos h8]
        · exact hall j (by omega)
      all_goals simp (dsimp := false) (maxDischargeDepth := 16) only [go_sem, ↓reduceIte, reduceCtorEq, Nat.reduceEqDiff, Nat.reduceAdd, Nat.reduceMul, Nat.reduceSub, Nat.reduceLT, Nat.reduceLeDiff, Nat.reducePow, Int.reduceLT, Int.reduceLE, Int.reduceNeg, Int.reduceToNat, a1, a2, k12, q2]
    · simp (dsimp := false) (maxDischargeDepth := 16) only [go_sem, ↓reduceIte, reduceCtorEq, Nat.reduceEqDiff, Nat.reduceAdd, Nat.reduceMul, Nat.reduceSub, Nat.reduceLT, Nat.reduceLeDiff, Nat.reducePow, Int.reduceLT, Int.reduceLE, Int.reduceNeg, Int.reduceToNat, t1, t2, b2, t4, b4, t5, b5, t6, t7, t8, t18, t19, t20, b7, b8, b16, h6, h8, idx_nat, idx_sl, hp', a1, a2, bi_set1, hzl, List.length_set, bi_len, selN_len]
      refine ⟨i + 1, by omega, by omega, ⟨_, _, rfl⟩, ⟨_, _, rfl⟩, by rw [wrapN _ (by omega)], k1, k2, _, by rw [sel_no h8], by rw [selN_no h8], rfl, by simpa using hz, fun j hj => ?_, a1, a2, i1, i2⟩
      rw [set_at hzl]
      split
      · rename_i e
        rw [e, atv, if_neg (by rw [h8]; decide)]
      · exact hall j (by omega)
  · simp (dsimp := false) (maxDischargeDepth := 16) only [go_sem, ↓reduceIte, reduceCtorEq, Nat.reduceEqDiff, Nat.reduceAdd, Nat.reduceMul, Nat.reduceSub, Nat.reduceLT, Nat.reduceLeDiff, Nat.reducePow, Int.reduceLT, Int.reduceLE, Int.reduceNeg, Int.reduceToNat, t1, t2, b2, t4, b4, t5, b5, t6, t7, t8, t18, t19, t20, b7, b8, b16, h6]
    have hin : i = g.n.length := by omega
    rw [hin] at hall b7 b8
    unfold chR
    have hN : ((sel p g.n.length).map fun j => g.n.getD j 0).length ≤ 40 := by have := hsl p g.n.length; simp; omega
    generalize (sel p g.n.length).map (fun j => g.n.getD j 0) = N at *
    generalize selN p g.n.length = M at *
    refine loopK_intro (fun (i : Nat) s => i ≤ g.e.length ∧ s.t 1 = u16 w ∧ s.t 4 = .box (4, 0, 0) 0 ∧ s.b (4, 0, 0) = some ⟨[z1, z2], false⟩ ∧ s.t 5 = .box (5, 0, 0) 0 ∧ s.b (5, 0, 0) = some ⟨[y1, y2], false⟩ ∧
      s.t 6 = .sl (16, 0, 0) g.n.length 1 ∧ s.t 7 = .box (7, 0, 0) 0 ∧ s.t 8 = .box (8, 0, 0) 0 ∧ s.t 53 = elv g.e ∧ s.t 54 = iv g.e.length ∧ s.t 55 = iv i ∧ s.b (16, 0, 0) = some ⟨bi zs, false⟩ ∧
      ∃ k3 k4, s.b (7, 0, 0) = some ⟨[lvT N k1, elT' ((sel (eok g p q) i).map (eat g p)) k3], false⟩ ∧ s.b (8, 0, 0) = some ⟨[lvT M k2, lvT (selN (eok g p q) i) k4], false⟩ ∧
        tokOK s k3 = true ∧ tokOK s k4 = true ∧ tkIn [(98, 0)] k3 = true ∧ tkIn [(103, 0)] k4 = true) (fun i => g.e.length - i) ?_ ?_
    · exact ⟨0, by omega, t1, t4, b4, t5, b5, t6, t7, t8, rfl, rfl, rfl, b16, .nil, .nil, b7, b8, rfl, rfl, rfl, rfl⟩
    clear t1 t2 b2 t4 b4 t5 b5 t6 t7 t8 t18 t19 t20 b7 b8 b16 a1 a2 i1 i2 h6 hi hin
    rintro i s ⟨hi, t1, t4, b4, t5, b5, t6, t7, t8, t53, t54, t55, b16, k3, k4, b7, b8, a3, a4, i3, i4⟩
    simp (dsimp := false) (maxDischargeDepth := 16) only [go_sem, ↓reduceIte, reduceCtorEq, Nat.reduceEqDiff, Nat.reduceAdd, Nat.reduceMul, Nat.reduceSub, Nat.reduceLT, Nat.reduceLeDiff, Nat.reducePow, Int.reduceLT, Int.reduceLE, Int.reduceNeg, Int.reduceToNat, t1, t4, b4, t5, b5, t6, t7, t8, t53, t54, t55, b16, b7, b8]
    refine condK_dec (fun h6 => ?_) (fun h6 => ?_)
    · have hx := edge_in hg h6
      rw [getD_at h6] at hx
      have w8 : IntKind.i64.wrap ((8 : Int) + (i : Int)) = ((8 + i : Nat) : Int) := by rw [wrap_i64 _ (by omega) (by omega)]; omega
      have f1 : g.e[i].2.1.toNat < g.n.length := by omega
      have f2 : g.e[i].2.2.toNat < g.n.length := by omega
      have f3 := hx.1
      have f4 := hx.2.2.1
      have g1 := bi_head (zs := zs) (k := g.e[i].2.1.toNat) (by omega) (hall _ f1)
      have g2 := bi_head (zs := zs) (k := g.e[i].2.2.toNat) (by omega) (hall _ f2)
      have c1 : g.e[i].2.1.toNat * 1 < (bi zs).length := by rw [bi_len]; omega
      have c2 : g.e[i].2.2.toNat * 1 < (bi zs).length := by rw [bi_len]; omega
      have le := hsl (eok g p q) i
      have eo : eok g p q i = (q i && (decide (0 ≤ atv p g.e[i].2.1.toNat) && decide (0 ≤ atv p g.e[i].2.2.toNat))) := by rw [eok, getD_at h6]
      have ea : eat g p i = (g.e[i].1, atv p g.e[i].2.1.toNat, atv p g.e[i].2.2.toNat) := by rw [eat, getD_at h6]
      simp (dsimp := false) (maxDischargeDepth := 16) only [go_sem, ↓reduceIte, reduceCtorEq, Nat.reduceEqDiff, Nat.reduceAdd, Nat.reduceMul, Nat.reduceSub, Nat.reduceLT, Nat.reduceLeDiff, Nat.reducePow, Int.reduceLT, Int.reduceLE, Int.reduceNeg, Int.reduceToNat, t1, t4, b4, t5, b5, t6, t7, t8, t53, t54, t55, b16, b7, b8, h6, idx_nat, idx_slI, f1, f2, f3, f4, w8, hq', g1, g2]
      cases h8 : q i with
      | false =>
        have en : eok g p q i = false := by rw [eo, h8]; rfl
        simp (dsimp := false) (maxDischargeDepth := 16) only [go_sem, ↓reduceIte, reduceCtorEq, Nat.reduceEqDiff, Nat.reduceAdd, Nat.reduceMul, Nat.reduceSub, Nat.reduceLT, Nat.reduceLeDiff, Nat.reducePow, Int.reduceLT, Int.reduceLE, Int.reduceNeg, Int.reduceToNat, t1, t4, b4, t5, b5, t6, t7, t8, t53, t54, t55, b16, b7, b8, h6, idx_nat, idx_slI, f1, f2, f3, f4, w8, hq', g1, g2, h8]
        refine ⟨i + 1, by omega, by omega, by rw [wrapN _ (by omega)], k3, k4, by rw [sel_no en], by rw [selN_no en], a3, a4, i3, i4⟩
      | true =>
        simp (dsimp := false) (maxDischargeDepth := 16) only [go_sem, ↓reduceIte, reduceCtorEq, Nat.reduceEqDiff, Nat.reduceAdd, Nat.reduceMul, Nat.reduceSub, Nat.reduceLT, Nat.reduceLeDiff, Nat.reducePow, Int.reduceLT, Int.reduceLE, Int.reduceNeg, Int.reduceToNat, t1, t4, b4, t5, b5, t6, t7, t8, t53, t54, t55, b16, b7, b8, h6, idx_nat, idx_slI, f1, f2, f3, f4, w8, hq', g1, g2, h8]
        refine ⟨c1, ?_⟩
        by_cases h9 : 0 ≤ atv p g.e[i].2.1.toNat
        · simp (dsimp := false) (maxDischargeDepth := 16) only [go_sem, ↓reduceIte, reduceCtorEq, Nat.reduceEqDiff, Nat.reduceAdd, Nat.reduceMul, Nat.reduceSub, Nat.reduceLT, Nat.reduceLeDiff, Nat.reducePow, Int.reduceLT, Int.reduceLE, Int.reduceNeg, Int.reduceToNat, t1, t4, b4, t5, b5, t6, t7, t8, t53, t54, t55, b16, b7, b8, h6, idx_nat, idx_slI, f1, f2, f3, f4, w8, hq', g1, g2, h8, h9]
          refine ⟨c2, ?_⟩
          by_cases h10 : 0 ≤ atv p g.e[i].2.2.toNat
          · have en : eok g p q i = true := by rw [eo, h8]; simp [h9, h10]
            have k34 : ∀ (s : St) (d n : Nat) (x : AV), tokOK s k4 = true → tokOK (s.ntok d n x (tokKey k3)) k4 = true := fun s d n x h => tk_kill i3 i4 rfl h
            have q2 : ∀ (f : Key → Bool) (g : Nat), killO f (tokKey k4) (98, g, 0) = f (98, g, 0) := fun f g => kill_tk i4 rfl f
            simp (dsimp := false) (maxDischargeDepth := 16) only [go_sem, ↓reduceIte, reduceCtorEq, Nat.reduceEqDiff, Nat.reduceAdd, Nat.reduceMul, Nat.reduceSub, Nat.reduceLT, Nat.reduceLeDiff, Nat.reducePow, Int.reduceLT, Int.reduceLE, Int.reduceNeg, Int.reduceToNat, t1, t4, b4, t5, b5, t6, t7, t8, t53, t54, t55, b16, b7, b8, h6, idx_nat, idx_slI, f1, f2, f3, f4, w8, hq', g1, g2, h8, h9, h10, c1, c2, a3, a4, k34, selN_len]
            refine ⟨⟨by omega, by omega⟩, ⟨by omega, by omega⟩, i + 1, by omega, by omega, by rw [wrapN _ (by omega)], .own (98, s.g 98, 0), .own (103, s.g 103, 0), ?_, by rw [selN_yes en, map1_app], ?_, ?_, rfl, rfl⟩
            · rw [sel_yes en, List.map_append, List.map_append, List.map_singleton, List.map_singleton, ea]
              rfl
            all_goals simp (dsimp := false) (maxDischargeDepth := 16) only [go_sem, ↓reduceIte, reduceCtorEq, Nat.reduceEqDiff, Nat.reduceAdd, Nat.reduceMul, Nat.reduceSub, Nat.reduceLT, Nat.reduceLeDiff, Nat.reducePow, Int.reduceLT, Int.reduceLE, Int.reduceNeg, Int.reduceToNat, a3, a4, k34, q2]
          · have en : eok g p q i = false := by rw [eo, h8]; simp [h10]
            simp (dsimp := false) (maxDischargeDepth := 16) only [go_sem, ↓reduceIte, reduceCtorEq, Nat.reduceEqDiff, Nat.reduceAdd, Nat.reduceMul, Nat.reduceSub, Nat.reduceLT, Nat.reduceLeDiff, Nat.reducePow, Int.reduceLT, Int.reduceLE, Int.reduceNeg, Int.reduceToNat, t1, t4, b4, t5, b5, t6, t7, t8, t53, t54, t55, b16, b7, b8, h6, idx_nat, idx_slI, f1, f2, f3, f4, w8, hq', g1, g2, h8, h9, h10]
            refine ⟨i + 1, by omega, by omega, by rw [wrapN _ (by omega)], k3, k4, by rw [sel_no en], by rw [selN_no en], a3, a4, i3, i4⟩
        · have en : eok g p q i = false := by rw [eo, h8]; simp [h9]
          simp (dsimp := false) (maxDischargeDepth := 16) only [go_sem, ↓reduceIte, reduceCtorEq, Nat.reduceEqDiff, Nat.reduceAdd, Nat.reduceMul, Nat.reduceSub, Nat.reduceLT, Nat.reduceLeDiff, Nat.reducePow, Int.reduceLT, Int.reduceLE, Int.reduceNeg, Int.reduceToNat, t1, t4, b4, t5, b5, t6, t7, t8, t53, t54, t55, b16, b7, b8, h6, idx_nat, idx_slI, f1, f2, f3, f4, w8, hq', g1, g2, h8, h9]
          refine ⟨i + 1, by omega, by omega, by rw [wrapN _ (by omega)], k3, k4, by rw [sel_no en], by rw [selN_no en], a3, a4, i3, i4⟩
    · simp (dsimp := false) (maxDischargeDepth := 16) only [go_sem, ↓reduceIte, reduceCtorEq, Nat.reduceEqDiff, Nat.reduceAdd, Nat.reduceMul, Nat.reduceSub, Nat.reduceLT, Nat.reduceLeDiff, Nat.reducePow, Int.reduceLT, Int.reduceLE, Int.reduceNeg, Int.reduceToNat, t1, t4, b4, t5, b5, t6, t7, t8, t53, t54, t55, b16, b7, b8, h6]
      have hin : i = g.e.length := by omega
      rw [hin]
      exact ⟨rfl, finK ⟨rfl, rfl⟩⟩
end Go.Sy
