/- Contracts: injective morphisms as the program tells them; places; compositions. -/
import Derived.Test.YtkhheblmgbiniaaS1
import Derived.Test.YtkhheblmgbiniaaWQ
set_option linter.unusedSimpArgs false
namespace Go.Sy
open Go Go.Proofs

theorem sq_beq (l : List Int) : (((sq l).length : Int) == (l.length : Int)) = dist l := by
  rw [Bool.eq_iff_iff, ← sq_dist, beq_iff_eq]
  omega
theorem c75 (a b : Gr) (m : Mo) : Con Try.prog 75 [gv a, gv b, mv m] 0 (bv (injR a b m)) := by
  refine conT (X := []) (rs := [.tmp 6]) Try.func75 (by kernel_rfl) rfl rfl (by kernel_rfl) ?_
  simp (dsimp := false) (maxDischargeDepth := 16) only [go_sem, ↓reduceIte, reduceCtorEq, Nat.reduceEqDiff, Nat.reduceAdd, Nat.reduceMul, Nat.reduceSub, Nat.reduceLT, Nat.reduceLeDiff, Nat.reducePow, Int.reduceLT, Int.reduceLE, Int.reduceNeg, Int.reduceToNat]
  refine callK_intro (c70 a b m) ?_
  simp (dsimp := false) (maxDischargeDepth := 16) only [go_sem, ↓reduceIte, reduceCtorEq, Nat.reduceEqDiff, Nat.reduceAdd, Nat.reduceMul, Nat.reduceSub, Nat.reduceLT, Nat.reduceLeDiff, Nat.reducePow, Int.reduceLT, Int.reduceLE, Int.reduceNeg, Int.reduceToNat]
  refine condK_intro (fun h1 => ?_) (fun h1 => ?_)
  · have hs := mErr_ok (beq_iff_eq.1 h1)
    have ga := (gErr_small hs.1).1
    simp (dsimp := false) (maxDischargeDepth := 16) only [go_sem, ↓reduceIte, reduceCtorEq, Nat.reduceEqDiff, Nat.reduceAdd, Nat.reduceMul, Nat.reduceSub, Nat.reduceLT, Nat.reduceLeDiff, Nat.reducePow, Int.reduceLT, Int.reduceLE, Int.reduceNeg, Int.reduceToNat, h1]
    refine callK_intro (c123 m.n (by omega)) ?_
    simp (dsimp := false) (maxDischargeDepth := 16) only [go_sem, ↓reduceIte, reduceCtorEq, Nat.reduceEqDiff, Nat.reduceAdd, Nat.reduceMul, Nat.reduceSub, Nat.reduceLT, Nat.reduceLeDiff, Nat.reducePow, Int.reduceLT, Int.reduceLE, Int.reduceNeg, Int.reduceToNat, h1, sq_beq]
    refine condK_intro (fun h2 => ?_) (fun h2 => ?_)
    · simp (dsimp := false) (maxDischargeDepth := 16) only [go_sem, ↓reduceIte, reduceCtorEq, Nat.reduceEqDiff, Nat.reduceAdd, Nat.reduceMul, Nat.reduceSub, Nat.reduceLT, Nat.reduceLeDiff, Nat.reducePow, Int.reduceLT, Int.reduceLE, Int.reduceNeg, Int.reduceToNat, h1, h2]
      refine callK_intro (c123 m.e (by omega)) ?_
      simp (dsimp := false) (maxDischargeDepth := 16) only [go_sem, ↓reduceIte, reduceCtorEq, Nat.reduceEqDiff, Nat.reduceAdd, Nat.reduceMul, Nat.reduceSub, Nat.reduceLT, Nat.reduceLeDiff, Nat.reducePow, Int.reduceLT, Int.reduceLE, Int.reduceNeg, Int.reduceToNat, h1, h2, sq_beq]
      exact finB (by rw [injR, h1, h2]; rfl)
    · simp (dsimp := false) (maxDischargeDepth := 16) only [go_sem, ↓reduceIte, reduceCtorEq, Nat.reduceEqDiff, Nat.reduceAdd, Nat.reduceMul, Nat.reduceSub, Nat.reduceLT, Nat.reduceLeDiff, Nat.reducePow, Int.reduceLT, Int.reduceLE, Int.reduceNeg, Int.reduceToNat, h1, h2]
      exact finB (by rw [injR, h1, h2]; rfl)
  · simp (dsimp := false) (maxDischargeDepth := 16) only [go_sem, ↓reduceIte, reduceCtorEq, Nat.reduceEqDiff, Nat.reduceAdd, Nat.reduceMul, Nat.reduceSub, Nat.reduceLT, Nat.reduceLeDiff, Nat.reducePow, Int.reduceLT, Int.reduceLE, Int.reduceNeg, Int.reduceToNat, h1]
    exact finB (by rw [injR, h1]; rfl)
/-- The places of numbers in a list. -/
def plc (k l : List Int) : List Int := l.map fun x => idxP (fun y => x == y) k
theorem plc_succ {k l : List Int} {i : Nat} (h : i < l.length) : plc k (l.take (i + 1)) = plc k (l.take i) ++ [idxP (fun y => l[i] == y) k] := take_map h
theorem c76 (l k : List Int) (h : l.length ≤ 1000000) : Con Try.prog 76 [lv l, lv k] 0 (lv (plc k l)) := by
  refine conT (X := []) (rs := [.tmp 4]) Try.func76 (by kernel_rfl) rfl rfl (by kernel_rfl) ?_
  simp (dsimp := false) (maxDischargeDepth := 16) only [go_sem, ↓reduceIte, reduceCtorEq, Nat.reduceEqDiff, Nat.reduceAdd, Nat.reduceMul, Nat.reduceSub, Nat.reduceLT, Nat.reduceLeDiff, Nat.reducePow, Int.reduceLT, Int.reduceLE, Int.reduceNeg, Int.reduceToNat]
  refine loopK_intro (fun (i : Nat) s => i ≤ l.length ∧ s.t 1 = lv k ∧ s.t 8 = lv l ∧ s.t 9 = iv l.length ∧ s.t 10 = iv i ∧ ∃ tk, s.t 5 = lvT (plc k (l.take i)) tk ∧ tokOK s tk = true) (fun i => l.length - i) ⟨0, by omega, rfl, rfl, rfl, rfl, .nil, rfl, rfl⟩ ?_
  rintro i s ⟨hi, t1, t8, t9, t10, tk, t5, htk⟩
  simp (dsimp := false) (maxDischargeDepth := 16) only [go_sem, ↓reduceIte, reduceCtorEq, Nat.reduceEqDiff, Nat.reduceAdd, Nat.reduceMul, Nat.reduceSub, Nat.reduceLT, Nat.reduceLeDiff, Nat.reducePow, Int.reduceLT, Int.reduceLE, Int.reduceNeg, Int.reduceToNat, t1, t8, t9, t10, t5]
  refine condK_dec (fun h6 => ?_) (fun h6 => ?_)
  · have pl : (plc k (l.take i)).length = i := by simp [plc]; omega
    simp (dsimp := false) (maxDischargeDepth := 16) only [go_sem, ↓reduceIte, reduceCtorEq, Nat.reduceEqDiff, Nat.reduceAdd, Nat.reduceMul, Nat.reduceSub, Nat.reduceLT, Nat.reduceLeDiff, Nat.reducePow, Int.reduceLT, Int.reduceLE, Int.reduceNeg, Int.reduceToNat, t1, t8, t9, t10, t5, h6, idx_nat]
    refine callK_intro (c92 k l[i]) ?_
    simp (dsimp := false) (maxDischargeDepth := 16) only [go_sem, ↓reduceIte, reduceCtorEq, Nat.reduceEqDiff, Nat.reduceAdd, Nat.reduceMul, Nat.reduceSub, Nat.reduceLT, Nat.reduceLeDiff, Nat.reducePow, Int.reduceLT, Int.reduceLE, Int.reduceNeg, Int.reduceToNat, t1, t8, t9, t10, t5, h6, idx_nat, htk, pl]
    refine ⟨⟨by omega, by omega⟩, i + 1, by omega, by omega, by rw [wrapN _ (by omega)], _, by rw [plc_succ h6, map1_app], ?_⟩
    simp (dsimp := false) (maxDischargeDepth := 16) only [go_sem, ↓reduceIte, reduceCtorEq, Nat.reduceEqDiff, Nat.reduceAdd, Nat.reduceMul, Nat.reduceSub, Nat.reduceLT, Nat.reduceLeDiff, Nat.reducePow, Int.reduceLT, Int.reduceLE, Int.reduceNeg, Int.reduceToNat]
  · simp (dsimp := false) (maxDischargeDepth := 16) only [go_sem, ↓reduceIte, reduceCtorEq, Nat.reduceEqDiff, Nat.reduceAdd, Nat.reduceMul, Nat.reduceSub, Nat.reduceLT, Nat.reduceLeDiff, Nat.reducePow, Int.reduceLT, Int.reduceLE, Int.reduceNeg, Int.reduceToNat, t1, t8, t9, t10, t5, h6]
    refine finL ?_
    have : i = l.length := by omega
    rw [this, List.take_length]
theorem c79 (l : List Int) (x : Int) : Con Try.prog 79 [lv l, iv x] 0 (iv (idxP (fun y => x == y) l)) := by
  refine Con.assume (enters_of Try.func79 (by kernel_rfl) rfl) fun hb => ?_
  have hlen := bnd_lv (hb _ (List.mem_cons_self ..))
  refine conT (X := []) (rs := [.tmp 4]) Try.func79 (by kernel_rfl) rfl rfl (by kernel_rfl) ?_
  simp (dsimp := false) (maxDischargeDepth := 16) only [go_sem, ↓reduceIte, reduceCtorEq, Nat.reduceEqDiff, Nat.reduceAdd, Nat.reduceMul, Nat.reduceSub, Nat.reduceLT, Nat.reduceLeDiff, Nat.reducePow, Int.reduceLT, Int.reduceLE, Int.reduceNeg, Int.reduceToNat]
  refine loopK_intro (fun (i : Nat) s => i ≤ l.length ∧ s.t 0 = lv l ∧ s.t 1 = iv x ∧ s.t 5 = iv i ∧ ∀ y ∈ l.take i, (x == y) = false) (fun i => l.length - i) ⟨0, by omega, rfl, rfl, rfl, fun j hj => by simp at hj⟩ ?_
  rintro i s ⟨hi, h0, h1, h5, hn⟩
  simp (dsimp := false) (maxDischargeDepth := 16) only [go_sem, ↓reduceIte, reduceCtorEq, Nat.reduceEqDiff, Nat.reduceAdd, Nat.reduceMul, Nat.reduceSub, Nat.reduceLT, Nat.reduceLeDiff, Nat.reducePow, Int.reduceLT, Int.reduceLE, Int.reduceNeg, Int.reduceToNat, h0, h1, h5]
  refine condK_dec (fun h6 => ?_) (fun h6 => ?_)
  · simp (dsimp := false) (maxDischargeDepth := 16) only [go_sem, ↓reduceIte, reduceCtorEq, Nat.reduceEqDiff, Nat.reduceAdd, Nat.reduceMul, Nat.reduceSub, Nat.reduceLT, Nat.reduceLeDiff, Nat.reducePow, Int.reduceLT, Int.reduceLE, Int.reduceNeg, Int.reduceToNat, h0, h1, h5, h6, idx_nat]
    refine condK_intro (fun h9 => ?_) (fun h9 => ?_)
    · simp (dsimp := false) (maxDischargeDepth := 16) only [go_sem, ↓reduceIte, reduceCtorEq, Nat.reduceEqDiff, Nat.reduceAdd, Nat.reduceMul, Nat.reduceSub, Nat.reduceLT, Nat.reduceLeDiff, Nat.reducePow, Int.reduceLT, Int.reduceLE, Int.reduceNeg, Int.reduceToNat, h0, h1, h5, h6, h9]
      exact finI (idxP_hit h6 hn (by rw [BEq.comm]; exact h9))
    · simp (dsimp := false) (maxDischargeDepth := 16) only [go_sem, ↓reduceIte, reduceCtorEq, Nat.reduceEqDiff, Nat.reduceAdd, Nat.reduceMul, Nat.reduceSub, Nat.reduceLT, Nat.reduceLeDiff, Nat.reducePow, Int.reduceLT, Int.reduceLE, Int.reduceNeg, Int.reduceToNat, h0, h1, h5, h6, h9]
      exact ⟨i + 1, by omega, by omega, by rw [wrapN _ (by omega)], take_all h6 hn (by rw [BEq.comm]; exact h9)⟩
  · simp (dsimp := false) (maxDischargeDepth := 16) only [go_sem, ↓reduceIte, reduceCtorEq, Nat.reduceEqDiff, Nat.reduceAdd, Nat.reduceMul, Nat.reduceSub, Nat.reduceLT, Nat.reduceLeDiff, Nat.reducePow, Int.reduceLT, Int.reduceLE, Int.reduceNeg, Int.reduceToNat, h0, h1, h5, h6]
    exact finI (idxP_none (take_full h6 hn))
/-- A list led on by another one. -/
def thr (l k : List Int) : List Int := l.map fun x => k.getD x.toNat 0
theorem thr_succ {l k : List Int} {i : Nat} (h : i < l.length) : thr (l.take (i + 1)) k = thr (l.take i) k ++ [k.getD l[i].toNat 0] := take_map h
theorem c94 (l k : List Int) (h : l.length ≤ 1000000) (hl : ∀ x ∈ l, 0 ≤ x ∧ x < k.length) : Con Try.prog 94 [lv l, lv k] 0 (lv (thr l k)) := by
  refine conT (X := []) (rs := [.tmp 4]) Try.func94 (by kernel_rfl) rfl rfl (by kernel_rfl) ?_
  simp (dsimp := false) (maxDischargeDepth := 16) only [go_sem, ↓reduceIte, reduceCtorEq, Nat.reduceEqDiff, Nat.reduceAdd, Nat.reduceMul, Nat.reduceSub, Nat.reduceLT, Nat.reduceLeDiff, Nat.reducePow, Int.reduceLT, Int.reduceLE, Int.reduceNeg, Int.reduceToNat]
  refine loopK_intro (fun (i : Nat) s => i ≤ l.length ∧ s.t 0 = lv l ∧ s.t 1 = lv k ∧ s.t 6 = iv i ∧ ∃ tk, s.t 5 = lvT (thr (l.take i) k) tk ∧ tokOK s tk = true) (fun i => l.length - i) ⟨0, by omega, rfl, rfl, rfl, .nil, rfl, rfl⟩ ?_
  rintro i s ⟨hi, t0, t1, t6, tk, t5, htk⟩
  simp (dsimp := false) (maxDischargeDepth := 16) only [go_sem, ↓reduceIte, reduceCtorEq, Nat.reduceEqDiff, Nat.reduceAdd, Nat.reduceMul, Nat.reduceSub, Nat.reduceLT, Nat.reduceLeDiff, Nat.reducePow, Int.reduceLT, Int.reduceLE, Int.reduceNeg, Int.reduceToNat, t0, t1, t6, t5]
  refine condK_dec (fun h6 => ?_) (fun h6 => ?_)
  · have pl : (thr (l.take i) k).length = i := by simp [thr]; omega
    obtain ⟨r0, r1⟩ := hl _ (List.getElem_mem h6)
    have r2 : l[i].toNat < k.length := by omega
    simp (dsimp := false) (maxDischargeDepth := 16) only [go_sem, ↓reduceIte, reduceCtorEq, Nat.reduceEqDiff, Nat.reduceAdd, Nat.reduceMul, Nat.reduceSub, Nat.reduceLT, Nat.reduceLeDiff, Nat.reducePow, Int.reduceLT, Int.reduceLE, Int.reduceNeg, Int.reduceToNat, t0, t1, t6, t5, h6, idx_nat, idx_int, r0, r2, htk, pl]
    refine ⟨⟨by omega, by omega⟩, i + 1, by omega, by omega, by rw [wrapN _ (by omega)], _, by rw [thr_succ h6, map1_app, getD_at r2], ?_⟩
    simp (dsimp := false) (maxDischargeDepth := 16) only [go_sem, ↓reduceIte, reduceCtorEq, Nat.reduceEqDiff, Nat.reduceAdd, Nat.reduceMul, Nat.reduceSub, Nat.reduceLT, Nat.reduceLeDiff, Nat.reducePow, Int.reduceLT, Int.reduceLE, Int.reduceNeg, Int.reduceToNat]
  · simp (dsimp := false) (maxDischargeDepth := 16) only [go_sem, ↓reduceIte, reduceCtorEq, Nat.reduceEqDiff, Nat.reduceAdd, Nat.reduceMul, Nat.reduceSub, Nat.reduceLT, Nat.reduceLeDiff, Nat.reducePow, Int.reduceLT, Int.reduceLE, Int.reduceNeg, Int.reduceToNat, t0, t1, t6, t5, h6]
    refine finL ?_
    have : i = l.length := by omega
    rw [this, List.take_length]
/-- A morphism led on by another one. -/
def thn (m n : Mo) : Mo := ⟨thr m.n n.n, thr m.e n.e⟩
theorem c82 (m n : Mo) (h1 : m.n.length ≤ 1000000) (h2 : m.e.length ≤ 1000000) (r1 : ∀ x ∈ m.n, 0 ≤ x ∧ x < n.n.length) (r2 : ∀ x ∈ m.e, 0 ≤ x ∧ x < n.e.length) : Con Try.prog 82 [mv m, mv n] 0 (mv (thn m n)) := by
  refine conT (X := []) (rs := [.cell 4 41]) Try.func82 (by kernel_rfl) rfl rfl (by kernel_rfl) ?_
  simp (dsimp := false) (maxDischargeDepth := 16) only [go_sem, ↓reduceIte, reduceCtorEq, Nat.reduceEqDiff, Nat.reduceAdd, Nat.reduceMul, Nat.reduceSub, Nat.reduceLT, Nat.reduceLeDiff, Nat.reducePow, Int.reduceLT, Int.reduceLE, Int.reduceNeg, Int.reduceToNat]
  refine callK_intro (c94 _ _ h1 r1) ?_
  simp (dsimp := false) (maxDischargeDepth := 16) only [go_sem, ↓reduceIte, reduceCtorEq, Nat.reduceEqDiff, Nat.reduceAdd, Nat.reduceMul, Nat.reduceSub, Nat.reduceLT, Nat.reduceLeDiff, Nat.reducePow, Int.reduceLT, Int.reduceLE, Int.reduceNeg, Int.reduceToNat]
  refine callK_intro (c94 _ _ h2 r2) ?_
  simp (dsimp := false) (maxDischargeDepth := 16) only [go_sem, ↓reduceIte, reduceCtorEq, Nat.reduceEqDiff, Nat.reduceAdd, Nat.reduceMul, Nat.reduceSub, Nat.reduceLT, Nat.reduceLeDiff, Nat.reducePow, Int.reduceLT, Int.reduceLE, Int.reduceNeg, Int.reduceToNat]
  exact finK ⟨rfl, rfl⟩
theorem mErr_rng {a b : Gr} {m : Mo} (h : mErr a b m = 0) : (∀ x ∈ m.n, 0 ≤ x ∧ x < b.n.length) ∧ ∀ x ∈ m.e, 0 ≤ x ∧ x < b.e.length := by
  obtain ⟨_, _, h1, h2, h3, h4⟩ := mErr_ok h
  constructor
  · intro x hx
    obtain ⟨i, hi, rfl⟩ := List.mem_iff_getElem.1 hx
    have := h3 i (by omega)
    rw [nodeErr] at this
    split at this
    · cases this
    · rename_i h5
      rw [getD_at hi] at h5
      omega
  · intro x hx
    obtain ⟨i, hi, rfl⟩ := List.mem_iff_getElem.1 hx
    have := h4 i (by omega)
    rw [edgeErr] at this
    split at this
    · cases this
    · rename_i h5
      rw [getD_at hi] at h5
      omega
/-- The composition, or the error. -/
def cmpR (a b c : Gr) (m n : Mo) : Mo × Int := if mErr a b m ≠ 0 then (⟨[], []⟩, mErr a b m) else if mErr b c n ≠ 0 then (⟨[], []⟩, mErr b c n) else (thn m n, 0)
theorem c36 (a b c : Gr) (m n : Mo) : Con Try.prog 36 [gv a, gv b, gv c, mv m, mv n] 0 (.tup [mv (cmpR a b c m n).1, iv (cmpR a b c m n).2]) := by
  refine conT (X := []) (rs := [.cell 10 41, .tmp 11]) Try.func36 (by kernel_rfl) rfl rfl (by kernel_rfl) ?_
  simp (dsimp := false) (maxDischargeDepth := 16) only [go_sem, ↓reduceIte, reduceCtorEq, Nat.reduceEqDiff, Nat.reduceAdd, Nat.reduceMul, Nat.reduceSub, Nat.reduceLT, Nat.reduceLeDiff, Nat.reducePow, Int.reduceLT, Int.reduceLE, Int.reduceNeg, Int.reduceToNat]
  refine callK_intro (c72 a b m) ?_
  simp (dsimp := false) (maxDischargeDepth := 16) only [go_sem, ↓reduceIte, reduceCtorEq, Nat.reduceEqDiff, Nat.reduceAdd, Nat.reduceMul, Nat.reduceSub, Nat.reduceLT, Nat.reduceLeDiff, Nat.reducePow, Int.reduceLT, Int.reduceLE, Int.reduceNeg, Int.reduceToNat]
  refine condK_intro (fun h1 => ?_) (fun h1 => ?_)
  · simp (dsimp := false) (maxDischargeDepth := 16) only [go_sem, ↓reduceIte, reduceCtorEq, Nat.reduceEqDiff, Nat.reduceAdd, Nat.reduceMul, Nat.reduceSub, Nat.reduceLT, Nat.reduceLeDiff, Nat.reducePow, Int.reduceLT, Int.reduceLE, Int.reduceNeg, Int.reduceToNat, h1]
    have e : cmpR a b c m n = (⟨[], []⟩, mErr a b m) := if_pos (by simpa using h1)
    rw [e]
    exact finK ⟨rfl, rfl⟩
  · simp (dsimp := false) (maxDischargeDepth := 16) only [go_sem, ↓reduceIte, reduceCtorEq, Nat.reduceEqDiff, Nat.reduceAdd, Nat.reduceMul, Nat.reduceSub, Nat.reduceLT, Nat.reduceLeDiff, Nat.reducePow, Int.reduceLT, Int.reduceLE, Int.reduceNeg, Int.reduceToNat, h1]
    have g1 : mErr a b m = 0 := by simpa using h1
    refine callK_intro (c72 b c n) ?_
    simp (dsimp := false) (maxDischargeDepth := 16) only [go_sem, ↓reduceIte, reduceCtorEq, Nat.reduceEqDiff, Nat.reduceAdd, Nat.reduceMul, Nat.reduceSub, Nat.reduceLT, Nat.reduceLeDiff, Nat.reducePow, Int.reduceLT, Int.reduceLE, Int.reduceNeg, Int.reduceToNat, h1]
    refine condK_intro (fun h2 => ?_) (fun h2 => ?_)
    · simp (dsimp := false) (maxDischargeDepth := 16) only [go_sem, ↓reduceIte, reduceCtorEq, Nat.reduceEqDiff, Nat.reduceAdd, Nat.reduceMul, Nat.reduceSub, Nat.reduceLT, Nat.reduceLeDiff, Nat.reducePow, Int.reduceLT, Int.reduceLE, Int.reduceNeg, Int.reduceToNat, h1, h2]
      have e : cmpR a b c m n = (⟨[], []⟩, mErr b c n) := by rw [cmpR, if_neg (by simp [g1]), if_pos (by simpa using h2)]
      rw [e]
      exact finK ⟨rfl, rfl⟩
    · simp (dsimp := false) (maxDischargeDepth := 16) only [go_sem, ↓reduceIte, reduceCtorEq, Nat.reduceEqDiff, Nat.reduceAdd, Nat.reduceMul, Nat.reduceSub, Nat.reduceLT, Nat.reduceLeDiff, Nat.reducePow, Int.reduceLT, Int.reduceLE, Int.reduceNeg, Int.reduceToNat, h1, h2]
      have g2 : mErr b c n = 0 := by simpa using h2
      have o1 := mErr_ok g1
      have o2 := mErr_ok g2
      have r := mErr_rng g1
      have ga := (gErr_small o1.1).1
      rw [← o2.2.2.1, ← o2.2.2.2.1] at r
      refine callK_intro (c82 m n (by omega) (by omega) r.1 r.2) ?_
      simp (dsimp := false) (maxDischargeDepth := 16) only [go_sem, ↓reduceIte, reduceCtorEq, Nat.reduceEqDiff, Nat.reduceAdd, Nat.reduceMul, Nat.reduceSub, Nat.reduceLT, Nat.reduceLeDiff, Nat.reducePow, Int.reduceLT, Int.reduceLE, Int.reduceNeg, Int.reduceToNat, h1, h2]
      have e : cmpR a b c m n = (thn m n, 0) := by rw [cmpR, if_neg (by simp [g1]), if_neg (by simp [g2])]
      rw [e]
      exact finK ⟨rfl, rfl⟩
end Go.Sy
