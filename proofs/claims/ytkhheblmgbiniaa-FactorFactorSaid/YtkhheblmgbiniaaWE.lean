/- Contracts: all partitions; what is alike. -/
import Derived.Test.YtkhheblmgbiniaaWD
set_option linter.unusedSimpArgs false
namespace Go.Sy
open Go Go.Proofs

def llvT (l : List (List Int)) (tk : Tok) : AV := .list 1 (l.map fun p => [lv p]) tk
def llv (l : List (List Int)) : AV := llvT l .no
attribute [go_sem] llvT llv
/-- The partitions of one more element than p has, with classes from 0 to below j. -/
def ext (p : List Int) (i j : Nat) : List (List Int) := ((List.range j).filter fun (x : Nat) => decide (x = i) || decide (p.getD x 0 = (x : Int))).map fun (x : Nat) => p ++ [(x : Int)]
def allP : Nat → List (List Int)
  | 0 => [[]]
  | i + 1 => (allP i).flatMap fun p => ext p i (i + 1)
theorem ext_yes {p : List Int} {i j : Nat} (h : j = i ∨ p.getD j 0 = (j : Int)) : ext p i (j + 1) = ext p i j ++ [p ++ [(j : Int)]] := by
  unfold ext
  rw [List.range_succ, List.filter_append, List.map_append]
  congr 1
  simp only [List.filter_cons, List.filter_nil]
  rw [if_pos (by simpa using h)]
  rfl
theorem ext_no {p : List Int} {i j : Nat} (h : ¬ (j = i ∨ p.getD j 0 = (j : Int))) : ext p i (j + 1) = ext p i j := by
  unfold ext
  rw [List.range_succ, List.filter_append, List.map_append]
  simp only [List.filter_cons, List.filter_nil]
  rw [if_neg (by simpa using h)]
  simp
theorem ext_len (p : List Int) (i j : Nat) : (ext p i j).length ≤ j := by
  unfold ext
  rw [List.length_map]
  exact Nat.le_trans (List.length_filter_le _ _) (by simp)
theorem ext_mem {p : List Int} {i j : Nat} {q : List Int} (h : q ∈ ext p i j) : q.length = p.length + 1 := by
  unfold ext at h
  obtain ⟨x, _, rfl⟩ := List.mem_map.1 h
  simp
theorem allP_mem : ∀ (i : Nat) (p : List Int), p ∈ allP i → p.length = i
  | 0, p, h => by simp [allP] at h; simp [h]
  | i + 1, p, h => by
    unfold allP at h
    obtain ⟨q, hq, h⟩ := List.mem_flatMap.1 h
    rw [ext_mem h, allP_mem i q hq]
theorem flat_len {α β : Type} {f : α → List β} {k : Nat} (h : ∀ x, (f x).length ≤ k) : ∀ l : List α, (l.flatMap f).length ≤ l.length * k
  | [] => by simp
  | x :: l => by
    rw [List.flatMap_cons, List.length_append, List.length_cons, Nat.add_mul]
    have := h x
    have := flat_len h l
    omega
theorem allP_len : ∀ i, i ≤ 7 → (allP i).length ≤ 8 ^ i
  | 0, _ => by simp [allP]
  | i + 1, hi => by
    unfold allP
    have h := flat_len (f := fun p => ext p i (i + 1)) (k := 8) (fun p => Nat.le_trans (ext_len _ _ _) (by omega)) (allP i)
    have := allP_len i (by omega)
    rw [Nat.pow_succ]
    exact Nat.le_trans h (Nat.mul_le_mul_right _ this)
theorem take_flat {α β : Type} {f : α → List β} {l : List α} {m : Nat} (h : m < l.length) : (l.take (m + 1)).flatMap f = (l.take m).flatMap f ++ f l[m] := by
  rw [List.take_add_one, List.getElem?_eq_getElem h, List.flatMap_append]
  simp
theorem mapL_app (l : List (List Int)) (x : List Int) : (l ++ [x]).map (fun p => [AV.list 1 (p.map fun n => [AV.v (.int .i64 n)]) .no]) = l.map (fun p => [AV.list 1 (p.map fun n => [AV.v (.int .i64 n)]) .no]) ++ [[AV.list 1 (x.map fun n => [AV.v (.int .i64 n)]) .no]] := by simp
set_option maxHeartbeats 1000000 in
theorem c64 (n : Nat) (hn : n ≤ 7) : Con Try.prog 64 [iv n] 0 (.tup [llv (allP n), iv 0]) := by
  refine conT (X := []) (rs := [.tmp 2, .tmp 3]) Try.func64 (by kernel_rfl) rfl rfl (by kernel_rfl) ?_
  simp (dsimp := false) (maxDischargeDepth := 16) only [go_sem, ↓reduceIte, reduceCtorEq, Nat.reduceEqDiff, Nat.reduceAdd, Nat.reduceMul, Nat.reduceSub, Nat.reduceLT, Nat.reduceLeDiff, Nat.reducePow, Int.reduceLT, Int.reduceLE, Int.reduceNeg, Int.reduceToNat]
  refine condK_dec (fun h1 => ?_) (fun h1 => ?_)
  · omega
  simp (dsimp := false) (maxDischargeDepth := 16) only [go_sem, ↓reduceIte, reduceCtorEq, Nat.reduceEqDiff, Nat.reduceAdd, Nat.reduceMul, Nat.reduceSub, Nat.reduceLT, Nat.reduceLeDiff, Nat.reducePow, Int.reduceLT, Int.reduceLE, Int.reduceNeg, Int.reduceToNat, h1]
  refine condK_dec (fun h2 => ?_) (fun h2 => ?_)
  · omega
  simp (dsimp := false) (maxDischargeDepth := 16) only [go_sem, ↓reduceIte, reduceCtorEq, Nat.reduceEqDiff, Nat.reduceAdd, Nat.reduceMul, Nat.reduceSub, Nat.reduceLT, Nat.reduceLeDiff, Nat.reducePow, Int.reduceLT, Int.reduceLE, Int.reduceNeg, Int.reduceToNat, h1, h2]
  refine loopK_intro (fun (i : Nat) s => i ≤ n ∧ s.t 15 = iv n ∧ s.t 16 = iv i ∧ ∃ tk, s.t 4 = llvT (allP i) tk) (fun i => n - i) ?_ ?_
  · exact ⟨0, by omega, rfl, rfl, _, rfl⟩
  clear h1 h2
  rintro i s ⟨hi, t15, t16, tk, t4⟩
  simp (dsimp := false) (maxDischargeDepth := 16) only [go_sem, ↓reduceIte, reduceCtorEq, Nat.reduceEqDiff, Nat.reduceAdd, Nat.reduceMul, Nat.reduceSub, Nat.reduceLT, Nat.reduceLeDiff, Nat.reducePow, Int.reduceLT, Int.reduceLE, Int.reduceNeg, Int.reduceToNat, t15, t16, t4]
  refine condK_dec (fun h6 => ?_) (fun h6 => ?_)
  rotate_left
  · simp (dsimp := false) (maxDischargeDepth := 16) only [go_sem, ↓reduceIte, reduceCtorEq, Nat.reduceEqDiff, Nat.reduceAdd, Nat.reduceMul, Nat.reduceSub, Nat.reduceLT, Nat.reduceLeDiff, Nat.reducePow, Int.reduceLT, Int.reduceLE, Int.reduceNeg, Int.reduceToNat, t15, t16, t4, h6]
    have : i = n := by omega
    subst this
    exact finK ⟨rfl, rfl⟩
  simp (dsimp := false) (maxDischargeDepth := 16) only [go_sem, ↓reduceIte, reduceCtorEq, Nat.reduceEqDiff, Nat.reduceAdd, Nat.reduceMul, Nat.reduceSub, Nat.reduceLT, Nat.reduceLeDiff, Nat.reducePow, Int.reduceLT, Int.reduceLE, Int.reduceNeg, Int.reduceToNat, t15, t16, t4, h6]
  have hal := allP_len i (by omega)
  have h8 : 8 ^ i ≤ 8 ^ 7 := Nat.pow_le_pow_right (by decide) (by omega)
  refine loopK_intro (fun (m : Nat) s => m ≤ (allP i).length ∧ s.t 15 = iv n ∧ s.t 16 = iv i ∧ s.t 5 = iv i ∧ (∃ tk, s.t 19 = llvT (allP i) tk) ∧ s.t 20 = iv (allP i).length ∧ s.t 21 = iv m ∧
    ∃ tk, s.t 6 = llvT (((allP i).take m).flatMap fun p => ext p i (i + 1)) tk ∧ tokOK s tk = true ∧ tkIn [(48, 0)] tk = true) (fun m => (allP i).length - m) ?_ ?_
  · exact ⟨0, by omega, t15, t16, rfl, ⟨_, rfl⟩, rfl, rfl, .nil, rfl, rfl, rfl⟩
  have hlt : i < n := h6
  clear t15 t16 t4 tk h6
  rintro m s ⟨hm, t15, t16, t5, ⟨tk0, t19⟩, t20, t21, tk, t6, htk, hin⟩
  simp (dsimp := false) (maxDischargeDepth := 16) only [go_sem, ↓reduceIte, reduceCtorEq, Nat.reduceEqDiff, Nat.reduceAdd, Nat.reduceMul, Nat.reduceSub, Nat.reduceLT, Nat.reduceLeDiff, Nat.reducePow, Int.reduceLT, Int.reduceLE, Int.reduceNeg, Int.reduceToNat, t15, t16, t5, t19, t20, t21, t6]
  refine condK_dec (fun h6 => ?_) (fun h6 => ?_)
  rotate_left
  · simp (dsimp := false) (maxDischargeDepth := 16) only [go_sem, ↓reduceIte, reduceCtorEq, Nat.reduceEqDiff, Nat.reduceAdd, Nat.reduceMul, Nat.reduceSub, Nat.reduceLT, Nat.reduceLeDiff, Nat.reducePow, Int.reduceLT, Int.reduceLE, Int.reduceNeg, Int.reduceToNat, t15, t16, t5, t19, t20, t21, t6, h6]
    have : m = (allP i).length := by omega
    subst this
    refine ⟨i + 1, by omega, by omega, by rw [wrapN _ (by omega)], tk, ?_⟩
    rw [List.take_length]
    rfl
  have w1 : IntKind.i64.wrap ((i : Int) + 1) = (i : Int) + 1 := wrap_i64 _ (by omega) (by omega)
  have hpl := allP_mem i _ (List.getElem_mem h6)
  simp (dsimp := false) (maxDischargeDepth := 16) only [go_sem, ↓reduceIte, reduceCtorEq, Nat.reduceEqDiff, Nat.reduceAdd, Nat.reduceMul, Nat.reduceSub, Nat.reduceLT, Nat.reduceLeDiff, Nat.reducePow, Int.reduceLT, Int.reduceLE, Int.reduceNeg, Int.reduceToNat, t15, t16, t5, t19, t20, t21, t6, h6, idx_nat, w1]
  refine loopK_intro (fun (j : Nat) s => j ≤ i + 1 ∧ s.t 15 = iv n ∧ s.t 16 = iv i ∧ s.t 5 = iv i ∧ (∃ tk, s.t 19 = llvT (allP i) tk) ∧ s.t 20 = iv (allP i).length ∧ s.t 21 = iv m ∧ s.t 8 = lv (allP i)[m] ∧ s.t 26 = iv (i + 1) ∧ s.t 27 = iv j ∧
    ∃ tk, s.t 6 = llvT ((((allP i).take m).flatMap fun p => ext p i (i + 1)) ++ ext (allP i)[m] i j) tk ∧ tokOK s tk = true ∧ tkIn [(48, 0)] tk = true) (fun j => i + 1 - j) ?_ ?_
  · refine ⟨0, by omega, t15, t16, t5, ⟨_, t19⟩, t20, t21, rfl, rfl, rfl, tk, ?_, ?_, hin⟩
    · have : ext (allP i)[m] i 0 = [] := rfl
      rw [this, List.append_nil]
      exact t6
    · simp (dsimp := false) (maxDischargeDepth := 16) only [go_sem, ↓reduceIte, reduceCtorEq, Nat.reduceEqDiff, Nat.reduceAdd, Nat.reduceMul, Nat.reduceSub, Nat.reduceLT, Nat.reduceLeDiff, Nat.reducePow, Int.reduceLT, Int.reduceLE, Int.reduceNeg, Int.reduceToNat, htk]
  clear t15 t16 t5 t19 t20 t21 t6 htk hin tk tk0
  have hcur := flat_len (f := fun p => ext p i (i + 1)) (k := i + 1) (fun p => ext_len _ _ _) ((allP i).take m)
  have hcur2 : ((allP i).take m).length * (i + 1) ≤ 8 ^ 7 * 8 := Nat.mul_le_mul (by rw [List.length_take]; omega) (by omega)
  have hnext : ((allP i).take (m + 1)).flatMap (fun p => ext p i (i + 1)) = (((allP i).take m).flatMap fun p => ext p i (i + 1)) ++ ext (allP i)[m] i (i + 1) := take_flat h6
  generalize ((allP i).take m).flatMap (fun p => ext p i (i + 1)) = cur at *
  generalize (allP i)[m] = p at *
  rintro j s ⟨hj, t15, t16, t5, ⟨tk0, t19⟩, t20, t21, t8, t26, t27, tk, t6, htk, hin⟩
  have hex := ext_len p i j
  have hsum : (cur ++ ext p i j).length ≤ 100000000 := by rw [List.length_append]; omega
  simp (dsimp := false) (maxDischargeDepth := 16) only [go_sem, ↓reduceIte, reduceCtorEq, Nat.reduceEqDiff, Nat.reduceAdd, Nat.reduceMul, Nat.reduceSub, Nat.reduceLT, Nat.reduceLeDiff, Nat.reducePow, Int.reduceLT, Int.reduceLE, Int.reduceNeg, Int.reduceToNat, t15, t16, t5, t19, t20, t21, t8, t26, t27, t6]
  refine condK_dec (fun h7 => ?_) (fun h7 => ?_)
  rotate_left
  · simp (dsimp := false) (maxDischargeDepth := 16) only [go_sem, ↓reduceIte, reduceCtorEq, Nat.reduceEqDiff, Nat.reduceAdd, Nat.reduceMul, Nat.reduceSub, Nat.reduceLT, Nat.reduceLeDiff, Nat.reducePow, Int.reduceLT, Int.reduceLE, Int.reduceNeg, Int.reduceToNat, t15, t16, t5, t19, t20, t21, t8, t26, t27, t6, h7]
    have : j = i + 1 := by omega
    subst this
    exact ⟨m + 1, by omega, by omega, ⟨tk0, rfl⟩, by rw [wrapN _ (by omega)], tk, by rw [hnext], by simp (dsimp := false) (maxDischargeDepth := 16) only [go_sem, ↓reduceIte, reduceCtorEq, Nat.reduceEqDiff, Nat.reduceAdd, Nat.reduceMul, Nat.reduceSub, Nat.reduceLT, Nat.reduceLeDiff, Nat.reducePow, Int.reduceLT, Int.reduceLE, Int.reduceNeg, Int.reduceToNat, htk], hin⟩
  have kk : ∀ (s : St) (d n : Nat) (x : AV) (γ : Nat), tokOK s tk = true → tokOK (s.ntok d n x (some (43, γ, 0))) tk = true := fun s d n x γ h => tk_kill (t1 := .own (43, γ, 0)) (l1 := [(43, 0)]) rfl hin rfl h
  have w2 : IntKind.i64.wrap ((j : Int) + 1) = ((j + 1 : Nat) : Int) := wrapN _ (by omega)
  simp (dsimp := false) (maxDischargeDepth := 16) only [go_sem, ↓reduceIte, reduceCtorEq, Nat.reduceEqDiff, Nat.reduceAdd, Nat.reduceMul, Nat.reduceSub, Nat.reduceLT, Nat.reduceLeDiff, Nat.reducePow, Int.reduceLT, Int.reduceLE, Int.reduceNeg, Int.reduceToNat, t15, t16, t5, t19, t20, t21, t8, t26, t27, t6, h7]
  refine condK_intro (fun h9 => ?_) (fun h9 => ?_)
  · have e9 := beqT h9
    simp (dsimp := false) (maxDischargeDepth := 16) only [go_sem, ↓reduceIte, reduceCtorEq, Nat.reduceEqDiff, Nat.reduceAdd, Nat.reduceMul, Nat.reduceSub, Nat.reduceLT, Nat.reduceLeDiff, Nat.reducePow, Int.reduceLT, Int.reduceLE, Int.reduceNeg, Int.reduceToNat, t15, t16, t5, t19, t20, t21, t8, t26, t27, t6, h7, h9]
    refine callK_intro (c78 p (by omega)) ?_
    simp (dsimp := false) (maxDischargeDepth := 16) only [go_sem, ↓reduceIte, reduceCtorEq, Nat.reduceEqDiff, Nat.reduceAdd, Nat.reduceMul, Nat.reduceSub, Nat.reduceLT, Nat.reduceLeDiff, Nat.reducePow, Int.reduceLT, Int.reduceLE, Int.reduceNeg, Int.reduceToNat, t15, t16, t5, t19, t20, t21, t8, t26, t27, t6, h7, h9, htk, kk]
    refine ⟨⟨by omega, by omega⟩, ⟨by omega, by omega⟩, j + 1, by omega, by omega, ⟨tk0, rfl⟩, by rw [w2], .own (48, s.g 48, 0), ?_, ?_, rfl⟩
    · rw [ext_yes (.inl (by omega)), ← List.append_assoc]
      simp only [mapL_app, map1_app]
    · simp (dsimp := false) (maxDischargeDepth := 16) only [go_sem, ↓reduceIte, reduceCtorEq, Nat.reduceEqDiff, Nat.reduceAdd, Nat.reduceMul, Nat.reduceSub, Nat.reduceLT, Nat.reduceLeDiff, Nat.reducePow, Int.reduceLT, Int.reduceLE, Int.reduceNeg, Int.reduceToNat, htk, kk]
  · have e9 := beqF h9
    have h10 : j < p.length := by omega
    simp (dsimp := false) (maxDischargeDepth := 16) only [go_sem, ↓reduceIte, reduceCtorEq, Nat.reduceEqDiff, Nat.reduceAdd, Nat.reduceMul, Nat.reduceSub, Nat.reduceLT, Nat.reduceLeDiff, Nat.reducePow, Int.reduceLT, Int.reduceLE, Int.reduceNeg, Int.reduceToNat, t15, t16, t5, t19, t20, t21, t8, t26, t27, t6, h7, h9, idx_nat, h10]
    refine condK_intro (fun h11 => ?_) (fun h11 => ?_)
    · simp (dsimp := false) (maxDischargeDepth := 16) only [go_sem, ↓reduceIte, reduceCtorEq, Nat.reduceEqDiff, Nat.reduceAdd, Nat.reduceMul, Nat.reduceSub, Nat.reduceLT, Nat.reduceLeDiff, Nat.reducePow, Int.reduceLT, Int.reduceLE, Int.reduceNeg, Int.reduceToNat, t15, t16, t5, t19, t20, t21, t8, t26, t27, t6, h7, h9, h11]
      refine callK_intro (c78 p (by omega)) ?_
      simp (dsimp := false) (maxDischargeDepth := 16) only [go_sem, ↓reduceIte, reduceCtorEq, Nat.reduceEqDiff, Nat.reduceAdd, Nat.reduceMul, Nat.reduceSub, Nat.reduceLT, Nat.reduceLeDiff, Nat.reducePow, Int.reduceLT, Int.reduceLE, Int.reduceNeg, Int.reduceToNat, t15, t16, t5, t19, t20, t21, t8, t26, t27, t6, h7, h9, h11, htk, kk]
      refine ⟨⟨by omega, by omega⟩, ⟨by omega, by omega⟩, j + 1, by omega, by omega, ⟨tk0, rfl⟩, by rw [w2], .own (48, s.g 48, 0), ?_, ?_, rfl⟩
      · rw [ext_yes (.inr (by rw [getD_at h10]; exact beqT h11)), ← List.append_assoc]
        simp only [mapL_app, map1_app]
      · simp (dsimp := false) (maxDischargeDepth := 16) only [go_sem, ↓reduceIte, reduceCtorEq, Nat.reduceEqDiff, Nat.reduceAdd, Nat.reduceMul, Nat.reduceSub, Nat.reduceLT, Nat.reduceLeDiff, Nat.reducePow, Int.reduceLT, Int.reduceLE, Int.reduceNeg, Int.reduceToNat, htk, kk]
    · simp (dsimp := false) (maxDischargeDepth := 16) only [go_sem, ↓reduceIte, reduceCtorEq, Nat.reduceEqDiff, Nat.reduceAdd, Nat.reduceMul, Nat.reduceSub, Nat.reduceLT, Nat.reduceLeDiff, Nat.reducePow, Int.reduceLT, Int.reduceLE, Int.reduceNeg, Int.reduceToNat, t15, t16, t5, t19, t20, t21, t8, t26, t27, t6, h7, h9, h11]
      refine ⟨j + 1, by omega, by omega, ⟨tk0, rfl⟩, by rw [w2], tk, ?_, ?_, hin⟩
      · rw [ext_no (by rw [getD_at h10]; have := beqF h11; omega)]
      · simp (dsimp := false) (maxDischargeDepth := 16) only [go_sem, ↓reduceIte, reduceCtorEq, Nat.reduceEqDiff, Nat.reduceAdd, Nat.reduceMul, Nat.reduceSub, Nat.reduceLT, Nat.reduceLeDiff, Nat.reducePow, Int.reduceLT, Int.reduceLE, Int.reduceNeg, Int.reduceToNat, htk]
/-- Are all elements like the first of their classes? -/
theorem c65 (p : List Int) (f : FuncId) (caps : List AV) (q : Nat → Int → Bool) (hq : ∀ i (h : i < p.length), Con Try.prog f (iv i :: iv p[i] :: caps) 0 (bv (q i p[i]))) :
    Con Try.prog 65 [lv p, .clo f caps] 0 (bv ((List.range p.length).all fun i => q i (p.getD i 0))) := by
  refine Con.assume (enters_of Try.func65 (by kernel_rfl) rfl) fun hb => ?_
  have hlen := bnd_lv (hb _ (List.mem_cons_self ..))
  refine conT (X := []) (rs := [.tmp 4]) Try.func65 (by kernel_rfl) rfl rfl (by kernel_rfl) ?_
  simp (dsimp := false) (maxDischargeDepth := 16) only [go_sem, ↓reduceIte, reduceCtorEq, Nat.reduceEqDiff, Nat.reduceAdd, Nat.reduceMul, Nat.reduceSub, Nat.reduceLT, Nat.reduceLeDiff, Nat.reducePow, Int.reduceLT, Int.reduceLE, Int.reduceNeg, Int.reduceToNat]
  refine loopK_intro (fun (i : Nat) s => i ≤ p.length ∧ s.t 1 = .clo f caps ∧ s.t 7 = lv p ∧ s.t 8 = iv p.length ∧ s.t 9 = iv i ∧ ∀ j, j < i → q j (p.getD j 0) = true) (fun i => p.length - i) ⟨0, by omega, rfl, rfl, rfl, rfl, fun j hj => by omega⟩ ?_
  rintro i s ⟨hi, t1, t7, t8, t9, hn⟩
  simp (dsimp := false) (maxDischargeDepth := 16) only [go_sem, ↓reduceIte, reduceCtorEq, Nat.reduceEqDiff, Nat.reduceAdd, Nat.reduceMul, Nat.reduceSub, Nat.reduceLT, Nat.reduceLeDiff, Nat.reducePow, Int.reduceLT, Int.reduceLE, Int.reduceNeg, Int.reduceToNat, t1, t7, t8, t9]
  refine condK_dec (fun h6 => ?_) (fun h6 => ?_)
  · simp (dsimp := false) (maxDischargeDepth := 16) only [go_sem, ↓reduceIte, reduceCtorEq, Nat.reduceEqDiff, Nat.reduceAdd, Nat.reduceMul, Nat.reduceSub, Nat.reduceLT, Nat.reduceLeDiff, Nat.reducePow, Int.reduceLT, Int.reduceLE, Int.reduceNeg, Int.reduceToNat, t1, t7, t8, t9, h6, idx_nat]
    refine callK_intro (hq i h6) ?_
    simp (dsimp := false) (maxDischargeDepth := 16) only [go_sem, ↓reduceIte, reduceCtorEq, Nat.reduceEqDiff, Nat.reduceAdd, Nat.reduceMul, Nat.reduceSub, Nat.reduceLT, Nat.reduceLeDiff, Nat.reducePow, Int.reduceLT, Int.reduceLE, Int.reduceNeg, Int.reduceToNat, t1, t7, t8, t9, h6]
    refine condK_intro (fun h8 => ?_) (fun h8 => ?_)
    · simp (dsimp := false) (maxDischargeDepth := 16) only [go_sem, ↓reduceIte, reduceCtorEq, Nat.reduceEqDiff, Nat.reduceAdd, Nat.reduceMul, Nat.reduceSub, Nat.reduceLT, Nat.reduceLeDiff, Nat.reducePow, Int.reduceLT, Int.reduceLE, Int.reduceNeg, Int.reduceToNat, t1, t7, t8, t9, h6, h8]
      refine finB ?_
      rw [← Bool.not_eq_true, List.all_eq_true]
      intro hall
      have := hall i (List.mem_range.2 h6)
      rw [getD_at h6] at this
      simp [this] at h8
    · simp (dsimp := false) (maxDischargeDepth := 16) only [go_sem, ↓reduceIte, reduceCtorEq, Nat.reduceEqDiff, Nat.reduceAdd, Nat.reduceMul, Nat.reduceSub, Nat.reduceLT, Nat.reduceLeDiff, Nat.reducePow, Int.reduceLT, Int.reduceLE, Int.reduceNeg, Int.reduceToNat, t1, t7, t8, t9, h6, h8]
      refine ⟨i + 1, by omega, by omega, by rw [wrapN _ (by omega)], fun j hj => ?_⟩
      by_cases hji : j = i
      · subst hji
        rw [getD_at h6]
        simpa using h8
      · exact hn j (by omega)
  · simp (dsimp := false) (maxDischargeDepth := 16) only [go_sem, ↓reduceIte, reduceCtorEq, Nat.reduceEqDiff, Nat.reduceAdd, Nat.reduceMul, Nat.reduceSub, Nat.reduceLT, Nat.reduceLeDiff, Nat.reducePow, Int.reduceLT, Int.reduceLE, Int.reduceNeg, Int.reduceToNat, t1, t7, t8, t9, h6]
    refine finB ?_
    rw [List.all_eq_true]
    intro j hj
    have := List.mem_range.1 hj
    exact hn j (by omega)
theorem c66 (a : Gr) (i : Nat) (k : Int) (h : i < a.n.length) (h1 : 0 ≤ k) (h2 : k.toNat < a.n.length) : Con Try.prog 66 [iv i, iv k, .ptr (gcs a)] 0 (bv (a.n[i] == a.n[k.toNat])) := by
  refine conT (X := []) (rs := [.tmp 5]) Try.func66 (by kernel_rfl) rfl rfl (by kernel_rfl) ?_
  simp (dsimp := false) (maxDischargeDepth := 16) only [go_sem, ↓reduceIte, reduceCtorEq, Nat.reduceEqDiff, Nat.reduceAdd, Nat.reduceMul, Nat.reduceSub, Nat.reduceLT, Nat.reduceLeDiff, Nat.reducePow, Int.reduceLT, Int.reduceLE, Int.reduceNeg, Int.reduceToNat, idx_nat, idx_int, h, h1, h2]
  exact finB rfl
/-- Are two edges of one type, between the same classes of nodes? -/
def sameE (p : List Int) (x y : Ed) : Bool := x.1 == y.1 && (p.getD x.2.1.toNat 0 == p.getD y.2.1.toNat 0 && p.getD x.2.2.toNat 0 == p.getD y.2.2.toNat 0)
theorem c67 (a : Gr) (p : List Int) (i : Nat) (k : Int) (h : i < a.e.length) (h1 : 0 ≤ k) (h2 : k.toNat < a.e.length) (hp : ∀ x ∈ a.e, 0 ≤ x.2.1 ∧ x.2.1 < p.length ∧ 0 ≤ x.2.2 ∧ x.2.2 < p.length) :
    Con Try.prog 67 [iv i, iv k, .ptr (gcs a), .ptr [lv p]] 0 (bv (sameE p a.e[i] a.e[k.toNat])) := by
  have p1 := hp _ (List.getElem_mem h)
  have p2 := hp _ (List.getElem_mem h2)
  have r1 : a.e[i].2.1.toNat < p.length := by omega
  have r2 : a.e[i].2.2.toNat < p.length := by omega
  have r3 : a.e[k.toNat].2.1.toNat < p.length := by omega
  have r4 : a.e[k.toNat].2.2.toNat < p.length := by omega
  have q1 := p1.1
  have q2 := p1.2.2.1
  have q3 := p2.1
  have q4 := p2.2.2.1
  rw [sameE, getD_at r1, getD_at r2, getD_at r3, getD_at r4]
  refine conT (X := [(1, [], [(7, [14, 17], [])])]) (rs := [.tmp 6]) Try.func67 (by kernel_rfl) rfl rfl (by kernel_rfl) ?_
  simp (dsimp := false) (maxDischargeDepth := 16) only [go_sem, ↓reduceIte, reduceCtorEq, Nat.reduceEqDiff, Nat.reduceAdd, Nat.reduceMul, Nat.reduceSub, Nat.reduceLT, Nat.reduceLeDiff, Nat.reducePow, Int.reduceLT, Int.reduceLE, Int.reduceNeg, Int.reduceToNat, idx_nat, idx_int, h, h1, h2]
  refine condK_intro (fun g1 => ?_) (fun g1 => ?_)
  rotate_left
  · rw [g1]
    simp (dsimp := false) (maxDischargeDepth := 16) only [go_sem, ↓reduceIte, reduceCtorEq, Nat.reduceEqDiff, Nat.reduceAdd, Nat.reduceMul, Nat.reduceSub, Nat.reduceLT, Nat.reduceLeDiff, Nat.reducePow, Int.reduceLT, Int.reduceLE, Int.reduceNeg, Int.reduceToNat, g1]
    exact finB rfl
  rw [g1]
  simp (dsimp := false) (maxDischargeDepth := 16) only [go_sem, ↓reduceIte, reduceCtorEq, Nat.reduceEqDiff, Nat.reduceAdd, Nat.reduceMul, Nat.reduceSub, Nat.reduceLT, Nat.reduceLeDiff, Nat.reducePow, Int.reduceLT, Int.reduceLE, Int.reduceNeg, Int.reduceToNat, g1, idx_int, q1, q2, q3, q4, r1, r2, r3, r4]
  refine condK_intro (fun g2 => ?_) (fun g2 => ?_)
  rotate_left
  · rw [g2]
    simp (dsimp := false) (maxDischargeDepth := 16) only [go_sem, ↓reduceIte, reduceCtorEq, Nat.reduceEqDiff, Nat.reduceAdd, Nat.reduceMul, Nat.reduceSub, Nat.reduceLT, Nat.reduceLeDiff, Nat.reducePow, Int.reduceLT, Int.reduceLE, Int.reduceNeg, Int.reduceToNat, g1, g2]
    exact finB rfl
  rw [g2]
  simp (dsimp := false) (maxDischargeDepth := 16) only [go_sem, ↓reduceIte, reduceCtorEq, Nat.reduceEqDiff, Nat.reduceAdd, Nat.reduceMul, Nat.reduceSub, Nat.reduceLT, Nat.reduceLeDiff, Nat.reducePow, Int.reduceLT, Int.reduceLE, Int.reduceNeg, Int.reduceToNat, g1, g2, idx_int, q1, q2, q3, q4, r1, r2, r3, r4]
  exact finB rfl
end Go.Sy
