/- Contracts: factor.Quotients; equality of lists of quotients. -/
import Derived.Test.YtkhheblmgbiniaaWI
set_option linter.unusedSimpArgs false
namespace Go.Sy
open Go Go.Proofs

theorem tokOK_fbox {s : St} (k : Key) (l : List AV) (tk : Tok) : tokOK (s.fbox k l) tk = tokOK s tk := by cases tk <;> rfl
attribute [go_sem] tokOK_fbox
theorem c25 (x y : List Qu) : Con Try.prog 25 [qlv x, qlv y] 0 (bv (decide (x = y))) := by
  refine Con.assume (enters_of Try.func25 (by kernel_rfl) rfl) fun hb => ?_
  have hlen : (x.length : Int) ≤ 9223372036854775807 := by
    have := (hb _ (List.mem_cons_self ..)).1
    simpa using this
  refine conT (X := []) (rs := [.tmp 4]) Try.func25 (by kernel_rfl) rfl rfl (by kernel_rfl) ?_
  simp (dsimp := false) (maxDischargeDepth := 16) only [go_sem, ↓reduceIte, reduceCtorEq, Nat.reduceEqDiff, Nat.reduceAdd, Nat.reduceMul, Nat.reduceSub, Nat.reduceLT, Nat.reduceLeDiff, Nat.reducePow, Int.reduceLT, Int.reduceLE, Int.reduceNeg, Int.reduceToNat]
  refine condK_intro (fun h1 => ?_) (fun h1 => ?_)
  · simp (dsimp := false) (maxDischargeDepth := 16) only [go_sem, ↓reduceIte, reduceCtorEq, Nat.reduceEqDiff, Nat.reduceAdd, Nat.reduceMul, Nat.reduceSub, Nat.reduceLT, Nat.reduceLeDiff, Nat.reducePow, Int.reduceLT, Int.reduceLE, Int.reduceNeg, Int.reduceToNat, h1]
    exact finF' (fun h => by simp [h] at h1)
  have h1' : x.length = y.length := by have : (x.length : Int) = y.length := by simpa using h1
                                       omega
  simp (dsimp := false) (maxDischargeDepth := 16) only [go_sem, ↓reduceIte, reduceCtorEq, Nat.reduceEqDiff, Nat.reduceAdd, Nat.reduceMul, Nat.reduceSub, Nat.reduceLT, Nat.reduceLeDiff, Nat.reducePow, Int.reduceLT, Int.reduceLE, Int.reduceNeg, Int.reduceToNat, h1]
  refine loopK_intro (fun (i : Nat) s => i ≤ x.length ∧ s.t 0 = qlv x ∧ s.t 1 = qlv y ∧ s.t 5 = iv i ∧ ∀ j, j < i → x[j]? = y[j]?) (fun i => x.length - i) ⟨0, by omega, rfl, rfl, rfl, fun j hj => by omega⟩ ?_
  rintro i s ⟨hi, h0, h1, h5, hn⟩
  simp (dsimp := false) (maxDischargeDepth := 16) only [go_sem, ↓reduceIte, reduceCtorEq, Nat.reduceEqDiff, Nat.reduceAdd, Nat.reduceMul, Nat.reduceSub, Nat.reduceLT, Nat.reduceLeDiff, Nat.reducePow, Int.reduceLT, Int.reduceLE, Int.reduceNeg, Int.reduceToNat, h0, h1, h5]
  refine condK_dec (fun h6 => ?_) (fun h6 => ?_)
  · have h7 : i < y.length := by omega
    have no : x[i] ≠ y[i] → x ≠ y := fun h e => h (by subst e; rfl)
    simp (dsimp := false) (maxDischargeDepth := 16) only [go_sem, ↓reduceIte, reduceCtorEq, Nat.reduceEqDiff, Nat.reduceAdd, Nat.reduceMul, Nat.reduceSub, Nat.reduceLT, Nat.reduceLeDiff, Nat.reducePow, Int.reduceLT, Int.reduceLE, Int.reduceNeg, Int.reduceToNat, h0, h1, h5, h6, h7, idx_nat]
    refine callK_intro (c47 _ _) ?_
    simp (dsimp := false) (maxDischargeDepth := 16) only [go_sem, ↓reduceIte, reduceCtorEq, Nat.reduceEqDiff, Nat.reduceAdd, Nat.reduceMul, Nat.reduceSub, Nat.reduceLT, Nat.reduceLeDiff, Nat.reducePow, Int.reduceLT, Int.reduceLE, Int.reduceNeg, Int.reduceToNat, h0, h1, h5, h6, h7]
    refine condK_intro (fun h8 => ?_) (fun h8 => ?_)
    · simp (dsimp := false) (maxDischargeDepth := 16) only [go_sem, ↓reduceIte, reduceCtorEq, Nat.reduceEqDiff, Nat.reduceAdd, Nat.reduceMul, Nat.reduceSub, Nat.reduceLT, Nat.reduceLeDiff, Nat.reducePow, Int.reduceLT, Int.reduceLE, Int.reduceNeg, Int.reduceToNat, h0, h1, h5, h6, h7, h8]
      exact finF' (no fun h => ndec h8 (by rw [h]))
    simp (dsimp := false) (maxDischargeDepth := 16) only [go_sem, ↓reduceIte, reduceCtorEq, Nat.reduceEqDiff, Nat.reduceAdd, Nat.reduceMul, Nat.reduceSub, Nat.reduceLT, Nat.reduceLeDiff, Nat.reducePow, Int.reduceLT, Int.reduceLE, Int.reduceNeg, Int.reduceToNat, h0, h1, h5, h6, h7, h8, idx_nat]
    refine callK_intro (c35 _ _) ?_
    simp (dsimp := false) (maxDischargeDepth := 16) only [go_sem, ↓reduceIte, reduceCtorEq, Nat.reduceEqDiff, Nat.reduceAdd, Nat.reduceMul, Nat.reduceSub, Nat.reduceLT, Nat.reduceLeDiff, Nat.reducePow, Int.reduceLT, Int.reduceLE, Int.reduceNeg, Int.reduceToNat, h0, h1, h5, h6, h7, h8]
    refine condK_intro (fun h9 => ?_) (fun h9 => ?_)
    · simp (dsimp := false) (maxDischargeDepth := 16) only [go_sem, ↓reduceIte, reduceCtorEq, Nat.reduceEqDiff, Nat.reduceAdd, Nat.reduceMul, Nat.reduceSub, Nat.reduceLT, Nat.reduceLeDiff, Nat.reducePow, Int.reduceLT, Int.reduceLE, Int.reduceNeg, Int.reduceToNat, h0, h1, h5, h6, h7, h8, h9]
      exact finF' (no fun h => ndec h9 (by rw [h]))
    · simp (dsimp := false) (maxDischargeDepth := 16) only [go_sem, ↓reduceIte, reduceCtorEq, Nat.reduceEqDiff, Nat.reduceAdd, Nat.reduceMul, Nat.reduceSub, Nat.reduceLT, Nat.reduceLeDiff, Nat.reducePow, Int.reduceLT, Int.reduceLE, Int.reduceNeg, Int.reduceToNat, h0, h1, h5, h6, h7, h8, h9]
      refine ⟨i + 1, by omega, by omega, by rw [wrapN _ (by omega)], fun j hj => ?_⟩
      by_cases hji : j = i
      · subst hji
        rw [List.getElem?_eq_getElem h6, List.getElem?_eq_getElem h7]
        have e1 := ydec h8
        have e2 := ydec h9
        generalize x[j] = u at *
        generalize y[j] = v at *
        cases u; cases v
        simp_all
      · exact hn j (by omega)
  · simp (dsimp := false) (maxDischargeDepth := 16) only [go_sem, ↓reduceIte, reduceCtorEq, Nat.reduceEqDiff, Nat.reduceAdd, Nat.reduceMul, Nat.reduceSub, Nat.reduceLT, Nat.reduceLeDiff, Nat.reducePow, Int.reduceLT, Int.reduceLE, Int.reduceNeg, Int.reduceToNat, h0, h1, h5, h6]
    refine finT (List.ext_getElem? fun j => ?_)
    by_cases hj : j < i
    · exact hn j hj
    · rw [List.getElem?_eq_none (by omega), List.getElem?_eq_none (by omega)]
theorem ext_mem2 {p q : List Int} {i j : Nat} (h : q ∈ ext p i j) : ∃ x : Nat, x < j ∧ (x = i ∨ p.getD x 0 = (x : Int)) ∧ q = p ++ [(x : Int)] := by
  unfold ext at h
  obtain ⟨x, hx, rfl⟩ := List.mem_map.1 h
  obtain ⟨h1, h2⟩ := List.mem_filter.1 hx
  exact ⟨x, List.mem_range.1 h1, by simpa using h2, rfl⟩
theorem allP_isP : ∀ (i : Nat) (p : List Int), p ∈ allP i → isP p
  | 0, p, h => by simp [allP] at h; subst h; exact isP_nil
  | i + 1, p, h => by
    unfold allP at h
    obtain ⟨q, hq, h⟩ := List.mem_flatMap.1 h
    obtain ⟨x, hx, h1, rfl⟩ := ext_mem2 h
    have hl := allP_mem i q hq
    exact isP_ext (allP_isP i q hq) (by omega) (by rw [hl]; exact h1)
def quF (a : Gr) (p : List Int) : List Qu := if okP a p = true then ((allP a.e.length).filter (okQ a p)).map (quo a p) else []
def quL (a : Gr) : List Qu := (allP a.n.length).flatMap (quF a)
def quP (a : Gr) : List Qu × Int := if gErr a ≠ 0 then ([], gErr a) else if 6 < a.n.length ∨ 6 < a.e.length then ([], 3) else if 2000 < (quL a).length then ([], 3) else (quL a, 0)
theorem flat_split {α β : Type} (f : α → List β) {l : List α} {m : Nat} (h : m < l.length) : l.flatMap f = (l.take m).flatMap f ++ (f l[m] ++ (l.drop (m + 1)).flatMap f) := by
  conv => lhs; rw [← List.take_append_drop m l, List.flatMap_append, List.drop_eq_getElem_cons h, List.flatMap_cons]
theorem filter_yes {α : Type} {f : α → Bool} {l : List α} {m : Nat} (h : m < l.length) (h1 : f l[m] = true) : (l.take (m + 1)).filter f = (l.take m).filter f ++ [l[m]] := by
  rw [List.take_add_one, List.getElem?_eq_getElem h, List.filter_append]
  simp [h1]
theorem filter_no {α : Type} {f : α → Bool} {l : List α} {m : Nat} (h : m < l.length) (h1 : f l[m] = false) : (l.take (m + 1)).filter f = (l.take m).filter f := by
  rw [List.take_add_one, List.getElem?_eq_getElem h, List.filter_append]
  simp [h1]
theorem take_filter_len {α : Type} (f : α → Bool) (l : List α) (m : Nat) : ((l.take m).filter f).length ≤ (l.filter f).length :=
  ((List.take_sublist m l).filter f).length_le
set_option maxRecDepth 20000 in
set_option maxHeartbeats 4000000 in
theorem c23 (a : Gr) : Con Try.prog 23 [gv a] 0 (.tup [qlv (quP a).1, iv (quP a).2]) := by
  refine conT (X := [(12, [1], []), (13, [1, 11], [])]) (rs := [.tmp 2, .tmp 3]) Try.func23 (by kernel_rfl) rfl rfl (by kernel_rfl) ?_
  simp (dsimp := false) (maxDischargeDepth := 16) only [go_sem, ↓reduceIte, reduceCtorEq, Nat.reduceEqDiff, Nat.reduceAdd, Nat.reduceMul, Nat.reduceSub, Nat.reduceLT, Nat.reduceLeDiff, Nat.reducePow, Int.reduceLT, Int.reduceLE, Int.reduceNeg, Int.reduceToNat]
  refine callK_intro (c61 a) ?_
  simp (dsimp := false) (maxDischargeDepth := 16) only [go_sem, ↓reduceIte, reduceCtorEq, Nat.reduceEqDiff, Nat.reduceAdd, Nat.reduceMul, Nat.reduceSub, Nat.reduceLT, Nat.reduceLeDiff, Nat.reducePow, Int.reduceLT, Int.reduceLE, Int.reduceNeg, Int.reduceToNat]
  refine condK_intro (fun h1 => ?_) (fun h1 => ?_)
  · simp (dsimp := false) (maxDischargeDepth := 16) only [go_sem, ↓reduceIte, reduceCtorEq, Nat.reduceEqDiff, Nat.reduceAdd, Nat.reduceMul, Nat.reduceSub, Nat.reduceLT, Nat.reduceLeDiff, Nat.reducePow, Int.reduceLT, Int.reduceLE, Int.reduceNeg, Int.reduceToNat, h1]
    have h : quP a = ([], gErr a) := if_pos (ineq h1)
    rw [h]
    exact finK ⟨rfl, rfl⟩
  have g1 := ieq h1
  obtain ⟨⟨p1, p2⟩, p3⟩ := gErr_small g1
  have hR : ∀ x ∈ a.e, 0 ≤ x.2.1 ∧ x.2.1 < a.n.length ∧ 0 ≤ x.2.2 ∧ x.2.2 < a.n.length := fun x hx => (p3.2 x hx).2
  have hbig : ∀ o, (6 < a.n.length ∨ 6 < a.e.length) → o = quP a → o = ([], 3) := fun o h ho => by rw [ho, quP, if_neg (by simp [g1]), if_pos h]
  simp (dsimp := false) (maxDischargeDepth := 16) only [go_sem, ↓reduceIte, reduceCtorEq, Nat.reduceEqDiff, Nat.reduceAdd, Nat.reduceMul, Nat.reduceSub, Nat.reduceLT, Nat.reduceLeDiff, Nat.reducePow, Int.reduceLT, Int.reduceLE, Int.reduceNeg, Int.reduceToNat, h1]
  refine condK_dec (fun h3 => ?_) (fun h3 => ?_)
  · simp (dsimp := false) (maxDischargeDepth := 16) only [go_sem, ↓reduceIte, reduceCtorEq, Nat.reduceEqDiff, Nat.reduceAdd, Nat.reduceMul, Nat.reduceSub, Nat.reduceLT, Nat.reduceLeDiff, Nat.reducePow, Int.reduceLT, Int.reduceLE, Int.reduceNeg, Int.reduceToNat, h1, h3]
    rw [hbig _ (by omega) rfl]
    exact finK ⟨rfl, rfl⟩
  simp (dsimp := false) (maxDischargeDepth := 16) only [go_sem, ↓reduceIte, reduceCtorEq, Nat.reduceEqDiff, Nat.reduceAdd, Nat.reduceMul, Nat.reduceSub, Nat.reduceLT, Nat.reduceLeDiff, Nat.reducePow, Int.reduceLT, Int.reduceLE, Int.reduceNeg, Int.reduceToNat, h1, h3]
  refine condK_dec (fun h4 => ?_) (fun h4 => ?_)
  · simp (dsimp := false) (maxDischargeDepth := 16) only [go_sem, ↓reduceIte, reduceCtorEq, Nat.reduceEqDiff, Nat.reduceAdd, Nat.reduceMul, Nat.reduceSub, Nat.reduceLT, Nat.reduceLeDiff, Nat.reducePow, Int.reduceLT, Int.reduceLE, Int.reduceNeg, Int.reduceToNat, h1, h3, h4]
    rw [hbig _ (by omega) rfl]
    exact finK ⟨rfl, rfl⟩
  have hsm : ¬ (6 < a.n.length ∨ 6 < a.e.length) := by omega
  simp (dsimp := false) (maxDischargeDepth := 16) only [go_sem, ↓reduceIte, reduceCtorEq, Nat.reduceEqDiff, Nat.reduceAdd, Nat.reduceMul, Nat.reduceSub, Nat.reduceLT, Nat.reduceLeDiff, Nat.reducePow, Int.reduceLT, Int.reduceLE, Int.reduceNeg, Int.reduceToNat, h1, h3, h4]
  refine callK_intro (c64 a.n.length (by omega)) ?_
  simp (dsimp := false) (maxDischargeDepth := 16) only [go_sem, ↓reduceIte, reduceCtorEq, Nat.reduceEqDiff, Nat.reduceAdd, Nat.reduceMul, Nat.reduceSub, Nat.reduceLT, Nat.reduceLeDiff, Nat.reducePow, Int.reduceLT, Int.reduceLE, Int.reduceNeg, Int.reduceToNat, h1, h3, h4]
  refine callK_intro (c64 a.e.length (by omega)) ?_
  simp (dsimp := false) (maxDischargeDepth := 16) only [go_sem, ↓reduceIte, reduceCtorEq, Nat.reduceEqDiff, Nat.reduceAdd, Nat.reduceMul, Nat.reduceSub, Nat.reduceLT, Nat.reduceLeDiff, Nat.reducePow, Int.reduceLT, Int.reduceLE, Int.reduceNeg, Int.reduceToNat, h1, h3, h4]
  have lN := allP_len a.n.length (by omega)
  have lE := allP_len a.e.length (by omega)
  have e1 : 8 ^ a.n.length ≤ 8 ^ 7 := Nat.pow_le_pow_right (by decide) (by omega)
  have e2 : 8 ^ a.e.length ≤ 8 ^ 7 := Nat.pow_le_pow_right (by decide) (by omega)
  refine loopK_intro (fun (i : Nat) s => i ≤ (allP a.n.length).length ∧ s.t 1 = .box (1, 0, 0) 0 ∧ (∃ z, s.b (1, 0, 0) = some ⟨gcs a, z⟩) ∧ s.t 7 = llv (allP a.e.length) ∧ s.t 44 = llv (allP a.n.length) ∧ s.t 45 = iv (allP a.n.length).length ∧ s.t 46 = iv i ∧
    (((allP a.n.length).take i).flatMap (quF a)).length ≤ 2000 ∧ ∃ tk, s.t 9 = qlvT (((allP a.n.length).take i).flatMap (quF a)) tk ∧ tokOK s tk = true) (fun i => (allP a.n.length).length - i) ?_ ?_
  · exact ⟨0, by omega, rfl, ⟨_, rfl⟩, rfl, rfl, rfl, rfl, by simp, .nil, rfl, rfl⟩
  clear h1 h3 h4
  rintro i s ⟨hi, t1, ⟨z, b1⟩, t7, t44, t45, t46, hc, tk, t9, htk⟩
  simp (dsimp := false) (maxDischargeDepth := 16) only [go_sem, ↓reduceIte, reduceCtorEq, Nat.reduceEqDiff, Nat.reduceAdd, Nat.reduceMul, Nat.reduceSub, Nat.reduceLT, Nat.reduceLeDiff, Nat.reducePow, Int.reduceLT, Int.reduceLE, Int.reduceNeg, Int.reduceToNat, t1, b1, t7, t44, t45, t46, t9]
  refine condK_dec (fun h6 => ?_) (fun h6 => ?_)
  rotate_left
  · simp (dsimp := false) (maxDischargeDepth := 16) only [go_sem, ↓reduceIte, reduceCtorEq, Nat.reduceEqDiff, Nat.reduceAdd, Nat.reduceMul, Nat.reduceSub, Nat.reduceLT, Nat.reduceLeDiff, Nat.reducePow, Int.reduceLT, Int.reduceLE, Int.reduceNeg, Int.reduceToNat, t1, b1, t7, t44, t45, t46, t9, h6]
    have : i = (allP a.n.length).length := by omega
    subst this
    rw [List.take_length] at *
    have h : quP a = (quL a, 0) := by rw [quP, if_neg (by simp [g1]), if_neg hsm, if_neg (by unfold quL; omega)]
    rw [h]
    exact finK ⟨rfl, rfl⟩
  have hpl := allP_mem _ _ (List.getElem_mem h6)
  have hpP := allP_isP _ _ (List.getElem_mem h6)
  have hnext := take_flat (f := quF a) h6
  have hsplit : quL a = _ := flat_split (quF a) h6
  simp (dsimp := false) (maxDischargeDepth := 16) only [go_sem, ↓reduceIte, reduceCtorEq, Nat.reduceEqDiff, Nat.reduceAdd, Nat.reduceMul, Nat.reduceSub, Nat.reduceLT, Nat.reduceLeDiff, Nat.reducePow, Int.reduceLT, Int.reduceLE, Int.reduceNeg, Int.reduceToNat, t1, b1, t7, t44, t45, t46, t9, h6, idx_nat]
  generalize ((allP a.n.length).take i).flatMap (quF a) = cur at *
  generalize (allP a.n.length)[i] = p at *
  have q66 := c65 p 66 [.ptr (gcs a)] (fun i k => a.n.getD i 0 == a.n.getD k.toNat 0) (fun i h => by
    have h1 := hpP i h
    have h2 : i < a.n.length := by omega
    rw [pOK, getD_at h] at h1
    have h3 : p[i].toNat < a.n.length := by omega
    show Con Try.prog 66 _ 0 (bv (a.n.getD i 0 == a.n.getD p[i].toNat 0))
    rw [getD_at h2, getD_at h3]
    exact c66 a i p[i] h2 h1.1 h3)
  refine callK_intro q66 ?_
  simp (dsimp := false) (maxDischargeDepth := 16) only [go_sem, ↓reduceIte, reduceCtorEq, Nat.reduceEqDiff, Nat.reduceAdd, Nat.reduceMul, Nat.reduceSub, Nat.reduceLT, Nat.reduceLeDiff, Nat.reducePow, Int.reduceLT, Int.reduceLE, Int.reduceNeg, Int.reduceToNat, t1, b1, t7, t44, t45, t46, t9, h6]
  refine condK_intro (fun h8 => ?_) (fun h8 => ?_)
  · have hok : okP a p = false := by unfold okP; simpa only [Bool.not_eq_true'] using h8
    have hF : quF a p = [] := by rw [quF, if_neg (by simp [hok])]
    simp (dsimp := false) (maxDischargeDepth := 16) only [go_sem, ↓reduceIte, reduceCtorEq, Nat.reduceEqDiff, Nat.reduceAdd, Nat.reduceMul, Nat.reduceSub, Nat.reduceLT, Nat.reduceLeDiff, Nat.reducePow, Int.reduceLT, Int.reduceLE, Int.reduceNeg, Int.reduceToNat, t1, b1, t7, t44, t45, t46, t9, h6, h8]
    rw [hF, List.append_nil] at hnext
    exact ⟨i + 1, by omega, by omega, ⟨_, rfl⟩, by rw [wrapN _ (by omega)], by rw [hnext]; exact hc, tk, by rw [hnext], by simp (dsimp := false) (maxDischargeDepth := 16) only [go_sem, ↓reduceIte, reduceCtorEq, Nat.reduceEqDiff, Nat.reduceAdd, Nat.reduceMul, Nat.reduceSub, Nat.reduceLT, Nat.reduceLeDiff, Nat.reducePow, Int.reduceLT, Int.reduceLE, Int.reduceNeg, Int.reduceToNat, htk]⟩
  have hok : okP a p = true := by unfold okP; simpa only [Bool.not_eq_false'] using h8
  have hF : quF a p = ((allP a.e.length).filter (okQ a p)).map (quo a p) := by rw [quF, if_pos hok]
  rw [hF] at hnext hsplit
  simp (dsimp := false) (maxDischargeDepth := 16) only [go_sem, ↓reduceIte, reduceCtorEq, Nat.reduceEqDiff, Nat.reduceAdd, Nat.reduceMul, Nat.reduceSub, Nat.reduceLT, Nat.reduceLeDiff, Nat.reducePow, Int.reduceLT, Int.reduceLE, Int.reduceNeg, Int.reduceToNat, t1, b1, t7, t44, t45, t46, t9, h6, h8]
  have hEp : ∀ q ∈ allP a.e.length, q.length = a.e.length ∧ isP q := fun q hq => ⟨allP_mem _ _ hq, allP_isP _ _ hq⟩
  have tfl := take_filter_len (okQ a p) (allP a.e.length)
  have fy := fun m (h : m < (allP a.e.length).length) => filter_yes (f := okQ a p) h
  have fn := fun m (h : m < (allP a.e.length).length) => filter_no (f := okQ a p) h
  have ftl : ((allP a.e.length).take (allP a.e.length).length) = allP a.e.length := List.take_length
  have hcell : s.g 11 = s.g 11 := rfl
  refine loopK_intro (fun (j : Nat) s' => j ≤ (allP a.e.length).length ∧ s'.t 1 = .box (1, 0, 0) 0 ∧ s'.b (1, 0, 0) = some ⟨gcs a, true⟩ ∧ s'.t 7 = llv (allP a.e.length) ∧ s'.t 44 = llv (allP a.n.length) ∧ s'.t 45 = iv (allP a.n.length).length ∧ s'.t 46 = iv i ∧
    s'.t 11 = .box (11, s.g 11, 0) 0 ∧ s'.b (11, s.g 11, 0) = some ⟨[lv p], true⟩ ∧ s'.t 12 = .clo 67 [.ptr (gcs a), .ptr [lv p]] ∧ s'.t 55 = llv (allP a.e.length) ∧ s'.t 56 = iv (allP a.e.length).length ∧ s'.t 57 = iv j ∧
    (cur ++ (((allP a.e.length).take j).filter (okQ a p)).map (quo a p)).length ≤ 2000 ∧ ∃ tk, s'.t 9 = qlvT (cur ++ (((allP a.e.length).take j).filter (okQ a p)).map (quo a p)) tk ∧ tokOK s' tk = true) (fun j => (allP a.e.length).length - j) ?_ ?_
  · refine ⟨0, by omega, t1, ?_, t7, t44, t45, t46, rfl, ?_, rfl, rfl, rfl, rfl, by simpa using hc, tk, ?_, ?_⟩
    · simp (dsimp := false) (maxDischargeDepth := 16) only [go_sem, ↓reduceIte, reduceCtorEq, Nat.reduceEqDiff, Nat.reduceAdd, Nat.reduceMul, Nat.reduceSub, Nat.reduceLT, Nat.reduceLeDiff, Nat.reducePow, Int.reduceLT, Int.reduceLE, Int.reduceNeg, Int.reduceToNat, b1]
    · simp (dsimp := false) (maxDischargeDepth := 16) only [go_sem, ↓reduceIte, reduceCtorEq, Nat.reduceEqDiff, Nat.reduceAdd, Nat.reduceMul, Nat.reduceSub, Nat.reduceLT, Nat.reduceLeDiff, Nat.reducePow, Int.reduceLT, Int.reduceLE, Int.reduceNeg, Int.reduceToNat, b1]
    · rw [List.take_zero, List.filter_nil, List.map_nil, List.append_nil]; exact t9
    · simp (dsimp := false) (maxDischargeDepth := 16) only [go_sem, ↓reduceIte, reduceCtorEq, Nat.reduceEqDiff, Nat.reduceAdd, Nat.reduceMul, Nat.reduceSub, Nat.reduceLT, Nat.reduceLeDiff, Nat.reducePow, Int.reduceLT, Int.reduceLE, Int.reduceNeg, Int.reduceToNat, htk]
  generalize s.g 11 = γ at *
  have hlt := h6
  clear t1 b1 t7 t44 t45 t46 t9 htk h6 hcell
  rintro j s ⟨hj, t1, b1, t7, t44, t45, t46, t11, b11, t12, t55, t56, t57, hc2, tk, t9, htk⟩
  simp (dsimp := false) (maxDischargeDepth := 16) only [go_sem, ↓reduceIte, reduceCtorEq, Nat.reduceEqDiff, Nat.reduceAdd, Nat.reduceMul, Nat.reduceSub, Nat.reduceLT, Nat.reduceLeDiff, Nat.reducePow, Int.reduceLT, Int.reduceLE, Int.reduceNeg, Int.reduceToNat, t1, b1, t7, t44, t45, t46, t11, b11, t12, t55, t56, t57, t9]
  refine condK_dec (fun h6 => ?_) (fun h6 => ?_)
  rotate_left
  · simp (dsimp := false) (maxDischargeDepth := 16) only [go_sem, ↓reduceIte, reduceCtorEq, Nat.reduceEqDiff, Nat.reduceAdd, Nat.reduceMul, Nat.reduceSub, Nat.reduceLT, Nat.reduceLeDiff, Nat.reducePow, Int.reduceLT, Int.reduceLE, Int.reduceNeg, Int.reduceToNat, t1, b1, t7, t44, t45, t46, t11, b11, t12, t55, t56, t57, t9, h6]
    have : j = (allP a.e.length).length := by omega
    subst this
    rw [ftl] at *
    exact ⟨i + 1, by omega, by omega, ⟨_, rfl⟩, by rw [wrapN _ (by omega)], by rw [hnext]; exact hc2, tk, by rw [hnext], by simp (dsimp := false) (maxDischargeDepth := 16) only [go_sem, ↓reduceIte, reduceCtorEq, Nat.reduceEqDiff, Nat.reduceAdd, Nat.reduceMul, Nat.reduceSub, Nat.reduceLT, Nat.reduceLeDiff, Nat.reducePow, Int.reduceLT, Int.reduceLE, Int.reduceNeg, Int.reduceToNat, htk]⟩
  have hqE := hEp _ (List.getElem_mem h6)
  have fy1 := fy j h6
  have fn1 := fn j h6
  have tfl1 := tfl (j + 1)
  simp (dsimp := false) (maxDischargeDepth := 16) only [go_sem, ↓reduceIte, reduceCtorEq, Nat.reduceEqDiff, Nat.reduceAdd, Nat.reduceMul, Nat.reduceSub, Nat.reduceLT, Nat.reduceLeDiff, Nat.reducePow, Int.reduceLT, Int.reduceLE, Int.reduceNeg, Int.reduceToNat, t1, b1, t7, t44, t45, t46, t11, b11, t12, t55, t56, t57, t9, h6, idx_nat]
  generalize ((allP a.e.length).take j).filter (okQ a p) = D at *
  generalize (allP a.e.length)[j] = q at *
  obtain ⟨hql, hqP⟩ := hqE
  have q67 := c65 q 67 [.ptr (gcs a), .ptr [lv p]] (fun i k => sameE p (a.e.getD i (0, 0, 0)) (a.e.getD k.toNat (0, 0, 0))) (fun i h => by
    have h1 := hqP i h
    have h2 : i < a.e.length := by omega
    rw [pOK, getD_at h] at h1
    have h3 : q[i].toNat < a.e.length := by omega
    show Con Try.prog 67 _ 0 (bv (sameE p (a.e.getD i (0, 0, 0)) (a.e.getD q[i].toNat (0, 0, 0))))
    rw [getD_at h2, getD_at h3]
    exact c67 a p i q[i] h2 h1.1 h3 (by rw [hpl]; exact hR))
  refine callK_intro q67 ?_
  simp (dsimp := false) (maxDischargeDepth := 16) only [go_sem, ↓reduceIte, reduceCtorEq, Nat.reduceEqDiff, Nat.reduceAdd, Nat.reduceMul, Nat.reduceSub, Nat.reduceLT, Nat.reduceLeDiff, Nat.reducePow, Int.reduceLT, Int.reduceLE, Int.reduceNeg, Int.reduceToNat, t1, b1, t7, t44, t45, t46, t11, b11, t12, t55, t56, t57, t9, h6]
  refine condK_intro (fun h9 => ?_) (fun h9 => ?_)
  · have hoq : okQ a p q = false := by unfold okQ; simpa only [Bool.not_eq_true'] using h9
    simp (dsimp := false) (maxDischargeDepth := 16) only [go_sem, ↓reduceIte, reduceCtorEq, Nat.reduceEqDiff, Nat.reduceAdd, Nat.reduceMul, Nat.reduceSub, Nat.reduceLT, Nat.reduceLeDiff, Nat.reducePow, Int.reduceLT, Int.reduceLE, Int.reduceNeg, Int.reduceToNat, t1, b1, t7, t44, t45, t46, t11, b11, t12, t55, t56, t57, t9, h6, h9]
    have e3 := fn1 hoq
    exact ⟨j + 1, by omega, by omega, by rw [wrapN _ (by omega)], by rw [e3]; exact hc2, tk, by rw [e3], by simp (dsimp := false) (maxDischargeDepth := 16) only [go_sem, ↓reduceIte, reduceCtorEq, Nat.reduceEqDiff, Nat.reduceAdd, Nat.reduceMul, Nat.reduceSub, Nat.reduceLT, Nat.reduceLeDiff, Nat.reducePow, Int.reduceLT, Int.reduceLE, Int.reduceNeg, Int.reduceToNat, htk]⟩
  have hoq : okQ a p q = true := by unfold okQ; simpa only [Bool.not_eq_false'] using h9
  have e3 := fy1 hoq
  simp (dsimp := false) (maxDischargeDepth := 16) only [go_sem, ↓reduceIte, reduceCtorEq, Nat.reduceEqDiff, Nat.reduceAdd, Nat.reduceMul, Nat.reduceSub, Nat.reduceLT, Nat.reduceLeDiff, Nat.reducePow, Int.reduceLT, Int.reduceLE, Int.reduceNeg, Int.reduceToNat, t1, b1, t7, t44, t45, t46, t11, b11, t12, t55, t56, t57, t9, h6, h9]
  refine condK_intro (fun h10 => ?_) (fun h10 => ?_)
  · simp (dsimp := false) (maxDischargeDepth := 16) only [go_sem, ↓reduceIte, reduceCtorEq, Nat.reduceEqDiff, Nat.reduceAdd, Nat.reduceMul, Nat.reduceSub, Nat.reduceLT, Nat.reduceLeDiff, Nat.reducePow, Int.reduceLT, Int.reduceLE, Int.reduceNeg, Int.reduceToNat, t1, b1, t7, t44, t45, t46, t11, b11, t12, t55, t56, t57, t9, h6, h9, h10]
    have h : quP a = ([], 3) := by
      rw [quP, if_neg (by simp [g1]), if_neg hsm, if_pos]
      have h11 := beqT h10
      rw [e3] at tfl1
      rw [hsplit]
      simp only [List.length_append, List.length_map, List.length_cons, List.length_nil] at h11 tfl1 ⊢
      omega
    rw [h]
    exact finK ⟨rfl, rfl⟩
  simp (dsimp := false) (maxDischargeDepth := 16) only [go_sem, ↓reduceIte, reduceCtorEq, Nat.reduceEqDiff, Nat.reduceAdd, Nat.reduceMul, Nat.reduceSub, Nat.reduceLT, Nat.reduceLeDiff, Nat.reducePow, Int.reduceLT, Int.reduceLE, Int.reduceNeg, Int.reduceToNat, t1, b1, t7, t44, t45, t46, t11, b11, t12, t55, t56, t57, t9, h6, h9, h10]
  refine callK_intro (c68 a p q hpP hqP hpl hql (by omega) (by omega) hR hok hoq) ?_
  simp (dsimp := false) (maxDischargeDepth := 16) only [go_sem, ↓reduceIte, reduceCtorEq, Nat.reduceEqDiff, Nat.reduceAdd, Nat.reduceMul, Nat.reduceSub, Nat.reduceLT, Nat.reduceLeDiff, Nat.reducePow, Int.reduceLT, Int.reduceLE, Int.reduceNeg, Int.reduceToNat, t1, b1, t7, t44, t45, t46, t11, b11, t12, t55, t56, t57, t9, h6, h9, h10, htk]
  have h11 := beqF h10
  refine ⟨⟨by omega, by omega⟩, j + 1, by omega, by omega, by rw [wrapN _ (by omega)], ?_, .own (74, s.g 74, 0), ?_, ?_⟩
  · rw [e3, List.map_append, ← List.append_assoc, List.length_append]
    simp only [List.map_cons, List.map_nil, List.length_cons, List.length_nil]
    omega
  · rw [e3]
    simp only [List.map_append, List.map_cons, List.map_nil, List.append_assoc]
    rfl
  · simp (dsimp := false) (maxDischargeDepth := 16) only [go_sem, ↓reduceIte, reduceCtorEq, Nat.reduceEqDiff, Nat.reduceAdd, Nat.reduceMul, Nat.reduceSub, Nat.reduceLT, Nat.reduceLeDiff, Nat.reducePow, Int.reduceLT, Int.reduceLE, Int.reduceNeg, Int.reduceToNat, htk]
end Go.Sy
