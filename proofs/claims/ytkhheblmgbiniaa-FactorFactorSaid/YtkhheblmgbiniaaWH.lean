/- Contracts: the program's quotient by partitions. -/
import Derived.Test.YtkhheblmgbiniaaWG
set_option linter.unusedSimpArgs false
namespace Go.Sy
open Go Go.Proofs

theorem class_set {α : Type} {p P : List Int} {R : List Nat} {n : Nat} (hspec : ∀ j, j < n → 0 ≤ P.getD j 0 ∧ R[(P.getD j 0).toNat]? = some (p.getD j 0).toNat) {f : Nat → α} (hal : ∀ j, j < n → f j = f (p.getD j 0).toNat)
    {zs : List α} (hz : zs.length = R.length) {i : Nat} (hi : i < n) (hall : ∀ j, j < i → zs[(P.getD j 0).toNat]? = some (f j)) : ∀ j, j < i + 1 → (zs.set (P.getD i 0).toNat (f i))[(P.getD j 0).toNat]? = some (f j) := by
  intro j hj
  rw [List.getElem?_set]
  have hi2 := (hspec i hi).2
  have hlt := (List.getElem?_eq_some_iff.1 hi2).1
  split
  · rename_i e
    rw [if_pos (by omega)]
    have hj2 := (hspec j (by omega)).2
    rw [← e, hi2] at hj2
    rw [hal i hi, hal j (by omega), Option.some.inj hj2]
  · rename_i e
    refine hall j ?_
    rcases Nat.lt_or_ge j i with h | h
    · exact h
    · exact absurd (by rw [show j = i by omega]) e
theorem class_eq {p P : List Int} {R : List Nat} (hR : R.Nodup) {n : Nat} (hspec : ∀ j, j < n → 0 ≤ P.getD j 0 ∧ R[(P.getD j 0).toNat]? = some (p.getD j 0).toNat) {u v : Nat} (hu : u < n) (hv : v < n) (h : p.getD u 0 = p.getD v 0) : P.getD u 0 = P.getD v 0 := by
  have h1 := hspec u hu
  have h2 := hspec v hv
  rw [h] at h1
  have : (P.getD u 0).toNat = (P.getD v 0).toNat := (List.getElem?_inj (List.getElem?_eq_some_iff.1 h1.2).1 hR).1 (h1.2.trans h2.2.symm)
  omega
theorem okP_at {a : Gr} {p : List Int} (h : okP a p = true) {j : Nat} (hj : j < p.length) : a.n.getD j 0 = a.n.getD (p.getD j 0).toNat 0 := by
  have := List.all_eq_true.1 h j (List.mem_range.2 hj)
  simpa using this
theorem okQ_at {a : Gr} {p q : List Int} (h : okQ a p q = true) {j : Nat} (hj : j < q.length) : sameE p (a.e.getD j (0, 0, 0)) (a.e.getD (q.getD j 0).toNat (0, 0, 0)) = true :=
  List.all_eq_true.1 h j (List.mem_range.2 hj)
set_option maxHeartbeats 1000000 in
theorem c68 (a : Gr) (p q : List Int) (hp : isP p) (hq : isP q) (hpl : p.length = a.n.length) (hql : q.length = a.e.length) (hn : a.n.length ≤ 80) (he : a.e.length ≤ 80)
    (hR : ∀ x ∈ a.e, 0 ≤ x.2.1 ∧ x.2.1 < a.n.length ∧ 0 ≤ x.2.2 ∧ x.2.2 < a.n.length) (op : okP a p = true) (oq : okQ a p q = true) : Con Try.prog 68 [gv a, lv p, lv q] 0 (qv (quo a p q)) := by
  refine conT (X := []) (rs := [.cell 6 92]) Try.func68 (by kernel_rfl) rfl rfl (by kernel_rfl) ?_
  simp (dsimp := false) (maxDischargeDepth := 16) only [go_sem, ↓reduceIte, reduceCtorEq, Nat.reduceEqDiff, Nat.reduceAdd, Nat.reduceMul, Nat.reduceSub, Nat.reduceLT, Nat.reduceLeDiff, Nat.reducePow, Int.reduceLT, Int.reduceLE, Int.reduceNeg, Int.reduceToNat]
  refine callK_intro (c121 p (by omega) hp) ?_
  simp (dsimp := false) (maxDischargeDepth := 16) only [go_sem, ↓reduceIte, reduceCtorEq, Nat.reduceEqDiff, Nat.reduceAdd, Nat.reduceMul, Nat.reduceSub, Nat.reduceLT, Nat.reduceLeDiff, Nat.reducePow, Int.reduceLT, Int.reduceLE, Int.reduceNeg, Int.reduceToNat]
  refine callK_intro (c121 q (by omega) hq) ?_
  obtain ⟨np, sp⟩ := nq_spec hp p.length (Nat.le_refl _)
  obtain ⟨nqq, sq⟩ := nq_spec hq q.length (Nat.le_refl _)
  have lp := nq_len p p.length
  have lq := nq_len q q.length
  have rp := rts_len p p.length
  have rq := rts_len q q.length
  have fp : ∀ zs : List Int, zs.length = (rts p p.length).length → (∀ j, j < p.length → zs[((nq p p.length).1.getD j 0).toNat]? = some (nodeAt a.n j)) → zs = (rts p p.length).map (nodeAt a.n) := fun zs h1 h2 => class_list hp h1 h2
  have fq : ∀ zs : List Ed, zs.length = (rts q q.length).length → (∀ j, j < q.length → zs[((nq q q.length).1.getD j 0).toNat]? = some (edgeAt a.e (nq p p.length).1 j)) → zs = (rts q q.length).map (edgeAt a.e (nq p p.length).1) := fun zs h1 h2 => class_list hq h1 h2
  have dp := rts_nodup p p.length
  rw [np, nqq]
  unfold quo
  generalize (nq p p.length).1 = P at *
  generalize (nq q q.length).1 = Q at *
  generalize rts p p.length = Rp at *
  generalize rts q q.length = Rq at *
  have alp : ∀ j, j < p.length → nodeAt a.n j = nodeAt a.n (p.getD j 0).toNat := fun j hj => okP_at op hj
  have ceq : ∀ u v, u < p.length → v < p.length → p.getD u 0 = p.getD v 0 → P.getD u 0 = P.getD v 0 := fun u v hu hv h => class_eq dp sp hu hv h
  have alq : ∀ j, j < q.length → edgeAt a.e P j = edgeAt a.e P (q.getD j 0).toNat := by
    intro j hj
    have h := okQ_at oq hj
    have hqj := hq j hj
    have j1 : j < a.e.length := by omega
    have j2 : (q.getD j 0).toNat < a.e.length := by omega
    rw [getD_at j1, getD_at j2] at h
    simp only [sameE, Bool.and_eq_true, beq_iff_eq] at h
    obtain ⟨h1, h2, h3⟩ := h
    have x1 := hR _ (List.getElem_mem j1)
    have x2 := hR _ (List.getElem_mem j2)
    unfold edgeAt
    rw [getD_at j1, getD_at j2, h1, ceq _ _ (by omega) (by omega) h2, ceq _ _ (by omega) (by omega) h3]
  simp (dsimp := false) (maxDischargeDepth := 16) only [go_sem, ↓reduceIte, reduceCtorEq, Nat.reduceEqDiff, Nat.reduceAdd, Nat.reduceMul, Nat.reduceSub, Nat.reduceLT, Nat.reduceLeDiff, Nat.reducePow, Int.reduceLT, Int.reduceLE, Int.reduceNeg, Int.reduceToNat, Int.toNat_natCast, bi_zero, be_zero]
  refine ⟨⟨by omega, by omega, by omega⟩, ⟨by omega, by omega, by omega⟩, ?_⟩
  refine loopK_intro (fun (i : Nat) s => i ≤ p.length ∧ s.t 3 = .box (3, 0, 0) 0 ∧ s.b (3, 0, 0) = some ⟨gcs a, false⟩ ∧ s.t 6 = .box (6, 0, 0) 0 ∧ (∃ z1 z2 z3 z4, s.b (6, 0, 0) = some ⟨[z1, z2, z3, z4], false⟩) ∧ s.t 7 = lv P ∧ s.t 10 = lv Q ∧
    s.t 13 = .box (13, 0, 0) 0 ∧ s.b (13, 0, 0) = some ⟨[.sl (31, 0, 0) Rp.length 1, .sl (33, 0, 0) Rq.length 3, lv P, lv Q], false⟩ ∧ s.b (33, 0, 0) = some ⟨be (List.replicate Rq.length (0, 0, 0)), false⟩ ∧ s.t 40 = lv a.n ∧ s.t 41 = iv a.n.length ∧ s.t 42 = iv i ∧
    ∃ zs : List Int, s.b (31, 0, 0) = some ⟨bi zs, false⟩ ∧ zs.length = Rp.length ∧ ∀ j, j < i → zs[(P.getD j 0).toNat]? = some (nodeAt a.n j)) (fun i => p.length - i) ?_ ?_
  · exact ⟨0, by omega, rfl, rfl, rfl, ⟨_, _, _, _, rfl⟩, rfl, rfl, rfl, rfl, rfl, rfl, rfl, rfl, _, rfl, by simp, fun j hj => by omega⟩
  rintro i s ⟨hi, t3, b3, t6, ⟨z1, z2, z3, z4, b6⟩, t7, t10, t13, b13, b33, t40, t41, t42, zs, b31, hz, hall⟩
  simp (dsimp := false) (maxDischargeDepth := 16) only [go_sem, ↓reduceIte, reduceCtorEq, Nat.reduceEqDiff, Nat.reduceAdd, Nat.reduceMul, Nat.reduceSub, Nat.reduceLT, Nat.reduceLeDiff, Nat.reducePow, Int.reduceLT, Int.reduceLE, Int.reduceNeg, Int.reduceToNat, t3, b3, t6, b6, t7, t10, t13, b13, b33, t40, t41, t42, b31]
  refine condK_dec (fun h6 => ?_) (fun h6 => ?_)
  · have h7 : i < P.length := by omega
    have hs := sp i (by omega)
    have hlt := (List.getElem?_eq_some_iff.1 hs.2).1
    have r0 := hs.1
    have hall2 := class_set sp alp hz (show i < p.length by omega) hall
    rw [getD_at h7] at hlt r0 hall2
    have hna : nodeAt a.n i = a.n[i] := getD_at h6
    rw [hna] at hall2
    have hzl : P[i].toNat < zs.length := by omega
    simp (dsimp := false) (maxDischargeDepth := 16) only [go_sem, ↓reduceIte, reduceCtorEq, Nat.reduceEqDiff, Nat.reduceAdd, Nat.reduceMul, Nat.reduceSub, Nat.reduceLT, Nat.reduceLeDiff, Nat.reducePow, Int.reduceLT, Int.reduceLE, Int.reduceNeg, Int.reduceToNat, t3, b3, t6, b6, t7, t10, t13, b13, b33, t40, t41, t42, b31, h6, h7, idx_nat, idx_slI, r0, hlt]
    refine ⟨by rw [bi_len]; omega, i + 1, by omega, by omega, ⟨_, _, _, _, rfl⟩, by rw [wrapN _ (by omega)], zs.set P[i].toNat a.n[i], by rw [Nat.mul_one, bi_set hzl], by simpa using hz, hall2⟩
  simp (dsimp := false) (maxDischargeDepth := 16) only [go_sem, ↓reduceIte, reduceCtorEq, Nat.reduceEqDiff, Nat.reduceAdd, Nat.reduceMul, Nat.reduceSub, Nat.reduceLT, Nat.reduceLeDiff, Nat.reducePow, Int.reduceLT, Int.reduceLE, Int.reduceNeg, Int.reduceToNat, t3, b3, t6, b6, t7, t10, t13, b13, b33, t40, t41, t42, b31, h6]
  have e1 : i = p.length := by omega
  subst e1
  have hzs := fp zs hz hall
  refine loopK_intro (fun (i : Nat) s => i ≤ q.length ∧ s.t 6 = .box (6, 0, 0) 0 ∧ s.b (6, 0, 0) = some ⟨[z1, z2, z3, z4], false⟩ ∧ s.t 7 = lv P ∧ s.t 10 = lv Q ∧
    s.t 13 = .box (13, 0, 0) 0 ∧ s.b (13, 0, 0) = some ⟨[.sl (31, 0, 0) Rp.length 1, .sl (33, 0, 0) Rq.length 3, lv P, lv Q], false⟩ ∧ s.b (31, 0, 0) = some ⟨bi zs, false⟩ ∧ s.t 58 = elv a.e ∧ s.t 59 = iv a.e.length ∧ s.t 60 = iv i ∧
    ∃ ys : List Ed, s.b (33, 0, 0) = some ⟨be ys, false⟩ ∧ ys.length = Rq.length ∧ ∀ j, j < i → ys[(Q.getD j 0).toNat]? = some (edgeAt a.e P j)) (fun i => q.length - i) ?_ ?_
  · exact ⟨0, by omega, t6, b6, t7, t10, t13, b13, b31, rfl, rfl, rfl, _, b33, by simp, fun j hj => by omega⟩
  clear t3 b3 t6 b6 t7 t10 t13 b13 b33 t40 t41 t42 b31 h6 hi hall
  rintro i s ⟨hi, t6, b6, t7, t10, t13, b13, b31, t58, t59, t60, ys, b33, hy, hall⟩
  simp (dsimp := false) (maxDischargeDepth := 16) only [go_sem, ↓reduceIte, reduceCtorEq, Nat.reduceEqDiff, Nat.reduceAdd, Nat.reduceMul, Nat.reduceSub, Nat.reduceLT, Nat.reduceLeDiff, Nat.reducePow, Int.reduceLT, Int.reduceLE, Int.reduceNeg, Int.reduceToNat, t6, b6, t7, t10, t13, b13, b31, t58, t59, t60, b33]
  refine condK_dec (fun h6 => ?_) (fun h6 => ?_)
  · have h7 : i < Q.length := by omega
    have hs := sq i (by omega)
    have hlt := (List.getElem?_eq_some_iff.1 hs.2).1
    have r0 := hs.1
    have hall2 := class_set sq alq hy (show i < q.length by omega) hall
    rw [getD_at h7] at hlt r0 hall2
    have hx := hR _ (List.getElem_mem h6)
    have r1 : a.e[i].2.1.toNat < P.length := by omega
    have r2 : a.e[i].2.2.toNat < P.length := by omega
    have r3 := hx.1
    have r4 := hx.2.2.1
    rw [edgeAt_at h6 r1 r2] at hall2
    have hyl : Q[i].toNat < ys.length := by omega
    simp (dsimp := false) (maxDischargeDepth := 16) only [go_sem, ↓reduceIte, reduceCtorEq, Nat.reduceEqDiff, Nat.reduceAdd, Nat.reduceMul, Nat.reduceSub, Nat.reduceLT, Nat.reduceLeDiff, Nat.reducePow, Int.reduceLT, Int.reduceLE, Int.reduceNeg, Int.reduceToNat, t6, b6, t7, t10, t13, b13, b31, t58, t59, t60, b33, h6, h7, idx_nat, idx_int, idx_slI, r0, r1, r2, r3, r4, hlt]
    exact ⟨by rw [be_len]; omega, i + 1, by omega, by omega, by rw [wrapN _ (by omega)], ys.set Q[i].toNat (a.e[i].1, P[a.e[i].2.1.toNat], P[a.e[i].2.2.toNat]), by rw [← be_set hyl], by simpa using hy, hall2⟩
  simp (dsimp := false) (maxDischargeDepth := 16) only [go_sem, ↓reduceIte, reduceCtorEq, Nat.reduceEqDiff, Nat.reduceAdd, Nat.reduceMul, Nat.reduceSub, Nat.reduceLT, Nat.reduceLeDiff, Nat.reducePow, Int.reduceLT, Int.reduceLE, Int.reduceNeg, Int.reduceToNat, t6, b6, t7, t10, t13, b13, b31, t58, t59, t60, b33, h6]
  have e1 : i = q.length := by omega
  subst e1
  have hys := fq ys hy hall
  rw [← hzs, ← hys]
  refine .one _ _ (.agg _ _ rfl fun i x r hx hr => ?_)
  match i, hx, hr with
  | 0, hx, hr =>
    simp only [List.getElem?_cons_zero, Option.some.injEq] at hx hr
    subst hx hr
    exact fin0S (b := false) (by simp (dsimp := false) (maxDischargeDepth := 16) only [go_sem, ↓reduceIte, reduceCtorEq, Nat.reduceEqDiff, Nat.reduceAdd, Nat.reduceMul, Nat.reduceSub, Nat.reduceLT, Nat.reduceLeDiff, Nat.reducePow, Int.reduceLT, Int.reduceLE, Int.reduceNeg, Int.reduceToNat, b31]) hz
  | 1, hx, hr =>
    simp only [List.getElem?_cons_zero, List.getElem?_cons_succ, Option.some.injEq] at hx hr
    subst hx hr
    exact fin0E (b := false) (by simp (dsimp := false) (maxDischargeDepth := 16) only [go_sem, ↓reduceIte, reduceCtorEq, Nat.reduceEqDiff, Nat.reduceAdd, Nat.reduceMul, Nat.reduceSub, Nat.reduceLT, Nat.reduceLeDiff, Nat.reducePow, Int.reduceLT, Int.reduceLE, Int.reduceNeg, Int.reduceToNat, b33]) hy
  | 2, hx, hr =>
    simp only [List.getElem?_cons_zero, List.getElem?_cons_succ, Option.some.injEq] at hx hr
    subst hx hr
    exact .inl ⟨rfl, rfl⟩
  | 3, hx, hr =>
    simp only [List.getElem?_cons_zero, List.getElem?_cons_succ, Option.some.injEq] at hx hr
    subst hx hr
    exact .inl ⟨rfl, rfl⟩
  | i + 4, hx, hr => simp at hx
end Go.Sy
