/- Contracts: morphisms that are valid; jointly surjective ones. -/
import Derived.Test.YtkhheblmgbiniaaWC
set_option linter.unusedSimpArgs false
namespace Go.Sy
open Go Go.Proofs

/-- The first that is not nought. -/
def firstErr (f : Nat → Int) : Nat → Int
  | 0 => 0
  | n + 1 => if firstErr f n ≠ 0 then firstErr f n else f n
theorem firstErr_zero {f : Nat → Int} : ∀ {n : Nat}, (∀ j, j < n → f j = 0) → firstErr f n = 0
  | 0, _ => rfl
  | n + 1, h => by rw [firstErr, firstErr_zero fun j hj => h j (by omega), if_neg (by simp), h n (by omega)]
theorem firstErr_at {f : Nat → Int} : ∀ {n i : Nat}, i < n → (∀ j, j < i → f j = 0) → f i ≠ 0 → firstErr f n = f i
  | n + 1, i, hi, h, h1 => by
    rw [firstErr]
    by_cases hin : i = n
    · subst hin
      rw [firstErr_zero h, if_neg (by simp)]
    · have := firstErr_at (n := n) (by omega) h h1
      rw [this, if_pos h1]
theorem firstErr_all {f : Nat → Int} : ∀ {n : Nat}, firstErr f n = 0 → ∀ j, j < n → f j = 0
  | n + 1, h, j, hj => by
    rw [firstErr] at h
    by_cases h1 : firstErr f n = 0
    · rw [if_neg (by simp [h1])] at h
      by_cases hjn : j = n
      · rw [hjn]; exact h
      · exact firstErr_all h1 j (by omega)
    · rw [if_pos h1] at h
      exact absurd h h1
def nodeErr (a b : Gr) (m : Mo) (i : Nat) : Int := if m.n.getD i 0 < 0 ∨ (b.n.length : Int) ≤ m.n.getD i 0 then 6 else if b.n.getD (m.n.getD i 0).toNat 0 ≠ a.n.getD i 0 then 13 else 0
def edgeErr (a b : Gr) (m : Mo) (i : Nat) : Int := if m.e.getD i 0 < 0 ∨ (b.e.length : Int) ≤ m.e.getD i 0 then 6 else
  if (a.e.getD i (0, 0, 0)).1 ≠ (b.e.getD (m.e.getD i 0).toNat (0, 0, 0)).1 then 13 else
  if m.n.getD (a.e.getD i (0, 0, 0)).2.1.toNat 0 ≠ (b.e.getD (m.e.getD i 0).toNat (0, 0, 0)).2.1 ∨ m.n.getD (a.e.getD i (0, 0, 0)).2.2.toNat 0 ≠ (b.e.getD (m.e.getD i 0).toNat (0, 0, 0)).2.2 then 11 else 0
/-- The error of a morphism. -/
def mErr (a b : Gr) (m : Mo) : Int := if gErr a ≠ 0 then gErr a else if gErr b ≠ 0 then gErr b else if m.n.length ≠ a.n.length ∨ m.e.length ≠ a.e.length then 20 else
  if firstErr (nodeErr a b m) a.n.length ≠ 0 then firstErr (nodeErr a b m) a.n.length else firstErr (edgeErr a b m) a.e.length
theorem nodeErr_at {a b : Gr} {m : Mo} {i : Nat} (h : i < m.n.length) (h2 : i < a.n.length) : nodeErr a b m i = if m.n[i] < 0 ∨ (b.n.length : Int) ≤ m.n[i] then 6 else if b.n.getD m.n[i].toNat 0 ≠ a.n[i] then 13 else 0 := by
  rw [nodeErr, getD_at h, getD_at h2]
theorem edgeErr_at {a b : Gr} {m : Mo} {i : Nat} (h : i < m.e.length) (h2 : i < a.e.length) (r1 : a.e[i].2.1.toNat < m.n.length) (r2 : a.e[i].2.2.toNat < m.n.length) : edgeErr a b m i = if m.e[i] < 0 ∨ (b.e.length : Int) ≤ m.e[i] then 6 else
    if a.e[i].1 ≠ (b.e.getD m.e[i].toNat (0, 0, 0)).1 then 13 else
    if m.n[a.e[i].2.1.toNat] ≠ (b.e.getD m.e[i].toNat (0, 0, 0)).2.1 ∨ m.n[a.e[i].2.2.toNat] ≠ (b.e.getD m.e[i].toNat (0, 0, 0)).2.2 then 11 else 0 := by
  rw [edgeErr, getD_at h, getD_at h2, getD_at r1, getD_at r2]
theorem mErr_ok {a b : Gr} {m : Mo} (h : mErr a b m = 0) : gErr a = 0 ∧ gErr b = 0 ∧ m.n.length = a.n.length ∧ m.e.length = a.e.length ∧ (∀ i, i < a.n.length → nodeErr a b m i = 0) ∧ ∀ i, i < a.e.length → edgeErr a b m i = 0 := by
  unfold mErr at h
  split at h
  · rename_i h1; exact absurd h h1
  rename_i h1
  split at h
  · rename_i h2; exact absurd h h2
  rename_i h2
  split at h
  · simp at h
  rename_i h3
  split at h
  · rename_i h4; exact absurd h h4
  rename_i h4
  simp only [ne_eq, Decidable.not_not] at h1 h2 h4
  exact ⟨h1, h2, by omega, by omega, firstErr_all h4, firstErr_all h⟩
set_option maxHeartbeats 1000000 in
theorem c70 (a b : Gr) (m : Mo) : Con Try.prog 70 [gv a, gv b, mv m] 0 (iv (mErr a b m)) := by
  refine conT (X := [(22, [], [(13, [92, 95], [])])]) (rs := [.tmp 6]) Try.func70 (by kernel_rfl) rfl rfl (by kernel_rfl) ?_
  simp (dsimp := false) (maxDischargeDepth := 16) only [go_sem, ↓reduceIte, reduceCtorEq, Nat.reduceEqDiff, Nat.reduceAdd, Nat.reduceMul, Nat.reduceSub, Nat.reduceLT, Nat.reduceLeDiff, Nat.reducePow, Int.reduceLT, Int.reduceLE, Int.reduceNeg, Int.reduceToNat]
  refine callK_intro (c61 a) ?_
  simp (dsimp := false) (maxDischargeDepth := 16) only [go_sem, ↓reduceIte, reduceCtorEq, Nat.reduceEqDiff, Nat.reduceAdd, Nat.reduceMul, Nat.reduceSub, Nat.reduceLT, Nat.reduceLeDiff, Nat.reducePow, Int.reduceLT, Int.reduceLE, Int.reduceNeg, Int.reduceToNat]
  refine condK_intro (fun h1 => ?_) (fun h1 => ?_)
  · simp (dsimp := false) (maxDischargeDepth := 16) only [go_sem, ↓reduceIte, reduceCtorEq, Nat.reduceEqDiff, Nat.reduceAdd, Nat.reduceMul, Nat.reduceSub, Nat.reduceLT, Nat.reduceLeDiff, Nat.reducePow, Int.reduceLT, Int.reduceLE, Int.reduceNeg, Int.reduceToNat, h1]
    exact finI (if_pos (ineq h1))
  have g1 := ieq h1
  obtain ⟨⟨p1, p2⟩, p3⟩ := gErr_small g1
  simp (dsimp := false) (maxDischargeDepth := 16) only [go_sem, ↓reduceIte, reduceCtorEq, Nat.reduceEqDiff, Nat.reduceAdd, Nat.reduceMul, Nat.reduceSub, Nat.reduceLT, Nat.reduceLeDiff, Nat.reducePow, Int.reduceLT, Int.reduceLE, Int.reduceNeg, Int.reduceToNat, h1]
  refine callK_intro (c61 b) ?_
  simp (dsimp := false) (maxDischargeDepth := 16) only [go_sem, ↓reduceIte, reduceCtorEq, Nat.reduceEqDiff, Nat.reduceAdd, Nat.reduceMul, Nat.reduceSub, Nat.reduceLT, Nat.reduceLeDiff, Nat.reducePow, Int.reduceLT, Int.reduceLE, Int.reduceNeg, Int.reduceToNat, h1]
  refine condK_intro (fun h2 => ?_) (fun h2 => ?_)
  · simp (dsimp := false) (maxDischargeDepth := 16) only [go_sem, ↓reduceIte, reduceCtorEq, Nat.reduceEqDiff, Nat.reduceAdd, Nat.reduceMul, Nat.reduceSub, Nat.reduceLT, Nat.reduceLeDiff, Nat.reducePow, Int.reduceLT, Int.reduceLE, Int.reduceNeg, Int.reduceToNat, h1, h2]
    exact finI (by rw [mErr, if_neg (by simp [g1]), if_pos (ineq h2)])
  have g2 := ieq h2
  obtain ⟨⟨p4, p5⟩, p6⟩ := gErr_small g2
  simp (dsimp := false) (maxDischargeDepth := 16) only [go_sem, ↓reduceIte, reduceCtorEq, Nat.reduceEqDiff, Nat.reduceAdd, Nat.reduceMul, Nat.reduceSub, Nat.reduceLT, Nat.reduceLeDiff, Nat.reducePow, Int.reduceLT, Int.reduceLE, Int.reduceNeg, Int.reduceToNat, h1, h2]
  refine condK_intro (fun h3 => ?_) (fun h3 => ?_)
  · simp (dsimp := false) (maxDischargeDepth := 16) only [go_sem, ↓reduceIte, reduceCtorEq, Nat.reduceEqDiff, Nat.reduceAdd, Nat.reduceMul, Nat.reduceSub, Nat.reduceLT, Nat.reduceLeDiff, Nat.reducePow, Int.reduceLT, Int.reduceLE, Int.reduceNeg, Int.reduceToNat, h1, h2, h3]
    have := ineq h3
    exact finI (by rw [mErr, if_neg (by simp [g1]), if_neg (by simp [g2]), if_pos (by omega)])
  simp (dsimp := false) (maxDischargeDepth := 16) only [go_sem, ↓reduceIte, reduceCtorEq, Nat.reduceEqDiff, Nat.reduceAdd, Nat.reduceMul, Nat.reduceSub, Nat.reduceLT, Nat.reduceLeDiff, Nat.reducePow, Int.reduceLT, Int.reduceLE, Int.reduceNeg, Int.reduceToNat, h1, h2, h3]
  refine condK_intro (fun h4 => ?_) (fun h4 => ?_)
  · simp (dsimp := false) (maxDischargeDepth := 16) only [go_sem, ↓reduceIte, reduceCtorEq, Nat.reduceEqDiff, Nat.reduceAdd, Nat.reduceMul, Nat.reduceSub, Nat.reduceLT, Nat.reduceLeDiff, Nat.reducePow, Int.reduceLT, Int.reduceLE, Int.reduceNeg, Int.reduceToNat, h1, h2, h3, h4]
    have := ineq h4
    exact finI (by rw [mErr, if_neg (by simp [g1]), if_neg (by simp [g2]), if_pos (by omega)])
  have e3 := ieq h3
  have e4 := ieq h4
  have hm : mErr a b m = if firstErr (nodeErr a b m) a.n.length ≠ 0 then firstErr (nodeErr a b m) a.n.length else firstErr (edgeErr a b m) a.e.length := by
    rw [mErr, if_neg (by simp [g1]), if_neg (by simp [g2]), if_neg (by omega)]
  simp (dsimp := false) (maxDischargeDepth := 16) only [go_sem, ↓reduceIte, reduceCtorEq, Nat.reduceEqDiff, Nat.reduceAdd, Nat.reduceMul, Nat.reduceSub, Nat.reduceLT, Nat.reduceLeDiff, Nat.reducePow, Int.reduceLT, Int.reduceLE, Int.reduceNeg, Int.reduceToNat, h1, h2, h3, h4]
  refine loopK_intro (fun (i : Nat) s => i ≤ m.n.length ∧ s.t 3 = .box (3, 0, 0) 0 ∧ s.b (3, 0, 0) = some ⟨gcs a, false⟩ ∧ s.t 4 = .box (4, 0, 0) 0 ∧ s.b (4, 0, 0) = some ⟨gcs b, false⟩ ∧ s.t 5 = .box (5, 0, 0) 0 ∧ s.b (5, 0, 0) = some ⟨mcs m, false⟩ ∧
    s.t 42 = lv m.n ∧ s.t 43 = iv m.n.length ∧ s.t 44 = iv i ∧ ∀ j, j < i → nodeErr a b m j = 0) (fun i => m.n.length - i) ?_ ?_
  · exact ⟨0, by omega, rfl, rfl, rfl, rfl, rfl, rfl, rfl, rfl, rfl, fun j hj => by omega⟩
  clear h1 h2 h3 h4
  rintro i s ⟨hi, t3, b3, t4, b4, t5, b5, t42, t43, t44, hn⟩
  simp (dsimp := false) (maxDischargeDepth := 16) only [go_sem, ↓reduceIte, reduceCtorEq, Nat.reduceEqDiff, Nat.reduceAdd, Nat.reduceMul, Nat.reduceSub, Nat.reduceLT, Nat.reduceLeDiff, Nat.reducePow, Int.reduceLT, Int.reduceLE, Int.reduceNeg, Int.reduceToNat, t3, b3, t4, b4, t5, b5, t42, t43, t44]
  refine condK_dec (fun h6 => ?_) (fun h6 => ?_)
  · have h7 : i < a.n.length := by omega
    have hat := nodeErr_at (b := b) h6 h7
    have hfin : ∀ e, nodeErr a b m i = e → e ≠ 0 → mErr a b m = e := fun e he hne => by
      have := firstErr_at h7 hn (by rw [he]; exact hne)
      rw [hm, this, he, if_pos hne]
    simp (dsimp := false) (maxDischargeDepth := 16) only [go_sem, ↓reduceIte, reduceCtorEq, Nat.reduceEqDiff, Nat.reduceAdd, Nat.reduceMul, Nat.reduceSub, Nat.reduceLT, Nat.reduceLeDiff, Nat.reducePow, Int.reduceLT, Int.reduceLE, Int.reduceNeg, Int.reduceToNat, t3, b3, t4, b4, t5, b5, t42, t43, t44, h6, h7, idx_nat]
    refine condK_dec (fun h8 => ?_) (fun h8 => ?_)
    · simp (dsimp := false) (maxDischargeDepth := 16) only [go_sem, ↓reduceIte, reduceCtorEq, Nat.reduceEqDiff, Nat.reduceAdd, Nat.reduceMul, Nat.reduceSub, Nat.reduceLT, Nat.reduceLeDiff, Nat.reducePow, Int.reduceLT, Int.reduceLE, Int.reduceNeg, Int.reduceToNat, t3, b3, t4, b4, t5, b5, t42, t43, t44, h6, h8]
      exact finI (hfin 6 (by rw [hat, if_pos (.inl h8)]) (by decide))
    simp (dsimp := false) (maxDischargeDepth := 16) only [go_sem, ↓reduceIte, reduceCtorEq, Nat.reduceEqDiff, Nat.reduceAdd, Nat.reduceMul, Nat.reduceSub, Nat.reduceLT, Nat.reduceLeDiff, Nat.reducePow, Int.reduceLT, Int.reduceLE, Int.reduceNeg, Int.reduceToNat, t3, b3, t4, b4, t5, b5, t42, t43, t44, h6, h8]
    refine condK_dec (fun h9 => ?_) (fun h9 => ?_)
    · simp (dsimp := false) (maxDischargeDepth := 16) only [go_sem, ↓reduceIte, reduceCtorEq, Nat.reduceEqDiff, Nat.reduceAdd, Nat.reduceMul, Nat.reduceSub, Nat.reduceLT, Nat.reduceLeDiff, Nat.reducePow, Int.reduceLT, Int.reduceLE, Int.reduceNeg, Int.reduceToNat, t3, b3, t4, b4, t5, b5, t42, t43, t44, h6, h8, h9]
      exact finI (hfin 6 (by rw [hat, if_pos (.inr (by omega))]) (by decide))
    have r1 : 0 ≤ m.n[i] := by omega
    have r2 : m.n[i].toNat < b.n.length := by omega
    simp (dsimp := false) (maxDischargeDepth := 16) only [go_sem, ↓reduceIte, reduceCtorEq, Nat.reduceEqDiff, Nat.reduceAdd, Nat.reduceMul, Nat.reduceSub, Nat.reduceLT, Nat.reduceLeDiff, Nat.reducePow, Int.reduceLT, Int.reduceLE, Int.reduceNeg, Int.reduceToNat, t3, b3, t4, b4, t5, b5, t42, t43, t44, h6, h8, h9, h7, idx_nat, idx_int, r1, r2]
    refine condK_intro (fun h10 => ?_) (fun h10 => ?_)
    · simp (dsimp := false) (maxDischargeDepth := 16) only [go_sem, ↓reduceIte, reduceCtorEq, Nat.reduceEqDiff, Nat.reduceAdd, Nat.reduceMul, Nat.reduceSub, Nat.reduceLT, Nat.reduceLeDiff, Nat.reducePow, Int.reduceLT, Int.reduceLE, Int.reduceNeg, Int.reduceToNat, t3, b3, t4, b4, t5, b5, t42, t43, t44, h6, h8, h9, h10]
      exact finI (hfin 13 (by rw [hat, if_neg (by omega), getD_at r2, if_pos (ineq h10)]) (by decide))
    · simp (dsimp := false) (maxDischargeDepth := 16) only [go_sem, ↓reduceIte, reduceCtorEq, Nat.reduceEqDiff, Nat.reduceAdd, Nat.reduceMul, Nat.reduceSub, Nat.reduceLT, Nat.reduceLeDiff, Nat.reducePow, Int.reduceLT, Int.reduceLE, Int.reduceNeg, Int.reduceToNat, t3, b3, t4, b4, t5, b5, t42, t43, t44, h6, h8, h9, h10]
      refine ⟨i + 1, by omega, by omega, by rw [wrapN _ (by omega)], fun j hj => ?_⟩
      by_cases hji : j = i
      · rw [hji, hat, if_neg (by omega), getD_at r2, if_neg (by simp [ieq h10])]
      · exact hn j (by omega)
  simp (dsimp := false) (maxDischargeDepth := 16) only [go_sem, ↓reduceIte, reduceCtorEq, Nat.reduceEqDiff, Nat.reduceAdd, Nat.reduceMul, Nat.reduceSub, Nat.reduceLT, Nat.reduceLeDiff, Nat.reducePow, Int.reduceLT, Int.reduceLE, Int.reduceNeg, Int.reduceToNat, t3, b3, t4, b4, t5, b5, t42, t43, t44, h6]
  have hz : firstErr (nodeErr a b m) a.n.length = 0 := firstErr_zero fun j hj => hn j (by omega)
  rw [hz, if_neg (by simp)] at hm
  refine loopK_intro (fun (i : Nat) s => i ≤ m.e.length ∧ s.t 3 = .box (3, 0, 0) 0 ∧ s.b (3, 0, 0) = some ⟨gcs a, false⟩ ∧ s.t 4 = .box (4, 0, 0) 0 ∧ s.b (4, 0, 0) = some ⟨gcs b, false⟩ ∧ s.t 5 = .box (5, 0, 0) 0 ∧ s.b (5, 0, 0) = some ⟨mcs m, false⟩ ∧
    s.t 71 = lv m.e ∧ s.t 72 = iv m.e.length ∧ s.t 73 = iv i ∧ ∀ j, j < i → edgeErr a b m j = 0) (fun i => m.e.length - i) ?_ ?_
  · exact ⟨0, by omega, t3, b3, t4, b4, t5, b5, rfl, rfl, rfl, fun j hj => by omega⟩
  clear t3 b3 t4 b4 t5 b5 t42 t43 t44 h6 hi hn
  rintro i s ⟨hi, t3, b3, t4, b4, t5, b5, t71, t72, t73, hn⟩
  simp (dsimp := false) (maxDischargeDepth := 16) only [go_sem, ↓reduceIte, reduceCtorEq, Nat.reduceEqDiff, Nat.reduceAdd, Nat.reduceMul, Nat.reduceSub, Nat.reduceLT, Nat.reduceLeDiff, Nat.reducePow, Int.reduceLT, Int.reduceLE, Int.reduceNeg, Int.reduceToNat, t3, b3, t4, b4, t5, b5, t71, t72, t73]
  refine condK_dec (fun h6 => ?_) (fun h6 => ?_)
  · have h7 : i < a.e.length := by omega
    have hx := p3.2 _ (List.getElem_mem h7)
    have r3 : a.e[i].2.1.toNat < m.n.length := by have := hx.2; omega
    have r4 : a.e[i].2.2.toNat < m.n.length := by have := hx.2; omega
    have r5 := hx.2.1
    have r6 := hx.2.2.2.1
    have hat := edgeErr_at (b := b) h6 h7 r3 r4
    have hfin : ∀ e, edgeErr a b m i = e → e ≠ 0 → mErr a b m = e := fun e he hne => by
      rw [hm, firstErr_at h7 hn (by rw [he]; exact hne), he]
    simp (dsimp := false) (maxDischargeDepth := 16) only [go_sem, ↓reduceIte, reduceCtorEq, Nat.reduceEqDiff, Nat.reduceAdd, Nat.reduceMul, Nat.reduceSub, Nat.reduceLT, Nat.reduceLeDiff, Nat.reducePow, Int.reduceLT, Int.reduceLE, Int.reduceNeg, Int.reduceToNat, t3, b3, t4, b4, t5, b5, t71, t72, t73, h6, h7, idx_nat]
    refine condK_dec (fun h8 => ?_) (fun h8 => ?_)
    · simp (dsimp := false) (maxDischargeDepth := 16) only [go_sem, ↓reduceIte, reduceCtorEq, Nat.reduceEqDiff, Nat.reduceAdd, Nat.reduceMul, Nat.reduceSub, Nat.reduceLT, Nat.reduceLeDiff, Nat.reducePow, Int.reduceLT, Int.reduceLE, Int.reduceNeg, Int.reduceToNat, t3, b3, t4, b4, t5, b5, t71, t72, t73, h6, h8]
      exact finI (hfin 6 (by rw [hat, if_pos (.inl h8)]) (by decide))
    simp (dsimp := false) (maxDischargeDepth := 16) only [go_sem, ↓reduceIte, reduceCtorEq, Nat.reduceEqDiff, Nat.reduceAdd, Nat.reduceMul, Nat.reduceSub, Nat.reduceLT, Nat.reduceLeDiff, Nat.reducePow, Int.reduceLT, Int.reduceLE, Int.reduceNeg, Int.reduceToNat, t3, b3, t4, b4, t5, b5, t71, t72, t73, h6, h8]
    refine condK_dec (fun h9 => ?_) (fun h9 => ?_)
    · simp (dsimp := false) (maxDischargeDepth := 16) only [go_sem, ↓reduceIte, reduceCtorEq, Nat.reduceEqDiff, Nat.reduceAdd, Nat.reduceMul, Nat.reduceSub, Nat.reduceLT, Nat.reduceLeDiff, Nat.reducePow, Int.reduceLT, Int.reduceLE, Int.reduceNeg, Int.reduceToNat, t3, b3, t4, b4, t5, b5, t71, t72, t73, h6, h8, h9]
      exact finI (hfin 6 (by rw [hat, if_pos (.inr (by omega))]) (by decide))
    have r1 : 0 ≤ m.e[i] := by omega
    have r2 : m.e[i].toNat < b.e.length := by omega
    rw [if_neg (by omega), getD_at r2] at hat
    simp (dsimp := false) (maxDischargeDepth := 16) only [go_sem, ↓reduceIte, reduceCtorEq, Nat.reduceEqDiff, Nat.reduceAdd, Nat.reduceMul, Nat.reduceSub, Nat.reduceLT, Nat.reduceLeDiff, Nat.reducePow, Int.reduceLT, Int.reduceLE, Int.reduceNeg, Int.reduceToNat, t3, b3, t4, b4, t5, b5, t71, t72, t73, h6, h8, h9, h7, idx_nat, idx_int, r1, r2, ne_eq]
    refine condK_intro (fun h10 => ?_) (fun h10 => ?_)
    · simp (dsimp := false) (maxDischargeDepth := 16) only [go_sem, ↓reduceIte, reduceCtorEq, Nat.reduceEqDiff, Nat.reduceAdd, Nat.reduceMul, Nat.reduceSub, Nat.reduceLT, Nat.reduceLeDiff, Nat.reducePow, Int.reduceLT, Int.reduceLE, Int.reduceNeg, Int.reduceToNat, t3, b3, t4, b4, t5, b5, t71, t72, t73, h6, h8, h9, h10]
      exact finI (hfin 13 (by rw [hat, if_pos (ineq h10)]) (by decide))
    rw [if_neg (by simp [ieq h10])] at hat
    simp (dsimp := false) (maxDischargeDepth := 16) only [go_sem, ↓reduceIte, reduceCtorEq, Nat.reduceEqDiff, Nat.reduceAdd, Nat.reduceMul, Nat.reduceSub, Nat.reduceLT, Nat.reduceLeDiff, Nat.reducePow, Int.reduceLT, Int.reduceLE, Int.reduceNeg, Int.reduceToNat, t3, b3, t4, b4, t5, b5, t71, t72, t73, h6, h8, h9, h10, idx_int, r3, r4, r5, r6]
    refine condK_intro (fun h11 => ?_) (fun h11 => ?_)
    · simp (dsimp := false) (maxDischargeDepth := 16) only [go_sem, ↓reduceIte, reduceCtorEq, Nat.reduceEqDiff, Nat.reduceAdd, Nat.reduceMul, Nat.reduceSub, Nat.reduceLT, Nat.reduceLeDiff, Nat.reducePow, Int.reduceLT, Int.reduceLE, Int.reduceNeg, Int.reduceToNat, t3, b3, t4, b4, t5, b5, t71, t72, t73, h6, h8, h9, h10, h11]
      exact finI (hfin 11 (by rw [hat, if_pos (.inl (ineq h11))]) (by decide))
    simp (dsimp := false) (maxDischargeDepth := 16) only [go_sem, ↓reduceIte, reduceCtorEq, Nat.reduceEqDiff, Nat.reduceAdd, Nat.reduceMul, Nat.reduceSub, Nat.reduceLT, Nat.reduceLeDiff, Nat.reducePow, Int.reduceLT, Int.reduceLE, Int.reduceNeg, Int.reduceToNat, t3, b3, t4, b4, t5, b5, t71, t72, t73, h6, h8, h9, h10, h11, idx_int, r3, r4, r5, r6]
    refine condK_intro (fun h12 => ?_) (fun h12 => ?_)
    · simp (dsimp := false) (maxDischargeDepth := 16) only [go_sem, ↓reduceIte, reduceCtorEq, Nat.reduceEqDiff, Nat.reduceAdd, Nat.reduceMul, Nat.reduceSub, Nat.reduceLT, Nat.reduceLeDiff, Nat.reducePow, Int.reduceLT, Int.reduceLE, Int.reduceNeg, Int.reduceToNat, t3, b3, t4, b4, t5, b5, t71, t72, t73, h6, h8, h9, h10, h11, h12]
      exact finI (hfin 11 (by rw [hat, if_pos (.inr (ineq h12))]) (by decide))
    · simp (dsimp := false) (maxDischargeDepth := 16) only [go_sem, ↓reduceIte, reduceCtorEq, Nat.reduceEqDiff, Nat.reduceAdd, Nat.reduceMul, Nat.reduceSub, Nat.reduceLT, Nat.reduceLeDiff, Nat.reducePow, Int.reduceLT, Int.reduceLE, Int.reduceNeg, Int.reduceToNat, t3, b3, t4, b4, t5, b5, t71, t72, t73, h6, h8, h9, h10, h11, h12]
      refine ⟨i + 1, by omega, by omega, by rw [wrapN _ (by omega)], fun j hj => ?_⟩
      by_cases hji : j = i
      · rw [hji, hat, if_neg (by simp [ieq h11, ieq h12])]
      · exact hn j (by omega)
  · simp (dsimp := false) (maxDischargeDepth := 16) only [go_sem, ↓reduceIte, reduceCtorEq, Nat.reduceEqDiff, Nat.reduceAdd, Nat.reduceMul, Nat.reduceSub, Nat.reduceLT, Nat.reduceLeDiff, Nat.reducePow, Int.reduceLT, Int.reduceLE, Int.reduceNeg, Int.reduceToNat, t3, b3, t4, b4, t5, b5, t71, t72, t73, h6]
    exact finI (by rw [hm]; exact firstErr_zero fun j hj => hn j (by omega))
end Go.Sy
