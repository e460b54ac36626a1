/- Contracts: the reference's quotients. -/
import Derived.Test.YtkhheblmgbiniaaWH
set_option linter.unusedSimpArgs false
namespace Go.Sy
open Go Go.Proofs

def qlvT (l : List Qu) (tk : Tok) : AV := .list 4 (l.map qcs) tk
attribute [go_sem] qlvT
def okq (a : Gr) (nodes l : List Int) (n : Nat) : Bool := decide (n = l.length) || (decide (l.getD n 0 = (n : Int)) && sameE nodes (a.e.getD l.length (0, 0, 0)) (a.e.getD n (0, 0, 0)))
/-- What 'edges' appends: k edges are left. -/
def quE (a : Gr) (nodes : List Int) : Nat → List Int → List Qu → List Qu
  | 0, l, out => if out.length > 2000 then out else out ++ [quo a nodes l]
  | k + 1, l, out => if out.length > 2000 then out else
    (List.range (l.length + 1)).foldl (fun out (j : Nat) => if okq a nodes l j then quE a nodes k (l ++ [(j : Int)]) out else out) out
theorem quE_len (a : Gr) (nodes : List Int) : ∀ (k : Nat) (l : List Int) (out : List Qu), out.length ≤ 2001 → (quE a nodes k l out).length ≤ 2001
  | 0, l, out, h => by
    rw [quE]
    split
    · exact h
    · simp; omega
  | k + 1, l, out, h => by
    rw [quE]
    split
    · exact h
    · refine foldl_le (fun o x ho => ?_) _ _ h
      split
      · exact quE_len a nodes k _ _ ho
      · exact ho
def okn (a : Gr) (l : List Int) (n : Nat) : Bool := decide (n = l.length) || (decide (l.getD n 0 = (n : Int)) && decide (a.n.getD n 0 = a.n.getD l.length 0))
/-- What 'nodes' appends: k nodes are left. -/
def quN (a : Gr) : Nat → List Int → List Qu → List Qu
  | 0, l, out => if out.length > 2000 then out else quE a l a.e.length [] out
  | k + 1, l, out => if out.length > 2000 then out else
    (List.range (l.length + 1)).foldl (fun out (j : Nat) => if okn a l j then quN a k (l ++ [(j : Int)]) out else out) out
theorem quN_len (a : Gr) : ∀ (k : Nat) (l : List Int) (out : List Qu), out.length ≤ 2001 → (quN a k l out).length ≤ 2001
  | 0, l, out, h => by
    rw [quN]
    split
    · exact h
    · exact quE_len _ _ _ _ _ h
  | k + 1, l, out, h => by
    rw [quN]
    split
    · exact h
    · refine foldl_le (fun o x ho => ?_) _ _ h
      split
      · exact quN_len a k _ _ ho
      · exact ho
theorem isP_nil : isP [] := fun i h => by simp at h
theorem isP_ext {l : List Int} {n : Nat} (h : isP l) (hn : n ≤ l.length) (h1 : n = l.length ∨ l.getD n 0 = (n : Int)) : isP (l ++ [(n : Int)]) := by
  intro i hi
  simp at hi
  by_cases hil : i < l.length
  · have h2 := h i hil
    unfold pOK at h2 ⊢
    rw [getD_app_lt hil, getD_app_lt (show (l.getD i 0).toNat < l.length by omega)]
    exact h2
  · have : i = l.length := by omega
    subst this
    unfold pOK
    rw [getD_app_eq rfl, Int.toNat_natCast]
    refine ⟨by omega, by omega, ?_⟩
    rcases h1 with h1 | h1
    · rw [getD_app_eq h1.symm]
    · by_cases h2 : n = l.length
      · rw [getD_app_eq h2.symm]
      · rw [getD_app_lt (by omega), h1]
theorem okq_isP {a : Gr} {nodes l : List Int} {n : Nat} (h : isP l) (hn : n ≤ l.length) (h1 : okq a nodes l n = true) : isP (l ++ [(n : Int)]) := by
  refine isP_ext h hn ?_
  simp only [okq, Bool.or_eq_true, Bool.and_eq_true, decide_eq_true_eq] at h1
  exact h1.imp id And.left
theorem okq_at {a : Gr} {nodes l : List Int} {n : Nat} (h : n < l.length) (h2 : l.length < a.e.length) (h3 : n < a.e.length) (r1 : a.e[l.length].2.1.toNat < nodes.length) (r2 : a.e[l.length].2.2.toNat < nodes.length) (r3 : a.e[n].2.1.toNat < nodes.length) (r4 : a.e[n].2.2.toNat < nodes.length) :
    okq a nodes l n = (l[n] == (n : Int) && (a.e[l.length].1 == a.e[n].1 && (nodes[a.e[l.length].2.1.toNat] == nodes[a.e[n].2.1.toNat] && nodes[a.e[l.length].2.2.toNat] == nodes[a.e[n].2.2.toNat]))) := by
  rw [okq, decide_eq_false (by omega), Bool.false_or, getD_at h, getD_at h2, getD_at h3, sameE, getD_at r1, getD_at r2, getD_at r3, getD_at r4]
  rfl
set_option maxRecDepth 20000 in
set_option maxHeartbeats 4000000 in
theorem c122 (a : Gr) (nodes : List Int) (hp : isP nodes) (hpl : nodes.length = a.n.length) (hn : a.n.length ≤ 80) (he : a.e.length ≤ 80) (hR : ∀ x ∈ a.e, 0 ≤ x.2.1 ∧ x.2.1 < a.n.length ∧ 0 ≤ x.2.2 ∧ x.2.2 < a.n.length) :
    ∀ (k : Nat) (l : List Int) (out : List Qu), isP l → l.length + k = a.e.length → out.length ≤ 2001 →
      ECon Try.prog 122 [lv nodes, lv l] (gcs a) (qlvT out (.own (0, 0, 0))) .any (gcs a) (qlvT (quE a nodes k l out) (.own (0, 0, 0)))
  | 0, l, out, hl, hk, hout => by
    refine econT (X := []) (rs := []) Try.func122 (by kernel_rfl) rfl rfl (by kernel_rfl) ?_
    simp (dsimp := false) (maxDischargeDepth := 16) only [go_sem, ↓reduceIte, reduceCtorEq, Nat.reduceEqDiff, Nat.reduceAdd, Nat.reduceMul, Nat.reduceSub, Nat.reduceLT, Nat.reduceLeDiff, Nat.reducePow, Int.reduceLT, Int.reduceLE, Int.reduceNeg, Int.reduceToNat]
    refine condK_dec (fun h1 => ?_) (fun h1 => ?_)
    · simp (dsimp := false) (maxDischargeDepth := 16) only [go_sem, ↓reduceIte, reduceCtorEq, Nat.reduceEqDiff, Nat.reduceAdd, Nat.reduceMul, Nat.reduceSub, Nat.reduceLT, Nat.reduceLeDiff, Nat.reducePow, Int.reduceLT, Int.reduceLE, Int.reduceNeg, Int.reduceToNat, h1]
      refine ⟨.inl trivial, _, rfl, ?_, ?_⟩
      · simp (dsimp := false) (maxDischargeDepth := 16) only [go_sem, ↓reduceIte, reduceCtorEq, Nat.reduceEqDiff, Nat.reduceAdd, Nat.reduceMul, Nat.reduceSub, Nat.reduceLT, Nat.reduceLeDiff, Nat.reducePow, Int.reduceLT, Int.reduceLE, Int.reduceNeg, Int.reduceToNat]
      · simp (dsimp := false) (maxDischargeDepth := 16) only [go_sem, ↓reduceIte, reduceCtorEq, Nat.reduceEqDiff, Nat.reduceAdd, Nat.reduceMul, Nat.reduceSub, Nat.reduceLT, Nat.reduceLeDiff, Nat.reducePow, Int.reduceLT, Int.reduceLE, Int.reduceNeg, Int.reduceToNat]
        rw [quE, if_pos (by omega)]
    simp (dsimp := false) (maxDischargeDepth := 16) only [go_sem, ↓reduceIte, reduceCtorEq, Nat.reduceEqDiff, Nat.reduceAdd, Nat.reduceMul, Nat.reduceSub, Nat.reduceLT, Nat.reduceLeDiff, Nat.reducePow, Int.reduceLT, Int.reduceLE, Int.reduceNeg, Int.reduceToNat, h1]
    refine condK_intro (fun h2 => ?_) (fun h2 => ?_)
    · simp (dsimp := false) (maxDischargeDepth := 16) only [go_sem, ↓reduceIte, reduceCtorEq, Nat.reduceEqDiff, Nat.reduceAdd, Nat.reduceMul, Nat.reduceSub, Nat.reduceLT, Nat.reduceLeDiff, Nat.reducePow, Int.reduceLT, Int.reduceLE, Int.reduceNeg, Int.reduceToNat, h1, h2]
      refine callK_intro (c147 a nodes l hp hl hpl (by omega) hn he hR) ?_
      simp (dsimp := false) (maxDischargeDepth := 16) only [go_sem, ↓reduceIte, reduceCtorEq, Nat.reduceEqDiff, Nat.reduceAdd, Nat.reduceMul, Nat.reduceSub, Nat.reduceLT, Nat.reduceLeDiff, Nat.reducePow, Int.reduceLT, Int.reduceLE, Int.reduceNeg, Int.reduceToNat, h1, h2]
      refine ⟨⟨by omega, by omega⟩, .inl trivial, _, rfl, ?_, ?_⟩
      · simp (dsimp := false) (maxDischargeDepth := 16) only [go_sem, ↓reduceIte, reduceCtorEq, Nat.reduceEqDiff, Nat.reduceAdd, Nat.reduceMul, Nat.reduceSub, Nat.reduceLT, Nat.reduceLeDiff, Nat.reducePow, Int.reduceLT, Int.reduceLE, Int.reduceNeg, Int.reduceToNat]
      · simp (dsimp := false) (maxDischargeDepth := 16) only [go_sem, ↓reduceIte, reduceCtorEq, Nat.reduceEqDiff, Nat.reduceAdd, Nat.reduceMul, Nat.reduceSub, Nat.reduceLT, Nat.reduceLeDiff, Nat.reducePow, Int.reduceLT, Int.reduceLE, Int.reduceNeg, Int.reduceToNat]
        rw [quE, if_neg (by omega), List.map_append]
        rfl
    · exact absurd (beqF h2) (by simp; omega)
  | k + 1, l, out, hl, hk, hout => by
    have ih := c122 a nodes hp hpl hn he hR k
    refine econT (X := []) (rs := []) Try.func122 (by kernel_rfl) rfl rfl (by kernel_rfl) ?_
    simp (dsimp := false) (maxDischargeDepth := 16) only [go_sem, ↓reduceIte, reduceCtorEq, Nat.reduceEqDiff, Nat.reduceAdd, Nat.reduceMul, Nat.reduceSub, Nat.reduceLT, Nat.reduceLeDiff, Nat.reducePow, Int.reduceLT, Int.reduceLE, Int.reduceNeg, Int.reduceToNat]
    refine condK_dec (fun h1 => ?_) (fun h1 => ?_)
    · simp (dsimp := false) (maxDischargeDepth := 16) only [go_sem, ↓reduceIte, reduceCtorEq, Nat.reduceEqDiff, Nat.reduceAdd, Nat.reduceMul, Nat.reduceSub, Nat.reduceLT, Nat.reduceLeDiff, Nat.reducePow, Int.reduceLT, Int.reduceLE, Int.reduceNeg, Int.reduceToNat, h1]
      refine ⟨.inl trivial, _, rfl, ?_, ?_⟩
      · simp (dsimp := false) (maxDischargeDepth := 16) only [go_sem, ↓reduceIte, reduceCtorEq, Nat.reduceEqDiff, Nat.reduceAdd, Nat.reduceMul, Nat.reduceSub, Nat.reduceLT, Nat.reduceLeDiff, Nat.reducePow, Int.reduceLT, Int.reduceLE, Int.reduceNeg, Int.reduceToNat]
      · simp (dsimp := false) (maxDischargeDepth := 16) only [go_sem, ↓reduceIte, reduceCtorEq, Nat.reduceEqDiff, Nat.reduceAdd, Nat.reduceMul, Nat.reduceSub, Nat.reduceLT, Nat.reduceLeDiff, Nat.reducePow, Int.reduceLT, Int.reduceLE, Int.reduceNeg, Int.reduceToNat]
        rw [quE, if_pos (by omega)]
    simp (dsimp := false) (maxDischargeDepth := 16) only [go_sem, ↓reduceIte, reduceCtorEq, Nat.reduceEqDiff, Nat.reduceAdd, Nat.reduceMul, Nat.reduceSub, Nat.reduceLT, Nat.reduceLeDiff, Nat.reducePow, Int.reduceLT, Int.reduceLE, Int.reduceNeg, Int.reduceToNat, h1]
    refine condK_intro (fun h2 => ?_) (fun h2 => ?_)
    · have := beqT h2
      omega
    have h3 : l.length < a.e.length := by omega
    simp (dsimp := false) (maxDischargeDepth := 16) only [go_sem, ↓reduceIte, reduceCtorEq, Nat.reduceEqDiff, Nat.reduceAdd, Nat.reduceMul, Nat.reduceSub, Nat.reduceLT, Nat.reduceLeDiff, Nat.reducePow, Int.reduceLT, Int.reduceLE, Int.reduceNeg, Int.reduceToNat, h1, h2, idx_nat, h3]
    let st : List Qu → Nat → List Qu := fun out j => if okq a nodes l j then quE a nodes k (l ++ [(j : Int)]) out else out
    have hsp : quE a nodes (k + 1) l out = (List.range (l.length + 1)).foldl st out := by rw [quE, if_neg (by omega)]
    rw [hsp]
    obtain ⟨cur, q0, q1, q2⟩ : ∃ cur : Nat → List Qu, cur 0 = out ∧ (∀ j, cur (j + 1) = st (cur j) j) ∧ cur (l.length + 1) = (List.range (l.length + 1)).foldl st out := ⟨fun j => (List.range j).foldl st out, rfl, fun j => range_fold _ _ _, rfl⟩
    generalize (List.range (l.length + 1)).foldl st out = F at *
    refine loopK_intro (fun (j : Nat) s => j ≤ l.length + 1 ∧ s.t 0 = .box (0, 0, 0) 0 ∧ s.t 1 = lv nodes ∧ s.t 2 = lv l ∧ s.t 6 = iv l.length ∧ s.t 7 = .box (7, 0, 0) 0 ∧ s.b (7, 0, 0) = some ⟨ecs a.e[l.length], false⟩ ∧ s.t 8 = iv j ∧
      (cur j).length ≤ 2001 ∧ ∃ γ, s.b (0, 0, 0) = some ⟨gcs a ++ [qlvT (cur j) (.own (0, γ, 0))], false⟩ ∧ s.d (0, γ, 0) = false) (fun j => l.length + 1 - j) ?_ ?_
    · refine ⟨0, by omega, rfl, rfl, rfl, rfl, rfl, rfl, rfl, ?_, 0, ?_, ?_⟩
      · rw [q0]; exact hout
      · rw [q0]; rfl
      · simp (dsimp := false) (maxDischargeDepth := 16) only [go_sem, ↓reduceIte, reduceCtorEq, Nat.reduceEqDiff, Nat.reduceAdd, Nat.reduceMul, Nat.reduceSub, Nat.reduceLT, Nat.reduceLeDiff, Nat.reducePow, Int.reduceLT, Int.reduceLE, Int.reduceNeg, Int.reduceToNat]
    clear h1 h2
    rintro j s ⟨hj, t0, t1, t2, t6, t7, b7, t8, hc, γ, b0, d0⟩
    simp (dsimp := false) (maxDischargeDepth := 16) only [go_sem, ↓reduceIte, reduceCtorEq, Nat.reduceEqDiff, Nat.reduceAdd, Nat.reduceMul, Nat.reduceSub, Nat.reduceLT, Nat.reduceLeDiff, Nat.reducePow, Int.reduceLT, Int.reduceLE, Int.reduceNeg, Int.reduceToNat, t0, t1, t2, t6, t7, b7, t8, b0, d0]
    refine condK_dec (fun h6 => ?_) (fun h6 => ?_)
    rotate_left
    · simp (dsimp := false) (maxDischargeDepth := 16) only [go_sem, ↓reduceIte, reduceCtorEq, Nat.reduceEqDiff, Nat.reduceAdd, Nat.reduceMul, Nat.reduceSub, Nat.reduceLT, Nat.reduceLeDiff, Nat.reducePow, Int.reduceLT, Int.reduceLE, Int.reduceNeg, Int.reduceToNat, t0, t1, t2, t6, t7, b7, t8, b0, d0, h6]
      have hj1 : j = l.length + 1 := by omega
      subst hj1
      rw [q2]
      refine ⟨.inl trivial, _, rfl, ?_, rfl⟩
      simp (dsimp := false) (maxDischargeDepth := 16) only [go_sem, ↓reduceIte, reduceCtorEq, Nat.reduceEqDiff, Nat.reduceAdd, Nat.reduceMul, Nat.reduceSub, Nat.reduceLT, Nat.reduceLeDiff, Nat.reducePow, Int.reduceLT, Int.reduceLE, Int.reduceNeg, Int.reduceToNat, d0]
    have h7 : j < a.e.length := by omega
    simp (dsimp := false) (maxDischargeDepth := 16) only [go_sem, ↓reduceIte, reduceCtorEq, Nat.reduceEqDiff, Nat.reduceAdd, Nat.reduceMul, Nat.reduceSub, Nat.reduceLT, Nat.reduceLeDiff, Nat.reducePow, Int.reduceLT, Int.reduceLE, Int.reduceNeg, Int.reduceToNat, t0, t1, t2, t6, t7, b7, t8, b0, d0, h6, h7, idx_nat]
    have hyes : okq a nodes l j = true → cur (j + 1) = quE a nodes k (l ++ [(j : Int)]) (cur j) := fun h => by rw [q1]; exact if_pos h
    have hno : okq a nodes l j = false → cur (j + 1) = cur j := fun h => by rw [q1]; exact if_neg (by simp [h])
    have ih2 := fun (h : okq a nodes l j = true) => ih (l ++ [(j : Int)]) (cur j) (okq_isP hl h6 h) (by simp; omega) hc
    simp only [lv, lvT, iv, map1_app] at ih2
    refine condK_intro (fun g0 => ?_) (fun g0 => ?_)
    · have hok : okq a nodes l j = true := by have := beqT g0; rw [okq, decide_eq_true (by omega)]; rfl
      simp (dsimp := false) (maxDischargeDepth := 16) only [go_sem, ↓reduceIte, reduceCtorEq, Nat.reduceEqDiff, Nat.reduceAdd, Nat.reduceMul, Nat.reduceSub, Nat.reduceLT, Nat.reduceLeDiff, Nat.reducePow, Int.reduceLT, Int.reduceLE, Int.reduceNeg, Int.reduceToNat, t0, t1, t2, t6, t7, b7, t8, b0, d0, h6, g0]
      refine ⟨⟨by omega, by omega⟩, ⟨by omega, by omega⟩, ?_⟩
      refine ecallK_intro (pre := gcs a) (x := qlvT (cur j) (.own (0, γ, 0))) rfl ?_ (ih2 hok) ?_
      · simp (dsimp := false) (maxDischargeDepth := 16) only [go_sem, ↓reduceIte, reduceCtorEq, Nat.reduceEqDiff, Nat.reduceAdd, Nat.reduceMul, Nat.reduceSub, Nat.reduceLT, Nat.reduceLeDiff, Nat.reducePow, Int.reduceLT, Int.reduceLE, Int.reduceNeg, Int.reduceToNat, d0]
      · simp (dsimp := false) (maxDischargeDepth := 16) only [go_sem, ↓reduceIte, reduceCtorEq, Nat.reduceEqDiff, Nat.reduceAdd, Nat.reduceMul, Nat.reduceSub, Nat.reduceLT, Nat.reduceLeDiff, Nat.reducePow, Int.reduceLT, Int.reduceLE, Int.reduceNeg, Int.reduceToNat, t0, t1, t2, t6, t7, b7, t8, b0, d0, h6]
        have hst := hyes hok
        refine ⟨j + 1, by omega, by omega, by rw [wrapN _ (by omega)], ?_, s.g 0, ?_, ?_⟩
        · rw [hst]; exact quE_len _ _ _ _ _ hc
        · rw [hst]
        · simp
    have g0' := beqF g0
    have h8 : j < l.length := by omega
    have x1 := hR _ (List.getElem_mem h3)
    have x2 := hR _ (List.getElem_mem h7)
    have r1 : a.e[l.length].2.1.toNat < nodes.length := by omega
    have r2 : a.e[l.length].2.2.toNat < nodes.length := by omega
    have r3 : a.e[j].2.1.toNat < nodes.length := by omega
    have r4 : a.e[j].2.2.toNat < nodes.length := by omega
    have r5 := x1.1
    have r6 := x1.2.2.1
    have r7 := x2.1
    have r8 := x2.2.2.1
    have hat := okq_at h8 h3 h7 r1 r2 r3 r4
    simp (dsimp := false) (maxDischargeDepth := 16) only [go_sem, ↓reduceIte, reduceCtorEq, Nat.reduceEqDiff, Nat.reduceAdd, Nat.reduceMul, Nat.reduceSub, Nat.reduceLT, Nat.reduceLeDiff, Nat.reducePow, Int.reduceLT, Int.reduceLE, Int.reduceNeg, Int.reduceToNat, t0, t1, t2, t6, t7, b7, t8, b0, d0, h6, g0, h8, idx_nat]
    refine condK_intro (fun g1 => ?_) (fun g1 => ?_)
    rotate_left
    · simp (dsimp := false) (maxDischargeDepth := 16) only [go_sem, ↓reduceIte, reduceCtorEq, Nat.reduceEqDiff, Nat.reduceAdd, Nat.reduceMul, Nat.reduceSub, Nat.reduceLT, Nat.reduceLeDiff, Nat.reducePow, Int.reduceLT, Int.reduceLE, Int.reduceNeg, Int.reduceToNat, t0, t1, t2, t6, t7, b7, t8, b0, d0, h6, g0, g1]
      have hst := hno (by rw [hat, g1]; rfl)
      exact ⟨j + 1, by omega, by omega, by rw [wrapN _ (by omega)], by rw [hst]; exact hc, γ, by rw [hst], d0⟩
    simp (dsimp := false) (maxDischargeDepth := 16) only [go_sem, ↓reduceIte, reduceCtorEq, Nat.reduceEqDiff, Nat.reduceAdd, Nat.reduceMul, Nat.reduceSub, Nat.reduceLT, Nat.reduceLeDiff, Nat.reducePow, Int.reduceLT, Int.reduceLE, Int.reduceNeg, Int.reduceToNat, t0, t1, t2, t6, t7, b7, t8, b0, d0, h6, g0, g1]
    refine condK_intro (fun g2 => ?_) (fun g2 => ?_)
    rotate_left
    · simp (dsimp := false) (maxDischargeDepth := 16) only [go_sem, ↓reduceIte, reduceCtorEq, Nat.reduceEqDiff, Nat.reduceAdd, Nat.reduceMul, Nat.reduceSub, Nat.reduceLT, Nat.reduceLeDiff, Nat.reducePow, Int.reduceLT, Int.reduceLE, Int.reduceNeg, Int.reduceToNat, t0, t1, t2, t6, t7, b7, t8, b0, d0, h6, g0, g1, g2]
      have hst := hno (by rw [hat, g1, g2]; rfl)
      exact ⟨j + 1, by omega, by omega, by rw [wrapN _ (by omega)], by rw [hst]; exact hc, γ, by rw [hst], d0⟩
    simp (dsimp := false) (maxDischargeDepth := 16) only [go_sem, ↓reduceIte, reduceCtorEq, Nat.reduceEqDiff, Nat.reduceAdd, Nat.reduceMul, Nat.reduceSub, Nat.reduceLT, Nat.reduceLeDiff, Nat.reducePow, Int.reduceLT, Int.reduceLE, Int.reduceNeg, Int.reduceToNat, t0, t1, t2, t6, t7, b7, t8, b0, d0, h6, g0, g1, g2, idx_int, r1, r2, r3, r4, r5, r6, r7, r8]
    refine condK_intro (fun g3 => ?_) (fun g3 => ?_)
    rotate_left
    · simp (dsimp := false) (maxDischargeDepth := 16) only [go_sem, ↓reduceIte, reduceCtorEq, Nat.reduceEqDiff, Nat.reduceAdd, Nat.reduceMul, Nat.reduceSub, Nat.reduceLT, Nat.reduceLeDiff, Nat.reducePow, Int.reduceLT, Int.reduceLE, Int.reduceNeg, Int.reduceToNat, t0, t1, t2, t6, t7, b7, t8, b0, d0, h6, g0, g1, g2, g3]
      have hst := hno (by rw [hat, g1, g2, g3]; rfl)
      exact ⟨j + 1, by omega, by omega, by rw [wrapN _ (by omega)], by rw [hst]; exact hc, γ, by rw [hst], d0⟩
    simp (dsimp := false) (maxDischargeDepth := 16) only [go_sem, ↓reduceIte, reduceCtorEq, Nat.reduceEqDiff, Nat.reduceAdd, Nat.reduceMul, Nat.reduceSub, Nat.reduceLT, Nat.reduceLeDiff, Nat.reducePow, Int.reduceLT, Int.reduceLE, Int.reduceNeg, Int.reduceToNat, t0, t1, t2, t6, t7, b7, t8, b0, d0, h6, g0, g1, g2, g3, idx_int, r1, r2, r3, r4, r5, r6, r7, r8]
    refine condK_intro (fun g4 => ?_) (fun g4 => ?_)
    rotate_left
    · simp (dsimp := false) (maxDischargeDepth := 16) only [go_sem, ↓reduceIte, reduceCtorEq, Nat.reduceEqDiff, Nat.reduceAdd, Nat.reduceMul, Nat.reduceSub, Nat.reduceLT, Nat.reduceLeDiff, Nat.reducePow, Int.reduceLT, Int.reduceLE, Int.reduceNeg, Int.reduceToNat, t0, t1, t2, t6, t7, b7, t8, b0, d0, h6, g0, g1, g2, g3, g4]
      have hst := hno (by rw [hat, g1, g2, g3, g4]; rfl)
      exact ⟨j + 1, by omega, by omega, by rw [wrapN _ (by omega)], by rw [hst]; exact hc, γ, by rw [hst], d0⟩
    have hok : okq a nodes l j = true := by rw [hat, g1, g2, g3, g4]; rfl
    simp (dsimp := false) (maxDischargeDepth := 16) only [go_sem, ↓reduceIte, reduceCtorEq, Nat.reduceEqDiff, Nat.reduceAdd, Nat.reduceMul, Nat.reduceSub, Nat.reduceLT, Nat.reduceLeDiff, Nat.reducePow, Int.reduceLT, Int.reduceLE, Int.reduceNeg, Int.reduceToNat, t0, t1, t2, t6, t7, b7, t8, b0, d0, h6, g0, g1, g2, g3, g4]
    refine ⟨⟨by omega, by omega⟩, ⟨by omega, by omega⟩, ?_⟩
    refine ecallK_intro (pre := gcs a) (x := qlvT (cur j) (.own (0, γ, 0))) rfl ?_ (ih2 hok) ?_
    · simp (dsimp := false) (maxDischargeDepth := 16) only [go_sem, ↓reduceIte, reduceCtorEq, Nat.reduceEqDiff, Nat.reduceAdd, Nat.reduceMul, Nat.reduceSub, Nat.reduceLT, Nat.reduceLeDiff, Nat.reducePow, Int.reduceLT, Int.reduceLE, Int.reduceNeg, Int.reduceToNat, d0]
    · simp (dsimp := false) (maxDischargeDepth := 16) only [go_sem, ↓reduceIte, reduceCtorEq, Nat.reduceEqDiff, Nat.reduceAdd, Nat.reduceMul, Nat.reduceSub, Nat.reduceLT, Nat.reduceLeDiff, Nat.reducePow, Int.reduceLT, Int.reduceLE, Int.reduceNeg, Int.reduceToNat, t0, t1, t2, t6, t7, b7, t8, b0, d0, h6]
      have hst := hyes hok
      refine ⟨j + 1, by omega, by omega, by rw [wrapN _ (by omega)], ?_, s.g 0, ?_, ?_⟩
      · rw [hst]; exact quE_len _ _ _ _ _ hc
      · rw [hst]
      · simp
theorem okn_isP {a : Gr} {l : List Int} {n : Nat} (h : isP l) (hn : n ≤ l.length) (h1 : okn a l n = true) : isP (l ++ [(n : Int)]) := by
  refine isP_ext h hn ?_
  simp only [okn, Bool.or_eq_true, Bool.and_eq_true, decide_eq_true_eq] at h1
  exact h1.imp id And.left
theorem okn_at {a : Gr} {l : List Int} {n : Nat} (h : n < l.length) (h2 : l.length < a.n.length) (h3 : n < a.n.length) : okn a l n = (l[n] == (n : Int) && a.n[n] == a.n[l.length]) := by
  rw [okn, decide_eq_false (by omega), Bool.false_or, getD_at h, getD_at h2, getD_at h3]
  rfl
set_option maxRecDepth 20000 in
set_option maxHeartbeats 4000000 in
theorem c69 (a : Gr) (hn : a.n.length ≤ 80) (he : a.e.length ≤ 80) (hR : ∀ x ∈ a.e, 0 ≤ x.2.1 ∧ x.2.1 < a.n.length ∧ 0 ≤ x.2.2 ∧ x.2.2 < a.n.length) :
    ∀ (k : Nat) (l : List Int) (out : List Qu), isP l → l.length + k = a.n.length → out.length ≤ 2001 →
      ECon Try.prog 69 [lv l] (gcs a) (qlvT out (.own (0, 0, 0))) .any (gcs a) (qlvT (quN a k l out) (.own (0, 0, 0)))
  | 0, l, out, hl, hk, hout => by
    refine econT (X := []) (rs := []) Try.func69 (by kernel_rfl) rfl rfl (by kernel_rfl) ?_
    simp (dsimp := false) (maxDischargeDepth := 16) only [go_sem, ↓reduceIte, reduceCtorEq, Nat.reduceEqDiff, Nat.reduceAdd, Nat.reduceMul, Nat.reduceSub, Nat.reduceLT, Nat.reduceLeDiff, Nat.reducePow, Int.reduceLT, Int.reduceLE, Int.reduceNeg, Int.reduceToNat]
    refine condK_dec (fun h1 => ?_) (fun h1 => ?_)
    · simp (dsimp := false) (maxDischargeDepth := 16) only [go_sem, ↓reduceIte, reduceCtorEq, Nat.reduceEqDiff, Nat.reduceAdd, Nat.reduceMul, Nat.reduceSub, Nat.reduceLT, Nat.reduceLeDiff, Nat.reducePow, Int.reduceLT, Int.reduceLE, Int.reduceNeg, Int.reduceToNat, h1]
      refine ⟨.inl trivial, _, rfl, ?_, ?_⟩
      · simp (dsimp := false) (maxDischargeDepth := 16) only [go_sem, ↓reduceIte, reduceCtorEq, Nat.reduceEqDiff, Nat.reduceAdd, Nat.reduceMul, Nat.reduceSub, Nat.reduceLT, Nat.reduceLeDiff, Nat.reducePow, Int.reduceLT, Int.reduceLE, Int.reduceNeg, Int.reduceToNat]
      · simp (dsimp := false) (maxDischargeDepth := 16) only [go_sem, ↓reduceIte, reduceCtorEq, Nat.reduceEqDiff, Nat.reduceAdd, Nat.reduceMul, Nat.reduceSub, Nat.reduceLT, Nat.reduceLeDiff, Nat.reducePow, Int.reduceLT, Int.reduceLE, Int.reduceNeg, Int.reduceToNat]
        rw [quN, if_pos (by omega)]
    simp (dsimp := false) (maxDischargeDepth := 16) only [go_sem, ↓reduceIte, reduceCtorEq, Nat.reduceEqDiff, Nat.reduceAdd, Nat.reduceMul, Nat.reduceSub, Nat.reduceLT, Nat.reduceLeDiff, Nat.reducePow, Int.reduceLT, Int.reduceLE, Int.reduceNeg, Int.reduceToNat, h1]
    refine condK_intro (fun h2 => ?_) (fun h2 => ?_)
    · simp (dsimp := false) (maxDischargeDepth := 16) only [go_sem, ↓reduceIte, reduceCtorEq, Nat.reduceEqDiff, Nat.reduceAdd, Nat.reduceMul, Nat.reduceSub, Nat.reduceLT, Nat.reduceLeDiff, Nat.reducePow, Int.reduceLT, Int.reduceLE, Int.reduceNeg, Int.reduceToNat, h1, h2]
      have ic := c122 a l hl (by omega) hn he hR a.e.length [] out isP_nil (by simp) hout
      simp only [lv, lvT, iv, List.map_nil] at ic
      refine ecallK_intro (pre := gcs a) (x := qlvT out (.own (0, 0, 0))) rfl ?_ ic ?_
      · simp (dsimp := false) (maxDischargeDepth := 16) only [go_sem, ↓reduceIte, reduceCtorEq, Nat.reduceEqDiff, Nat.reduceAdd, Nat.reduceMul, Nat.reduceSub, Nat.reduceLT, Nat.reduceLeDiff, Nat.reducePow, Int.reduceLT, Int.reduceLE, Int.reduceNeg, Int.reduceToNat]
      · simp (dsimp := false) (maxDischargeDepth := 16) only [go_sem, ↓reduceIte, reduceCtorEq, Nat.reduceEqDiff, Nat.reduceAdd, Nat.reduceMul, Nat.reduceSub, Nat.reduceLT, Nat.reduceLeDiff, Nat.reducePow, Int.reduceLT, Int.reduceLE, Int.reduceNeg, Int.reduceToNat, h1, h2]
        refine ⟨.inl trivial, _, rfl, ?_, ?_⟩
        · simp (dsimp := false) (maxDischargeDepth := 16) only [go_sem, ↓reduceIte, reduceCtorEq, Nat.reduceEqDiff, Nat.reduceAdd, Nat.reduceMul, Nat.reduceSub, Nat.reduceLT, Nat.reduceLeDiff, Nat.reducePow, Int.reduceLT, Int.reduceLE, Int.reduceNeg, Int.reduceToNat]
        · simp (dsimp := false) (maxDischargeDepth := 16) only [go_sem, ↓reduceIte, reduceCtorEq, Nat.reduceEqDiff, Nat.reduceAdd, Nat.reduceMul, Nat.reduceSub, Nat.reduceLT, Nat.reduceLeDiff, Nat.reducePow, Int.reduceLT, Int.reduceLE, Int.reduceNeg, Int.reduceToNat]
          rw [quN, if_neg (by omega)]
    · exact absurd (beqF h2) (by simp; omega)
  | k + 1, l, out, hl, hk, hout => by
    have ih := c69 a hn he hR k
    refine econT (X := []) (rs := []) Try.func69 (by kernel_rfl) rfl rfl (by kernel_rfl) ?_
    simp (dsimp := false) (maxDischargeDepth := 16) only [go_sem, ↓reduceIte, reduceCtorEq, Nat.reduceEqDiff, Nat.reduceAdd, Nat.reduceMul, Nat.reduceSub, Nat.reduceLT, Nat.reduceLeDiff, Nat.reducePow, Int.reduceLT, Int.reduceLE, Int.reduceNeg, Int.reduceToNat]
    refine condK_dec (fun h1 => ?_) (fun h1 => ?_)
    · simp (dsimp := false) (maxDischargeDepth := 16) only [go_sem, ↓reduceIte, reduceCtorEq, Nat.reduceEqDiff, Nat.reduceAdd, Nat.reduceMul, Nat.reduceSub, Nat.reduceLT, Nat.reduceLeDiff, Nat.reducePow, Int.reduceLT, Int.reduceLE, Int.reduceNeg, Int.reduceToNat, h1]
      refine ⟨.inl trivial, _, rfl, ?_, ?_⟩
      · simp (dsimp := false) (maxDischargeDepth := 16) only [go_sem, ↓reduceIte, reduceCtorEq, Nat.reduceEqDiff, Nat.reduceAdd, Nat.reduceMul, Nat.reduceSub, Nat.reduceLT, Nat.reduceLeDiff, Nat.reducePow, Int.reduceLT, Int.reduceLE, Int.reduceNeg, Int.reduceToNat]
      · simp (dsimp := false) (maxDischargeDepth := 16) only [go_sem, ↓reduceIte, reduceCtorEq, Nat.reduceEqDiff, Nat.reduceAdd, Nat.reduceMul, Nat.reduceSub, Nat.reduceLT, Nat.reduceLeDiff, Nat.reducePow, Int.reduceLT, Int.reduceLE, Int.reduceNeg, Int.reduceToNat]
        rw [quN, if_pos (by omega)]
    simp (dsimp := false) (maxDischargeDepth := 16) only [go_sem, ↓reduceIte, reduceCtorEq, Nat.reduceEqDiff, Nat.reduceAdd, Nat.reduceMul, Nat.reduceSub, Nat.reduceLT, Nat.reduceLeDiff, Nat.reducePow, Int.reduceLT, Int.reduceLE, Int.reduceNeg, Int.reduceToNat, h1]
    refine condK_intro (fun h2 => ?_) (fun h2 => ?_)
    · have := beqT h2
      omega
    have h3 : l.length < a.n.length := by omega
    simp (dsimp := false) (maxDischargeDepth := 16) only [go_sem, ↓reduceIte, reduceCtorEq, Nat.reduceEqDiff, Nat.reduceAdd, Nat.reduceMul, Nat.reduceSub, Nat.reduceLT, Nat.reduceLeDiff, Nat.reducePow, Int.reduceLT, Int.reduceLE, Int.reduceNeg, Int.reduceToNat, h1, h2]
    let st : List Qu → Nat → List Qu := fun out j => if okn a l j then quN a k (l ++ [(j : Int)]) out else out
    have hsp : quN a (k + 1) l out = (List.range (l.length + 1)).foldl st out := by rw [quN, if_neg (by omega)]
    rw [hsp]
    obtain ⟨cur, q0, q1, q2⟩ : ∃ cur : Nat → List Qu, cur 0 = out ∧ (∀ j, cur (j + 1) = st (cur j) j) ∧ cur (l.length + 1) = (List.range (l.length + 1)).foldl st out := ⟨fun j => (List.range j).foldl st out, rfl, fun j => range_fold _ _ _, rfl⟩
    generalize (List.range (l.length + 1)).foldl st out = F at *
    refine loopK_intro (fun (j : Nat) s => j ≤ l.length + 1 ∧ s.t 0 = .box (0, 0, 0) 0 ∧ s.t 1 = lv l ∧ s.t 4 = iv l.length ∧ s.t 5 = iv j ∧
      (cur j).length ≤ 2001 ∧ ∃ γ, s.b (0, 0, 0) = some ⟨gcs a ++ [qlvT (cur j) (.own (0, γ, 0))], false⟩ ∧ s.d (0, γ, 0) = false) (fun j => l.length + 1 - j) ?_ ?_
    · refine ⟨0, by omega, rfl, rfl, rfl, rfl, ?_, 0, ?_, ?_⟩
      · rw [q0]; exact hout
      · rw [q0]; rfl
      · simp (dsimp := false) (maxDischargeDepth := 16) only [go_sem, ↓reduceIte, reduceCtorEq, Nat.reduceEqDiff, Nat.reduceAdd, Nat.reduceMul, Nat.reduceSub, Nat.reduceLT, Nat.reduceLeDiff, Nat.reducePow, Int.reduceLT, Int.reduceLE, Int.reduceNeg, Int.reduceToNat]
    clear h1 h2
    rintro j s ⟨hj, t0, t1, t4, t5, hc, γ, b0, d0⟩
    simp (dsimp := false) (maxDischargeDepth := 16) only [go_sem, ↓reduceIte, reduceCtorEq, Nat.reduceEqDiff, Nat.reduceAdd, Nat.reduceMul, Nat.reduceSub, Nat.reduceLT, Nat.reduceLeDiff, Nat.reducePow, Int.reduceLT, Int.reduceLE, Int.reduceNeg, Int.reduceToNat, t0, t1, t4, t5, b0, d0]
    refine condK_dec (fun h6 => ?_) (fun h6 => ?_)
    rotate_left
    · simp (dsimp := false) (maxDischargeDepth := 16) only [go_sem, ↓reduceIte, reduceCtorEq, Nat.reduceEqDiff, Nat.reduceAdd, Nat.reduceMul, Nat.reduceSub, Nat.reduceLT, Nat.reduceLeDiff, Nat.reducePow, Int.reduceLT, Int.reduceLE, Int.reduceNeg, Int.reduceToNat, t0, t1, t4, t5, b0, d0, h6]
      have hj1 : j = l.length + 1 := by omega
      subst hj1
      rw [q2]
      refine ⟨.inl trivial, _, rfl, ?_, rfl⟩
      simp (dsimp := false) (maxDischargeDepth := 16) only [go_sem, ↓reduceIte, reduceCtorEq, Nat.reduceEqDiff, Nat.reduceAdd, Nat.reduceMul, Nat.reduceSub, Nat.reduceLT, Nat.reduceLeDiff, Nat.reducePow, Int.reduceLT, Int.reduceLE, Int.reduceNeg, Int.reduceToNat, d0]
    have h7 : j < a.n.length := by omega
    simp (dsimp := false) (maxDischargeDepth := 16) only [go_sem, ↓reduceIte, reduceCtorEq, Nat.reduceEqDiff, Nat.reduceAdd, Nat.reduceMul, Nat.reduceSub, Nat.reduceLT, Nat.reduceLeDiff, Nat.reducePow, Int.reduceLT, Int.reduceLE, Int.reduceNeg, Int.reduceToNat, t0, t1, t4, t5, b0, d0, h6, h7, h3, idx_nat]
    have hyes : okn a l j = true → cur (j + 1) = quN a k (l ++ [(j : Int)]) (cur j) := fun h => by rw [q1]; exact if_pos h
    have hno : okn a l j = false → cur (j + 1) = cur j := fun h => by rw [q1]; exact if_neg (by simp [h])
    have ih2 := fun (h : okn a l j = true) => ih (l ++ [(j : Int)]) (cur j) (okn_isP hl h6 h) (by simp; omega) hc
    simp only [lv, lvT, iv, map1_app] at ih2
    refine condK_intro (fun g0 => ?_) (fun g0 => ?_)
    · have hok : okn a l j = true := by have := beqT g0; rw [okn, decide_eq_true (by omega)]; rfl
      simp (dsimp := false) (maxDischargeDepth := 16) only [go_sem, ↓reduceIte, reduceCtorEq, Nat.reduceEqDiff, Nat.reduceAdd, Nat.reduceMul, Nat.reduceSub, Nat.reduceLT, Nat.reduceLeDiff, Nat.reducePow, Int.reduceLT, Int.reduceLE, Int.reduceNeg, Int.reduceToNat, t0, t1, t4, t5, b0, d0, h6, g0]
      refine ⟨⟨by omega, by omega⟩, ⟨by omega, by omega⟩, ?_⟩
      refine ecallK_intro (pre := gcs a) (x := qlvT (cur j) (.own (0, γ, 0))) rfl ?_ (ih2 hok) ?_
      · simp (dsimp := false) (maxDischargeDepth := 16) only [go_sem, ↓reduceIte, reduceCtorEq, Nat.reduceEqDiff, Nat.reduceAdd, Nat.reduceMul, Nat.reduceSub, Nat.reduceLT, Nat.reduceLeDiff, Nat.reducePow, Int.reduceLT, Int.reduceLE, Int.reduceNeg, Int.reduceToNat, d0]
      · simp (dsimp := false) (maxDischargeDepth := 16) only [go_sem, ↓reduceIte, reduceCtorEq, Nat.reduceEqDiff, Nat.reduceAdd, Nat.reduceMul, Nat.reduceSub, Nat.reduceLT, Nat.reduceLeDiff, Nat.reducePow, Int.reduceLT, Int.reduceLE, Int.reduceNeg, Int.reduceToNat, t0, t1, t4, t5, b0, d0, h6]
        have hst := hyes hok
        refine ⟨j + 1, by omega, by omega, by rw [wrapN _ (by omega)], ?_, s.g 0, ?_, ?_⟩
        · rw [hst]; exact quN_len _ _ _ _ hc
        · rw [hst]
        · simp
    have g0' := beqF g0
    have h8 : j < l.length := by omega
    have hat := okn_at h8 h3 h7
    simp (dsimp := false) (maxDischargeDepth := 16) only [go_sem, ↓reduceIte, reduceCtorEq, Nat.reduceEqDiff, Nat.reduceAdd, Nat.reduceMul, Nat.reduceSub, Nat.reduceLT, Nat.reduceLeDiff, Nat.reducePow, Int.reduceLT, Int.reduceLE, Int.reduceNeg, Int.reduceToNat, t0, t1, t4, t5, b0, d0, h6, g0, h8, h7, h3, idx_nat]
    refine condK_intro (fun g1 => ?_) (fun g1 => ?_)
    rotate_left
    · simp (dsimp := false) (maxDischargeDepth := 16) only [go_sem, ↓reduceIte, reduceCtorEq, Nat.reduceEqDiff, Nat.reduceAdd, Nat.reduceMul, Nat.reduceSub, Nat.reduceLT, Nat.reduceLeDiff, Nat.reducePow, Int.reduceLT, Int.reduceLE, Int.reduceNeg, Int.reduceToNat, t0, t1, t4, t5, b0, d0, h6, g0, g1]
      have hst := hno (by rw [hat, g1]; rfl)
      exact ⟨j + 1, by omega, by omega, by rw [wrapN _ (by omega)], by rw [hst]; exact hc, γ, by rw [hst], d0⟩
    simp (dsimp := false) (maxDischargeDepth := 16) only [go_sem, ↓reduceIte, reduceCtorEq, Nat.reduceEqDiff, Nat.reduceAdd, Nat.reduceMul, Nat.reduceSub, Nat.reduceLT, Nat.reduceLeDiff, Nat.reducePow, Int.reduceLT, Int.reduceLE, Int.reduceNeg, Int.reduceToNat, t0, t1, t4, t5, b0, d0, h6, g0, g1, h7, h3, idx_nat]
    refine condK_intro (fun g2 => ?_) (fun g2 => ?_)
    rotate_left
    · simp (dsimp := false) (maxDischargeDepth := 16) only [go_sem, ↓reduceIte, reduceCtorEq, Nat.reduceEqDiff, Nat.reduceAdd, Nat.reduceMul, Nat.reduceSub, Nat.reduceLT, Nat.reduceLeDiff, Nat.reducePow, Int.reduceLT, Int.reduceLE, Int.reduceNeg, Int.reduceToNat, t0, t1, t4, t5, b0, d0, h6, g0, g1, g2]
      have hst := hno (by rw [hat, g1, g2]; rfl)
      exact ⟨j + 1, by omega, by omega, by rw [wrapN _ (by omega)], by rw [hst]; exact hc, γ, by rw [hst], d0⟩
    have hok : okn a l j = true := by rw [hat, g1, g2]; rfl
    simp (dsimp := false) (maxDischargeDepth := 16) only [go_sem, ↓reduceIte, reduceCtorEq, Nat.reduceEqDiff, Nat.reduceAdd, Nat.reduceMul, Nat.reduceSub, Nat.reduceLT, Nat.reduceLeDiff, Nat.reducePow, Int.reduceLT, Int.reduceLE, Int.reduceNeg, Int.reduceToNat, t0, t1, t4, t5, b0, d0, h6, g0, g1, g2]
    refine ⟨⟨by omega, by omega⟩, ⟨by omega, by omega⟩, ?_⟩
    refine ecallK_intro (pre := gcs a) (x := qlvT (cur j) (.own (0, γ, 0))) rfl ?_ (ih2 hok) ?_
    · simp (dsimp := false) (maxDischargeDepth := 16) only [go_sem, ↓reduceIte, reduceCtorEq, Nat.reduceEqDiff, Nat.reduceAdd, Nat.reduceMul, Nat.reduceSub, Nat.reduceLT, Nat.reduceLeDiff, Nat.reducePow, Int.reduceLT, Int.reduceLE, Int.reduceNeg, Int.reduceToNat, d0]
    · simp (dsimp := false) (maxDischargeDepth := 16) only [go_sem, ↓reduceIte, reduceCtorEq, Nat.reduceEqDiff, Nat.reduceAdd, Nat.reduceMul, Nat.reduceSub, Nat.reduceLT, Nat.reduceLeDiff, Nat.reducePow, Int.reduceLT, Int.reduceLE, Int.reduceNeg, Int.reduceToNat, t0, t1, t4, t5, b0, d0, h6]
      have hst := hyes hok
      refine ⟨j + 1, by omega, by omega, by rw [wrapN _ (by omega)], ?_, s.g 0, ?_, ?_⟩
      · rw [hst]; exact quN_len _ _ _ _ hc
      · rw [hst]
      · simp
/-- The quotients and the error. -/
def quS (a : Gr) : List Qu × Int := if gErr a ≠ 0 then ([], gErr a) else if 6 < a.n.length ∨ 6 < a.e.length then ([], 3) else if 2000 < (quN a a.n.length [] []).length then ([], 3) else (quN a a.n.length [] [], 0)
theorem c24 (a : Gr) : Con Try.prog 24 [gv a] 0 (.tup [qlv (quS a).1, iv (quS a).2]) := by
  refine conT (X := []) (rs := [.tmp 2, .tmp 3]) Try.func24 (by kernel_rfl) rfl rfl (by kernel_rfl) ?_
  simp (dsimp := false) (maxDischargeDepth := 16) only [go_sem, ↓reduceIte, reduceCtorEq, Nat.reduceEqDiff, Nat.reduceAdd, Nat.reduceMul, Nat.reduceSub, Nat.reduceLT, Nat.reduceLeDiff, Nat.reducePow, Int.reduceLT, Int.reduceLE, Int.reduceNeg, Int.reduceToNat]
  refine callK_intro (c60 a) ?_
  simp (dsimp := false) (maxDischargeDepth := 16) only [go_sem, ↓reduceIte, reduceCtorEq, Nat.reduceEqDiff, Nat.reduceAdd, Nat.reduceMul, Nat.reduceSub, Nat.reduceLT, Nat.reduceLeDiff, Nat.reducePow, Int.reduceLT, Int.reduceLE, Int.reduceNeg, Int.reduceToNat]
  refine condK_intro (fun h1 => ?_) (fun h1 => ?_)
  · simp (dsimp := false) (maxDischargeDepth := 16) only [go_sem, ↓reduceIte, reduceCtorEq, Nat.reduceEqDiff, Nat.reduceAdd, Nat.reduceMul, Nat.reduceSub, Nat.reduceLT, Nat.reduceLeDiff, Nat.reducePow, Int.reduceLT, Int.reduceLE, Int.reduceNeg, Int.reduceToNat, h1]
    have h : quS a = ([], gErr a) := if_pos (ineq h1)
    rw [h]
    exact finK ⟨rfl, rfl⟩
  have g1 := ieq h1
  obtain ⟨⟨p1, p2⟩, p3⟩ := gErr_small g1
  have hbig : ∀ o, (6 < a.n.length ∨ 6 < a.e.length) → o = quS a → o = ([], 3) := fun o h ho => by rw [ho, quS, if_neg (by simp [g1]), if_pos h]
  simp (dsimp := false) (maxDischargeDepth := 16) only [go_sem, ↓reduceIte, reduceCtorEq, Nat.reduceEqDiff, Nat.reduceAdd, Nat.reduceMul, Nat.reduceSub, Nat.reduceLT, Nat.reduceLeDiff, Nat.reducePow, Int.reduceLT, Int.reduceLE, Int.reduceNeg, Int.reduceToNat, h1]
  refine condK_dec (fun h3 => ?_) (fun h3 => ?_)
  · simp (dsimp := false) (maxDischargeDepth := 16) only [go_sem, ↓reduceIte, reduceCtorEq, Nat.reduceEqDiff, Nat.reduceAdd, Nat.reduceMul, Nat.reduceSub, Nat.reduceLT, Nat.reduceLeDiff, Nat.reducePow, Int.reduceLT, Int.reduceLE, Int.reduceNeg, Int.reduceToNat, h1, h3]
    rw [hbig _ (by omega) rfl]
    exact finK ⟨rfl, rfl⟩
  simp (dsimp := false) (maxDischargeDepth := 16) only [go_sem, ↓reduceIte, reduceCtorEq, Nat.reduceEqDiff, Nat.reduceAdd, Nat.reduceMul, Nat.reduceSub, Nat.reduceLT, Nat.reduceLeDiff, Nat.reducePow, Int.reduceLT, Int.reduceLE, Int.reduceNeg, Int.reduceToNat, h1, h3]
  refine condK_dec (fun h4 => ?_) (fun h4 => ?_)
  · simp (dsimp := false) (maxDischargeDepth := 16) only [go_sem, ↓reduceIte, reduceCtorEq, Nat.reduceEqDiff, Nat.reduceAdd, Nat.reduceMul, Nat.reduceSub, Nat.reduceLT, Nat.reduceLeDiff, Nat.reducePow, Int.reduceLT, Int.reduceLE, Int.reduceNeg, Int.reduceToNat, h1, h3, h4]
    rw [hbig _ (by omega) rfl]
    exact finK ⟨rfl, rfl⟩
  simp (dsimp := false) (maxDischargeDepth := 16) only [go_sem, ↓reduceIte, reduceCtorEq, Nat.reduceEqDiff, Nat.reduceAdd, Nat.reduceMul, Nat.reduceSub, Nat.reduceLT, Nat.reduceLeDiff, Nat.reducePow, Int.reduceLT, Int.reduceLE, Int.reduceNeg, Int.reduceToNat, h1, h3, h4]
  have ic := c69 a (by omega) (by omega) (fun x hx => (p3.2 x hx).2) a.n.length [] [] isP_nil (by simp) (by simp)
  simp only [lv, lvT, iv, List.map_nil] at ic
  refine ecallK_intro (pre := gcs a) (x := qlvT [] .nil) rfl ?_ ic ?_
  · simp (dsimp := false) (maxDischargeDepth := 16) only [go_sem, ↓reduceIte, reduceCtorEq, Nat.reduceEqDiff, Nat.reduceAdd, Nat.reduceMul, Nat.reduceSub, Nat.reduceLT, Nat.reduceLeDiff, Nat.reducePow, Int.reduceLT, Int.reduceLE, Int.reduceNeg, Int.reduceToNat]
  have hl := quN_len a a.n.length [] [] (by simp)
  generalize hO : quN a a.n.length [] [] = O at *
  simp (dsimp := false) (maxDischargeDepth := 16) only [go_sem, ↓reduceIte, reduceCtorEq, Nat.reduceEqDiff, Nat.reduceAdd, Nat.reduceMul, Nat.reduceSub, Nat.reduceLT, Nat.reduceLeDiff, Nat.reducePow, Int.reduceLT, Int.reduceLE, Int.reduceNeg, Int.reduceToNat, h1, h3, h4]
  refine condK_dec (fun h5 => ?_) (fun h5 => ?_)
  · simp (dsimp := false) (maxDischargeDepth := 16) only [go_sem, ↓reduceIte, reduceCtorEq, Nat.reduceEqDiff, Nat.reduceAdd, Nat.reduceMul, Nat.reduceSub, Nat.reduceLT, Nat.reduceLeDiff, Nat.reducePow, Int.reduceLT, Int.reduceLE, Int.reduceNeg, Int.reduceToNat, h1, h3, h4, h5]
    have h : quS a = ([], 3) := by rw [quS, if_neg (by simp [g1]), if_neg (by omega), hO, if_pos (by omega)]
    rw [h]
    exact finK ⟨rfl, rfl⟩
  · simp (dsimp := false) (maxDischargeDepth := 16) only [go_sem, ↓reduceIte, reduceCtorEq, Nat.reduceEqDiff, Nat.reduceAdd, Nat.reduceMul, Nat.reduceSub, Nat.reduceLT, Nat.reduceLeDiff, Nat.reducePow, Int.reduceLT, Int.reduceLE, Int.reduceNeg, Int.reduceToNat, h1, h3, h4, h5]
    have h : quS a = (O, 0) := by rw [quS, if_neg (by simp [g1]), if_neg (by omega), hO, if_neg (by omega)]
    rw [h]
    exact finK ⟨rfl, rfl⟩
end Go.Sy
