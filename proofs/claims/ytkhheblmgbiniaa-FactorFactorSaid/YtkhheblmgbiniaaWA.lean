/- Contracts: the program's own overlaps. -/
import Derived.Test.YtkhheblmgbiniaaW9
set_option linter.unusedSimpArgs false
namespace Go.Sy
open Go Go.Proofs

theorem okE_nat {a : Gr} {nodes l : List Int} {e : Ed} {i : Nat} (h10 : i < a.e.length) (r1 : e.2.1.toNat < nodes.length) (r2 : e.2.2.toNat < nodes.length) :
    okE a nodes l e (((i + 1 : Nat) : Int) - 1) = ((a.e[i].1 == e.1 && (a.e[i].2.1 == nodes[e.2.1.toNat] && a.e[i].2.2 == nodes[e.2.2.toNat])) && !l.contains (i : Int)) := by
  have h : ((i + 1 : Nat) : Int) - 1 = (i : Int) := by omega
  rw [h, okE_at (by omega) (by simpa using h10) r1 r2, Bool.and_comm]
  rfl
theorem okN_nat {a : Gr} {t : Int} {l : List Int} {i : Nat} (h10 : i < a.n.length) : okN a t l (((i + 1 : Nat) : Int) - 1) = (a.n[i] == t && !l.contains (i : Int)) := by
  have h : ((i + 1 : Nat) : Int) - 1 = (i : Int) := by omega
  rw [h, okN_at (by omega) (by simpa using h10), Bool.and_comm]
  rfl
set_option maxRecDepth 20000 in
set_option maxHeartbeats 4000000 in
theorem c118 (a b : Gr) (nodes : List Int) (hv : gErr a = 0) (ha : a.n.length ≤ 1000) (hae : a.e.length ≤ 1000) (hn : nodes.length = b.n.length) (hb : b.n.length ≤ 1000) (hbe : b.e.length ≤ 1000)
    (hR : ∀ x ∈ b.e, 0 ≤ x.2.1 ∧ x.2.1 < nodes.length ∧ 0 ≤ x.2.2 ∧ x.2.2 < nodes.length) :
    ∀ (k : Nat) (l : List Int) (out : List Ov), l.length + k = b.e.length → out.length ≤ 2001 →
      ECon Try.prog 118 [lv nodes, lv l] (gcs a ++ gcs b) (olvT out (.own (0, 0, 0))) .any (gcs a ++ gcs b) (olvT (ovE a b nodes k l out) (.own (0, 0, 0)))
  | 0, l, out, hk, hout => by
    refine econT (X := []) (rs := []) Try.func118 (by kernel_rfl) rfl rfl (by kernel_rfl) ?_
    simp (dsimp := false) (maxDischargeDepth := 16) only [go_sem, ↓reduceIte, reduceCtorEq, Nat.reduceEqDiff, Nat.reduceAdd, Nat.reduceMul, Nat.reduceSub, Nat.reduceLT, Nat.reduceLeDiff, Nat.reducePow, Int.reduceLT, Int.reduceLE, Int.reduceNeg, Int.reduceToNat]
    refine condK_dec (fun h1 => ?_) (fun h1 => ?_)
    · simp (dsimp := false) (maxDischargeDepth := 16) only [go_sem, ↓reduceIte, reduceCtorEq, Nat.reduceEqDiff, Nat.reduceAdd, Nat.reduceMul, Nat.reduceSub, Nat.reduceLT, Nat.reduceLeDiff, Nat.reducePow, Int.reduceLT, Int.reduceLE, Int.reduceNeg, Int.reduceToNat, h1]
      refine ⟨.inl trivial, _, rfl, ?_, ?_⟩
      · simp (dsimp := false) (maxDischargeDepth := 16) only [go_sem, ↓reduceIte, reduceCtorEq, Nat.reduceEqDiff, Nat.reduceAdd, Nat.reduceMul, Nat.reduceSub, Nat.reduceLT, Nat.reduceLeDiff, Nat.reducePow, Int.reduceLT, Int.reduceLE, Int.reduceNeg, Int.reduceToNat]
      · simp (dsimp := false) (maxDischargeDepth := 16) only [go_sem, ↓reduceIte, reduceCtorEq, Nat.reduceEqDiff, Nat.reduceAdd, Nat.reduceMul, Nat.reduceSub, Nat.reduceLT, Nat.reduceLeDiff, Nat.reducePow, Int.reduceLT, Int.reduceLE, Int.reduceNeg, Int.reduceToNat]
        rw [ovE, if_pos (by omega)]
    simp (dsimp := false) (maxDischargeDepth := 16) only [go_sem, ↓reduceIte, reduceCtorEq, Nat.reduceEqDiff, Nat.reduceAdd, Nat.reduceMul, Nat.reduceSub, Nat.reduceLT, Nat.reduceLeDiff, Nat.reducePow, Int.reduceLT, Int.reduceLE, Int.reduceNeg, Int.reduceToNat, h1]
    refine condK_intro (fun h2 => ?_) (fun h2 => ?_)
    · simp (dsimp := false) (maxDischargeDepth := 16) only [go_sem, ↓reduceIte, reduceCtorEq, Nat.reduceEqDiff, Nat.reduceAdd, Nat.reduceMul, Nat.reduceSub, Nat.reduceLT, Nat.reduceLeDiff, Nat.reducePow, Int.reduceLT, Int.reduceLE, Int.reduceNeg, Int.reduceToNat, h1, h2]
      have h3 : l.length = b.e.length := by omega
      refine callK_intro (c77 a b nodes l hv ha hae (by omega) (by omega) hb hbe hR) ?_
      simp (dsimp := false) (maxDischargeDepth := 16) only [go_sem, ↓reduceIte, reduceCtorEq, Nat.reduceEqDiff, Nat.reduceAdd, Nat.reduceMul, Nat.reduceSub, Nat.reduceLT, Nat.reduceLeDiff, Nat.reducePow, Int.reduceLT, Int.reduceLE, Int.reduceNeg, Int.reduceToNat, h1, h2]
      refine ⟨⟨by omega, by omega⟩, .inl trivial, _, rfl, ?_, ?_⟩
      · simp (dsimp := false) (maxDischargeDepth := 16) only [go_sem, ↓reduceIte, reduceCtorEq, Nat.reduceEqDiff, Nat.reduceAdd, Nat.reduceMul, Nat.reduceSub, Nat.reduceLT, Nat.reduceLeDiff, Nat.reducePow, Int.reduceLT, Int.reduceLE, Int.reduceNeg, Int.reduceToNat]
      · simp (dsimp := false) (maxDischargeDepth := 16) only [go_sem, ↓reduceIte, reduceCtorEq, Nat.reduceEqDiff, Nat.reduceAdd, Nat.reduceMul, Nat.reduceSub, Nat.reduceLT, Nat.reduceLeDiff, Nat.reducePow, Int.reduceLT, Int.reduceLE, Int.reduceNeg, Int.reduceToNat]
        rw [ovE, if_neg (by omega), List.map_append]
        rfl
    · exact absurd (beqF h2) (by simp; omega)
  | k + 1, l, out, hk, hout => by
    have ih := c118 a b nodes hv ha hae hn hb hbe hR k
    refine econT (X := []) (rs := []) Try.func118 (by kernel_rfl) rfl rfl (by kernel_rfl) ?_
    simp (dsimp := false) (maxDischargeDepth := 16) only [go_sem, ↓reduceIte, reduceCtorEq, Nat.reduceEqDiff, Nat.reduceAdd, Nat.reduceMul, Nat.reduceSub, Nat.reduceLT, Nat.reduceLeDiff, Nat.reducePow, Int.reduceLT, Int.reduceLE, Int.reduceNeg, Int.reduceToNat]
    refine condK_dec (fun h1 => ?_) (fun h1 => ?_)
    · simp (dsimp := false) (maxDischargeDepth := 16) only [go_sem, ↓reduceIte, reduceCtorEq, Nat.reduceEqDiff, Nat.reduceAdd, Nat.reduceMul, Nat.reduceSub, Nat.reduceLT, Nat.reduceLeDiff, Nat.reducePow, Int.reduceLT, Int.reduceLE, Int.reduceNeg, Int.reduceToNat, h1]
      refine ⟨.inl trivial, _, rfl, ?_, ?_⟩
      · simp (dsimp := false) (maxDischargeDepth := 16) only [go_sem, ↓reduceIte, reduceCtorEq, Nat.reduceEqDiff, Nat.reduceAdd, Nat.reduceMul, Nat.reduceSub, Nat.reduceLT, Nat.reduceLeDiff, Nat.reducePow, Int.reduceLT, Int.reduceLE, Int.reduceNeg, Int.reduceToNat]
      · simp (dsimp := false) (maxDischargeDepth := 16) only [go_sem, ↓reduceIte, reduceCtorEq, Nat.reduceEqDiff, Nat.reduceAdd, Nat.reduceMul, Nat.reduceSub, Nat.reduceLT, Nat.reduceLeDiff, Nat.reducePow, Int.reduceLT, Int.reduceLE, Int.reduceNeg, Int.reduceToNat]
        rw [ovE, if_pos (by omega)]
    simp (dsimp := false) (maxDischargeDepth := 16) only [go_sem, ↓reduceIte, reduceCtorEq, Nat.reduceEqDiff, Nat.reduceAdd, Nat.reduceMul, Nat.reduceSub, Nat.reduceLT, Nat.reduceLeDiff, Nat.reducePow, Int.reduceLT, Int.reduceLE, Int.reduceNeg, Int.reduceToNat, h1]
    refine condK_intro (fun h2 => ?_) (fun h2 => ?_)
    · have := beqT h2
      omega
    have h3 : l.length < b.e.length := by omega
    have hx := hR _ (List.getElem_mem h3)
    have r1 : b.e[l.length].2.1.toNat < nodes.length := by omega
    have r2 : b.e[l.length].2.2.toNat < nodes.length := by omega
    have r3 := hx.1
    have r4 := hx.2.2.1
    simp (dsimp := false) (maxDischargeDepth := 16) only [go_sem, ↓reduceIte, reduceCtorEq, Nat.reduceEqDiff, Nat.reduceAdd, Nat.reduceMul, Nat.reduceSub, Nat.reduceLT, Nat.reduceLeDiff, Nat.reducePow, Int.reduceLT, Int.reduceLE, Int.reduceNeg, Int.reduceToNat, h1, h2, idx_nat, h3, idx_int, r1, r2, r3, r4]
    let st : List Ov → Nat → List Ov := fun out j => if okE a nodes l (b.e.getD l.length (0, 0, 0)) ((j : Int) - 1) then ovE a b nodes k (l ++ [(j : Int) - 1]) out else out
    have hsp : ovE a b nodes (k + 1) l out = (List.range (a.e.length + 1)).foldl st out := by rw [ovE, if_neg (by omega)]
    rw [hsp]
    generalize hF : (List.range (a.e.length + 1)).foldl st out = F
    refine callK_intro (c78 l (by omega)) ?_
    simp (dsimp := false) (maxDischargeDepth := 16) only [go_sem, ↓reduceIte, reduceCtorEq, Nat.reduceEqDiff, Nat.reduceAdd, Nat.reduceMul, Nat.reduceSub, Nat.reduceLT, Nat.reduceLeDiff, Nat.reducePow, Int.reduceLT, Int.reduceLE, Int.reduceNeg, Int.reduceToNat, h1, h2]
    refine ⟨⟨by omega, by omega⟩, ?_⟩
    have ih1 := ih (l ++ [-1]) out (by simp; omega) hout
    simp only [lv, lvT, iv, map1_app] at ih1
    have st0 : (List.range (0 + 1)).foldl st out = ovE a b nodes k (l ++ [-1]) out := by
      rw [range_fold]
      exact if_pos (by simp [okE])
    obtain ⟨cur, q0, q1, q2⟩ : ∃ cur : Nat → List Ov, cur 0 = ovE a b nodes k (l ++ [-1]) out ∧ (∀ j, cur (j + 1) = st (cur j) (j + 1)) ∧ cur a.e.length = F := ⟨fun j => (List.range (j + 1)).foldl st out, st0, fun j => range_fold _ _ _, hF⟩
    clear st0 hF hsp
    refine ecallK_intro (pre := gcs a ++ gcs b) (x := olvT out (.own (0, 0, 0))) rfl ?_ ih1 ?_
    · simp (dsimp := false) (maxDischargeDepth := 16) only [go_sem, ↓reduceIte, reduceCtorEq, Nat.reduceEqDiff, Nat.reduceAdd, Nat.reduceMul, Nat.reduceSub, Nat.reduceLT, Nat.reduceLeDiff, Nat.reducePow, Int.reduceLT, Int.reduceLE, Int.reduceNeg, Int.reduceToNat]
    simp (dsimp := false) (maxDischargeDepth := 16) only [go_sem, ↓reduceIte, reduceCtorEq, Nat.reduceEqDiff, Nat.reduceAdd, Nat.reduceMul, Nat.reduceSub, Nat.reduceLT, Nat.reduceLeDiff, Nat.reducePow, Int.reduceLT, Int.reduceLE, Int.reduceNeg, Int.reduceToNat]
    refine loopK_intro (fun (j : Nat) s => j ≤ a.e.length ∧ s.t 0 = .box (0, 0, 0) 0 ∧ s.t 1 = lv nodes ∧ s.t 2 = lv l ∧ s.t 7 = .box (7, 0, 0) 0 ∧ s.b (7, 0, 0) = some ⟨[iv b.e[l.length].1, iv nodes[b.e[l.length].2.1.toNat], iv nodes[b.e[l.length].2.2.toNat]], false⟩ ∧
      s.t 78 = elv a.e ∧ s.t 79 = iv a.e.length ∧ s.t 80 = iv j ∧
      (cur j).length ≤ 2001 ∧ ∃ γ, s.b (0, 0, 0) = some ⟨gcs a ++ gcs b ++ [olvT (cur j) (.own (0, γ, 0))], false⟩ ∧ s.d (0, γ, 0) = false) (fun j => a.e.length - j) ?_ ?_
    · refine ⟨0, by omega, rfl, rfl, rfl, rfl, rfl, rfl, rfl, rfl, ?_, 1, ?_, ?_⟩
      · rw [q0]; exact ovE_len _ _ _ _ _ _ hout
      · rw [q0]
        simp (dsimp := false) (maxDischargeDepth := 16) only [go_sem, ↓reduceIte, reduceCtorEq, Nat.reduceEqDiff, Nat.reduceAdd, Nat.reduceMul, Nat.reduceSub, Nat.reduceLT, Nat.reduceLeDiff, Nat.reducePow, Int.reduceLT, Int.reduceLE, Int.reduceNeg, Int.reduceToNat]
      · simp (dsimp := false) (maxDischargeDepth := 16) only [go_sem, ↓reduceIte, reduceCtorEq, Nat.reduceEqDiff, Nat.reduceAdd, Nat.reduceMul, Nat.reduceSub, Nat.reduceLT, Nat.reduceLeDiff, Nat.reducePow, Int.reduceLT, Int.reduceLE, Int.reduceNeg, Int.reduceToNat]
    clear h1 h2
    rintro j s ⟨hj, t0, t1, t2, t7, b7, t78, t79, t80, hc, γ, b0, d0⟩
    simp (dsimp := false) (maxDischargeDepth := 16) only [go_sem, ↓reduceIte, reduceCtorEq, Nat.reduceEqDiff, Nat.reduceAdd, Nat.reduceMul, Nat.reduceSub, Nat.reduceLT, Nat.reduceLeDiff, Nat.reducePow, Int.reduceLT, Int.reduceLE, Int.reduceNeg, Int.reduceToNat, t0, t1, t2, t7, b7, t78, t79, t80, b0, d0]
    refine condK_dec (fun h6 => ?_) (fun h6 => ?_)
    · simp (dsimp := false) (maxDischargeDepth := 16) only [go_sem, ↓reduceIte, reduceCtorEq, Nat.reduceEqDiff, Nat.reduceAdd, Nat.reduceMul, Nat.reduceSub, Nat.reduceLT, Nat.reduceLeDiff, Nat.reducePow, Int.reduceLT, Int.reduceLE, Int.reduceNeg, Int.reduceToNat, t0, t1, t2, t7, b7, t78, t79, t80, b0, d0, h6, idx_nat]
      refine condK_intro (fun h7 => ?_) (fun h7 => ?_)
      · simp (dsimp := false) (maxDischargeDepth := 16) only [go_sem, ↓reduceIte, reduceCtorEq, Nat.reduceEqDiff, Nat.reduceAdd, Nat.reduceMul, Nat.reduceSub, Nat.reduceLT, Nat.reduceLeDiff, Nat.reducePow, Int.reduceLT, Int.reduceLE, Int.reduceNeg, Int.reduceToNat, t0, t1, t2, t7, b7, t78, t79, t80, b0, d0, h6, h7]
        refine callK_intro (c119 l j) ?_
        simp (dsimp := false) (maxDischargeDepth := 16) only [go_sem, ↓reduceIte, reduceCtorEq, Nat.reduceEqDiff, Nat.reduceAdd, Nat.reduceMul, Nat.reduceSub, Nat.reduceLT, Nat.reduceLeDiff, Nat.reducePow, Int.reduceLT, Int.reduceLE, Int.reduceNeg, Int.reduceToNat, t0, t1, t2, t7, b7, t78, t79, t80, b0, d0, h6, h7]
        refine condK_intro (fun h8 => ?_) (fun h8 => ?_)
        · simp (dsimp := false) (maxDischargeDepth := 16) only [go_sem, ↓reduceIte, reduceCtorEq, Nat.reduceEqDiff, Nat.reduceAdd, Nat.reduceMul, Nat.reduceSub, Nat.reduceLT, Nat.reduceLeDiff, Nat.reducePow, Int.reduceLT, Int.reduceLE, Int.reduceNeg, Int.reduceToNat, t0, t1, t2, t7, b7, t78, t79, t80, b0, d0, h6, h7, h8]
          refine callK_intro (c78 l (by omega)) ?_
          simp (dsimp := false) (maxDischargeDepth := 16) only [go_sem, ↓reduceIte, reduceCtorEq, Nat.reduceEqDiff, Nat.reduceAdd, Nat.reduceMul, Nat.reduceSub, Nat.reduceLT, Nat.reduceLeDiff, Nat.reducePow, Int.reduceLT, Int.reduceLE, Int.reduceNeg, Int.reduceToNat, t0, t1, t2, t7, b7, t78, t79, t80, b0, d0, h6, h7, h8]
          refine ⟨⟨by omega, by omega⟩, ?_⟩
          have ih2 := ih (l ++ [(j : Int)]) (cur j) (by simp; omega) hc
          simp only [lv, lvT, iv, map1_app] at ih2
          refine ecallK_intro (pre := gcs a ++ gcs b) (x := olvT (cur j) (.own (0, γ, 0))) rfl ?_ ih2 ?_
          · simp (dsimp := false) (maxDischargeDepth := 16) only [go_sem, ↓reduceIte, reduceCtorEq, Nat.reduceEqDiff, Nat.reduceAdd, Nat.reduceMul, Nat.reduceSub, Nat.reduceLT, Nat.reduceLeDiff, Nat.reducePow, Int.reduceLT, Int.reduceLE, Int.reduceNeg, Int.reduceToNat, d0]
          · simp (dsimp := false) (maxDischargeDepth := 16) only [go_sem, ↓reduceIte, reduceCtorEq, Nat.reduceEqDiff, Nat.reduceAdd, Nat.reduceMul, Nat.reduceSub, Nat.reduceLT, Nat.reduceLeDiff, Nat.reducePow, Int.reduceLT, Int.reduceLE, Int.reduceNeg, Int.reduceToNat, t0, t1, t2, t7, b7, t78, t79, t80, b0, d0, h6, h7, h8]
            have hst : cur (j + 1) = ovE a b nodes k (l ++ [(j : Int)]) (cur j) := by
              rw [q1]
              have hj1 : ((j + 1 : Nat) : Int) - 1 = j := by omega
              have : st (cur j) (j + 1) = ovE a b nodes k (l ++ [((j + 1 : Nat) : Int) - 1]) (cur j) := if_pos (by rw [getD_at h3, okE_nat h6 r1 r2, h7, h8]; rfl)
              rw [this, hj1]
            refine ⟨j + 1, by omega, by omega, by rw [wrapN _ (by omega)], ?_, s.g 0, ?_, ?_⟩
            · rw [hst]; exact ovE_len _ _ _ _ _ _ hc
            · rw [hst]
            · simp
        · simp (dsimp := false) (maxDischargeDepth := 16) only [go_sem, ↓reduceIte, reduceCtorEq, Nat.reduceEqDiff, Nat.reduceAdd, Nat.reduceMul, Nat.reduceSub, Nat.reduceLT, Nat.reduceLeDiff, Nat.reducePow, Int.reduceLT, Int.reduceLE, Int.reduceNeg, Int.reduceToNat, t0, t1, t2, t7, b7, t78, t79, t80, b0, d0, h6, h7, h8]
          have hst : cur (j + 1) = cur j := by
            rw [q1]
            exact if_neg (by rw [getD_at h3, okE_nat h6 r1 r2, h7, h8]; simp)
          exact ⟨j + 1, by omega, by omega, by rw [wrapN _ (by omega)], by rw [hst]; exact hc, γ, by rw [hst], d0⟩
      · simp (dsimp := false) (maxDischargeDepth := 16) only [go_sem, ↓reduceIte, reduceCtorEq, Nat.reduceEqDiff, Nat.reduceAdd, Nat.reduceMul, Nat.reduceSub, Nat.reduceLT, Nat.reduceLeDiff, Nat.reducePow, Int.reduceLT, Int.reduceLE, Int.reduceNeg, Int.reduceToNat, t0, t1, t2, t7, b7, t78, t79, t80, b0, d0, h6, h7]
        have hst : cur (j + 1) = cur j := by
          rw [q1]
          exact if_neg (by rw [getD_at h3, okE_nat h6 r1 r2, h7]; simp)
        exact ⟨j + 1, by omega, by omega, by rw [wrapN _ (by omega)], by rw [hst]; exact hc, γ, by rw [hst], d0⟩
    · simp (dsimp := false) (maxDischargeDepth := 16) only [go_sem, ↓reduceIte, reduceCtorEq, Nat.reduceEqDiff, Nat.reduceAdd, Nat.reduceMul, Nat.reduceSub, Nat.reduceLT, Nat.reduceLeDiff, Nat.reducePow, Int.reduceLT, Int.reduceLE, Int.reduceNeg, Int.reduceToNat, t0, t1, t2, t7, b7, t78, t79, t80, b0, d0, h6]
      have hj1 : j = a.e.length := by omega
      subst hj1
      rw [q2]
      refine ⟨.inl trivial, _, rfl, ?_, rfl⟩
      simp (dsimp := false) (maxDischargeDepth := 16) only [go_sem, ↓reduceIte, reduceCtorEq, Nat.reduceEqDiff, Nat.reduceAdd, Nat.reduceMul, Nat.reduceSub, Nat.reduceLT, Nat.reduceLeDiff, Nat.reducePow, Int.reduceLT, Int.reduceLE, Int.reduceNeg, Int.reduceToNat, d0]
end Go.Sy
