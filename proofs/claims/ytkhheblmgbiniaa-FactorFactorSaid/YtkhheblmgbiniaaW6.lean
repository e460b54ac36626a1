/- Contracts: the reference's overlaps, by nodes. -/
import Derived.Test.YtkhheblmgbiniaaW5
set_option linter.unusedSimpArgs false
namespace Go.Sy
open Go Go.Proofs

def okN (a : Gr) (t : Int) (l : List Int) (n : Int) : Bool := decide (n < 0) || (!l.contains n && decide (a.n.getD n.toNat 0 = t))
theorem okN_at {a : Gr} {t : Int} {l : List Int} {n : Int} (h7 : ¬ n < 0) (h10 : n.toNat < a.n.length) : okN a t l n = (!l.contains n && a.n[n.toNat] == t) := by
  rw [okN, decide_eq_false h7, Bool.false_or, getD_at h10]
  rfl
/-- What 'nodes' appends: k nodes are left. -/
def ovN (a b : Gr) : Nat → List Int → List Ov → List Ov
  | 0, l, out => if out.length > 2000 then out else ovE a b l b.e.length [] out
  | k + 1, l, out => if out.length > 2000 then out else
    (List.range (a.n.length + 1)).foldl (fun out (j : Nat) => if okN a (b.n.getD l.length 0) l ((j : Int) - 1) then ovN a b k (l ++ [(j : Int) - 1]) out else out) out
theorem ovN_len (a b : Gr) : ∀ (k : Nat) (l : List Int) (out : List Ov), out.length ≤ 2001 → (ovN a b k l out).length ≤ 2001
  | 0, l, out, h => by
    rw [ovN]
    split
    · exact h
    · exact ovE_len _ _ _ _ _ _ h
  | k + 1, l, out, h => by
    rw [ovN]
    split
    · exact h
    · refine foldl_le (fun o x ho => ?_) _ _ h
      split
      · exact ovN_len a b k _ _ ho
      · exact ho
set_option maxRecDepth 20000 in
set_option maxHeartbeats 4000000 in
theorem c63 (a b : Gr) (ha : a.n.length ≤ 1000) (hae : a.e.length ≤ 1000) (hb : b.n.length ≤ 1000) (hbe : b.e.length ≤ 1000)
    (hR : ∀ x ∈ b.e, 0 ≤ x.2.1 ∧ x.2.1 < b.n.length ∧ 0 ≤ x.2.2 ∧ x.2.2 < b.n.length) :
    ∀ (k : Nat) (l : List Int) (out : List Ov), l.length + k = b.n.length → out.length ≤ 2001 →
      ECon Try.prog 63 [lv l] (gcs a ++ gcs b) (olvT out (.own (0, 0, 0))) .any (gcs a ++ gcs b) (olvT (ovN a b k l out) (.own (0, 0, 0)))
  | 0, l, out, hk, hout => by
    refine econT (X := []) (rs := []) Try.func63 (by kernel_rfl) rfl rfl (by kernel_rfl) ?_
    simp (dsimp := false) (maxDischargeDepth := 16) only [go_sem, ↓reduceIte, reduceCtorEq, Nat.reduceEqDiff, Nat.reduceAdd, Nat.reduceMul, Nat.reduceSub, Nat.reduceLT, Nat.reduceLeDiff, Nat.reducePow, Int.reduceLT, Int.reduceLE, Int.reduceNeg, Int.reduceToNat]
    refine condK_dec (fun h1 => ?_) (fun h1 => ?_)
    · simp (dsimp := false) (maxDischargeDepth := 16) only [go_sem, ↓reduceIte, reduceCtorEq, Nat.reduceEqDiff, Nat.reduceAdd, Nat.reduceMul, Nat.reduceSub, Nat.reduceLT, Nat.reduceLeDiff, Nat.reducePow, Int.reduceLT, Int.reduceLE, Int.reduceNeg, Int.reduceToNat, h1]
      refine ⟨.inl trivial, _, rfl, ?_, ?_⟩
      · simp (dsimp := false) (maxDischargeDepth := 16) only [go_sem, ↓reduceIte, reduceCtorEq, Nat.reduceEqDiff, Nat.reduceAdd, Nat.reduceMul, Nat.reduceSub, Nat.reduceLT, Nat.reduceLeDiff, Nat.reducePow, Int.reduceLT, Int.reduceLE, Int.reduceNeg, Int.reduceToNat]
      · simp (dsimp := false) (maxDischargeDepth := 16) only [go_sem, ↓reduceIte, reduceCtorEq, Nat.reduceEqDiff, Nat.reduceAdd, Nat.reduceMul, Nat.reduceSub, Nat.reduceLT, Nat.reduceLeDiff, Nat.reducePow, Int.reduceLT, Int.reduceLE, Int.reduceNeg, Int.reduceToNat]
        rw [ovN, if_pos (by omega)]
    simp (dsimp := false) (maxDischargeDepth := 16) only [go_sem, ↓reduceIte, reduceCtorEq, Nat.reduceEqDiff, Nat.reduceAdd, Nat.reduceMul, Nat.reduceSub, Nat.reduceLT, Nat.reduceLeDiff, Nat.reducePow, Int.reduceLT, Int.reduceLE, Int.reduceNeg, Int.reduceToNat, h1]
    refine condK_intro (fun h2 => ?_) (fun h2 => ?_)
    · simp (dsimp := false) (maxDischargeDepth := 16) only [go_sem, ↓reduceIte, reduceCtorEq, Nat.reduceEqDiff, Nat.reduceAdd, Nat.reduceMul, Nat.reduceSub, Nat.reduceLT, Nat.reduceLeDiff, Nat.reducePow, Int.reduceLT, Int.reduceLE, Int.reduceNeg, Int.reduceToNat, h1, h2]
      have h3 : l.length = b.n.length := by omega
      have ic := c120 a b l ha hae h3 hb hbe (by rw [h3]; exact hR) b.e.length [] out (by simp) hout
      simp only [lv, lvT, iv, List.map_nil] at ic
      refine ecallK_intro (pre := gcs a ++ gcs b) (x := olvT out (.own (0, 0, 0))) rfl ?_ ic ?_
      · simp (dsimp := false) (maxDischargeDepth := 16) only [go_sem, ↓reduceIte, reduceCtorEq, Nat.reduceEqDiff, Nat.reduceAdd, Nat.reduceMul, Nat.reduceSub, Nat.reduceLT, Nat.reduceLeDiff, Nat.reducePow, Int.reduceLT, Int.reduceLE, Int.reduceNeg, Int.reduceToNat]
      · simp (dsimp := false) (maxDischargeDepth := 16) only [go_sem, ↓reduceIte, reduceCtorEq, Nat.reduceEqDiff, Nat.reduceAdd, Nat.reduceMul, Nat.reduceSub, Nat.reduceLT, Nat.reduceLeDiff, Nat.reducePow, Int.reduceLT, Int.reduceLE, Int.reduceNeg, Int.reduceToNat, h1, h2]
        refine ⟨.inl trivial, _, rfl, ?_, ?_⟩
        · simp (dsimp := false) (maxDischargeDepth := 16) only [go_sem, ↓reduceIte, reduceCtorEq, Nat.reduceEqDiff, Nat.reduceAdd, Nat.reduceMul, Nat.reduceSub, Nat.reduceLT, Nat.reduceLeDiff, Nat.reducePow, Int.reduceLT, Int.reduceLE, Int.reduceNeg, Int.reduceToNat]
        · simp (dsimp := false) (maxDischargeDepth := 16) only [go_sem, ↓reduceIte, reduceCtorEq, Nat.reduceEqDiff, Nat.reduceAdd, Nat.reduceMul, Nat.reduceSub, Nat.reduceLT, Nat.reduceLeDiff, Nat.reducePow, Int.reduceLT, Int.reduceLE, Int.reduceNeg, Int.reduceToNat]
          rw [ovN, if_neg (by omega)]
    · exact absurd (beqF h2) (by simp; omega)
  | k + 1, l, out, hk, hout => by
    have ih := c63 a b ha hae hb hbe hR k
    refine econT (X := []) (rs := []) Try.func63 (by kernel_rfl) rfl rfl (by kernel_rfl) ?_
    simp (dsimp := false) (maxDischargeDepth := 16) only [go_sem, ↓reduceIte, reduceCtorEq, Nat.reduceEqDiff, Nat.reduceAdd, Nat.reduceMul, Nat.reduceSub, Nat.reduceLT, Nat.reduceLeDiff, Nat.reducePow, Int.reduceLT, Int.reduceLE, Int.reduceNeg, Int.reduceToNat]
    refine condK_dec (fun h1 => ?_) (fun h1 => ?_)
    · simp (dsimp := false) (maxDischargeDepth := 16) only [go_sem, ↓reduceIte, reduceCtorEq, Nat.reduceEqDiff, Nat.reduceAdd, Nat.reduceMul, Nat.reduceSub, Nat.reduceLT, Nat.reduceLeDiff, Nat.reducePow, Int.reduceLT, Int.reduceLE, Int.reduceNeg, Int.reduceToNat, h1]
      refine ⟨.inl trivial, _, rfl, ?_, ?_⟩
      · simp (dsimp := false) (maxDischargeDepth := 16) only [go_sem, ↓reduceIte, reduceCtorEq, Nat.reduceEqDiff, Nat.reduceAdd, Nat.reduceMul, Nat.reduceSub, Nat.reduceLT, Nat.reduceLeDiff, Nat.reducePow, Int.reduceLT, Int.reduceLE, Int.reduceNeg, Int.reduceToNat]
      · simp (dsimp := false) (maxDischargeDepth := 16) only [go_sem, ↓reduceIte, reduceCtorEq, Nat.reduceEqDiff, Nat.reduceAdd, Nat.reduceMul, Nat.reduceSub, Nat.reduceLT, Nat.reduceLeDiff, Nat.reducePow, Int.reduceLT, Int.reduceLE, Int.reduceNeg, Int.reduceToNat]
        rw [ovN, if_pos (by omega)]
    simp (dsimp := false) (maxDischargeDepth := 16) only [go_sem, ↓reduceIte, reduceCtorEq, Nat.reduceEqDiff, Nat.reduceAdd, Nat.reduceMul, Nat.reduceSub, Nat.reduceLT, Nat.reduceLeDiff, Nat.reducePow, Int.reduceLT, Int.reduceLE, Int.reduceNeg, Int.reduceToNat, h1]
    refine condK_intro (fun h2 => ?_) (fun h2 => ?_)
    · have := beqT h2
      omega
    have h3 : l.length < b.n.length := by omega
    simp (dsimp := false) (maxDischargeDepth := 16) only [go_sem, ↓reduceIte, reduceCtorEq, Nat.reduceEqDiff, Nat.reduceAdd, Nat.reduceMul, Nat.reduceSub, Nat.reduceLT, Nat.reduceLeDiff, Nat.reducePow, Int.reduceLT, Int.reduceLE, Int.reduceNeg, Int.reduceToNat, h1, h2]
    let st : List Ov → Nat → List Ov := fun out j => if okN a (b.n.getD l.length 0) l ((j : Int) - 1) then ovN a b k (l ++ [(j : Int) - 1]) out else out
    have hsp : ovN a b (k + 1) l out = (List.range (a.n.length + 1)).foldl st out := by rw [ovN, if_neg (by omega)]
    rw [hsp]
    generalize hF : (List.range (a.n.length + 1)).foldl st out = F
    refine loopK_intro (fun (j : Nat) s => j ≤ a.n.length + 1 ∧ s.t 0 = .box (0, 0, 0) 0 ∧ s.t 1 = lv l ∧ s.t 4 = iv l.length ∧ s.t 5 = iv ((j : Int) - 1) ∧
      ((List.range j).foldl st out).length ≤ 2001 ∧ ∃ γ, s.b (0, 0, 0) = some ⟨gcs a ++ gcs b ++ [olvT ((List.range j).foldl st out) (.own (0, γ, 0))], false⟩ ∧ s.d (0, γ, 0) = false) (fun j => a.n.length + 1 - j) ?_ ?_
    · refine ⟨0, by omega, rfl, rfl, rfl, rfl, hout, 0, rfl, ?_⟩
      simp (dsimp := false) (maxDischargeDepth := 16) only [go_sem, ↓reduceIte, reduceCtorEq, Nat.reduceEqDiff, Nat.reduceAdd, Nat.reduceMul, Nat.reduceSub, Nat.reduceLT, Nat.reduceLeDiff, Nat.reducePow, Int.reduceLT, Int.reduceLE, Int.reduceNeg, Int.reduceToNat]
    clear h1 h2
    rintro j s ⟨hj, t0, t1, t4, t5, hc, γ, b0, d0⟩
    simp (dsimp := false) (maxDischargeDepth := 16) only [go_sem, ↓reduceIte, reduceCtorEq, Nat.reduceEqDiff, Nat.reduceAdd, Nat.reduceMul, Nat.reduceSub, Nat.reduceLT, Nat.reduceLeDiff, Nat.reducePow, Int.reduceLT, Int.reduceLE, Int.reduceNeg, Int.reduceToNat, t0, t1, t4, t5, b0, d0]
    refine condK_dec (fun h6 => ?_) (fun h6 => ?_)
    · simp (dsimp := false) (maxDischargeDepth := 16) only [go_sem, ↓reduceIte, reduceCtorEq, Nat.reduceEqDiff, Nat.reduceAdd, Nat.reduceMul, Nat.reduceSub, Nat.reduceLT, Nat.reduceLeDiff, Nat.reducePow, Int.reduceLT, Int.reduceLE, Int.reduceNeg, Int.reduceToNat, t0, t1, t4, t5, b0, d0, h6]
      refine condK_dec (fun h7 => ?_) (fun h7 => ?_)
      · simp (dsimp := false) (maxDischargeDepth := 16) only [go_sem, ↓reduceIte, reduceCtorEq, Nat.reduceEqDiff, Nat.reduceAdd, Nat.reduceMul, Nat.reduceSub, Nat.reduceLT, Nat.reduceLeDiff, Nat.reducePow, Int.reduceLT, Int.reduceLE, Int.reduceNeg, Int.reduceToNat, t0, t1, t4, t5, b0, d0, h6, h7]
        refine ⟨⟨by omega, by omega⟩, ⟨by omega, by omega⟩, ?_⟩
        have ih2 := ih (l ++ [(j : Int) - 1]) ((List.range j).foldl st out) (by simp; omega) hc
        simp only [lv, lvT, iv, map1_app] at ih2
        refine ecallK_intro (pre := gcs a ++ gcs b) (x := olvT ((List.range j).foldl st out) (.own (0, γ, 0))) rfl ?_ ih2 ?_
        · simp (dsimp := false) (maxDischargeDepth := 16) only [go_sem, ↓reduceIte, reduceCtorEq, Nat.reduceEqDiff, Nat.reduceAdd, Nat.reduceMul, Nat.reduceSub, Nat.reduceLT, Nat.reduceLeDiff, Nat.reducePow, Int.reduceLT, Int.reduceLE, Int.reduceNeg, Int.reduceToNat, d0]
        · simp (dsimp := false) (maxDischargeDepth := 16) only [go_sem, ↓reduceIte, reduceCtorEq, Nat.reduceEqDiff, Nat.reduceAdd, Nat.reduceMul, Nat.reduceSub, Nat.reduceLT, Nat.reduceLeDiff, Nat.reducePow, Int.reduceLT, Int.reduceLE, Int.reduceNeg, Int.reduceToNat, t0, t1, t4, t5, b0, d0, h6, h7]
          have hst : (List.range (j + 1)).foldl st out = ovN a b k (l ++ [(j : Int) - 1]) ((List.range j).foldl st out) := by
            rw [range_fold]
            exact if_pos (by simp [okN, h7])
          refine ⟨j + 1, by omega, by omega, wrapJ j (by omega), ?_, s.g 0, ?_, ?_⟩
          · rw [hst]; exact ovN_len _ _ _ _ _ hc
          · rw [hst]
          · simp
      · simp (dsimp := false) (maxDischargeDepth := 16) only [go_sem, ↓reduceIte, reduceCtorEq, Nat.reduceEqDiff, Nat.reduceAdd, Nat.reduceMul, Nat.reduceSub, Nat.reduceLT, Nat.reduceLeDiff, Nat.reducePow, Int.reduceLT, Int.reduceLE, Int.reduceNeg, Int.reduceToNat, t0, t1, t4, t5, b0, d0, h6, h7]
        refine callK_intro (c93 l ((j : Int) - 1)) ?_
        simp (dsimp := false) (maxDischargeDepth := 16) only [go_sem, ↓reduceIte, reduceCtorEq, Nat.reduceEqDiff, Nat.reduceAdd, Nat.reduceMul, Nat.reduceSub, Nat.reduceLT, Nat.reduceLeDiff, Nat.reducePow, Int.reduceLT, Int.reduceLE, Int.reduceNeg, Int.reduceToNat, t0, t1, t4, t5, b0, d0, h6, h7]
        refine condK_intro (fun h8 => ?_) (fun h8 => ?_)
        · have h9 : (0 : Int) ≤ (j : Int) - 1 := by omega
          have h10 : ((j : Int) - 1).toNat < a.n.length := by omega
          simp (dsimp := false) (maxDischargeDepth := 16) only [go_sem, ↓reduceIte, reduceCtorEq, Nat.reduceEqDiff, Nat.reduceAdd, Nat.reduceMul, Nat.reduceSub, Nat.reduceLT, Nat.reduceLeDiff, Nat.reducePow, Int.reduceLT, Int.reduceLE, Int.reduceNeg, Int.reduceToNat, t0, t1, t4, t5, b0, d0, h6, h7, h8, idx_int, idx_nat, h9, h10, h3]
          refine condK_intro (fun h11 => ?_) (fun h11 => ?_)
          · simp (dsimp := false) (maxDischargeDepth := 16) only [go_sem, ↓reduceIte, reduceCtorEq, Nat.reduceEqDiff, Nat.reduceAdd, Nat.reduceMul, Nat.reduceSub, Nat.reduceLT, Nat.reduceLeDiff, Nat.reducePow, Int.reduceLT, Int.reduceLE, Int.reduceNeg, Int.reduceToNat, t0, t1, t4, t5, b0, d0, h6, h7, h8, h11]
            refine ⟨⟨by omega, by omega⟩, ⟨by omega, by omega⟩, ?_⟩
            have ih2 := ih (l ++ [(j : Int) - 1]) ((List.range j).foldl st out) (by simp; omega) hc
            simp only [lv, lvT, iv, map1_app] at ih2
            refine ecallK_intro (pre := gcs a ++ gcs b) (x := olvT ((List.range j).foldl st out) (.own (0, γ, 0))) rfl ?_ ih2 ?_
            · simp (dsimp := false) (maxDischargeDepth := 16) only [go_sem, ↓reduceIte, reduceCtorEq, Nat.reduceEqDiff, Nat.reduceAdd, Nat.reduceMul, Nat.reduceSub, Nat.reduceLT, Nat.reduceLeDiff, Nat.reducePow, Int.reduceLT, Int.reduceLE, Int.reduceNeg, Int.reduceToNat, d0]
            · simp (dsimp := false) (maxDischargeDepth := 16) only [go_sem, ↓reduceIte, reduceCtorEq, Nat.reduceEqDiff, Nat.reduceAdd, Nat.reduceMul, Nat.reduceSub, Nat.reduceLT, Nat.reduceLeDiff, Nat.reducePow, Int.reduceLT, Int.reduceLE, Int.reduceNeg, Int.reduceToNat, t0, t1, t4, t5, b0, d0, h6, h7, h8, h11]
              have hst : (List.range (j + 1)).foldl st out = ovN a b k (l ++ [(j : Int) - 1]) ((List.range j).foldl st out) := by
                rw [range_fold]
                exact if_pos (by rw [getD_at h3, okN_at h7 h10, h8, h11]; rfl)
              refine ⟨j + 1, by omega, by omega, wrapJ j (by omega), ?_, s.g 0, ?_, ?_⟩
              · rw [hst]; exact ovN_len _ _ _ _ _ hc
              · rw [hst]
              · simp
          · simp (dsimp := false) (maxDischargeDepth := 16) only [go_sem, ↓reduceIte, reduceCtorEq, Nat.reduceEqDiff, Nat.reduceAdd, Nat.reduceMul, Nat.reduceSub, Nat.reduceLT, Nat.reduceLeDiff, Nat.reducePow, Int.reduceLT, Int.reduceLE, Int.reduceNeg, Int.reduceToNat, t0, t1, t4, t5, b0, d0, h6, h7, h8, h11]
            have hst : (List.range (j + 1)).foldl st out = (List.range j).foldl st out := by
              rw [range_fold]
              exact if_neg (by rw [getD_at h3, okN_at h7 h10, h8, h11]; simp)
            exact ⟨j + 1, by omega, by omega, wrapJ j (by omega), by rw [hst]; exact hc, γ, by rw [hst], d0⟩
        · simp (dsimp := false) (maxDischargeDepth := 16) only [go_sem, ↓reduceIte, reduceCtorEq, Nat.reduceEqDiff, Nat.reduceAdd, Nat.reduceMul, Nat.reduceSub, Nat.reduceLT, Nat.reduceLeDiff, Nat.reducePow, Int.reduceLT, Int.reduceLE, Int.reduceNeg, Int.reduceToNat, t0, t1, t4, t5, b0, d0, h6, h7, h8]
          have hst : (List.range (j + 1)).foldl st out = (List.range j).foldl st out := by
            rw [range_fold]
            exact if_neg (by simp at h8; simp [okN, h7, h8])
          exact ⟨j + 1, by omega, by omega, wrapJ j (by omega), by rw [hst]; exact hc, γ, by rw [hst], d0⟩
    · simp (dsimp := false) (maxDischargeDepth := 16) only [go_sem, ↓reduceIte, reduceCtorEq, Nat.reduceEqDiff, Nat.reduceAdd, Nat.reduceMul, Nat.reduceSub, Nat.reduceLT, Nat.reduceLeDiff, Nat.reducePow, Int.reduceLT, Int.reduceLE, Int.reduceNeg, Int.reduceToNat, t0, t1, t4, t5, b0, d0, h6]
      have hj1 : j = a.n.length + 1 := by omega
      subst hj1
      rw [hF]
      refine ⟨.inl trivial, _, rfl, ?_, rfl⟩
      simp (dsimp := false) (maxDischargeDepth := 16) only [go_sem, ↓reduceIte, reduceCtorEq, Nat.reduceEqDiff, Nat.reduceAdd, Nat.reduceMul, Nat.reduceSub, Nat.reduceLT, Nat.reduceLeDiff, Nat.reducePow, Int.reduceLT, Int.reduceLE, Int.reduceNeg, Int.reduceToNat, d0]
end Go.Sy
