/- Contracts: the reference's overlaps. -/
import Derived.Test.YtkhheblmgbiniaaW4
set_option linter.unusedSimpArgs false
namespace Go.Sy
open Go Go.Proofs

theorem c93 (l : List Int) (n : Int) : Con Try.prog 93 [lv l, iv n] 0 (bv (l.contains n)) := by
  refine Con.assume (enters_of Try.func93 (by kernel_rfl) rfl) fun hb => ?_
  have hlen := bnd_lv (hb _ (List.mem_cons_self ..))
  refine conT (X := []) (rs := [.tmp 4]) Try.func93 (by kernel_rfl) rfl rfl (by kernel_rfl) ?_
  simp (dsimp := false) (maxDischargeDepth := 16) only [go_sem, ↓reduceIte, reduceCtorEq, Nat.reduceEqDiff, Nat.reduceAdd, Nat.reduceMul, Nat.reduceSub, Nat.reduceLT, Nat.reduceLeDiff, Nat.reducePow, Int.reduceLT, Int.reduceLE, Int.reduceNeg, Int.reduceToNat]
  refine loopK_intro (fun (i : Nat) s => i ≤ l.length ∧ s.t 0 = lv l ∧ s.t 1 = iv n ∧ s.t 5 = iv i ∧ ∀ x ∈ l.take i, x ≠ n) (fun i => l.length - i) ⟨0, by omega, rfl, rfl, rfl, fun j hj => by simp at hj⟩ ?_
  rintro i s ⟨hi, h0, h1, h5, hn⟩
  simp (dsimp := false) (maxDischargeDepth := 16) only [go_sem, ↓reduceIte, reduceCtorEq, Nat.reduceEqDiff, Nat.reduceAdd, Nat.reduceMul, Nat.reduceSub, Nat.reduceLT, Nat.reduceLeDiff, Nat.reducePow, Int.reduceLT, Int.reduceLE, Int.reduceNeg, Int.reduceToNat, h0, h1, h5]
  refine condK_dec (fun h6 => ?_) (fun h6 => ?_)
  · simp (dsimp := false) (maxDischargeDepth := 16) only [go_sem, ↓reduceIte, reduceCtorEq, Nat.reduceEqDiff, Nat.reduceAdd, Nat.reduceMul, Nat.reduceSub, Nat.reduceLT, Nat.reduceLeDiff, Nat.reducePow, Int.reduceLT, Int.reduceLE, Int.reduceNeg, Int.reduceToNat, h0, h1, h5, h6, idx_nat]
    refine condK_intro (fun h7 => ?_) (fun h7 => ?_)
    · simp (dsimp := false) (maxDischargeDepth := 16) only [go_sem, ↓reduceIte, reduceCtorEq, Nat.reduceEqDiff, Nat.reduceAdd, Nat.reduceMul, Nat.reduceSub, Nat.reduceLT, Nat.reduceLeDiff, Nat.reducePow, Int.reduceLT, Int.reduceLE, Int.reduceNeg, Int.reduceToNat, h0, h1, h5, h6, h7]
      refine finB ?_
      rw [List.contains_iff_mem]
      have := List.getElem_mem h6
      rwa [beqT h7] at this
    · simp (dsimp := false) (maxDischargeDepth := 16) only [go_sem, ↓reduceIte, reduceCtorEq, Nat.reduceEqDiff, Nat.reduceAdd, Nat.reduceMul, Nat.reduceSub, Nat.reduceLT, Nat.reduceLeDiff, Nat.reducePow, Int.reduceLT, Int.reduceLE, Int.reduceNeg, Int.reduceToNat, h0, h1, h5, h6, h7]
      exact ⟨i + 1, by omega, by omega, by rw [wrapN _ (by omega)], take_all h6 hn (beqF h7)⟩
  · simp (dsimp := false) (maxDischargeDepth := 16) only [go_sem, ↓reduceIte, reduceCtorEq, Nat.reduceEqDiff, Nat.reduceAdd, Nat.reduceMul, Nat.reduceSub, Nat.reduceLT, Nat.reduceLeDiff, Nat.reducePow, Int.reduceLT, Int.reduceLE, Int.reduceNeg, Int.reduceToNat, h0, h1, h5, h6]
    refine finB ?_
    rw [← Bool.not_eq_true, List.contains_iff_mem]
    intro hm
    exact take_full h6 hn _ hm rfl
def olvT (l : List Ov) (tk : Tok) : AV := .list 6 (l.map ocs) tk
theorem lastOK_own {s : St} (sz : Nat) (xs : List (List AV)) (k : Key) : lastOK s (.list sz xs (.own k)) = !s.d k := rfl
theorem lastOK_nil {s : St} (sz : Nat) (xs : List (List AV)) : lastOK s (.list sz xs .nil) = true := rfl
theorem canonX_own (sz : Nat) (xs : List (List AV)) (k : Key) : canonX (.list sz xs (.own k)) = .list sz xs (.own (0, 0, 0)) := rfl
theorem canonX_nil (sz : Nat) (xs : List (List AV)) : canonX (.list sz xs .nil) = .list sz xs (.own (0, 0, 0)) := rfl
theorem lastKey_own (sz : Nat) (xs : List (List AV)) (k : Key) : lastKey (.list sz xs (.own k)) = some k := rfl
theorem lastKey_nil (sz : Nat) (xs : List (List AV)) : lastKey (.list sz xs .nil) = none := rfl
attribute [go_sem] olvT lastOK_own lastOK_nil canonX_own canonX_nil lastKey_own lastKey_nil
def okE (a : Gr) (nodes l : List Int) (e : Ed) (n : Int) : Bool := decide (n < 0) || (!l.contains n && decide (a.e.getD n.toNat (0, 0, 0) = (e.1, nodes.getD e.2.1.toNat 0, nodes.getD e.2.2.toNat 0)))
/-- What 'edges' appends: k edges are left. -/
def ovE (a b : Gr) (nodes : List Int) : Nat → List Int → List Ov → List Ov
  | 0, l, out => if out.length > 2000 then out else out ++ [glue a b nodes l]
  | k + 1, l, out => if out.length > 2000 then out else
    (List.range (a.e.length + 1)).foldl (fun out (j : Nat) => if okE a nodes l (b.e.getD l.length (0, 0, 0)) ((j : Int) - 1) then ovE a b nodes k (l ++ [(j : Int) - 1]) out else out) out

theorem okE_at {a : Gr} {nodes l : List Int} {e : Ed} {n : Int} (h7 : ¬ n < 0) (h10 : n.toNat < a.e.length) (r1 : e.2.1.toNat < nodes.length) (r2 : e.2.2.toNat < nodes.length) :
    okE a nodes l e n = (!l.contains n && (a.e[n.toNat].1 == e.1 && (a.e[n.toNat].2.1 == nodes[e.2.1.toNat] && a.e[n.toNat].2.2 == nodes[e.2.2.toNat]))) := by
  have e0 : a.e.getD n.toNat (0, 0, 0) = a.e[n.toNat] := by simp [h10]
  have e1 : nodes.getD e.2.1.toNat 0 = nodes[e.2.1.toNat] := by simp [r1]
  have e2 : nodes.getD e.2.2.toNat 0 = nodes[e.2.2.toNat] := by simp [r2]
  rw [okE, decide_eq_false h7, Bool.false_or, e0, e1, e2]
  congr 1
  rw [Bool.eq_iff_iff]
  simp [Prod.ext_iff]
theorem getD_at {α : Type} {l : List α} {i : Nat} {d : α} (h : i < l.length) : l.getD i d = l[i] := by simp [h]

theorem foldl_le {α β : Type} {f : List α → β → List α} {m : Nat} (h : ∀ o x, o.length ≤ m → (f o x).length ≤ m) : ∀ (l : List β) (o : List α), o.length ≤ m → (l.foldl f o).length ≤ m
  | [], _, ho => ho
  | x :: l, o, ho => foldl_le h l _ (h o x ho)
theorem ovE_len (a b : Gr) (nodes : List Int) : ∀ (k : Nat) (l : List Int) (out : List Ov), out.length ≤ 2001 → (ovE a b nodes k l out).length ≤ 2001
  | 0, l, out, h => by
    rw [ovE]
    split
    · exact h
    · simp; omega
  | k + 1, l, out, h => by
    rw [ovE]
    split
    · exact h
    · refine foldl_le (fun o x ho => ?_) _ _ h
      split
      · exact ovE_len a b nodes k _ _ ho
      · exact ho
theorem range_fold {α : Type} (f : α → Nat → α) (o : α) (j : Nat) : (List.range (j + 1)).foldl f o = f ((List.range j).foldl f o) j := by
  rw [List.range_succ, List.foldl_append]
  rfl
theorem wrapJ (j : Nat) (h : j ≤ 1000000) : AV.v (.int .i64 (IntKind.i64.wrap ((j : Int) - 1 + 1))) = AV.v (.int .i64 (((j + 1 : Nat) : Int) - 1)) := by
  rw [wrap_i64 _ (by omega) (by omega)]
  congr 2
  omega
set_option maxRecDepth 20000 in
set_option maxHeartbeats 4000000 in
theorem c120 (a b : Gr) (nodes : List Int) (ha : a.n.length ≤ 1000) (hae : a.e.length ≤ 1000) (hn : nodes.length = b.n.length) (hb : b.n.length ≤ 1000) (hbe : b.e.length ≤ 1000)
    (hR : ∀ x ∈ b.e, 0 ≤ x.2.1 ∧ x.2.1 < nodes.length ∧ 0 ≤ x.2.2 ∧ x.2.2 < nodes.length) :
    ∀ (k : Nat) (l : List Int) (out : List Ov), l.length + k = b.e.length → out.length ≤ 2001 →
      ECon Try.prog 120 [lv nodes, lv l] (gcs a ++ gcs b) (olvT out (.own (0, 0, 0))) .any (gcs a ++ gcs b) (olvT (ovE a b nodes k l out) (.own (0, 0, 0)))
  | 0, l, out, hk, hout => by
    refine econT (X := []) (rs := []) Try.func120 (by kernel_rfl) rfl rfl (by kernel_rfl) ?_
    simp (dsimp := false) (maxDischargeDepth := 16) only [go_sem, ↓reduceIte, reduceCtorEq, Nat.reduceEqDiff, Nat.reduceAdd, Nat.reduceMul, Nat.reduceSub, Nat.reduceLT, Nat.reduceLeDiff, Nat.reducePow, Int.reduceLT, Int.reduceLE, Int.reduceNeg, Int.reduceToNat]
    refine condK_dec (fun h1 => ?_) (fun h1 => ?_)
    · simp (dsimp := false) (maxDischargeDepth := 16) only [go_sem, ↓reduceIte, reduceCtorEq, Nat.reduceEqDiff, Nat.reduceAdd, Nat.reduceMul, Nat.reduceSub, Nat.reduceLT, Nat.reduceLeDiff, Nat.reducePow, Int.reduceLT, Int.reduceLE, Int.reduceNeg, Int.reduceToNat, h1]
      refine ⟨.inl trivial, _, rfl, ?_, ?_⟩
      · simp (dsimp := false) (maxDischargeDepth := 16) only [go_sem, ↓reduceIte, reduceCtorEq, Nat.reduceEqDiff, Nat.reduceAdd, Nat.reduceMul, Nat.reduceSub, Nat.reduceLT, Nat.reduceLeDiff, Nat.reducePow, Int.reduceLT, Int.reduceLE, Int.reduceNeg, Int.reduceToNat]
      · simp (dsimp := false) (maxDischargeDepth := 16) only [go_sem, ↓reduceIte, reduceCtorEq, Nat.reduceEqDiff, Nat.reduceAdd, Nat.reduceMul, Nat.reduceSub, Nat.reduceLT, Nat.reduceLeDiff, Nat.reducePow, Int.reduceLT, Int.reduceLE, Int.reduceNeg, Int.reduceToNat]
        rw [ovE, if_pos (by omega)]
    simp (dsimp := false) (maxDischargeDepth := 16) only [go_sem, ↓reduceIte, reduceCtorEq, Nat.reduceEqDiff, Nat.reduceAdd, Nat.reduceMul, Nat.reduceSub, Nat.reduceLT, Nat.reduceLeDiff, Nat.reducePow, Int.reduceLT, Int.reduceLE, Int.reduceNeg, Int.reduceToNat, h1]
    refine condK_intro (fun h2 => ?_) (fun h2 => ?_)
    · simp (dsimp := false) (maxDischargeDepth := 16) only [go_sem, ↓reduceIte, reduceCtorEq, Nat.reduceEqDiff, Nat.reduceAdd, Nat.reduceMul, Nat.reduceSub, Nat.reduceLT, Nat.reduceLeDiff, Nat.reducePow, Int.reduceLT, Int.reduceLE, Int.reduceNeg, Int.reduceToNat, h1, h2]
      have h3 : l.length = b.e.length := by omega
      refine callK_intro (c80 a b nodes l ha hae (by omega) (by omega) hb hbe hR) ?_
      simp (dsimp := false) (maxDischargeDepth := 16) only [go_sem, ↓reduceIte, reduceCtorEq, Nat.reduceEqDiff, Nat.reduceAdd, Nat.reduceMul, Nat.reduceSub, Nat.reduceLT, Nat.reduceLeDiff, Nat.reducePow, Int.reduceLT, Int.reduceLE, Int.reduceNeg, Int.reduceToNat, h1, h2]
      refine ⟨⟨by omega, by omega⟩, .inl trivial, _, rfl, ?_, ?_⟩
      · simp (dsimp := false) (maxDischargeDepth := 16) only [go_sem, ↓reduceIte, reduceCtorEq, Nat.reduceEqDiff, Nat.reduceAdd, Nat.reduceMul, Nat.reduceSub, Nat.reduceLT, Nat.reduceLeDiff, Nat.reducePow, Int.reduceLT, Int.reduceLE, Int.reduceNeg, Int.reduceToNat]
      · simp (dsimp := false) (maxDischargeDepth := 16) only [go_sem, ↓reduceIte, reduceCtorEq, Nat.reduceEqDiff, Nat.reduceAdd, Nat.reduceMul, Nat.reduceSub, Nat.reduceLT, Nat.reduceLeDiff, Nat.reducePow, Int.reduceLT, Int.reduceLE, Int.reduceNeg, Int.reduceToNat]
        rw [ovE, if_neg (by omega), List.map_append]
        rfl
    · exact absurd (beqF h2) (by simp; omega)
  | k + 1, l, out, hk, hout => by
    have ih := c120 a b nodes ha hae hn hb hbe hR k
    refine econT (X := []) (rs := []) Try.func120 (by kernel_rfl) rfl rfl (by kernel_rfl) ?_
    simp (dsimp := false) (maxDischargeDepth := 16) only [go_sem, ↓reduceIte, reduceCtorEq, Nat.reduceEqDiff, Nat.reduceAdd, Nat.reduceMul, Nat.reduceSub, Nat.reduceLT, Nat.reduceLeDiff, Nat.reducePow, Int.reduceLT, Int.reduceLE, Int.reduceNeg, Int.reduceToNat]
    refine condK_dec (fun h1 => ?_) (fun h1 => ?_)
    · simp (dsimp := false) (maxDischargeDepth := 16) only [go_sem, ↓reduceIte, reduceCtorEq, Nat.reduceEqDiff, Nat.reduceAdd, Nat.reduceMul, Nat.reduceSub, Nat.reduceLT, Nat.reduceLeDiff, Nat.reducePow, Int.reduceLT, Int.reduceLE, Int.reduceNeg, Int.reduceToNat, h1]
      refine ⟨.inl trivial, _, rfl, ?_, ?_⟩
      · simp (dsimp := false) (maxDischargeDepth := 16) only [go_sem, ↓reduceIte, reduceCtorEq, Nat.reduceEqDiff, Nat.reduceAdd, Nat.reduceMul, Nat.reduceSub, Nat.reduceLT, Nat.reduceLeDiff, Nat.reducePow, Int.reduceLT, Int.reduceLE, Int.reduceNeg, Int.reduceToNat]
      · simp (dsimp := false) (maxDischargeDepth := 16) only [go_sem, ↓reduceIte, reduceCtorEq, Nat.reduceEqDiff, Nat.reduceAdd, Nat.reduceMul, Nat.reduceSub, Nat.reduceLT, Nat.reduceLeDiff, Nat.reducePow, Int.reduceLT, Int.reduceLE, Int.reduceNeg, Int.reduceToNat]
        rw [ovE, if_pos (by omega)]
    simp (dsimp := false) (maxDischargeDepth := 16) only [go_sem, ↓reduceIte, reduceCtorEq, Nat.reduceEqDiff, Nat.reduceAdd, Nat.reduceMul, Nat.reduceSub, Nat.reduceLT, Nat.reduceLeDiff, Nat.reducePow, Int.reduceLT, Int.reduceLE, Int.reduceNeg, Int.reduceToNat, h1]
    refine condK_intro (fun h2 => ?_) (fun h2 => ?_)
    · have := beqT h2
      omega
    have h3 : l.length < b.e.length := by omega
    simp (dsimp := false) (maxDischargeDepth := 16) only [go_sem, ↓reduceIte, reduceCtorEq, Nat.reduceEqDiff, Nat.reduceAdd, Nat.reduceMul, Nat.reduceSub, Nat.reduceLT, Nat.reduceLeDiff, Nat.reducePow, Int.reduceLT, Int.reduceLE, Int.reduceNeg, Int.reduceToNat, h1, h2, idx_nat, h3]
    let st : List Ov → Nat → List Ov := fun out j => if okE a nodes l (b.e.getD l.length (0, 0, 0)) ((j : Int) - 1) then ovE a b nodes k (l ++ [(j : Int) - 1]) out else out
    have hsp : ovE a b nodes (k + 1) l out = (List.range (a.e.length + 1)).foldl st out := by rw [ovE, if_neg (by omega)]
    rw [hsp]
    generalize hF : (List.range (a.e.length + 1)).foldl st out = F
    refine loopK_intro (fun (j : Nat) s => j ≤ a.e.length + 1 ∧ s.t 0 = .box (0, 0, 0) 0 ∧ s.t 1 = lv nodes ∧ s.t 2 = lv l ∧ s.t 7 = .box (7, 0, 0) 0 ∧ s.b (7, 0, 0) = some ⟨ecs b.e[l.length], false⟩ ∧ s.t 8 = iv ((j : Int) - 1) ∧
      ((List.range j).foldl st out).length ≤ 2001 ∧ ∃ γ, s.b (0, 0, 0) = some ⟨gcs a ++ gcs b ++ [olvT ((List.range j).foldl st out) (.own (0, γ, 0))], false⟩ ∧ s.d (0, γ, 0) = false) (fun j => a.e.length + 1 - j) ?_ ?_
    · refine ⟨0, by omega, rfl, rfl, rfl, rfl, rfl, rfl, hout, 0, rfl, ?_⟩
      simp (dsimp := false) (maxDischargeDepth := 16) only [go_sem, ↓reduceIte, reduceCtorEq, Nat.reduceEqDiff, Nat.reduceAdd, Nat.reduceMul, Nat.reduceSub, Nat.reduceLT, Nat.reduceLeDiff, Nat.reducePow, Int.reduceLT, Int.reduceLE, Int.reduceNeg, Int.reduceToNat]
    clear h1 h2
    rintro j s ⟨hj, t0, t1, t2, t7, b7, t8, hc, γ, b0, d0⟩
    simp (dsimp := false) (maxDischargeDepth := 16) only [go_sem, ↓reduceIte, reduceCtorEq, Nat.reduceEqDiff, Nat.reduceAdd, Nat.reduceMul, Nat.reduceSub, Nat.reduceLT, Nat.reduceLeDiff, Nat.reducePow, Int.reduceLT, Int.reduceLE, Int.reduceNeg, Int.reduceToNat, t0, t1, t2, t7, b7, t8, b0, d0]
    refine condK_dec (fun h6 => ?_) (fun h6 => ?_)
    · simp (dsimp := false) (maxDischargeDepth := 16) only [go_sem, ↓reduceIte, reduceCtorEq, Nat.reduceEqDiff, Nat.reduceAdd, Nat.reduceMul, Nat.reduceSub, Nat.reduceLT, Nat.reduceLeDiff, Nat.reducePow, Int.reduceLT, Int.reduceLE, Int.reduceNeg, Int.reduceToNat, t0, t1, t2, t7, b7, t8, b0, d0, h6]
      refine condK_dec (fun h7 => ?_) (fun h7 => ?_)
      · simp (dsimp := false) (maxDischargeDepth := 16) only [go_sem, ↓reduceIte, reduceCtorEq, Nat.reduceEqDiff, Nat.reduceAdd, Nat.reduceMul, Nat.reduceSub, Nat.reduceLT, Nat.reduceLeDiff, Nat.reducePow, Int.reduceLT, Int.reduceLE, Int.reduceNeg, Int.reduceToNat, t0, t1, t2, t7, b7, t8, b0, d0, h6, h7]
        refine ⟨⟨by omega, by omega⟩, ⟨by omega, by omega⟩, ?_⟩
        have ih2 := ih (l ++ [(j : Int) - 1]) ((List.range j).foldl st out) (by simp; omega) hc
        simp only [lv, lvT, iv, map1_app] at ih2
        refine ecallK_intro (pre := gcs a ++ gcs b) (x := olvT ((List.range j).foldl st out) (.own (0, γ, 0))) rfl ?_ ih2 ?_
        · simp (dsimp := false) (maxDischargeDepth := 16) only [go_sem, ↓reduceIte, reduceCtorEq, Nat.reduceEqDiff, Nat.reduceAdd, Nat.reduceMul, Nat.reduceSub, Nat.reduceLT, Nat.reduceLeDiff, Nat.reducePow, Int.reduceLT, Int.reduceLE, Int.reduceNeg, Int.reduceToNat, d0]
        · simp (dsimp := false) (maxDischargeDepth := 16) only [go_sem, ↓reduceIte, reduceCtorEq, Nat.reduceEqDiff, Nat.reduceAdd, Nat.reduceMul, Nat.reduceSub, Nat.reduceLT, Nat.reduceLeDiff, Nat.reducePow, Int.reduceLT, Int.reduceLE, Int.reduceNeg, Int.reduceToNat, t0, t1, t2, t7, b7, t8, b0, d0, h6, h7]
          have hst : (List.range (j + 1)).foldl st out = ovE a b nodes k (l ++ [(j : Int) - 1]) ((List.range j).foldl st out) := by
            rw [range_fold]
            exact if_pos (by simp [okE, h7])
          refine ⟨j + 1, by omega, by omega, wrapJ j (by omega), ?_, s.g 0, ?_, ?_⟩
          · rw [hst]; exact ovE_len _ _ _ _ _ _ hc
          · rw [hst]
          · simp
      · simp (dsimp := false) (maxDischargeDepth := 16) only [go_sem, ↓reduceIte, reduceCtorEq, Nat.reduceEqDiff, Nat.reduceAdd, Nat.reduceMul, Nat.reduceSub, Nat.reduceLT, Nat.reduceLeDiff, Nat.reducePow, Int.reduceLT, Int.reduceLE, Int.reduceNeg, Int.reduceToNat, t0, t1, t2, t7, b7, t8, b0, d0, h6, h7]
        refine callK_intro (c93 l ((j : Int) - 1)) ?_
        simp (dsimp := false) (maxDischargeDepth := 16) only [go_sem, ↓reduceIte, reduceCtorEq, Nat.reduceEqDiff, Nat.reduceAdd, Nat.reduceMul, Nat.reduceSub, Nat.reduceLT, Nat.reduceLeDiff, Nat.reducePow, Int.reduceLT, Int.reduceLE, Int.reduceNeg, Int.reduceToNat, t0, t1, t2, t7, b7, t8, b0, d0, h6, h7]
        refine condK_intro (fun h8 => ?_) (fun h8 => ?_)
        · have hx := hR _ (List.getElem_mem h3)
          have r1 : b.e[l.length].2.1.toNat < nodes.length := by omega
          have r2 : b.e[l.length].2.2.toNat < nodes.length := by omega
          have r3 := hx.1
          have r4 := hx.2.2.1
          have h9 : (0 : Int) ≤ (j : Int) - 1 := by omega
          have h10 : ((j : Int) - 1).toNat < a.e.length := by omega
          simp (dsimp := false) (maxDischargeDepth := 16) only [go_sem, ↓reduceIte, reduceCtorEq, Nat.reduceEqDiff, Nat.reduceAdd, Nat.reduceMul, Nat.reduceSub, Nat.reduceLT, Nat.reduceLeDiff, Nat.reducePow, Int.reduceLT, Int.reduceLE, Int.reduceNeg, Int.reduceToNat, t0, t1, t2, t7, b7, t8, b0, d0, h6, h7, h8, idx_int, h9, h10, r1, r2, r3, r4]
          refine condK_intro (fun h11 => ?_) (fun h11 => ?_)
          · simp (dsimp := false) (maxDischargeDepth := 16) only [go_sem, ↓reduceIte, reduceCtorEq, Nat.reduceEqDiff, Nat.reduceAdd, Nat.reduceMul, Nat.reduceSub, Nat.reduceLT, Nat.reduceLeDiff, Nat.reducePow, Int.reduceLT, Int.reduceLE, Int.reduceNeg, Int.reduceToNat, t0, t1, t2, t7, b7, t8, b0, d0, h6, h7, h8, h11]
            refine ⟨⟨by omega, by omega⟩, ⟨by omega, by omega⟩, ?_⟩
            have ih2 := ih (l ++ [(j : Int) - 1]) ((List.range j).foldl st out) (by simp; omega) hc
            simp only [lv, lvT, iv, map1_app] at ih2
            refine ecallK_intro (pre := gcs a ++ gcs b) (x := olvT ((List.range j).foldl st out) (.own (0, γ, 0))) rfl ?_ ih2 ?_
            · simp (dsimp := false) (maxDischargeDepth := 16) only [go_sem, ↓reduceIte, reduceCtorEq, Nat.reduceEqDiff, Nat.reduceAdd, Nat.reduceMul, Nat.reduceSub, Nat.reduceLT, Nat.reduceLeDiff, Nat.reducePow, Int.reduceLT, Int.reduceLE, Int.reduceNeg, Int.reduceToNat, d0]
            · simp (dsimp := false) (maxDischargeDepth := 16) only [go_sem, ↓reduceIte, reduceCtorEq, Nat.reduceEqDiff, Nat.reduceAdd, Nat.reduceMul, Nat.reduceSub, Nat.reduceLT, Nat.reduceLeDiff, Nat.reducePow, Int.reduceLT, Int.reduceLE, Int.reduceNeg, Int.reduceToNat, t0, t1, t2, t7, b7, t8, b0, d0, h6, h7, h8, h11]
              have hst : (List.range (j + 1)).foldl st out = ovE a b nodes k (l ++ [(j : Int) - 1]) ((List.range j).foldl st out) := by
                rw [range_fold]
                exact if_pos (by rw [getD_at h3, okE_at h7 h10 r1 r2, h8, h11]; rfl)
              refine ⟨j + 1, by omega, by omega, wrapJ j (by omega), ?_, s.g 0, ?_, ?_⟩
              · rw [hst]; exact ovE_len _ _ _ _ _ _ hc
              · rw [hst]
              · simp
          · simp (dsimp := false) (maxDischargeDepth := 16) only [go_sem, ↓reduceIte, reduceCtorEq, Nat.reduceEqDiff, Nat.reduceAdd, Nat.reduceMul, Nat.reduceSub, Nat.reduceLT, Nat.reduceLeDiff, Nat.reducePow, Int.reduceLT, Int.reduceLE, Int.reduceNeg, Int.reduceToNat, t0, t1, t2, t7, b7, t8, b0, d0, h6, h7, h8, h11]
            have hst : (List.range (j + 1)).foldl st out = (List.range j).foldl st out := by
              rw [range_fold]
              exact if_neg (by rw [getD_at h3, okE_at h7 h10 r1 r2, h8, h11]; simp)
            exact ⟨j + 1, by omega, by omega, wrapJ j (by omega), by rw [hst]; exact hc, γ, by rw [hst], d0⟩
        · simp (dsimp := false) (maxDischargeDepth := 16) only [go_sem, ↓reduceIte, reduceCtorEq, Nat.reduceEqDiff, Nat.reduceAdd, Nat.reduceMul, Nat.reduceSub, Nat.reduceLT, Nat.reduceLeDiff, Nat.reducePow, Int.reduceLT, Int.reduceLE, Int.reduceNeg, Int.reduceToNat, t0, t1, t2, t7, b7, t8, b0, d0, h6, h7, h8]
          have hst : (List.range (j + 1)).foldl st out = (List.range j).foldl st out := by
            rw [range_fold]
            exact if_neg (by simp at h8; simp [okE, h7, h8])
          exact ⟨j + 1, by omega, by omega, wrapJ j (by omega), by rw [hst]; exact hc, γ, by rw [hst], d0⟩
    · simp (dsimp := false) (maxDischargeDepth := 16) only [go_sem, ↓reduceIte, reduceCtorEq, Nat.reduceEqDiff, Nat.reduceAdd, Nat.reduceMul, Nat.reduceSub, Nat.reduceLT, Nat.reduceLeDiff, Nat.reducePow, Int.reduceLT, Int.reduceLE, Int.reduceNeg, Int.reduceToNat, t0, t1, t2, t7, b7, t8, b0, d0, h6]
      have hj1 : j = a.e.length + 1 := by omega
      subst hj1
      rw [hF]
      refine ⟨.inl trivial, _, rfl, ?_, rfl⟩
      simp (dsimp := false) (maxDischargeDepth := 16) only [go_sem, ↓reduceIte, reduceCtorEq, Nat.reduceEqDiff, Nat.reduceAdd, Nat.reduceMul, Nat.reduceSub, Nat.reduceLT, Nat.reduceLeDiff, Nat.reducePow, Int.reduceLT, Int.reduceLE, Int.reduceNeg, Int.reduceToNat, d0]
end Go.Sy
