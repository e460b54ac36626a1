/- Contracts: the maker of conditions. -/
import Derived.Test.YtkhheblmgbiniaaMG5
import Derived.Test.YtkhheblmgbiniaaMG4
import Derived.Test.YtkhheblmgbiniaaMG2
import Derived.Test.YtkhheblmgbiniaaMG3
set_option linter.unusedSimpArgs false
set_option linter.unusedVariables false
namespace Go.Sy
open Go Go.Proofs

def nxt (codes : List Int) (at' : Int) : Int := if (codes.length : Int) < at' + 1 then 0 else codes.getD at'.toNat 0
theorem c150 (codes : List Int) (at' left : Int) (h0 : 0 ≤ at') (h1 : at' ≤ 1000000) (hc : ∀ x ∈ codes, 0 ≤ x ∧ x ≤ 255) : ECon Try.prog 150 [] [lu8 codes, iv at'] (iv left) (iv (nxt codes at')) [lu8 codes, iv (at' + 1)] (iv left) := by
  have w1 : IntKind.i64.wrap (at' + 1) = at' + 1 := wrap_i64 _ (by omega) (by omega)
  refine econT (X := []) (rs := [.tmp 2]) Try.func150 (by kernel_rfl) rfl rfl (by kernel_rfl) ?_
  simp (dsimp := false) (maxDischargeDepth := 16) only [go_sem, ↓reduceIte, reduceCtorEq, Nat.reduceEqDiff, Nat.reduceAdd, Nat.reduceMul, Nat.reduceSub, Nat.reduceLT, Nat.reduceLeDiff, Nat.reducePow, Int.reduceLT, Int.reduceLE, Int.reduceNeg, Int.reduceToNat, lu8, w1]
  refine condK_dec (fun q => ?_) (fun q => ?_)
  · simp (dsimp := false) (maxDischargeDepth := 16) only [go_sem, ↓reduceIte, reduceCtorEq, Nat.reduceEqDiff, Nat.reduceAdd, Nat.reduceMul, Nat.reduceSub, Nat.reduceLT, Nat.reduceLeDiff, Nat.reducePow, Int.reduceLT, Int.reduceLE, Int.reduceNeg, Int.reduceToNat, lu8, w1, q]
    have e : nxt codes at' = 0 := if_pos q
    rw [e]
    exact ⟨.inr (by first | rfl | trivial), _, rfl, rfl, rfl⟩
  · have e : nxt codes at' = codes.getD at'.toNat 0 := if_neg q
    have w2 : IntKind.i64.wrap (at' + 1 - 1) = at' := by rw [wrap_i64 _ (by omega) (by omega)]; omega
    have hlt : at'.toNat < codes.length := by omega
    have hx := hc _ (List.getElem_mem hlt)
    have w3 : IntKind.i64.wrap codes[at'.toNat] = codes[at'.toNat] := wrap_i64 _ (by omega) (by omega)
    rw [e, getD_at hlt]
    simp (dsimp := false) (maxDischargeDepth := 16) only [go_sem, ↓reduceIte, reduceCtorEq, Nat.reduceEqDiff, Nat.reduceAdd, Nat.reduceMul, Nat.reduceSub, Nat.reduceLT, Nat.reduceLeDiff, Nat.reducePow, Int.reduceLT, Int.reduceLE, Int.reduceNeg, Int.reduceToNat, lu8, w1, w2, w3, q, idx_int, h0, hlt]
    exact ⟨.inr (by first | rfl | trivial), _, rfl, rfl, rfl⟩
/-- The graph that a code makes larger. -/
def exN (a : Gr) (c : Int) : List Int := if a.n.length = 0 ∨ ((c.tdiv 8).tmod 3 ≠ 2 ∧ a.n.length < 4) then a.n ++ [(c.tdiv 32).tmod 3] else a.n
def exG (a : Gr) (c : Int) : Gr := ⟨exN a c, if (c.tdiv 8).tmod 3 ≠ 0 ∧ a.e.length < 3 then a.e ++ [((c.tdiv 64).tmod 2, (c.tdiv 16).tmod (exN a c).length, ((exN a c).length : Int) - 1)] else a.e⟩
def idm (g : Gr) : Mo := ⟨rng g.n.length, rng g.e.length⟩
def k2 (k : Int) (c d : Cd) : Cd := kc k [c, d]
def mk : Nat → List Int → Gr → Int → Int → Int → Cd × Int × Int
  | 0, _, _, _, at', left => (tru, at' + 1, left - 1)
  | F + 1, codes, a, d, at', left =>
    let c := nxt codes at'
    if left - 1 < 2 then (tru, at' + 1, left - 1) else
    if c.tmod 6 = 1 then let r := mk F codes a d (at' + 1) (left - 1); (kc 2 [r.1], r.2) else
    if c.tmod 6 = 2 ∨ c.tmod 6 = 3 then
      let r := mk F codes a d (at' + 1) (left - 1); let q := mk F codes a d r.2.1 r.2.2; (kc (3 + c.tmod 6 - 2) [r.1, q.1], q.2) else
    if c.tmod 6 = 4 ∨ c.tmod 6 = 5 then
      (if d = 0 then (tru, at' + 1, left - 1) else let r := mk F codes (exG a c) (d - 1) (at' + 1) (left - 1); (.mk 5 [r.1] (idm a) (exG a c) [] 0 [], r.2)) else (tru, at' + 1, left - 1)
def nF : Nat → Nat
  | 0 => 1
  | F + 1 => 2 * nF F + 1
theorem mk_bnd : ∀ (F : Nat) (codes : List Int) (a : Gr) (d at' left : Int), at' + 1 ≤ (mk F codes a d at' left).2.1 ∧ (mk F codes a d at' left).2.1 ≤ at' + nF F ∧ left - nF F ≤ (mk F codes a d at' left).2.2 ∧ (mk F codes a d at' left).2.2 ≤ left - 1
  | 0, codes, a, d, at', left => by simp [mk, nF]
  | F + 1, codes, a, d, at', left => by
    rw [mk, nF]
    have ih := mk_bnd F codes
    simp only
    split
    · exact ⟨by simp only; omega, by simp only; omega, by simp only; omega, by simp only; omega⟩
    split
    · have := ih a d (at' + 1) (left - 1)
      simp only
      exact ⟨by omega, by omega, by omega, by omega⟩
    split
    · have h1 := ih a d (at' + 1) (left - 1)
      have h2 := ih a d (mk F codes a d (at' + 1) (left - 1)).2.1 (mk F codes a d (at' + 1) (left - 1)).2.2
      simp only
      exact ⟨by omega, by omega, by omega, by omega⟩
    split
    · split
      · exact ⟨by simp only; omega, by simp only; omega, by simp only; omega, by simp only; omega⟩
      · have := ih (exG a (nxt codes at')) (d - 1) (at' + 1) (left - 1)
        simp only
        exact ⟨by omega, by omega, by omega, by omega⟩
    · exact ⟨by simp only; omega, by simp only; omega, by simp only; omega, by simp only; omega⟩
theorem nxt_in {codes : List Int} (hc : ∀ x ∈ codes, 0 ≤ x ∧ x ≤ 255) {at' : Int} (h : 0 ≤ at') : 0 ≤ nxt codes at' ∧ nxt codes at' ≤ 255 := by
  unfold nxt
  split
  · omega
  · have hlt : at'.toNat < codes.length := by omega
    rw [getD_at hlt]
    exact hc _ (List.getElem_mem hlt)
theorem cv_tru : cv tru = .agg [iv 1, .list 9 [] .no, lv [], lv [], lv [], elv [], .list 4 [] .no, iv 0, .list 5 [] .no] := by
  rw [tru, cv_mk]
  rfl
theorem tdiv_byte {x n : Int} (h : 0 ≤ x ∧ x ≤ 255) (hn : 0 < n) : 0 ≤ x.tdiv n ∧ x.tdiv n ≤ 255 := by
  rw [Int.tdiv_eq_ediv_of_nonneg h.1]
  refine ⟨Int.ediv_nonneg h.1 (by omega), ?_⟩
  exact Int.le_trans (Int.ediv_le_self _ h.1) h.2
theorem exG_len (a : Gr) (c : Int) : (exG a c).n.length ≤ a.n.length + 1 ∧ (exG a c).e.length ≤ a.e.length + 1 := by
  constructor
  · show (exN a c).length ≤ _
    unfold exN
    split <;> simp
  · simp only [exG]
    split <;> simp
set_option maxHeartbeats 4000000 in
theorem c126 (codes : List Int) (hc : ∀ x ∈ codes, 0 ≤ x ∧ x ≤ 255) : ∀ (F : Nat) (a : Gr) (d at' left : Int), left ≤ F → 0 ≤ at' → at' + nF F ≤ 1000000 → -1000000 ≤ left - nF F → left ≤ 1000000 → a.n.length + F ≤ 1000 → a.e.length + F ≤ 1000 → 0 ≤ d → d ≤ 10 →
    ECon Try.prog 126 [gv a, iv d] [lu8 codes, iv at'] (iv left) (cv (mk F codes a d at' left).1) [lu8 codes, iv (mk F codes a d at' left).2.1] (iv (mk F codes a d at' left).2.2) := by
  intro F
  induction F with
  | zero =>
    intro a d at' left h1 h2 h3 h4 h5 h6 h7 h8 h9
    have w1 : IntKind.i64.wrap (left - 1) = left - 1 := by rw [nF] at h4; exact wrap_i64 _ (by omega) (by omega)
    rw [nF] at h3 h4
    have C1 := c150 codes at' left h2 (by omega) hc
    have C2 := c127
    rw [mk]
    rw [show (Cd.mk 1 [] ⟨[], []⟩ ⟨[], []⟩ [] 0 []) = tru from rfl] at C2
    rw [cv_tru] at C2 ⊢
    generalize nxt codes at' = c at *
    have hlt : left - 1 < 2 := by omega
    refine econT (X := [(11, [], [(48, [8], [43, 44, 45, 46, 47, 48, 49, 50, 51, 52, 53])]), (22, [], [(118, [4, 9], [114, 115, 116, 117, 118, 119, 120, 121, 122, 123, 124])])]) (rs := [.cell 6 69]) Try.func126 (by kernel_rfl) rfl rfl (by kernel_rfl) ?_
    simp (dsimp := false) (maxDischargeDepth := 16) only [go_sem, ↓reduceIte, reduceCtorEq, Nat.reduceEqDiff, Nat.reduceAdd, Nat.reduceMul, Nat.reduceSub, Nat.reduceLT, Nat.reduceLeDiff, Nat.reducePow, Int.reduceLT, Int.reduceLE, Int.reduceNeg, Int.reduceToNat, lu8]
    refine ecallK_intro (pre := [lu8 codes, iv at']) (x := iv left) rfl rfl C1 ?_
    simp (dsimp := false) (maxDischargeDepth := 16) only [go_sem, ↓reduceIte, reduceCtorEq, Nat.reduceEqDiff, Nat.reduceAdd, Nat.reduceMul, Nat.reduceSub, Nat.reduceLT, Nat.reduceLeDiff, Nat.reducePow, Int.reduceLT, Int.reduceLE, Int.reduceNeg, Int.reduceToNat, lu8, w1]
    refine condK_dec (fun q => ?_) (fun q => ?_)
    · simp (dsimp := false) (maxDischargeDepth := 16) only [go_sem, ↓reduceIte, reduceCtorEq, Nat.reduceEqDiff, Nat.reduceAdd, Nat.reduceMul, Nat.reduceSub, Nat.reduceLT, Nat.reduceLeDiff, Nat.reducePow, Int.reduceLT, Int.reduceLE, Int.reduceNeg, Int.reduceToNat, lu8, w1, q]
      refine callK_intro C2 ?_
      simp (dsimp := false) (maxDischargeDepth := 16) only [go_sem, ↓reduceIte, reduceCtorEq, Nat.reduceEqDiff, Nat.reduceAdd, Nat.reduceMul, Nat.reduceSub, Nat.reduceLT, Nat.reduceLeDiff, Nat.reducePow, Int.reduceLT, Int.reduceLE, Int.reduceNeg, Int.reduceToNat, lu8, w1, q]
      exact ⟨.inr trivial, _, rfl, rfl, rfl⟩
    · exact absurd hlt q
  | succ F ih =>
    intro a d at' left h1 h2 h3 h4 h5 h6 h7 h8 h9
    rw [nF] at h3 h4
    have w1 : IntKind.i64.wrap (left - 1) = left - 1 := wrap_i64 _ (by omega) (by omega)
    have C1 := c150 codes at' left h2 (by omega) hc
    have C2 := c127
    have C3 := c19 a (by omega) (by omega)
    have C4 := c57 a (by omega) (by omega)
    have hcr := nxt_in hc h2
    rw [mk]
    rw [show (Cd.mk 1 [] ⟨[], []⟩ ⟨[], []⟩ [] 0 []) = tru from rfl, cv_tru] at C2
    generalize nxt codes at' = c at *
    simp only
    refine econT (X := [(11, [], [(48, [8], [43, 44, 45, 46, 47, 48, 49, 50, 51, 52, 53])]), (22, [], [(118, [4, 9], [114, 115, 116, 117, 118, 119, 120, 121, 122, 123, 124])])]) (rs := [.cell 6 69]) Try.func126 (by kernel_rfl) rfl rfl (by kernel_rfl) ?_
    simp (dsimp := false) (maxDischargeDepth := 16) only [go_sem, ↓reduceIte, reduceCtorEq, Nat.reduceEqDiff, Nat.reduceAdd, Nat.reduceMul, Nat.reduceSub, Nat.reduceLT, Nat.reduceLeDiff, Nat.reducePow, Int.reduceLT, Int.reduceLE, Int.reduceNeg, Int.reduceToNat, lu8]
    refine ecallK_intro (pre := [lu8 codes, iv at']) (x := iv left) rfl rfl C1 ?_
    simp (dsimp := false) (maxDischargeDepth := 16) only [go_sem, ↓reduceIte, reduceCtorEq, Nat.reduceEqDiff, Nat.reduceAdd, Nat.reduceMul, Nat.reduceSub, Nat.reduceLT, Nat.reduceLeDiff, Nat.reducePow, Int.reduceLT, Int.reduceLE, Int.reduceNeg, Int.reduceToNat, lu8, w1]
    refine condK_dec (fun q => ?_) (fun q => ?_)
    · rw [if_pos q]
      simp only
      rw [cv_tru]
      simp (dsimp := false) (maxDischargeDepth := 16) only [go_sem, ↓reduceIte, reduceCtorEq, Nat.reduceEqDiff, Nat.reduceAdd, Nat.reduceMul, Nat.reduceSub, Nat.reduceLT, Nat.reduceLeDiff, Nat.reducePow, Int.reduceLT, Int.reduceLE, Int.reduceNeg, Int.reduceToNat, lu8, w1, q]
      refine callK_intro C2 ?_
      simp (dsimp := false) (maxDischargeDepth := 16) only [go_sem, ↓reduceIte, reduceCtorEq, Nat.reduceEqDiff, Nat.reduceAdd, Nat.reduceMul, Nat.reduceSub, Nat.reduceLT, Nat.reduceLeDiff, Nat.reducePow, Int.reduceLT, Int.reduceLE, Int.reduceNeg, Int.reduceToNat, lu8, w1, q]
      exact ⟨.inr trivial, _, rfl, rfl, rfl⟩
    rw [if_neg q]
    simp (dsimp := false) (maxDischargeDepth := 16) only [go_sem, ↓reduceIte, reduceCtorEq, Nat.reduceEqDiff, Nat.reduceAdd, Nat.reduceMul, Nat.reduceSub, Nat.reduceLT, Nat.reduceLeDiff, Nat.reducePow, Int.reduceLT, Int.reduceLE, Int.reduceNeg, Int.reduceToNat, lu8, w1, q, Int.reduceEq]
    refine condK_intro (fun q1 => ?_) (fun q1 => ?_)
    · rw [if_pos (eq_of_beq q1)]
      have IH := ih a d (at' + 1) (left - 1) (by omega) (by omega) (by omega) (by omega) (by omega) (by omega) (by omega) h8 h9
      generalize mk F codes a d (at' + 1) (left - 1) = r at *
      obtain ⟨r1, r2, r3⟩ := r
      simp (dsimp := false) (maxDischargeDepth := 16) only [go_sem, ↓reduceIte, reduceCtorEq, Nat.reduceEqDiff, Nat.reduceAdd, Nat.reduceMul, Nat.reduceSub, Nat.reduceLT, Nat.reduceLeDiff, Nat.reducePow, Int.reduceLT, Int.reduceLE, Int.reduceNeg, Int.reduceToNat, lu8, w1, q, q1, Int.reduceEq]
      refine ecallK_intro (pre := [lu8 codes, iv (at' + 1)]) (x := iv (left - 1)) rfl rfl IH ?_
      simp (dsimp := false) (maxDischargeDepth := 16) only [go_sem, ↓reduceIte, reduceCtorEq, Nat.reduceEqDiff, Nat.reduceAdd, Nat.reduceMul, Nat.reduceSub, Nat.reduceLT, Nat.reduceLeDiff, Nat.reducePow, Int.reduceLT, Int.reduceLE, Int.reduceNeg, Int.reduceToNat, lu8, w1, q, q1, Int.reduceEq, ccs_cf, List.map_cons, List.map_nil]
      exact ⟨.inr (by rw [ccs_kc]; rfl), _, rfl, rfl, rfl⟩
    have n1 : ¬ c.tmod 6 = 1 := by simpa using q1
    rw [if_neg n1]
    simp (dsimp := false) (maxDischargeDepth := 16) only [go_sem, ↓reduceIte, reduceCtorEq, Nat.reduceEqDiff, Nat.reduceAdd, Nat.reduceMul, Nat.reduceSub, Nat.reduceLT, Nat.reduceLeDiff, Nat.reducePow, Int.reduceLT, Int.reduceLE, Int.reduceNeg, Int.reduceToNat, lu8, w1, q, q1, Int.reduceEq]
    have ht := tmod_byte (n := 6) hcr.1 (by decide)
    have wA : IntKind.i64.wrap (3 + c.tmod 6) = 3 + c.tmod 6 := wrap_i64 _ (by omega) (by omega)
    have wB : IntKind.i64.wrap (3 + c.tmod 6 - 2) = 3 + c.tmod 6 - 2 := wrap_i64 _ (by omega) (by omega)
    refine condK_intro (fun q2 => ?_) (fun q2 => ?_)
    · have e2 := eq_of_beq q2
      rw [if_pos (.inl e2)]
      have IH := ih a d (at' + 1) (left - 1) (by omega) (by omega) (by omega) (by omega) (by omega) (by omega) (by omega) h8 h9
      have hb := mk_bnd F codes a d (at' + 1) (left - 1)
      have IH2 := ih a d (mk F codes a d (at' + 1) (left - 1)).2.1 (mk F codes a d (at' + 1) (left - 1)).2.2 (by omega) (by omega) (by omega) (by omega) (by omega) (by omega) (by omega) h8 h9
      generalize mk F codes a d (at' + 1) (left - 1) = r at *
      obtain ⟨r1, r2, r3⟩ := r
      simp only at IH2 hb ⊢
      generalize mk F codes a d r2 r3 = p at *
      obtain ⟨p1, p2, p3⟩ := p
      simp (dsimp := false) (maxDischargeDepth := 16) only [go_sem, ↓reduceIte, reduceCtorEq, Nat.reduceEqDiff, Nat.reduceAdd, Nat.reduceMul, Nat.reduceSub, Nat.reduceLT, Nat.reduceLeDiff, Nat.reducePow, Int.reduceLT, Int.reduceLE, Int.reduceNeg, Int.reduceToNat, lu8, w1, q, q1, wA, wB, Int.reduceEq, ccs_cf, List.map_cons, List.map_nil, q2]
      refine ecallK_intro (pre := [lu8 codes, iv (at' + 1)]) (x := iv (left - 1)) rfl rfl IH ?_
      simp (dsimp := false) (maxDischargeDepth := 16) only [go_sem, ↓reduceIte, reduceCtorEq, Nat.reduceEqDiff, Nat.reduceAdd, Nat.reduceMul, Nat.reduceSub, Nat.reduceLT, Nat.reduceLeDiff, Nat.reducePow, Int.reduceLT, Int.reduceLE, Int.reduceNeg, Int.reduceToNat, lu8, w1, q, q1, wA, wB, Int.reduceEq, ccs_cf, List.map_cons, List.map_nil, q2]
      refine ecallK_intro (pre := [lu8 codes, iv r2]) (x := iv r3) rfl rfl IH2 ?_
      simp (dsimp := false) (maxDischargeDepth := 16) only [go_sem, ↓reduceIte, reduceCtorEq, Nat.reduceEqDiff, Nat.reduceAdd, Nat.reduceMul, Nat.reduceSub, Nat.reduceLT, Nat.reduceLeDiff, Nat.reducePow, Int.reduceLT, Int.reduceLE, Int.reduceNeg, Int.reduceToNat, lu8, w1, q, q1, wA, wB, Int.reduceEq, ccs_cf, List.map_cons, List.map_nil, q2]
      exact ⟨by decide, .inr (by rw [ccs_kc]; rfl), _, rfl, rfl, rfl⟩
    have n2 : ¬ c.tmod 6 = 2 := by simpa using q2
    simp (dsimp := false) (maxDischargeDepth := 16) only [go_sem, ↓reduceIte, reduceCtorEq, Nat.reduceEqDiff, Nat.reduceAdd, Nat.reduceMul, Nat.reduceSub, Nat.reduceLT, Nat.reduceLeDiff, Nat.reducePow, Int.reduceLT, Int.reduceLE, Int.reduceNeg, Int.reduceToNat, lu8, w1, q, q1, q2, Int.reduceEq]
    refine condK_intro (fun q3 => ?_) (fun q3 => ?_)
    · have e3 := eq_of_beq q3
      rw [if_pos (.inr e3)]
      have IH := ih a d (at' + 1) (left - 1) (by omega) (by omega) (by omega) (by omega) (by omega) (by omega) (by omega) h8 h9
      have hb := mk_bnd F codes a d (at' + 1) (left - 1)
      have IH2 := ih a d (mk F codes a d (at' + 1) (left - 1)).2.1 (mk F codes a d (at' + 1) (left - 1)).2.2 (by omega) (by omega) (by omega) (by omega) (by omega) (by omega) (by omega) h8 h9
      generalize mk F codes a d (at' + 1) (left - 1) = r at *
      obtain ⟨r1, r2, r3⟩ := r
      simp only at IH2 hb ⊢
      generalize mk F codes a d r2 r3 = p at *
      obtain ⟨p1, p2, p3⟩ := p
      simp (dsimp := false) (maxDischargeDepth := 16) only [go_sem, ↓reduceIte, reduceCtorEq, Nat.reduceEqDiff, Nat.reduceAdd, Nat.reduceMul, Nat.reduceSub, Nat.reduceLT, Nat.reduceLeDiff, Nat.reducePow, Int.reduceLT, Int.reduceLE, Int.reduceNeg, Int.reduceToNat, lu8, w1, q, q1, wA, wB, Int.reduceEq, ccs_cf, List.map_cons, List.map_nil, q2, q3]
      refine ecallK_intro (pre := [lu8 codes, iv (at' + 1)]) (x := iv (left - 1)) rfl rfl IH ?_
      simp (dsimp := false) (maxDischargeDepth := 16) only [go_sem, ↓reduceIte, reduceCtorEq, Nat.reduceEqDiff, Nat.reduceAdd, Nat.reduceMul, Nat.reduceSub, Nat.reduceLT, Nat.reduceLeDiff, Nat.reducePow, Int.reduceLT, Int.reduceLE, Int.reduceNeg, Int.reduceToNat, lu8, w1, q, q1, wA, wB, Int.reduceEq, ccs_cf, List.map_cons, List.map_nil, q2, q3]
      refine ecallK_intro (pre := [lu8 codes, iv r2]) (x := iv r3) rfl rfl IH2 ?_
      simp (dsimp := false) (maxDischargeDepth := 16) only [go_sem, ↓reduceIte, reduceCtorEq, Nat.reduceEqDiff, Nat.reduceAdd, Nat.reduceMul, Nat.reduceSub, Nat.reduceLT, Nat.reduceLeDiff, Nat.reducePow, Int.reduceLT, Int.reduceLE, Int.reduceNeg, Int.reduceToNat, lu8, w1, q, q1, wA, wB, Int.reduceEq, ccs_cf, List.map_cons, List.map_nil, q2, q3]
      exact ⟨by decide, .inr (by rw [ccs_kc]; rfl), _, rfl, rfl, rfl⟩
    have n3 : ¬ c.tmod 6 = 3 := by simpa using q3
    rw [if_neg (by omega)]
    simp (dsimp := false) (maxDischargeDepth := 16) only [go_sem, ↓reduceIte, reduceCtorEq, Nat.reduceEqDiff, Nat.reduceAdd, Nat.reduceMul, Nat.reduceSub, Nat.reduceLT, Nat.reduceLeDiff, Nat.reducePow, Int.reduceLT, Int.reduceLE, Int.reduceNeg, Int.reduceToNat, lu8, w1, q, q1, q2, q3, Int.reduceEq]
    have q8 := tdiv_byte (n := 8) hcr (by decide)
    have q16 := tdiv_byte (n := 16) hcr (by decide)
    have q32 := tdiv_byte (n := 32) hcr (by decide)
    have q64 := tdiv_byte (n := 64) hcr (by decide)
    have wq8 : IntKind.i64.wrap (c.tdiv 8) = c.tdiv 8 := wrap_i64 _ (by omega) (by omega)
    have wq16 : IntKind.i64.wrap (c.tdiv 16) = c.tdiv 16 := wrap_i64 _ (by omega) (by omega)
    have wq32 : IntKind.i64.wrap (c.tdiv 32) = c.tdiv 32 := wrap_i64 _ (by omega) (by omega)
    have wq64 : IntKind.i64.wrap (c.tdiv 64) = c.tdiv 64 := wrap_i64 _ (by omega) (by omega)
    refine condK_intro (fun q4 => ?_) (fun q4 => ?_)
    · have e4 := eq_of_beq q4
      rw [if_pos (.inl e4)]
      simp (dsimp := false) (maxDischargeDepth := 16) only [go_sem, ↓reduceIte, reduceCtorEq, Nat.reduceEqDiff, Nat.reduceAdd, Nat.reduceMul, Nat.reduceSub, Nat.reduceLT, Nat.reduceLeDiff, Nat.reducePow, Int.reduceLT, Int.reduceLE, Int.reduceNeg, Int.reduceToNat, lu8, w1, wq8, wq16, wq32, wq64, q, q1, q2, q3, Int.reduceEq, ccs_cf, List.map_cons, List.map_nil, gvo, q4]
      refine condK_intro (fun qd => ?_) (fun qd => ?_)
      · rw [if_pos (eq_of_beq qd)]
        simp only
        rw [cv_tru]
        simp (dsimp := false) (maxDischargeDepth := 16) only [go_sem, ↓reduceIte, reduceCtorEq, Nat.reduceEqDiff, Nat.reduceAdd, Nat.reduceMul, Nat.reduceSub, Nat.reduceLT, Nat.reduceLeDiff, Nat.reducePow, Int.reduceLT, Int.reduceLE, Int.reduceNeg, Int.reduceToNat, lu8, w1, wq8, wq16, wq32, wq64, q, q1, q2, q3, Int.reduceEq, ccs_cf, List.map_cons, List.map_nil, gvo, q4, qd]
        refine callK_intro C2 ?_
        simp (dsimp := false) (maxDischargeDepth := 16) only [go_sem, ↓reduceIte, reduceCtorEq, Nat.reduceEqDiff, Nat.reduceAdd, Nat.reduceMul, Nat.reduceSub, Nat.reduceLT, Nat.reduceLeDiff, Nat.reducePow, Int.reduceLT, Int.reduceLE, Int.reduceNeg, Int.reduceToNat, lu8, w1, wq8, wq16, wq32, wq64, q, q1, q2, q3, Int.reduceEq, ccs_cf, List.map_cons, List.map_nil, gvo, q4, qd]
        exact ⟨.inr trivial, _, rfl, rfl, rfl⟩
      have nd : ¬ d = 0 := by simpa using qd
      have wd : IntKind.i64.wrap (d - 1) = d - 1 := wrap_i64 _ (by omega) (by omega)
      have xl := exG_len a c
      have IH := ih (exG a c) (d - 1) (at' + 1) (left - 1) (by omega) (by omega) (by omega) (by omega) (by omega) (by omega) (by omega) (by omega) (by omega)
      generalize mk F codes (exG a c) (d - 1) (at' + 1) (left - 1) = r at *
      obtain ⟨r1, r2, r3⟩ := r
      clear ih
      rw [if_neg nd]
      simp (dsimp := false) (maxDischargeDepth := 16) only [go_sem, ↓reduceIte, reduceCtorEq, Nat.reduceEqDiff, Nat.reduceAdd, Nat.reduceMul, Nat.reduceSub, Nat.reduceLT, Nat.reduceLeDiff, Nat.reducePow, Int.reduceLT, Int.reduceLE, Int.reduceNeg, Int.reduceToNat, lu8, w1, wq8, wq16, wq32, wq64, q, q1, q2, q3, Int.reduceEq, ccs_cf, List.map_cons, List.map_nil, gvo, q4, qd, wd]
      refine callK_intro C3 ?_
      simp (dsimp := false) (maxDischargeDepth := 16) only [go_sem, ↓reduceIte, reduceCtorEq, Nat.reduceEqDiff, Nat.reduceAdd, Nat.reduceMul, Nat.reduceSub, Nat.reduceLT, Nat.reduceLeDiff, Nat.reducePow, Int.reduceLT, Int.reduceLE, Int.reduceNeg, Int.reduceToNat, lu8, w1, wq8, wq16, wq32, wq64, q, q1, q2, q3, Int.reduceEq, ccs_cf, List.map_cons, List.map_nil, gvo, q4, qd, wd]
      refine condK_intro (fun qa => ?_) (fun qa => ?_)
      · have za : a.n.length = 0 := by simpa using qa
        simp (dsimp := false) (maxDischargeDepth := 16) only [go_sem, ↓reduceIte, reduceCtorEq, Nat.reduceEqDiff, Nat.reduceAdd, Nat.reduceMul, Nat.reduceSub, Nat.reduceLT, Nat.reduceLeDiff, Nat.reducePow, Int.reduceLT, Int.reduceLE, Int.reduceNeg, Int.reduceToNat, lu8, w1, wq8, wq16, wq32, wq64, q, q1, q2, q3, Int.reduceEq, ccs_cf, List.map_cons, List.map_nil, gvo, q4, qd, wd, qa, map1_app, List.length_map]
        refine ⟨⟨by omega, by omega⟩, ?_⟩
        have hNS : exN a c = a.n ++ [(c.tdiv 32).tmod 3] := by unfold exN; rw [if_pos (.inl za)]
        refine condK_intro (fun qe => ?_) (fun qe => ?_)
        · have ne0 : (c.tdiv 8).tmod 3 ≠ 0 := by simpa using qe
          simp (dsimp := false) (maxDischargeDepth := 16) only [go_sem, ↓reduceIte, reduceCtorEq, Nat.reduceEqDiff, Nat.reduceAdd, Nat.reduceMul, Nat.reduceSub, Nat.reduceLT, Nat.reduceLeDiff, Nat.reducePow, Int.reduceLT, Int.reduceLE, Int.reduceNeg, Int.reduceToNat, lu8, w1, wq8, wq16, wq32, wq64, q, q1, q2, q3, Int.reduceEq, ccs_cf, List.map_cons, List.map_nil, gvo, q4, qd, wd, qa, map1_app, List.length_map, List.length_append, List.length_singleton, qe]
          refine condK_dec (fun qf => ?_) (fun qf => ?_)
          · have hn0 : (((a.n.length + 1 : Nat) : Int) = 0) = False   := eq_false (by omega)
            have wn : IntKind.i64.wrap (((a.n.length + 1 : Nat) : Int) - 1) = ((a.n.length + 1 : Nat) : Int) - 1 := wrap_i64 _ (by omega) (by omega)
            simp (dsimp := false) (maxDischargeDepth := 16) only [go_sem, ↓reduceIte, reduceCtorEq, Nat.reduceEqDiff, Nat.reduceAdd, Nat.reduceMul, Nat.reduceSub, Nat.reduceLT, Nat.reduceLeDiff, Nat.reducePow, Int.reduceLT, Int.reduceLE, Int.reduceNeg, Int.reduceToNat, lu8, w1, wq8, wq16, wq32, wq64, q, q1, q2, q3, Int.reduceEq, ccs_cf, List.map_cons, List.map_nil, gvo, q4, qd, wd, qa, map1_app, List.length_map, List.length_append, List.length_singleton, qe, qf, hn0, wn]
            refine ⟨⟨by omega, by omega⟩, ?_⟩
            have hG : exG a c = ⟨a.n ++ [(c.tdiv 32).tmod 3], a.e ++ [((c.tdiv 64).tmod 2, (c.tdiv 16).tmod ((a.n.length + 1 : Nat) : Int), ((a.n.length + 1 : Nat) : Int) - 1)]⟩ := by unfold exG; rw [hNS]; rw [if_pos ⟨ne0, by omega⟩]; try simp
            refine callK_intro C4 ?_
            simp (dsimp := false) (maxDischargeDepth := 16) only [go_sem, ↓reduceIte, reduceCtorEq, Nat.reduceEqDiff, Nat.reduceAdd, Nat.reduceMul, Nat.reduceSub, Nat.reduceLT, Nat.reduceLeDiff, Nat.reducePow, Int.reduceLT, Int.reduceLE, Int.reduceNeg, Int.reduceToNat, lu8, w1, wq8, wq16, wq32, wq64, q, q1, q2, q3, Int.reduceEq, ccs_cf, List.map_cons, List.map_nil, gvo, q4, qd, wd, qa, map1_app, List.length_map, List.length_append, List.length_singleton, qe, qf, hn0, wn]
            rw [hG] at IH
            simp only [gv, gcs, lv, lvT, elv, elT', iv, map1_app, List.map_append, List.map_cons, List.map_nil, ecs] at IH
            refine ecallK_intro (pre := [lu8 codes, iv (at' + 1)]) (x := iv (left - 1)) rfl rfl IH ?_
            simp (dsimp := false) (maxDischargeDepth := 16) only [go_sem, ↓reduceIte, reduceCtorEq, Nat.reduceEqDiff, Nat.reduceAdd, Nat.reduceMul, Nat.reduceSub, Nat.reduceLT, Nat.reduceLeDiff, Nat.reducePow, Int.reduceLT, Int.reduceLE, Int.reduceNeg, Int.reduceToNat, lu8, w1, wq8, wq16, wq32, wq64, q, q1, q2, q3, Int.reduceEq, ccs_cf, List.map_cons, List.map_nil, gvo, q4, qd, wd, qa, map1_app, List.length_map, List.length_append, List.length_singleton, qe, qf, hn0, wn]
            refine ⟨by decide, .inr ?_, _, rfl, rfl, rfl⟩
            rw [hG]
            simp only [idm, rng, lv, lvT, elv, elT', iv, map1_app, List.map_append, List.map_cons, List.map_nil, ecs]
          · simp (dsimp := false) (maxDischargeDepth := 16) only [go_sem, ↓reduceIte, reduceCtorEq, Nat.reduceEqDiff, Nat.reduceAdd, Nat.reduceMul, Nat.reduceSub, Nat.reduceLT, Nat.reduceLeDiff, Nat.reducePow, Int.reduceLT, Int.reduceLE, Int.reduceNeg, Int.reduceToNat, lu8, w1, wq8, wq16, wq32, wq64, q, q1, q2, q3, Int.reduceEq, ccs_cf, List.map_cons, List.map_nil, gvo, q4, qd, wd, qa, map1_app, List.length_map, List.length_append, List.length_singleton, qe, qf]
            have hG : exG a c = ⟨a.n ++ [(c.tdiv 32).tmod 3], a.e⟩ := by unfold exG; rw [hNS]; rw [if_neg (by omega)]
            refine callK_intro C4 ?_
            simp (dsimp := false) (maxDischargeDepth := 16) only [go_sem, ↓reduceIte, reduceCtorEq, Nat.reduceEqDiff, Nat.reduceAdd, Nat.reduceMul, Nat.reduceSub, Nat.reduceLT, Nat.reduceLeDiff, Nat.reducePow, Int.reduceLT, Int.reduceLE, Int.reduceNeg, Int.reduceToNat, lu8, w1, wq8, wq16, wq32, wq64, q, q1, q2, q3, Int.reduceEq, ccs_cf, List.map_cons, List.map_nil, gvo, q4, qd, wd, qa, map1_app, List.length_map, List.length_append, List.length_singleton, qe, qf]
            rw [hG] at IH
            simp only [gv, gcs, lv, lvT, elv, elT', iv, map1_app, List.map_append, List.map_cons, List.map_nil, ecs] at IH
            refine ecallK_intro (pre := [lu8 codes, iv (at' + 1)]) (x := iv (left - 1)) rfl rfl IH ?_
            simp (dsimp := false) (maxDischargeDepth := 16) only [go_sem, ↓reduceIte, reduceCtorEq, Nat.reduceEqDiff, Nat.reduceAdd, Nat.reduceMul, Nat.reduceSub, Nat.reduceLT, Nat.reduceLeDiff, Nat.reducePow, Int.reduceLT, Int.reduceLE, Int.reduceNeg, Int.reduceToNat, lu8, w1, wq8, wq16, wq32, wq64, q, q1, q2, q3, Int.reduceEq, ccs_cf, List.map_cons, List.map_nil, gvo, q4, qd, wd, qa, map1_app, List.length_map, List.length_append, List.length_singleton, qe, qf]
            refine ⟨by decide, .inr ?_, _, rfl, rfl, rfl⟩
            rw [hG]
            simp only [idm, rng, lv, lvT, elv, elT', iv, map1_app, List.map_append, List.map_cons, List.map_nil, ecs]
        · have e0 : (c.tdiv 8).tmod 3 = 0 := by simpa using qe
          simp (dsimp := false) (maxDischargeDepth := 16) only [go_sem, ↓reduceIte, reduceCtorEq, Nat.reduceEqDiff, Nat.reduceAdd, Nat.reduceMul, Nat.reduceSub, Nat.reduceLT, Nat.reduceLeDiff, Nat.reducePow, Int.reduceLT, Int.reduceLE, Int.reduceNeg, Int.reduceToNat, lu8, w1, wq8, wq16, wq32, wq64, q, q1, q2, q3, Int.reduceEq, ccs_cf, List.map_cons, List.map_nil, gvo, q4, qd, wd, qa, map1_app, List.length_map, List.length_append, List.length_singleton, qe]
          have hG : exG a c = ⟨a.n ++ [(c.tdiv 32).tmod 3], a.e⟩ := by unfold exG; rw [hNS]; rw [if_neg (by omega)]
          refine callK_intro C4 ?_
          simp (dsimp := false) (maxDischargeDepth := 16) only [go_sem, ↓reduceIte, reduceCtorEq, Nat.reduceEqDiff, Nat.reduceAdd, Nat.reduceMul, Nat.reduceSub, Nat.reduceLT, Nat.reduceLeDiff, Nat.reducePow, Int.reduceLT, Int.reduceLE, Int.reduceNeg, Int.reduceToNat, lu8, w1, wq8, wq16, wq32, wq64, q, q1, q2, q3, Int.reduceEq, ccs_cf, List.map_cons, List.map_nil, gvo, q4, qd, wd, qa, map1_app, List.length_map, List.length_append, List.length_singleton, qe]
          rw [hG] at IH
          simp only [gv, gcs, lv, lvT, elv, elT', iv, map1_app, List.map_append, List.map_cons, List.map_nil, ecs] at IH
          refine ecallK_intro (pre := [lu8 codes, iv (at' + 1)]) (x := iv (left - 1)) rfl rfl IH ?_
          simp (dsimp := false) (maxDischargeDepth := 16) only [go_sem, ↓reduceIte, reduceCtorEq, Nat.reduceEqDiff, Nat.reduceAdd, Nat.reduceMul, Nat.reduceSub, Nat.reduceLT, Nat.reduceLeDiff, Nat.reducePow, Int.reduceLT, Int.reduceLE, Int.reduceNeg, Int.reduceToNat, lu8, w1, wq8, wq16, wq32, wq64, q, q1, q2, q3, Int.reduceEq, ccs_cf, List.map_cons, List.map_nil, gvo, q4, qd, wd, qa, map1_app, List.length_map, List.length_append, List.length_singleton, qe]
          refine ⟨by decide, .inr ?_, _, rfl, rfl, rfl⟩
          rw [hG]
          simp only [idm, rng, lv, lvT, elv, elT', iv, map1_app, List.map_append, List.map_cons, List.map_nil, ecs]
      have na : ¬ a.n.length = 0 := by simpa using qa
      simp (dsimp := false) (maxDischargeDepth := 16) only [go_sem, ↓reduceIte, reduceCtorEq, Nat.reduceEqDiff, Nat.reduceAdd, Nat.reduceMul, Nat.reduceSub, Nat.reduceLT, Nat.reduceLeDiff, Nat.reducePow, Int.reduceLT, Int.reduceLE, Int.reduceNeg, Int.reduceToNat, lu8, w1, wq8, wq16, wq32, wq64, q, q1, q2, q3, Int.reduceEq, ccs_cf, List.map_cons, List.map_nil, gvo, q4, qd, wd, qa]
      refine condK_intro (fun qb => ?_) (fun qb => ?_)
      · have nb : (c.tdiv 8).tmod 3 ≠ 2 := by simpa using qb
        simp (dsimp := false) (maxDischargeDepth := 16) only [go_sem, ↓reduceIte, reduceCtorEq, Nat.reduceEqDiff, Nat.reduceAdd, Nat.reduceMul, Nat.reduceSub, Nat.reduceLT, Nat.reduceLeDiff, Nat.reducePow, Int.reduceLT, Int.reduceLE, Int.reduceNeg, Int.reduceToNat, lu8, w1, wq8, wq16, wq32, wq64, q, q1, q2, q3, Int.reduceEq, ccs_cf, List.map_cons, List.map_nil, gvo, q4, qd, wd, qa, qb]
        refine condK_dec (fun qg => ?_) (fun qg => ?_)
        · simp (dsimp := false) (maxDischargeDepth := 16) only [go_sem, ↓reduceIte, reduceCtorEq, Nat.reduceEqDiff, Nat.reduceAdd, Nat.reduceMul, Nat.reduceSub, Nat.reduceLT, Nat.reduceLeDiff, Nat.reducePow, Int.reduceLT, Int.reduceLE, Int.reduceNeg, Int.reduceToNat, lu8, w1, wq8, wq16, wq32, wq64, q, q1, q2, q3, Int.reduceEq, ccs_cf, List.map_cons, List.map_nil, gvo, q4, qd, wd, qa, qb, qg, map1_app, List.length_map]
          refine ⟨⟨by omega, by omega⟩, ?_⟩
          have hNS : exN a c = a.n ++ [(c.tdiv 32).tmod 3] := by unfold exN; rw [if_pos (.inr ⟨nb, by omega⟩)]
          refine condK_intro (fun qe => ?_) (fun qe => ?_)
          · have ne0 : (c.tdiv 8).tmod 3 ≠ 0 := by simpa using qe
            simp (dsimp := false) (maxDischargeDepth := 16) only [go_sem, ↓reduceIte, reduceCtorEq, Nat.reduceEqDiff, Nat.reduceAdd, Nat.reduceMul, Nat.reduceSub, Nat.reduceLT, Nat.reduceLeDiff, Nat.reducePow, Int.reduceLT, Int.reduceLE, Int.reduceNeg, Int.reduceToNat, lu8, w1, wq8, wq16, wq32, wq64, q, q1, q2, q3, Int.reduceEq, ccs_cf, List.map_cons, List.map_nil, gvo, q4, qd, wd, qa, qb, qg, map1_app, List.length_map, List.length_append, List.length_singleton, qe]
            refine condK_dec (fun qf => ?_) (fun qf => ?_)
            · have hn0 : (((a.n.length + 1 : Nat) : Int) = 0) = False   := eq_false (by omega)
              have wn : IntKind.i64.wrap (((a.n.length + 1 : Nat) : Int) - 1) = ((a.n.length + 1 : Nat) : Int) - 1 := wrap_i64 _ (by omega) (by omega)
              simp (dsimp := false) (maxDischargeDepth := 16) only [go_sem, ↓reduceIte, reduceCtorEq, Nat.reduceEqDiff, Nat.reduceAdd, Nat.reduceMul, Nat.reduceSub, Nat.reduceLT, Nat.reduceLeDiff, Nat.reducePow, Int.reduceLT, Int.reduceLE, Int.reduceNeg, Int.reduceToNat, lu8, w1, wq8, wq16, wq32, wq64, q, q1, q2, q3, Int.reduceEq, ccs_cf, List.map_cons, List.map_nil, gvo, q4, qd, wd, qa, qb, qg, map1_app, List.length_map, List.length_append, List.length_singleton, qe, qf, hn0, wn]
              refine ⟨⟨by omega, by omega⟩, ?_⟩
              have hG : exG a c = ⟨a.n ++ [(c.tdiv 32).tmod 3], a.e ++ [((c.tdiv 64).tmod 2, (c.tdiv 16).tmod ((a.n.length + 1 : Nat) : Int), ((a.n.length + 1 : Nat) : Int) - 1)]⟩ := by unfold exG; rw [hNS]; rw [if_pos ⟨ne0, by omega⟩]; try simp
              refine callK_intro C4 ?_
              simp (dsimp := false) (maxDischargeDepth := 16) only [go_sem, ↓reduceIte, reduceCtorEq, Nat.reduceEqDiff, Nat.reduceAdd, Nat.reduceMul, Nat.reduceSub, Nat.reduceLT, Nat.reduceLeDiff, Nat.reducePow, Int.reduceLT, Int.reduceLE, Int.reduceNeg, Int.reduceToNat, lu8, w1, wq8, wq16, wq32, wq64, q, q1, q2, q3, Int.reduceEq, ccs_cf, List.map_cons, List.map_nil, gvo, q4, qd, wd, qa, qb, qg, map1_app, List.length_map, List.length_append, List.length_singleton, qe, qf, hn0, wn]
              rw [hG] at IH
              simp only [gv, gcs, lv, lvT, elv, elT', iv, map1_app, List.map_append, List.map_cons, List.map_nil, ecs] at IH
              refine ecallK_intro (pre := [lu8 codes, iv (at' + 1)]) (x := iv (left - 1)) rfl rfl IH ?_
              simp (dsimp := false) (maxDischargeDepth := 16) only [go_sem, ↓reduceIte, reduceCtorEq, Nat.reduceEqDiff, Nat.reduceAdd, Nat.reduceMul, Nat.reduceSub, Nat.reduceLT, Nat.reduceLeDiff, Nat.reducePow, Int.reduceLT, Int.reduceLE, Int.reduceNeg, Int.reduceToNat, lu8, w1, wq8, wq16, wq32, wq64, q, q1, q2, q3, Int.reduceEq, ccs_cf, List.map_cons, List.map_nil, gvo, q4, qd, wd, qa, qb, qg, map1_app, List.length_map, List.length_append, List.length_singleton, qe, qf, hn0, wn]
              refine ⟨by decide, .inr ?_, _, rfl, rfl, rfl⟩
              rw [hG]
              simp only [idm, rng, lv, lvT, elv, elT', iv, map1_app, List.map_append, List.map_cons, List.map_nil, ecs]
            · simp (dsimp := false) (maxDischargeDepth := 16) only [go_sem, ↓reduceIte, reduceCtorEq, Nat.reduceEqDiff, Nat.reduceAdd, Nat.reduceMul, Nat.reduceSub, Nat.reduceLT, Nat.reduceLeDiff, Nat.reducePow, Int.reduceLT, Int.reduceLE, Int.reduceNeg, Int.reduceToNat, lu8, w1, wq8, wq16, wq32, wq64, q, q1, q2, q3, Int.reduceEq, ccs_cf, List.map_cons, List.map_nil, gvo, q4, qd, wd, qa, qb, qg, map1_app, List.length_map, List.length_append, List.length_singleton, qe, qf]
              have hG : exG a c = ⟨a.n ++ [(c.tdiv 32).tmod 3], a.e⟩ := by unfold exG; rw [hNS]; rw [if_neg (by omega)]
              refine callK_intro C4 ?_
              simp (dsimp := false) (maxDischargeDepth := 16) only [go_sem, ↓reduceIte, reduceCtorEq, Nat.reduceEqDiff, Nat.reduceAdd, Nat.reduceMul, Nat.reduceSub, Nat.reduceLT, Nat.reduceLeDiff, Nat.reducePow, Int.reduceLT, Int.reduceLE, Int.reduceNeg, Int.reduceToNat, lu8, w1, wq8, wq16, wq32, wq64, q, q1, q2, q3, Int.reduceEq, ccs_cf, List.map_cons, List.map_nil, gvo, q4, qd, wd, qa, qb, qg, map1_app, List.length_map, List.length_append, List.length_singleton, qe, qf]
              rw [hG] at IH
              simp only [gv, gcs, lv, lvT, elv, elT', iv, map1_app, List.map_append, List.map_cons, List.map_nil, ecs] at IH
              refine ecallK_intro (pre := [lu8 codes, iv (at' + 1)]) (x := iv (left - 1)) rfl rfl IH ?_
              simp (dsimp := false) (maxDischargeDepth := 16) only [go_sem, ↓reduceIte, reduceCtorEq, Nat.reduceEqDiff, Nat.reduceAdd, Nat.reduceMul, Nat.reduceSub, Nat.reduceLT, Nat.reduceLeDiff, Nat.reducePow, Int.reduceLT, Int.reduceLE, Int.reduceNeg, Int.reduceToNat, lu8, w1, wq8, wq16, wq32, wq64, q, q1, q2, q3, Int.reduceEq, ccs_cf, List.map_cons, List.map_nil, gvo, q4, qd, wd, qa, qb, qg, map1_app, List.length_map, List.length_append, List.length_singleton, qe, qf]
              refine ⟨by decide, .inr ?_, _, rfl, rfl, rfl⟩
              rw [hG]
              simp only [idm, rng, lv, lvT, elv, elT', iv, map1_app, List.map_append, List.map_cons, List.map_nil, ecs]
          · have e0 : (c.tdiv 8).tmod 3 = 0 := by simpa using qe
            simp (dsimp := false) (maxDischargeDepth := 16) only [go_sem, ↓reduceIte, reduceCtorEq, Nat.reduceEqDiff, Nat.reduceAdd, Nat.reduceMul, Nat.reduceSub, Nat.reduceLT, Nat.reduceLeDiff, Nat.reducePow, Int.reduceLT, Int.reduceLE, Int.reduceNeg, Int.reduceToNat, lu8, w1, wq8, wq16, wq32, wq64, q, q1, q2, q3, Int.reduceEq, ccs_cf, List.map_cons, List.map_nil, gvo, q4, qd, wd, qa, qb, qg, map1_app, List.length_map, List.length_append, List.length_singleton, qe]
            have hG : exG a c = ⟨a.n ++ [(c.tdiv 32).tmod 3], a.e⟩ := by unfold exG; rw [hNS]; rw [if_neg (by omega)]
            refine callK_intro C4 ?_
            simp (dsimp := false) (maxDischargeDepth := 16) only [go_sem, ↓reduceIte, reduceCtorEq, Nat.reduceEqDiff, Nat.reduceAdd, Nat.reduceMul, Nat.reduceSub, Nat.reduceLT, Nat.reduceLeDiff, Nat.reducePow, Int.reduceLT, Int.reduceLE, Int.reduceNeg, Int.reduceToNat, lu8, w1, wq8, wq16, wq32, wq64, q, q1, q2, q3, Int.reduceEq, ccs_cf, List.map_cons, List.map_nil, gvo, q4, qd, wd, qa, qb, qg, map1_app, List.length_map, List.length_append, List.length_singleton, qe]
            rw [hG] at IH
            simp only [gv, gcs, lv, lvT, elv, elT', iv, map1_app, List.map_append, List.map_cons, List.map_nil, ecs] at IH
            refine ecallK_intro (pre := [lu8 codes, iv (at' + 1)]) (x := iv (left - 1)) rfl rfl IH ?_
            simp (dsimp := false) (maxDischargeDepth := 16) only [go_sem, ↓reduceIte, reduceCtorEq, Nat.reduceEqDiff, Nat.reduceAdd, Nat.reduceMul, Nat.reduceSub, Nat.reduceLT, Nat.reduceLeDiff, Nat.reducePow, Int.reduceLT, Int.reduceLE, Int.reduceNeg, Int.reduceToNat, lu8, w1, wq8, wq16, wq32, wq64, q, q1, q2, q3, Int.reduceEq, ccs_cf, List.map_cons, List.map_nil, gvo, q4, qd, wd, qa, qb, qg, map1_app, List.length_map, List.length_append, List.length_singleton, qe]
            refine ⟨by decide, .inr ?_, _, rfl, rfl, rfl⟩
            rw [hG]
            simp only [idm, rng, lv, lvT, elv, elT', iv, map1_app, List.map_append, List.map_cons, List.map_nil, ecs]
        · simp (dsimp := false) (maxDischargeDepth := 16) only [go_sem, ↓reduceIte, reduceCtorEq, Nat.reduceEqDiff, Nat.reduceAdd, Nat.reduceMul, Nat.reduceSub, Nat.reduceLT, Nat.reduceLeDiff, Nat.reducePow, Int.reduceLT, Int.reduceLE, Int.reduceNeg, Int.reduceToNat, lu8, w1, wq8, wq16, wq32, wq64, q, q1, q2, q3, Int.reduceEq, ccs_cf, List.map_cons, List.map_nil, gvo, q4, qd, wd, qa, qb, qg]
          have hNS : exN a c = a.n := by unfold exN; rw [if_neg (by omega)]
          refine condK_intro (fun qe => ?_) (fun qe => ?_)
          · have ne0 : (c.tdiv 8).tmod 3 ≠ 0 := by simpa using qe
            simp (dsimp := false) (maxDischargeDepth := 16) only [go_sem, ↓reduceIte, reduceCtorEq, Nat.reduceEqDiff, Nat.reduceAdd, Nat.reduceMul, Nat.reduceSub, Nat.reduceLT, Nat.reduceLeDiff, Nat.reducePow, Int.reduceLT, Int.reduceLE, Int.reduceNeg, Int.reduceToNat, lu8, w1, wq8, wq16, wq32, wq64, q, q1, q2, q3, Int.reduceEq, ccs_cf, List.map_cons, List.map_nil, gvo, q4, qd, wd, qa, qb, qg, qe]
            refine condK_dec (fun qf => ?_) (fun qf => ?_)
            · have hn0 : (((a.n.length : Nat) : Int) = 0) = False   := eq_false (by omega)
              have wn : IntKind.i64.wrap (((a.n.length : Nat) : Int) - 1) = ((a.n.length : Nat) : Int) - 1 := wrap_i64 _ (by omega) (by omega)
              simp (dsimp := false) (maxDischargeDepth := 16) only [go_sem, ↓reduceIte, reduceCtorEq, Nat.reduceEqDiff, Nat.reduceAdd, Nat.reduceMul, Nat.reduceSub, Nat.reduceLT, Nat.reduceLeDiff, Nat.reducePow, Int.reduceLT, Int.reduceLE, Int.reduceNeg, Int.reduceToNat, lu8, w1, wq8, wq16, wq32, wq64, q, q1, q2, q3, Int.reduceEq, ccs_cf, List.map_cons, List.map_nil, gvo, q4, qd, wd, qa, qb, qg, qe, qf, hn0, wn]
              refine ⟨⟨by omega, by omega⟩, ?_⟩
              have hG : exG a c = ⟨a.n, a.e ++ [((c.tdiv 64).tmod 2, (c.tdiv 16).tmod ((a.n.length : Nat) : Int), ((a.n.length : Nat) : Int) - 1)]⟩ := by unfold exG; rw [hNS]; rw [if_pos ⟨ne0, by omega⟩]; try simp
              refine callK_intro C4 ?_
              simp (dsimp := false) (maxDischargeDepth := 16) only [go_sem, ↓reduceIte, reduceCtorEq, Nat.reduceEqDiff, Nat.reduceAdd, Nat.reduceMul, Nat.reduceSub, Nat.reduceLT, Nat.reduceLeDiff, Nat.reducePow, Int.reduceLT, Int.reduceLE, Int.reduceNeg, Int.reduceToNat, lu8, w1, wq8, wq16, wq32, wq64, q, q1, q2, q3, Int.reduceEq, ccs_cf, List.map_cons, List.map_nil, gvo, q4, qd, wd, qa, qb, qg, qe, qf, hn0, wn]
              rw [hG] at IH
              simp only [gv, gcs, lv, lvT, elv, elT', iv, map1_app, List.map_append, List.map_cons, List.map_nil, ecs] at IH
              refine ecallK_intro (pre := [lu8 codes, iv (at' + 1)]) (x := iv (left - 1)) rfl rfl IH ?_
              simp (dsimp := false) (maxDischargeDepth := 16) only [go_sem, ↓reduceIte, reduceCtorEq, Nat.reduceEqDiff, Nat.reduceAdd, Nat.reduceMul, Nat.reduceSub, Nat.reduceLT, Nat.reduceLeDiff, Nat.reducePow, Int.reduceLT, Int.reduceLE, Int.reduceNeg, Int.reduceToNat, lu8, w1, wq8, wq16, wq32, wq64, q, q1, q2, q3, Int.reduceEq, ccs_cf, List.map_cons, List.map_nil, gvo, q4, qd, wd, qa, qb, qg, qe, qf, hn0, wn]
              refine ⟨by decide, .inr ?_, _, rfl, rfl, rfl⟩
              rw [hG]
              simp only [idm, rng, lv, lvT, elv, elT', iv, map1_app, List.map_append, List.map_cons, List.map_nil, ecs]
            · simp (dsimp := false) (maxDischargeDepth := 16) only [go_sem, ↓reduceIte, reduceCtorEq, Nat.reduceEqDiff, Nat.reduceAdd, Nat.reduceMul, Nat.reduceSub, Nat.reduceLT, Nat.reduceLeDiff, Nat.reducePow, Int.reduceLT, Int.reduceLE, Int.reduceNeg, Int.reduceToNat, lu8, w1, wq8, wq16, wq32, wq64, q, q1, q2, q3, Int.reduceEq, ccs_cf, List.map_cons, List.map_nil, gvo, q4, qd, wd, qa, qb, qg, qe, qf]
              have hG : exG a c = ⟨a.n, a.e⟩ := by unfold exG; rw [hNS]; rw [if_neg (by omega)]
              refine callK_intro C4 ?_
              simp (dsimp := false) (maxDischargeDepth := 16) only [go_sem, ↓reduceIte, reduceCtorEq, Nat.reduceEqDiff, Nat.reduceAdd, Nat.reduceMul, Nat.reduceSub, Nat.reduceLT, Nat.reduceLeDiff, Nat.reducePow, Int.reduceLT, Int.reduceLE, Int.reduceNeg, Int.reduceToNat, lu8, w1, wq8, wq16, wq32, wq64, q, q1, q2, q3, Int.reduceEq, ccs_cf, List.map_cons, List.map_nil, gvo, q4, qd, wd, qa, qb, qg, qe, qf]
              rw [hG] at IH
              simp only [gv, gcs, lv, lvT, elv, elT', iv, map1_app, List.map_append, List.map_cons, List.map_nil, ecs] at IH
              refine ecallK_intro (pre := [lu8 codes, iv (at' + 1)]) (x := iv (left - 1)) rfl rfl IH ?_
              simp (dsimp := false) (maxDischargeDepth := 16) only [go_sem, ↓reduceIte, reduceCtorEq, Nat.reduceEqDiff, Nat.reduceAdd, Nat.reduceMul, Nat.reduceSub, Nat.reduceLT, Nat.reduceLeDiff, Nat.reducePow, Int.reduceLT, Int.reduceLE, Int.reduceNeg, Int.reduceToNat, lu8, w1, wq8, wq16, wq32, wq64, q, q1, q2, q3, Int.reduceEq, ccs_cf, List.map_cons, List.map_nil, gvo, q4, qd, wd, qa, qb, qg, qe, qf]
              refine ⟨by decide, .inr ?_, _, rfl, rfl, rfl⟩
              rw [hG]
              simp only [idm, rng, lv, lvT, elv, elT', iv, map1_app, List.map_append, List.map_cons, List.map_nil, ecs]
          · have e0 : (c.tdiv 8).tmod 3 = 0 := by simpa using qe
            simp (dsimp := false) (maxDischargeDepth := 16) only [go_sem, ↓reduceIte, reduceCtorEq, Nat.reduceEqDiff, Nat.reduceAdd, Nat.reduceMul, Nat.reduceSub, Nat.reduceLT, Nat.reduceLeDiff, Nat.reducePow, Int.reduceLT, Int.reduceLE, Int.reduceNeg, Int.reduceToNat, lu8, w1, wq8, wq16, wq32, wq64, q, q1, q2, q3, Int.reduceEq, ccs_cf, List.map_cons, List.map_nil, gvo, q4, qd, wd, qa, qb, qg, qe]
            have hG : exG a c = ⟨a.n, a.e⟩ := by unfold exG; rw [hNS]; rw [if_neg (by omega)]
            refine callK_intro C4 ?_
            simp (dsimp := false) (maxDischargeDepth := 16) only [go_sem, ↓reduceIte, reduceCtorEq, Nat.reduceEqDiff, Nat.reduceAdd, Nat.reduceMul, Nat.reduceSub, Nat.reduceLT, Nat.reduceLeDiff, Nat.reducePow, Int.reduceLT, Int.reduceLE, Int.reduceNeg, Int.reduceToNat, lu8, w1, wq8, wq16, wq32, wq64, q, q1, q2, q3, Int.reduceEq, ccs_cf, List.map_cons, List.map_nil, gvo, q4, qd, wd, qa, qb, qg, qe]
            rw [hG] at IH
            simp only [gv, gcs, lv, lvT, elv, elT', iv, map1_app, List.map_append, List.map_cons, List.map_nil, ecs] at IH
            refine ecallK_intro (pre := [lu8 codes, iv (at' + 1)]) (x := iv (left - 1)) rfl rfl IH ?_
            simp (dsimp := false) (maxDischargeDepth := 16) only [go_sem, ↓reduceIte, reduceCtorEq, Nat.reduceEqDiff, Nat.reduceAdd, Nat.reduceMul, Nat.reduceSub, Nat.reduceLT, Nat.reduceLeDiff, Nat.reducePow, Int.reduceLT, Int.reduceLE, Int.reduceNeg, Int.reduceToNat, lu8, w1, wq8, wq16, wq32, wq64, q, q1, q2, q3, Int.reduceEq, ccs_cf, List.map_cons, List.map_nil, gvo, q4, qd, wd, qa, qb, qg, qe]
            refine ⟨by decide, .inr ?_, _, rfl, rfl, rfl⟩
            rw [hG]
            simp only [idm, rng, lv, lvT, elv, elT', iv, map1_app, List.map_append, List.map_cons, List.map_nil, ecs]
      · have nb : (c.tdiv 8).tmod 3 = 2 := by simpa using qb
        simp (dsimp := false) (maxDischargeDepth := 16) only [go_sem, ↓reduceIte, reduceCtorEq, Nat.reduceEqDiff, Nat.reduceAdd, Nat.reduceMul, Nat.reduceSub, Nat.reduceLT, Nat.reduceLeDiff, Nat.reducePow, Int.reduceLT, Int.reduceLE, Int.reduceNeg, Int.reduceToNat, lu8, w1, wq8, wq16, wq32, wq64, q, q1, q2, q3, Int.reduceEq, ccs_cf, List.map_cons, List.map_nil, gvo, q4, qd, wd, qa, qb]
        have hNS : exN a c = a.n := by unfold exN; rw [if_neg (by omega)]
        refine condK_intro (fun qe => ?_) (fun qe => ?_)
        · have ne0 : (c.tdiv 8).tmod 3 ≠ 0 := by simpa using qe
          simp (dsimp := false) (maxDischargeDepth := 16) only [go_sem, ↓reduceIte, reduceCtorEq, Nat.reduceEqDiff, Nat.reduceAdd, Nat.reduceMul, Nat.reduceSub, Nat.reduceLT, Nat.reduceLeDiff, Nat.reducePow, Int.reduceLT, Int.reduceLE, Int.reduceNeg, Int.reduceToNat, lu8, w1, wq8, wq16, wq32, wq64, q, q1, q2, q3, Int.reduceEq, ccs_cf, List.map_cons, List.map_nil, gvo, q4, qd, wd, qa, qb, qe]
          refine condK_dec (fun qf => ?_) (fun qf => ?_)
          · have hn0 : (((a.n.length : Nat) : Int) = 0) = False   := eq_false (by omega)
            have wn : IntKind.i64.wrap (((a.n.length : Nat) : Int) - 1) = ((a.n.length : Nat) : Int) - 1 := wrap_i64 _ (by omega) (by omega)
            simp (dsimp := false) (maxDischargeDepth := 16) only [go_sem, ↓reduceIte, reduceCtorEq, Nat.reduceEqDiff, Nat.reduceAdd, Nat.reduceMul, Nat.reduceSub, Nat.reduceLT, Nat.reduceLeDiff, Nat.reducePow, Int.reduceLT, Int.reduceLE, Int.reduceNeg, Int.reduceToNat, lu8, w1, wq8, wq16, wq32, wq64, q, q1, q2, q3, Int.reduceEq, ccs_cf, List.map_cons, List.map_nil, gvo, q4, qd, wd, qa, qb, qe, qf, hn0, wn]
            refine ⟨⟨by omega, by omega⟩, ?_⟩
            have hG : exG a c = ⟨a.n, a.e ++ [((c.tdiv 64).tmod 2, (c.tdiv 16).tmod ((a.n.length : Nat) : Int), ((a.n.length : Nat) : Int) - 1)]⟩ := by unfold exG; rw [hNS]; rw [if_pos ⟨ne0, by omega⟩]; try simp
            refine callK_intro C4 ?_
            simp (dsimp := false) (maxDischargeDepth := 16) only [go_sem, ↓reduceIte, reduceCtorEq, Nat.reduceEqDiff, Nat.reduceAdd, Nat.reduceMul, Nat.reduceSub, Nat.reduceLT, Nat.reduceLeDiff, Nat.reducePow, Int.reduceLT, Int.reduceLE, Int.reduceNeg, Int.reduceToNat, lu8, w1, wq8, wq16, wq32, wq64, q, q1, q2, q3, Int.reduceEq, ccs_cf, List.map_cons, List.map_nil, gvo, q4, qd, wd, qa, qb, qe, qf, hn0, wn]
            rw [hG] at IH
            simp only [gv, gcs, lv, lvT, elv, elT', iv, map1_app, List.map_append, List.map_cons, List.map_nil, ecs] at IH
            refine ecallK_intro (pre := [lu8 codes, iv (at' + 1)]) (x := iv (left - 1)) rfl rfl IH ?_
            simp (dsimp := false) (maxDischargeDepth := 16) only [go_sem, ↓reduceIte, reduceCtorEq, Nat.reduceEqDiff, Nat.reduceAdd, Nat.reduceMul, Nat.reduceSub, Nat.reduceLT, Nat.reduceLeDiff, Nat.reducePow, Int.reduceLT, Int.reduceLE, Int.reduceNeg, Int.reduceToNat, lu8, w1, wq8, wq16, wq32, wq64, q, q1, q2, q3, Int.reduceEq, ccs_cf, List.map_cons, List.map_nil, gvo, q4, qd, wd, qa, qb, qe, qf, hn0, wn]
            refine ⟨by decide, .inr ?_, _, rfl, rfl, rfl⟩
            rw [hG]
            simp only [idm, rng, lv, lvT, elv, elT', iv, map1_app, List.map_append, List.map_cons, List.map_nil, ecs]
          · simp (dsimp := false) (maxDischargeDepth := 16) only [go_sem, ↓reduceIte, reduceCtorEq, Nat.reduceEqDiff, Nat.reduceAdd, Nat.reduceMul, Nat.reduceSub, Nat.reduceLT, Nat.reduceLeDiff, Nat.reducePow, Int.reduceLT, Int.reduceLE, Int.reduceNeg, Int.reduceToNat, lu8, w1, wq8, wq16, wq32, wq64, q, q1, q2, q3, Int.reduceEq, ccs_cf, List.map_cons, List.map_nil, gvo, q4, qd, wd, qa, qb, qe, qf]
            have hG : exG a c = ⟨a.n, a.e⟩ := by unfold exG; rw [hNS]; rw [if_neg (by omega)]
            refine callK_intro C4 ?_
            simp (dsimp := false) (maxDischargeDepth := 16) only [go_sem, ↓reduceIte, reduceCtorEq, Nat.reduceEqDiff, Nat.reduceAdd, Nat.reduceMul, Nat.reduceSub, Nat.reduceLT, Nat.reduceLeDiff, Nat.reducePow, Int.reduceLT, Int.reduceLE, Int.reduceNeg, Int.reduceToNat, lu8, w1, wq8, wq16, wq32, wq64, q, q1, q2, q3, Int.reduceEq, ccs_cf, List.map_cons, List.map_nil, gvo, q4, qd, wd, qa, qb, qe, qf]
            rw [hG] at IH
            simp only [gv, gcs, lv, lvT, elv, elT', iv, map1_app, List.map_append, List.map_cons, List.map_nil, ecs] at IH
            refine ecallK_intro (pre := [lu8 codes, iv (at' + 1)]) (x := iv (left - 1)) rfl rfl IH ?_
            simp (dsimp := false) (maxDischargeDepth := 16) only [go_sem, ↓reduceIte, reduceCtorEq, Nat.reduceEqDiff, Nat.reduceAdd, Nat.reduceMul, Nat.reduceSub, Nat.reduceLT, Nat.reduceLeDiff, Nat.reducePow, Int.reduceLT, Int.reduceLE, Int.reduceNeg, Int.reduceToNat, lu8, w1, wq8, wq16, wq32, wq64, q, q1, q2, q3, Int.reduceEq, ccs_cf, List.map_cons, List.map_nil, gvo, q4, qd, wd, qa, qb, qe, qf]
            refine ⟨by decide, .inr ?_, _, rfl, rfl, rfl⟩
            rw [hG]
            simp only [idm, rng, lv, lvT, elv, elT', iv, map1_app, List.map_append, List.map_cons, List.map_nil, ecs]
        · have e0 : (c.tdiv 8).tmod 3 = 0 := by simpa using qe
          simp (dsimp := false) (maxDischargeDepth := 16) only [go_sem, ↓reduceIte, reduceCtorEq, Nat.reduceEqDiff, Nat.reduceAdd, Nat.reduceMul, Nat.reduceSub, Nat.reduceLT, Nat.reduceLeDiff, Nat.reducePow, Int.reduceLT, Int.reduceLE, Int.reduceNeg, Int.reduceToNat, lu8, w1, wq8, wq16, wq32, wq64, q, q1, q2, q3, Int.reduceEq, ccs_cf, List.map_cons, List.map_nil, gvo, q4, qd, wd, qa, qb, qe]
          have hG : exG a c = ⟨a.n, a.e⟩ := by unfold exG; rw [hNS]; rw [if_neg (by omega)]
          refine callK_intro C4 ?_
          simp (dsimp := false) (maxDischargeDepth := 16) only [go_sem, ↓reduceIte, reduceCtorEq, Nat.reduceEqDiff, Nat.reduceAdd, Nat.reduceMul, Nat.reduceSub, Nat.reduceLT, Nat.reduceLeDiff, Nat.reducePow, Int.reduceLT, Int.reduceLE, Int.reduceNeg, Int.reduceToNat, lu8, w1, wq8, wq16, wq32, wq64, q, q1, q2, q3, Int.reduceEq, ccs_cf, List.map_cons, List.map_nil, gvo, q4, qd, wd, qa, qb, qe]
          rw [hG] at IH
          simp only [gv, gcs, lv, lvT, elv, elT', iv, map1_app, List.map_append, List.map_cons, List.map_nil, ecs] at IH
          refine ecallK_intro (pre := [lu8 codes, iv (at' + 1)]) (x := iv (left - 1)) rfl rfl IH ?_
          simp (dsimp := false) (maxDischargeDepth := 16) only [go_sem, ↓reduceIte, reduceCtorEq, Nat.reduceEqDiff, Nat.reduceAdd, Nat.reduceMul, Nat.reduceSub, Nat.reduceLT, Nat.reduceLeDiff, Nat.reducePow, Int.reduceLT, Int.reduceLE, Int.reduceNeg, Int.reduceToNat, lu8, w1, wq8, wq16, wq32, wq64, q, q1, q2, q3, Int.reduceEq, ccs_cf, List.map_cons, List.map_nil, gvo, q4, qd, wd, qa, qb, qe]
          refine ⟨by decide, .inr ?_, _, rfl, rfl, rfl⟩
          rw [hG]
          simp only [idm, rng, lv, lvT, elv, elT', iv, map1_app, List.map_append, List.map_cons, List.map_nil, ecs]
    have n4 : ¬ c.tmod 6 = 4 := by simpa using q4
    simp (dsimp := false) (maxDischargeDepth := 16) only [go_sem, ↓reduceIte, reduceCtorEq, Nat.reduceEqDiff, Nat.reduceAdd, Nat.reduceMul, Nat.reduceSub, Nat.reduceLT, Nat.reduceLeDiff, Nat.reducePow, Int.reduceLT, Int.reduceLE, Int.reduceNeg, Int.reduceToNat, lu8, w1, q, q1, q2, q3, q4, Int.reduceEq]
    refine condK_intro (fun q5 => ?_) (fun q5 => ?_)
    · have e5 := eq_of_beq q5
      rw [if_pos (.inr e5)]
      simp (dsimp := false) (maxDischargeDepth := 16) only [go_sem, ↓reduceIte, reduceCtorEq, Nat.reduceEqDiff, Nat.reduceAdd, Nat.reduceMul, Nat.reduceSub, Nat.reduceLT, Nat.reduceLeDiff, Nat.reducePow, Int.reduceLT, Int.reduceLE, Int.reduceNeg, Int.reduceToNat, lu8, w1, wq8, wq16, wq32, wq64, q, q1, q2, q3, Int.reduceEq, ccs_cf, List.map_cons, List.map_nil, gvo, q4, q5]
      refine condK_intro (fun qd => ?_) (fun qd => ?_)
      · rw [if_pos (eq_of_beq qd)]
        simp only
        rw [cv_tru]
        simp (dsimp := false) (maxDischargeDepth := 16) only [go_sem, ↓reduceIte, reduceCtorEq, Nat.reduceEqDiff, Nat.reduceAdd, Nat.reduceMul, Nat.reduceSub, Nat.reduceLT, Nat.reduceLeDiff, Nat.reducePow, Int.reduceLT, Int.reduceLE, Int.reduceNeg, Int.reduceToNat, lu8, w1, wq8, wq16, wq32, wq64, q, q1, q2, q3, Int.reduceEq, ccs_cf, List.map_cons, List.map_nil, gvo, q4, q5, qd]
        refine callK_intro C2 ?_
        simp (dsimp := false) (maxDischargeDepth := 16) only [go_sem, ↓reduceIte, reduceCtorEq, Nat.reduceEqDiff, Nat.reduceAdd, Nat.reduceMul, Nat.reduceSub, Nat.reduceLT, Nat.reduceLeDiff, Nat.reducePow, Int.reduceLT, Int.reduceLE, Int.reduceNeg, Int.reduceToNat, lu8, w1, wq8, wq16, wq32, wq64, q, q1, q2, q3, Int.reduceEq, ccs_cf, List.map_cons, List.map_nil, gvo, q4, q5, qd]
        exact ⟨.inr trivial, _, rfl, rfl, rfl⟩
      have nd : ¬ d = 0 := by simpa using qd
      have wd : IntKind.i64.wrap (d - 1) = d - 1 := wrap_i64 _ (by omega) (by omega)
      have xl := exG_len a c
      have IH := ih (exG a c) (d - 1) (at' + 1) (left - 1) (by omega) (by omega) (by omega) (by omega) (by omega) (by omega) (by omega) (by omega) (by omega)
      generalize mk F codes (exG a c) (d - 1) (at' + 1) (left - 1) = r at *
      obtain ⟨r1, r2, r3⟩ := r
      clear ih
      rw [if_neg nd]
      simp (dsimp := false) (maxDischargeDepth := 16) only [go_sem, ↓reduceIte, reduceCtorEq, Nat.reduceEqDiff, Nat.reduceAdd, Nat.reduceMul, Nat.reduceSub, Nat.reduceLT, Nat.reduceLeDiff, Nat.reducePow, Int.reduceLT, Int.reduceLE, Int.reduceNeg, Int.reduceToNat, lu8, w1, wq8, wq16, wq32, wq64, q, q1, q2, q3, Int.reduceEq, ccs_cf, List.map_cons, List.map_nil, gvo, q4, q5, qd, wd]
      refine callK_intro C3 ?_
      simp (dsimp := false) (maxDischargeDepth := 16) only [go_sem, ↓reduceIte, reduceCtorEq, Nat.reduceEqDiff, Nat.reduceAdd, Nat.reduceMul, Nat.reduceSub, Nat.reduceLT, Nat.reduceLeDiff, Nat.reducePow, Int.reduceLT, Int.reduceLE, Int.reduceNeg, Int.reduceToNat, lu8, w1, wq8, wq16, wq32, wq64, q, q1, q2, q3, Int.reduceEq, ccs_cf, List.map_cons, List.map_nil, gvo, q4, q5, qd, wd]
      refine condK_intro (fun qa => ?_) (fun qa => ?_)
      · have za : a.n.length = 0 := by simpa using qa
        simp (dsimp := false) (maxDischargeDepth := 16) only [go_sem, ↓reduceIte, reduceCtorEq, Nat.reduceEqDiff, Nat.reduceAdd, Nat.reduceMul, Nat.reduceSub, Nat.reduceLT, Nat.reduceLeDiff, Nat.reducePow, Int.reduceLT, Int.reduceLE, Int.reduceNeg, Int.reduceToNat, lu8, w1, wq8, wq16, wq32, wq64, q, q1, q2, q3, Int.reduceEq, ccs_cf, List.map_cons, List.map_nil, gvo, q4, q5, qd, wd, qa, map1_app, List.length_map]
        refine ⟨⟨by omega, by omega⟩, ?_⟩
        have hNS : exN a c = a.n ++ [(c.tdiv 32).tmod 3] := by unfold exN; rw [if_pos (.inl za)]
        refine condK_intro (fun qe => ?_) (fun qe => ?_)
        · have ne0 : (c.tdiv 8).tmod 3 ≠ 0 := by simpa using qe
          simp (dsimp := false) (maxDischargeDepth := 16) only [go_sem, ↓reduceIte, reduceCtorEq, Nat.reduceEqDiff, Nat.reduceAdd, Nat.reduceMul, Nat.reduceSub, Nat.reduceLT, Nat.reduceLeDiff, Nat.reducePow, Int.reduceLT, Int.reduceLE, Int.reduceNeg, Int.reduceToNat, lu8, w1, wq8, wq16, wq32, wq64, q, q1, q2, q3, Int.reduceEq, ccs_cf, List.map_cons, List.map_nil, gvo, q4, q5, qd, wd, qa, map1_app, List.length_map, List.length_append, List.length_singleton, qe]
          refine condK_dec (fun qf => ?_) (fun qf => ?_)
          · have hn0 : (((a.n.length + 1 : Nat) : Int) = 0) = False   := eq_false (by omega)
            have wn : IntKind.i64.wrap (((a.n.length + 1 : Nat) : Int) - 1) = ((a.n.length + 1 : Nat) : Int) - 1 := wrap_i64 _ (by omega) (by omega)
            simp (dsimp := false) (maxDischargeDepth := 16) only [go_sem, ↓reduceIte, reduceCtorEq, Nat.reduceEqDiff, Nat.reduceAdd, Nat.reduceMul, Nat.reduceSub, Nat.reduceLT, Nat.reduceLeDiff, Nat.reducePow, Int.reduceLT, Int.reduceLE, Int.reduceNeg, Int.reduceToNat, lu8, w1, wq8, wq16, wq32, wq64, q, q1, q2, q3, Int.reduceEq, ccs_cf, List.map_cons, List.map_nil, gvo, q4, q5, qd, wd, qa, map1_app, List.length_map, List.length_append, List.length_singleton, qe, qf, hn0, wn]
            refine ⟨⟨by omega, by omega⟩, ?_⟩
            have hG : exG a c = ⟨a.n ++ [(c.tdiv 32).tmod 3], a.e ++ [((c.tdiv 64).tmod 2, (c.tdiv 16).tmod ((a.n.length + 1 : Nat) : Int), ((a.n.length + 1 : Nat) : Int) - 1)]⟩ := by unfold exG; rw [hNS]; rw [if_pos ⟨ne0, by omega⟩]; try simp
            refine callK_intro C4 ?_
            simp (dsimp := false) (maxDischargeDepth := 16) only [go_sem, ↓reduceIte, reduceCtorEq, Nat.reduceEqDiff, Nat.reduceAdd, Nat.reduceMul, Nat.reduceSub, Nat.reduceLT, Nat.reduceLeDiff, Nat.reducePow, Int.reduceLT, Int.reduceLE, Int.reduceNeg, Int.reduceToNat, lu8, w1, wq8, wq16, wq32, wq64, q, q1, q2, q3, Int.reduceEq, ccs_cf, List.map_cons, List.map_nil, gvo, q4, q5, qd, wd, qa, map1_app, List.length_map, List.length_append, List.length_singleton, qe, qf, hn0, wn]
            rw [hG] at IH
            simp only [gv, gcs, lv, lvT, elv, elT', iv, map1_app, List.map_append, List.map_cons, List.map_nil, ecs] at IH
            refine ecallK_intro (pre := [lu8 codes, iv (at' + 1)]) (x := iv (left - 1)) rfl rfl IH ?_
            simp (dsimp := false) (maxDischargeDepth := 16) only [go_sem, ↓reduceIte, reduceCtorEq, Nat.reduceEqDiff, Nat.reduceAdd, Nat.reduceMul, Nat.reduceSub, Nat.reduceLT, Nat.reduceLeDiff, Nat.reducePow, Int.reduceLT, Int.reduceLE, Int.reduceNeg, Int.reduceToNat, lu8, w1, wq8, wq16, wq32, wq64, q, q1, q2, q3, Int.reduceEq, ccs_cf, List.map_cons, List.map_nil, gvo, q4, q5, qd, wd, qa, map1_app, List.length_map, List.length_append, List.length_singleton, qe, qf, hn0, wn]
            refine ⟨by decide, .inr ?_, _, rfl, rfl, rfl⟩
            rw [hG]
            simp only [idm, rng, lv, lvT, elv, elT', iv, map1_app, List.map_append, List.map_cons, List.map_nil, ecs]
          · simp (dsimp := false) (maxDischargeDepth := 16) only [go_sem, ↓reduceIte, reduceCtorEq, Nat.reduceEqDiff, Nat.reduceAdd, Nat.reduceMul, Nat.reduceSub, Nat.reduceLT, Nat.reduceLeDiff, Nat.reducePow, Int.reduceLT, Int.reduceLE, Int.reduceNeg, Int.reduceToNat, lu8, w1, wq8, wq16, wq32, wq64, q, q1, q2, q3, Int.reduceEq, ccs_cf, List.map_cons, List.map_nil, gvo, q4, q5, qd, wd, qa, map1_app, List.length_map, List.length_append, List.length_singleton, qe, qf]
            have hG : exG a c = ⟨a.n ++ [(c.tdiv 32).tmod 3], a.e⟩ := by unfold exG; rw [hNS]; rw [if_neg (by omega)]
            refine callK_intro C4 ?_
            simp (dsimp := false) (maxDischargeDepth := 16) only [go_sem, ↓reduceIte, reduceCtorEq, Nat.reduceEqDiff, Nat.reduceAdd, Nat.reduceMul, Nat.reduceSub, Nat.reduceLT, Nat.reduceLeDiff, Nat.reducePow, Int.reduceLT, Int.reduceLE, Int.reduceNeg, Int.reduceToNat, lu8, w1, wq8, wq16, wq32, wq64, q, q1, q2, q3, Int.reduceEq, ccs_cf, List.map_cons, List.map_nil, gvo, q4, q5, qd, wd, qa, map1_app, List.length_map, List.length_append, List.length_singleton, qe, qf]
            rw [hG] at IH
            simp only [gv, gcs, lv, lvT, elv, elT', iv, map1_app, List.map_append, List.map_cons, List.map_nil, ecs] at IH
            refine ecallK_intro (pre := [lu8 codes, iv (at' + 1)]) (x := iv (left - 1)) rfl rfl IH ?_
            simp (dsimp := false) (maxDischargeDepth := 16) only [go_sem, ↓reduceIte, reduceCtorEq, Nat.reduceEqDiff, Nat.reduceAdd, Nat.reduceMul, Nat.reduceSub, Nat.reduceLT, Nat.reduceLeDiff, Nat.reducePow, Int.reduceLT, Int.reduceLE, Int.reduceNeg, Int.reduceToNat, lu8, w1, wq8, wq16, wq32, wq64, q, q1, q2, q3, Int.reduceEq, ccs_cf, List.map_cons, List.map_nil, gvo, q4, q5, qd, wd, qa, map1_app, List.length_map, List.length_append, List.length_singleton, qe, qf]
            refine ⟨by decide, .inr ?_, _, rfl, rfl, rfl⟩
            rw [hG]
            simp only [idm, rng, lv, lvT, elv, elT', iv, map1_app, List.map_append, List.map_cons, List.map_nil, ecs]
        · have e0 : (c.tdiv 8).tmod 3 = 0 := by simpa using qe
          simp (dsimp := false) (maxDischargeDepth := 16) only [go_sem, ↓reduceIte, reduceCtorEq, Nat.reduceEqDiff, Nat.reduceAdd, Nat.reduceMul, Nat.reduceSub, Nat.reduceLT, Nat.reduceLeDiff, Nat.reducePow, Int.reduceLT, Int.reduceLE, Int.reduceNeg, Int.reduceToNat, lu8, w1, wq8, wq16, wq32, wq64, q, q1, q2, q3, Int.reduceEq, ccs_cf, List.map_cons, List.map_nil, gvo, q4, q5, qd, wd, qa, map1_app, List.length_map, List.length_append, List.length_singleton, qe]
          have hG : exG a c = ⟨a.n ++ [(c.tdiv 32).tmod 3], a.e⟩ := by unfold exG; rw [hNS]; rw [if_neg (by omega)]
          refine callK_intro C4 ?_
          simp (dsimp := false) (maxDischargeDepth := 16) only [go_sem, ↓reduceIte, reduceCtorEq, Nat.reduceEqDiff, Nat.reduceAdd, Nat.reduceMul, Nat.reduceSub, Nat.reduceLT, Nat.reduceLeDiff, Nat.reducePow, Int.reduceLT, Int.reduceLE, Int.reduceNeg, Int.reduceToNat, lu8, w1, wq8, wq16, wq32, wq64, q, q1, q2, q3, Int.reduceEq, ccs_cf, List.map_cons, List.map_nil, gvo, q4, q5, qd, wd, qa, map1_app, List.length_map, List.length_append, List.length_singleton, qe]
          rw [hG] at IH
          simp only [gv, gcs, lv, lvT, elv, elT', iv, map1_app, List.map_append, List.map_cons, List.map_nil, ecs] at IH
          refine ecallK_intro (pre := [lu8 codes, iv (at' + 1)]) (x := iv (left - 1)) rfl rfl IH ?_
          simp (dsimp := false) (maxDischargeDepth := 16) only [go_sem, ↓reduceIte, reduceCtorEq, Nat.reduceEqDiff, Nat.reduceAdd, Nat.reduceMul, Nat.reduceSub, Nat.reduceLT, Nat.reduceLeDiff, Nat.reducePow, Int.reduceLT, Int.reduceLE, Int.reduceNeg, Int.reduceToNat, lu8, w1, wq8, wq16, wq32, wq64, q, q1, q2, q3, Int.reduceEq, ccs_cf, List.map_cons, List.map_nil, gvo, q4, q5, qd, wd, qa, map1_app, List.length_map, List.length_append, List.length_singleton, qe]
          refine ⟨by decide, .inr ?_, _, rfl, rfl, rfl⟩
          rw [hG]
          simp only [idm, rng, lv, lvT, elv, elT', iv, map1_app, List.map_append, List.map_cons, List.map_nil, ecs]
      have na : ¬ a.n.length = 0 := by simpa using qa
      simp (dsimp := false) (maxDischargeDepth := 16) only [go_sem, ↓reduceIte, reduceCtorEq, Nat.reduceEqDiff, Nat.reduceAdd, Nat.reduceMul, Nat.reduceSub, Nat.reduceLT, Nat.reduceLeDiff, Nat.reducePow, Int.reduceLT, Int.reduceLE, Int.reduceNeg, Int.reduceToNat, lu8, w1, wq8, wq16, wq32, wq64, q, q1, q2, q3, Int.reduceEq, ccs_cf, List.map_cons, List.map_nil, gvo, q4, q5, qd, wd, qa]
      refine condK_intro (fun qb => ?_) (fun qb => ?_)
      · have nb : (c.tdiv 8).tmod 3 ≠ 2 := by simpa using qb
        simp (dsimp := false) (maxDischargeDepth := 16) only [go_sem, ↓reduceIte, reduceCtorEq, Nat.reduceEqDiff, Nat.reduceAdd, Nat.reduceMul, Nat.reduceSub, Nat.reduceLT, Nat.reduceLeDiff, Nat.reducePow, Int.reduceLT, Int.reduceLE, Int.reduceNeg, Int.reduceToNat, lu8, w1, wq8, wq16, wq32, wq64, q, q1, q2, q3, Int.reduceEq, ccs_cf, List.map_cons, List.map_nil, gvo, q4, q5, qd, wd, qa, qb]
        refine condK_dec (fun qg => ?_) (fun qg => ?_)
        · simp (dsimp := false) (maxDischargeDepth := 16) only [go_sem, ↓reduceIte, reduceCtorEq, Nat.reduceEqDiff, Nat.reduceAdd, Nat.reduceMul, Nat.reduceSub, Nat.reduceLT, Nat.reduceLeDiff, Nat.reducePow, Int.reduceLT, Int.reduceLE, Int.reduceNeg, Int.reduceToNat, lu8, w1, wq8, wq16, wq32, wq64, q, q1, q2, q3, Int.reduceEq, ccs_cf, List.map_cons, List.map_nil, gvo, q4, q5, qd, wd, qa, qb, qg, map1_app, List.length_map]
          refine ⟨⟨by omega, by omega⟩, ?_⟩
          have hNS : exN a c = a.n ++ [(c.tdiv 32).tmod 3] := by unfold exN; rw [if_pos (.inr ⟨nb, by omega⟩)]
          refine condK_intro (fun qe => ?_) (fun qe => ?_)
          · have ne0 : (c.tdiv 8).tmod 3 ≠ 0 := by simpa using qe
            simp (dsimp := false) (maxDischargeDepth := 16) only [go_sem, ↓reduceIte, reduceCtorEq, Nat.reduceEqDiff, Nat.reduceAdd, Nat.reduceMul, Nat.reduceSub, Nat.reduceLT, Nat.reduceLeDiff, Nat.reducePow, Int.reduceLT, Int.reduceLE, Int.reduceNeg, Int.reduceToNat, lu8, w1, wq8, wq16, wq32, wq64, q, q1, q2, q3, Int.reduceEq, ccs_cf, List.map_cons, List.map_nil, gvo, q4, q5, qd, wd, qa, qb, qg, map1_app, List.length_map, List.length_append, List.length_singleton, qe]
            refine condK_dec (fun qf => ?_) (fun qf => ?_)
            · have hn0 : (((a.n.length + 1 : Nat) : Int) = 0) = False   := eq_false (by omega)
              have wn : IntKind.i64.wrap (((a.n.length + 1 : Nat) : Int) - 1) = ((a.n.length + 1 : Nat) : Int) - 1 := wrap_i64 _ (by omega) (by omega)
              simp (dsimp := false) (maxDischargeDepth := 16) only [go_sem, ↓reduceIte, reduceCtorEq, Nat.reduceEqDiff, Nat.reduceAdd, Nat.reduceMul, Nat.reduceSub, Nat.reduceLT, Nat.reduceLeDiff, Nat.reducePow, Int.reduceLT, Int.reduceLE, Int.reduceNeg, Int.reduceToNat, lu8, w1, wq8, wq16, wq32, wq64, q, q1, q2, q3, Int.reduceEq, ccs_cf, List.map_cons, List.map_nil, gvo, q4, q5, qd, wd, qa, qb, qg, map1_app, List.length_map, List.length_append, List.length_singleton, qe, qf, hn0, wn]
              refine ⟨⟨by omega, by omega⟩, ?_⟩
              have hG : exG a c = ⟨a.n ++ [(c.tdiv 32).tmod 3], a.e ++ [((c.tdiv 64).tmod 2, (c.tdiv 16).tmod ((a.n.length + 1 : Nat) : Int), ((a.n.length + 1 : Nat) : Int) - 1)]⟩ := by unfold exG; rw [hNS]; rw [if_pos ⟨ne0, by omega⟩]; try simp
              refine callK_intro C4 ?_
              simp (dsimp := false) (maxDischargeDepth := 16) only [go_sem, ↓reduceIte, reduceCtorEq, Nat.reduceEqDiff, Nat.reduceAdd, Nat.reduceMul, Nat.reduceSub, Nat.reduceLT, Nat.reduceLeDiff, Nat.reducePow, Int.reduceLT, Int.reduceLE, Int.reduceNeg, Int.reduceToNat, lu8, w1, wq8, wq16, wq32, wq64, q, q1, q2, q3, Int.reduceEq, ccs_cf, List.map_cons, List.map_nil, gvo, q4, q5, qd, wd, qa, qb, qg, map1_app, List.length_map, List.length_append, List.length_singleton, qe, qf, hn0, wn]
              rw [hG] at IH
              simp only [gv, gcs, lv, lvT, elv, elT', iv, map1_app, List.map_append, List.map_cons, List.map_nil, ecs] at IH
              refine ecallK_intro (pre := [lu8 codes, iv (at' + 1)]) (x := iv (left - 1)) rfl rfl IH ?_
              simp (dsimp := false) (maxDischargeDepth := 16) only [go_sem, ↓reduceIte, reduceCtorEq, Nat.reduceEqDiff, Nat.reduceAdd, Nat.reduceMul, Nat.reduceSub, Nat.reduceLT, Nat.reduceLeDiff, Nat.reducePow, Int.reduceLT, Int.reduceLE, Int.reduceNeg, Int.reduceToNat, lu8, w1, wq8, wq16, wq32, wq64, q, q1, q2, q3, Int.reduceEq, ccs_cf, List.map_cons, List.map_nil, gvo, q4, q5, qd, wd, qa, qb, qg, map1_app, List.length_map, List.length_append, List.length_singleton, qe, qf, hn0, wn]
              refine ⟨by decide, .inr ?_, _, rfl, rfl, rfl⟩
              rw [hG]
              simp only [idm, rng, lv, lvT, elv, elT', iv, map1_app, List.map_append, List.map_cons, List.map_nil, ecs]
            · simp (dsimp := false) (maxDischargeDepth := 16) only [go_sem, ↓reduceIte, reduceCtorEq, Nat.reduceEqDiff, Nat.reduceAdd, Nat.reduceMul, Nat.reduceSub, Nat.reduceLT, Nat.reduceLeDiff, Nat.reducePow, Int.reduceLT, Int.reduceLE, Int.reduceNeg, Int.reduceToNat, lu8, w1, wq8, wq16, wq32, wq64, q, q1, q2, q3, Int.reduceEq, ccs_cf, List.map_cons, List.map_nil, gvo, q4, q5, qd, wd, qa, qb, qg, map1_app, List.length_map, List.length_append, List.length_singleton, qe, qf]
              have hG : exG a c = ⟨a.n ++ [(c.tdiv 32).tmod 3], a.e⟩ := by unfold exG; rw [hNS]; rw [if_neg (by omega)]
              refine callK_intro C4 ?_
              simp (dsimp := false) (maxDischargeDepth := 16) only [go_sem, ↓reduceIte, reduceCtorEq, Nat.reduceEqDiff, Nat.reduceAdd, Nat.reduceMul, Nat.reduceSub, Nat.reduceLT, Nat.reduceLeDiff, Nat.reducePow, Int.reduceLT, Int.reduceLE, Int.reduceNeg, Int.reduceToNat, lu8, w1, wq8, wq16, wq32, wq64, q, q1, q2, q3, Int.reduceEq, ccs_cf, List.map_cons, List.map_nil, gvo, q4, q5, qd, wd, qa, qb, qg, map1_app, List.length_map, List.length_append, List.length_singleton, qe, qf]
              rw [hG] at IH
              simp only [gv, gcs, lv, lvT, elv, elT', iv, map1_app, List.map_append, List.map_cons, List.map_nil, ecs] at IH
              refine ecallK_intro (pre := [lu8 codes, iv (at' + 1)]) (x := iv (left - 1)) rfl rfl IH ?_
              simp (dsimp := false) (maxDischargeDepth := 16) only [go_sem, ↓reduceIte, reduceCtorEq, Nat.reduceEqDiff, Nat.reduceAdd, Nat.reduceMul, Nat.reduceSub, Nat.reduceLT, Nat.reduceLeDiff, Nat.reducePow, Int.reduceLT, Int.reduceLE, Int.reduceNeg, Int.reduceToNat, lu8, w1, wq8, wq16, wq32, wq64, q, q1, q2, q3, Int.reduceEq, ccs_cf, List.map_cons, List.map_nil, gvo, q4, q5, qd, wd, qa, qb, qg, map1_app, List.length_map, List.length_append, List.length_singleton, qe, qf]
              refine ⟨by decide, .inr ?_, _, rfl, rfl, rfl⟩
              rw [hG]
              simp only [idm, rng, lv, lvT, elv, elT', iv, map1_app, List.map_append, List.map_cons, List.map_nil, ecs]
          · have e0 : (c.tdiv 8).tmod 3 = 0 := by simpa using qe
            simp (dsimp := false) (maxDischargeDepth := 16) only [go_sem, ↓reduceIte, reduceCtorEq, Nat.reduceEqDiff, Nat.reduceAdd, Nat.reduceMul, Nat.reduceSub, Nat.reduceLT, Nat.reduceLeDiff, Nat.reducePow, Int.reduceLT, Int.reduceLE, Int.reduceNeg, Int.reduceToNat, lu8, w1, wq8, wq16, wq32, wq64, q, q1, q2, q3, Int.reduceEq, ccs_cf, List.map_cons, List.map_nil, gvo, q4, q5, qd, wd, qa, qb, qg, map1_app, List.length_map, List.length_append, List.length_singleton, qe]
            have hG : exG a c = ⟨a.n ++ [(c.tdiv 32).tmod 3], a.e⟩ := by unfold exG; rw [hNS]; rw [if_neg (by omega)]
            refine callK_intro C4 ?_
            simp (dsimp := false) (maxDischargeDepth := 16) only [go_sem, ↓reduceIte, reduceCtorEq, Nat.reduceEqDiff, Nat.reduceAdd, Nat.reduceMul, Nat.reduceSub, Nat.reduceLT, Nat.reduceLeDiff, Nat.reducePow, Int.reduceLT, Int.reduceLE, Int.reduceNeg, Int.reduceToNat, lu8, w1, wq8, wq16, wq32, wq64, q, q1, q2, q3, Int.reduceEq, ccs_cf, List.map_cons, List.map_nil, gvo, q4, q5, qd, wd, qa, qb, qg, map1_app, List.length_map, List.length_append, List.length_singleton, qe]
            rw [hG] at IH
            simp only [gv, gcs, lv, lvT, elv, elT', iv, map1_app, List.map_append, List.map_cons, List.map_nil, ecs] at IH
            refine ecallK_intro (pre := [lu8 codes, iv (at' + 1)]) (x := iv (left - 1)) rfl rfl IH ?_
            simp (dsimp := false) (maxDischargeDepth := 16) only [go_sem, ↓reduceIte, reduceCtorEq, Nat.reduceEqDiff, Nat.reduceAdd, Nat.reduceMul, Nat.reduceSub, Nat.reduceLT, Nat.reduceLeDiff, Nat.reducePow, Int.reduceLT, Int.reduceLE, Int.reduceNeg, Int.reduceToNat, lu8, w1, wq8, wq16, wq32, wq64, q, q1, q2, q3, Int.reduceEq, ccs_cf, List.map_cons, List.map_nil, gvo, q4, q5, qd, wd, qa, qb, qg, map1_app, List.length_map, List.length_append, List.length_singleton, qe]
            refine ⟨by decide, .inr ?_, _, rfl, rfl, rfl⟩
            rw [hG]
            simp only [idm, rng, lv, lvT, elv, elT', iv, map1_app, List.map_append, List.map_cons, List.map_nil, ecs]
        · simp (dsimp := false) (maxDischargeDepth := 16) only [go_sem, ↓reduceIte, reduceCtorEq, Nat.reduceEqDiff, Nat.reduceAdd, Nat.reduceMul, Nat.reduceSub, Nat.reduceLT, Nat.reduceLeDiff, Nat.reducePow, Int.reduceLT, Int.reduceLE, Int.reduceNeg, Int.reduceToNat, lu8, w1, wq8, wq16, wq32, wq64, q, q1, q2, q3, Int.reduceEq, ccs_cf, List.map_cons, List.map_nil, gvo, q4, q5, qd, wd, qa, qb, qg]
          have hNS : exN a c = a.n := by unfold exN; rw [if_neg (by omega)]
          refine condK_intro (fun qe => ?_) (fun qe => ?_)
          · have ne0 : (c.tdiv 8).tmod 3 ≠ 0 := by simpa using qe
            simp (dsimp := false) (maxDischargeDepth := 16) only [go_sem, ↓reduceIte, reduceCtorEq, Nat.reduceEqDiff, Nat.reduceAdd, Nat.reduceMul, Nat.reduceSub, Nat.reduceLT, Nat.reduceLeDiff, Nat.reducePow, Int.reduceLT, Int.reduceLE, Int.reduceNeg, Int.reduceToNat, lu8, w1, wq8, wq16, wq32, wq64, q, q1, q2, q3, Int.reduceEq, ccs_cf, List.map_cons, List.map_nil, gvo, q4, q5, qd, wd, qa, qb, qg, qe]
            refine condK_dec (fun qf => ?_) (fun qf => ?_)
            · have hn0 : (((a.n.length : Nat) : Int) = 0) = False   := eq_false (by omega)
              have wn : IntKind.i64.wrap (((a.n.length : Nat) : Int) - 1) = ((a.n.length : Nat) : Int) - 1 := wrap_i64 _ (by omega) (by omega)
              simp (dsimp := false) (maxDischargeDepth := 16) only [go_sem, ↓reduceIte, reduceCtorEq, Nat.reduceEqDiff, Nat.reduceAdd, Nat.reduceMul, Nat.reduceSub, Nat.reduceLT, Nat.reduceLeDiff, Nat.reducePow, Int.reduceLT, Int.reduceLE, Int.reduceNeg, Int.reduceToNat, lu8, w1, wq8, wq16, wq32, wq64, q, q1, q2, q3, Int.reduceEq, ccs_cf, List.map_cons, List.map_nil, gvo, q4, q5, qd, wd, qa, qb, qg, qe, qf, hn0, wn]
              refine ⟨⟨by omega, by omega⟩, ?_⟩
              have hG : exG a c = ⟨a.n, a.e ++ [((c.tdiv 64).tmod 2, (c.tdiv 16).tmod ((a.n.length : Nat) : Int), ((a.n.length : Nat) : Int) - 1)]⟩ := by unfold exG; rw [hNS]; rw [if_pos ⟨ne0, by omega⟩]; try simp
              refine callK_intro C4 ?_
              simp (dsimp := false) (maxDischargeDepth := 16) only [go_sem, ↓reduceIte, reduceCtorEq, Nat.reduceEqDiff, Nat.reduceAdd, Nat.reduceMul, Nat.reduceSub, Nat.reduceLT, Nat.reduceLeDiff, Nat.reducePow, Int.reduceLT, Int.reduceLE, Int.reduceNeg, Int.reduceToNat, lu8, w1, wq8, wq16, wq32, wq64, q, q1, q2, q3, Int.reduceEq, ccs_cf, List.map_cons, List.map_nil, gvo, q4, q5, qd, wd, qa, qb, qg, qe, qf, hn0, wn]
              rw [hG] at IH
              simp only [gv, gcs, lv, lvT, elv, elT', iv, map1_app, List.map_append, List.map_cons, List.map_nil, ecs] at IH
              refine ecallK_intro (pre := [lu8 codes, iv (at' + 1)]) (x := iv (left - 1)) rfl rfl IH ?_
              simp (dsimp := false) (maxDischargeDepth := 16) only [go_sem, ↓reduceIte, reduceCtorEq, Nat.reduceEqDiff, Nat.reduceAdd, Nat.reduceMul, Nat.reduceSub, Nat.reduceLT, Nat.reduceLeDiff, Nat.reducePow, Int.reduceLT, Int.reduceLE, Int.reduceNeg, Int.reduceToNat, lu8, w1, wq8, wq16, wq32, wq64, q, q1, q2, q3, Int.reduceEq, ccs_cf, List.map_cons, List.map_nil, gvo, q4, q5, qd, wd, qa, qb, qg, qe, qf, hn0, wn]
              refine ⟨by decide, .inr ?_, _, rfl, rfl, rfl⟩
              rw [hG]
              simp only [idm, rng, lv, lvT, elv, elT', iv, map1_app, List.map_append, List.map_cons, List.map_nil, ecs]
            · simp (dsimp := false) (maxDischargeDepth := 16) only [go_sem, ↓reduceIte, reduceCtorEq, Nat.reduceEqDiff, Nat.reduceAdd, Nat.reduceMul, Nat.reduceSub, Nat.reduceLT, Nat.reduceLeDiff, Nat.reducePow, Int.reduceLT, Int.reduceLE, Int.reduceNeg, Int.reduceToNat, lu8, w1, wq8, wq16, wq32, wq64, q, q1, q2, q3, Int.reduceEq, ccs_cf, List.map_cons, List.map_nil, gvo, q4, q5, qd, wd, qa, qb, qg, qe, qf]
              have hG : exG a c = ⟨a.n, a.e⟩ := by unfold exG; rw [hNS]; rw [if_neg (by omega)]
              refine callK_intro C4 ?_
              simp (dsimp := false) (maxDischargeDepth := 16) only [go_sem, ↓reduceIte, reduceCtorEq, Nat.reduceEqDiff, Nat.reduceAdd, Nat.reduceMul, Nat.reduceSub, Nat.reduceLT, Nat.reduceLeDiff, Nat.reducePow, Int.reduceLT, Int.reduceLE, Int.reduceNeg, Int.reduceToNat, lu8, w1, wq8, wq16, wq32, wq64, q, q1, q2, q3, Int.reduceEq, ccs_cf, List.map_cons, List.map_nil, gvo, q4, q5, qd, wd, qa, qb, qg, qe, qf]
              rw [hG] at IH
              simp only [gv, gcs, lv, lvT, elv, elT', iv, map1_app, List.map_append, List.map_cons, List.map_nil, ecs] at IH
              refine ecallK_intro (pre := [lu8 codes, iv (at' + 1)]) (x := iv (left - 1)) rfl rfl IH ?_
              simp (dsimp := false) (maxDischargeDepth := 16) only [go_sem, ↓reduceIte, reduceCtorEq, Nat.reduceEqDiff, Nat.reduceAdd, Nat.reduceMul, Nat.reduceSub, Nat.reduceLT, Nat.reduceLeDiff, Nat.reducePow, Int.reduceLT, Int.reduceLE, Int.reduceNeg, Int.reduceToNat, lu8, w1, wq8, wq16, wq32, wq64, q, q1, q2, q3, Int.reduceEq, ccs_cf, List.map_cons, List.map_nil, gvo, q4, q5, qd, wd, qa, qb, qg, qe, qf]
              refine ⟨by decide, .inr ?_, _, rfl, rfl, rfl⟩
              rw [hG]
              simp only [idm, rng, lv, lvT, elv, elT', iv, map1_app, List.map_append, List.map_cons, List.map_nil, ecs]
          · have e0 : (c.tdiv 8).tmod 3 = 0 := by simpa using qe
            simp (dsimp := false) (maxDischargeDepth := 16) only [go_sem, ↓reduceIte, reduceCtorEq, Nat.reduceEqDiff, Nat.reduceAdd, Nat.reduceMul, Nat.reduceSub, Nat.reduceLT, Nat.reduceLeDiff, Nat.reducePow, Int.reduceLT, Int.reduceLE, Int.reduceNeg, Int.reduceToNat, lu8, w1, wq8, wq16, wq32, wq64, q, q1, q2, q3, Int.reduceEq, ccs_cf, List.map_cons, List.map_nil, gvo, q4, q5, qd, wd, qa, qb, qg, qe]
            have hG : exG a c = ⟨a.n, a.e⟩ := by unfold exG; rw [hNS]; rw [if_neg (by omega)]
            refine callK_intro C4 ?_
            simp (dsimp := false) (maxDischargeDepth := 16) only [go_sem, ↓reduceIte, reduceCtorEq, Nat.reduceEqDiff, Nat.reduceAdd, Nat.reduceMul, Nat.reduceSub, Nat.reduceLT, Nat.reduceLeDiff, Nat.reducePow, Int.reduceLT, Int.reduceLE, Int.reduceNeg, Int.reduceToNat, lu8, w1, wq8, wq16, wq32, wq64, q, q1, q2, q3, Int.reduceEq, ccs_cf, List.map_cons, List.map_nil, gvo, q4, q5, qd, wd, qa, qb, qg, qe]
            rw [hG] at IH
            simp only [gv, gcs, lv, lvT, elv, elT', iv, map1_app, List.map_append, List.map_cons, List.map_nil, ecs] at IH
            refine ecallK_intro (pre := [lu8 codes, iv (at' + 1)]) (x := iv (left - 1)) rfl rfl IH ?_
            simp (dsimp := false) (maxDischargeDepth := 16) only [go_sem, ↓reduceIte, reduceCtorEq, Nat.reduceEqDiff, Nat.reduceAdd, Nat.reduceMul, Nat.reduceSub, Nat.reduceLT, Nat.reduceLeDiff, Nat.reducePow, Int.reduceLT, Int.reduceLE, Int.reduceNeg, Int.reduceToNat, lu8, w1, wq8, wq16, wq32, wq64, q, q1, q2, q3, Int.reduceEq, ccs_cf, List.map_cons, List.map_nil, gvo, q4, q5, qd, wd, qa, qb, qg, qe]
            refine ⟨by decide, .inr ?_, _, rfl, rfl, rfl⟩
            rw [hG]
            simp only [idm, rng, lv, lvT, elv, elT', iv, map1_app, List.map_append, List.map_cons, List.map_nil, ecs]
      · have nb : (c.tdiv 8).tmod 3 = 2 := by simpa using qb
        simp (dsimp := false) (maxDischargeDepth := 16) only [go_sem, ↓reduceIte, reduceCtorEq, Nat.reduceEqDiff, Nat.reduceAdd, Nat.reduceMul, Nat.reduceSub, Nat.reduceLT, Nat.reduceLeDiff, Nat.reducePow, Int.reduceLT, Int.reduceLE, Int.reduceNeg, Int.reduceToNat, lu8, w1, wq8, wq16, wq32, wq64, q, q1, q2, q3, Int.reduceEq, ccs_cf, List.map_cons, List.map_nil, gvo, q4, q5, qd, wd, qa, qb]
        have hNS : exN a c = a.n := by unfold exN; rw [if_neg (by omega)]
        refine condK_intro (fun qe => ?_) (fun qe => ?_)
        · have ne0 : (c.tdiv 8).tmod 3 ≠ 0 := by simpa using qe
          simp (dsimp := false) (maxDischargeDepth := 16) only [go_sem, ↓reduceIte, reduceCtorEq, Nat.reduceEqDiff, Nat.reduceAdd, Nat.reduceMul, Nat.reduceSub, Nat.reduceLT, Nat.reduceLeDiff, Nat.reducePow, Int.reduceLT, Int.reduceLE, Int.reduceNeg, Int.reduceToNat, lu8, w1, wq8, wq16, wq32, wq64, q, q1, q2, q3, Int.reduceEq, ccs_cf, List.map_cons, List.map_nil, gvo, q4, q5, qd, wd, qa, qb, qe]
          refine condK_dec (fun qf => ?_) (fun qf => ?_)
          · have hn0 : (((a.n.length : Nat) : Int) = 0) = False   := eq_false (by omega)
            have wn : IntKind.i64.wrap (((a.n.length : Nat) : Int) - 1) = ((a.n.length : Nat) : Int) - 1 := wrap_i64 _ (by omega) (by omega)
            simp (dsimp := false) (maxDischargeDepth := 16) only [go_sem, ↓reduceIte, reduceCtorEq, Nat.reduceEqDiff, Nat.reduceAdd, Nat.reduceMul, Nat.reduceSub, Nat.reduceLT, Nat.reduceLeDiff, Nat.reducePow, Int.reduceLT, Int.reduceLE, Int.reduceNeg, Int.reduceToNat, lu8, w1, wq8, wq16, wq32, wq64, q, q1, q2, q3, Int.reduceEq, ccs_cf, List.map_cons, List.map_nil, gvo, q4, q5, qd, wd, qa, qb, qe, qf, hn0, wn]
            refine ⟨⟨by omega, by omega⟩, ?_⟩
            have hG : exG a c = ⟨a.n, a.e ++ [((c.tdiv 64).tmod 2, (c.tdiv 16).tmod ((a.n.length : Nat) : Int), ((a.n.length : Nat) : Int) - 1)]⟩ := by unfold exG; rw [hNS]; rw [if_pos ⟨ne0, by omega⟩]; try simp
            refine callK_intro C4 ?_
            simp (dsimp := false) (maxDischargeDepth := 16) only [go_sem, ↓reduceIte, reduceCtorEq, Nat.reduceEqDiff, Nat.reduceAdd, Nat.reduceMul, Nat.reduceSub, Nat.reduceLT, Nat.reduceLeDiff, Nat.reducePow, Int.reduceLT, Int.reduceLE, Int.reduceNeg, Int.reduceToNat, lu8, w1, wq8, wq16, wq32, wq64, q, q1, q2, q3, Int.reduceEq, ccs_cf, List.map_cons, List.map_nil, gvo, q4, q5, qd, wd, qa, qb, qe, qf, hn0, wn]
            rw [hG] at IH
            simp only [gv, gcs, lv, lvT, elv, elT', iv, map1_app, List.map_append, List.map_cons, List.map_nil, ecs] at IH
            refine ecallK_intro (pre := [lu8 codes, iv (at' + 1)]) (x := iv (left - 1)) rfl rfl IH ?_
            simp (dsimp := false) (maxDischargeDepth := 16) only [go_sem, ↓reduceIte, reduceCtorEq, Nat.reduceEqDiff, Nat.reduceAdd, Nat.reduceMul, Nat.reduceSub, Nat.reduceLT, Nat.reduceLeDiff, Nat.reducePow, Int.reduceLT, Int.reduceLE, Int.reduceNeg, Int.reduceToNat, lu8, w1, wq8, wq16, wq32, wq64, q, q1, q2, q3, Int.reduceEq, ccs_cf, List.map_cons, List.map_nil, gvo, q4, q5, qd, wd, qa, qb, qe, qf, hn0, wn]
            refine ⟨by decide, .inr ?_, _, rfl, rfl, rfl⟩
            rw [hG]
            simp only [idm, rng, lv, lvT, elv, elT', iv, map1_app, List.map_append, List.map_cons, List.map_nil, ecs]
          · simp (dsimp := false) (maxDischargeDepth := 16) only [go_sem, ↓reduceIte, reduceCtorEq, Nat.reduceEqDiff, Nat.reduceAdd, Nat.reduceMul, Nat.reduceSub, Nat.reduceLT, Nat.reduceLeDiff, Nat.reducePow, Int.reduceLT, Int.reduceLE, Int.reduceNeg, Int.reduceToNat, lu8, w1, wq8, wq16, wq32, wq64, q, q1, q2, q3, Int.reduceEq, ccs_cf, List.map_cons, List.map_nil, gvo, q4, q5, qd, wd, qa, qb, qe, qf]
            have hG : exG a c = ⟨a.n, a.e⟩ := by unfold exG; rw [hNS]; rw [if_neg (by omega)]
            refine callK_intro C4 ?_
            simp (dsimp := false) (maxDischargeDepth := 16) only [go_sem, ↓reduceIte, reduceCtorEq, Nat.reduceEqDiff, Nat.reduceAdd, Nat.reduceMul, Nat.reduceSub, Nat.reduceLT, Nat.reduceLeDiff, Nat.reducePow, Int.reduceLT, Int.reduceLE, Int.reduceNeg, Int.reduceToNat, lu8, w1, wq8, wq16, wq32, wq64, q, q1, q2, q3, Int.reduceEq, ccs_cf, List.map_cons, List.map_nil, gvo, q4, q5, qd, wd, qa, qb, qe, qf]
            rw [hG] at IH
            simp only [gv, gcs, lv, lvT, elv, elT', iv, map1_app, List.map_append, List.map_cons, List.map_nil, ecs] at IH
            refine ecallK_intro (pre := [lu8 codes, iv (at' + 1)]) (x := iv (left - 1)) rfl rfl IH ?_
            simp (dsimp := false) (maxDischargeDepth := 16) only [go_sem, ↓reduceIte, reduceCtorEq, Nat.reduceEqDiff, Nat.reduceAdd, Nat.reduceMul, Nat.reduceSub, Nat.reduceLT, Nat.reduceLeDiff, Nat.reducePow, Int.reduceLT, Int.reduceLE, Int.reduceNeg, Int.reduceToNat, lu8, w1, wq8, wq16, wq32, wq64, q, q1, q2, q3, Int.reduceEq, ccs_cf, List.map_cons, List.map_nil, gvo, q4, q5, qd, wd, qa, qb, qe, qf]
            refine ⟨by decide, .inr ?_, _, rfl, rfl, rfl⟩
            rw [hG]
            simp only [idm, rng, lv, lvT, elv, elT', iv, map1_app, List.map_append, List.map_cons, List.map_nil, ecs]
        · have e0 : (c.tdiv 8).tmod 3 = 0 := by simpa using qe
          simp (dsimp := false) (maxDischargeDepth := 16) only [go_sem, ↓reduceIte, reduceCtorEq, Nat.reduceEqDiff, Nat.reduceAdd, Nat.reduceMul, Nat.reduceSub, Nat.reduceLT, Nat.reduceLeDiff, Nat.reducePow, Int.reduceLT, Int.reduceLE, Int.reduceNeg, Int.reduceToNat, lu8, w1, wq8, wq16, wq32, wq64, q, q1, q2, q3, Int.reduceEq, ccs_cf, List.map_cons, List.map_nil, gvo, q4, q5, qd, wd, qa, qb, qe]
          have hG : exG a c = ⟨a.n, a.e⟩ := by unfold exG; rw [hNS]; rw [if_neg (by omega)]
          refine callK_intro C4 ?_
          simp (dsimp := false) (maxDischargeDepth := 16) only [go_sem, ↓reduceIte, reduceCtorEq, Nat.reduceEqDiff, Nat.reduceAdd, Nat.reduceMul, Nat.reduceSub, Nat.reduceLT, Nat.reduceLeDiff, Nat.reducePow, Int.reduceLT, Int.reduceLE, Int.reduceNeg, Int.reduceToNat, lu8, w1, wq8, wq16, wq32, wq64, q, q1, q2, q3, Int.reduceEq, ccs_cf, List.map_cons, List.map_nil, gvo, q4, q5, qd, wd, qa, qb, qe]
          rw [hG] at IH
          simp only [gv, gcs, lv, lvT, elv, elT', iv, map1_app, List.map_append, List.map_cons, List.map_nil, ecs] at IH
          refine ecallK_intro (pre := [lu8 codes, iv (at' + 1)]) (x := iv (left - 1)) rfl rfl IH ?_
          simp (dsimp := false) (maxDischargeDepth := 16) only [go_sem, ↓reduceIte, reduceCtorEq, Nat.reduceEqDiff, Nat.reduceAdd, Nat.reduceMul, Nat.reduceSub, Nat.reduceLT, Nat.reduceLeDiff, Nat.reducePow, Int.reduceLT, Int.reduceLE, Int.reduceNeg, Int.reduceToNat, lu8, w1, wq8, wq16, wq32, wq64, q, q1, q2, q3, Int.reduceEq, ccs_cf, List.map_cons, List.map_nil, gvo, q4, q5, qd, wd, qa, qb, qe]
          refine ⟨by decide, .inr ?_, _, rfl, rfl, rfl⟩
          rw [hG]
          simp only [idm, rng, lv, lvT, elv, elT', iv, map1_app, List.map_append, List.map_cons, List.map_nil, ecs]
    have n5 : ¬ c.tmod 6 = 5 := by simpa using q5
    rw [if_neg (by omega), cv_tru]
    simp (dsimp := false) (maxDischargeDepth := 16) only [go_sem, ↓reduceIte, reduceCtorEq, Nat.reduceEqDiff, Nat.reduceAdd, Nat.reduceMul, Nat.reduceSub, Nat.reduceLT, Nat.reduceLeDiff, Nat.reducePow, Int.reduceLT, Int.reduceLE, Int.reduceNeg, Int.reduceToNat, lu8, w1, q, q1, q2, q3, q4, q5, Int.reduceEq]
    refine callK_intro C2 ?_
    simp (dsimp := false) (maxDischargeDepth := 16) only [go_sem, ↓reduceIte, reduceCtorEq, Nat.reduceEqDiff, Nat.reduceAdd, Nat.reduceMul, Nat.reduceSub, Nat.reduceLT, Nat.reduceLeDiff, Nat.reducePow, Int.reduceLT, Int.reduceLE, Int.reduceNeg, Int.reduceToNat, lu8, w1, q, q1, q2, q3, q4, q5]
    exact ⟨.inr trivial, _, rfl, rfl, rfl⟩
end Go.Sy

/- Contracts: Made, grown, parts. -/
set_option linter.unusedSimpArgs false
set_option linter.unusedVariables false
namespace Go.Sy
open Go Go.Proofs

def madeC (a : Gr) (codes : List Int) : Cd := if 8 < (szC (mk 8 codes a 2 0 8).1).1 then tru else (mk 8 codes a 2 0 8).1
theorem wrap_u8 {x : Int} (h0 : 0 ≤ x) (h1 : x ≤ 255) : IntKind.u8.wrap x = x := by
  simp only [IntKind.wrap, IntKind.bits, IntKind.signed]
  simp
  omega
theorem fin_cv1 (d : Cd) : finC (.agg (ccs d)) = true ∧ (AV.agg (ccs d)) = finF (.agg (ccs d)) := by
  obtain ⟨k, kids, m, g, sl, v, ts⟩ := d
  rw [ccs_mk]
  exact ⟨rfl, rfl⟩
theorem c83 (a : Gr) (codes : List Int) (hc : ∀ x ∈ codes, 0 ≤ x ∧ x ≤ 255) (h1 : a.n.length ≤ 100) (h2 : a.e.length ≤ 100) : Con Try.prog 83 [gv a, lu8 codes] 0 (cv (madeC a codes)) := by
  have K := c126 codes hc 8 a 2 0 8 (by decide) (by decide) (by decide) (by decide) (by decide) (by omega) (by omega) (by decide) (by decide)
  have es : madeC a codes = if 8 < (szC (mk 8 codes a 2 0 8).1).1 then tru else (mk 8 codes a 2 0 8).1 := rfl
  rw [es]
  clear es
  generalize mk 8 codes a 2 0 8 = r at *
  obtain ⟨d, n, l⟩ := r
  have K2 := c101 d
  have C2 := c127
  rw [show (Cd.mk 1 [] ⟨[], []⟩ ⟨[], []⟩ [] 0 []) = tru from rfl, cv_tru] at C2
  simp only at K ⊢
  refine conT (X := []) (rs := [.cell 4 69]) Try.func83 (by kernel_rfl) rfl rfl (by kernel_rfl) ?_
  simp (dsimp := false) (maxDischargeDepth := 16) only [go_sem, ↓reduceIte, reduceCtorEq, Nat.reduceEqDiff, Nat.reduceAdd, Nat.reduceMul, Nat.reduceSub, Nat.reduceLT, Nat.reduceLeDiff, Nat.reducePow, Int.reduceLT, Int.reduceLE, Int.reduceNeg, Int.reduceToNat, lu8]
  refine ecallK_intro (pre := [lu8 codes, iv 0]) (x := iv 8) rfl rfl K ?_
  simp (dsimp := false) (maxDischargeDepth := 16) only [go_sem, ↓reduceIte, reduceCtorEq, Nat.reduceEqDiff, Nat.reduceAdd, Nat.reduceMul, Nat.reduceSub, Nat.reduceLT, Nat.reduceLeDiff, Nat.reducePow, Int.reduceLT, Int.reduceLE, Int.reduceNeg, Int.reduceToNat, lu8, ccs_cf]
  refine callK_intro K2 ?_
  simp (dsimp := false) (maxDischargeDepth := 16) only [go_sem, ↓reduceIte, reduceCtorEq, Nat.reduceEqDiff, Nat.reduceAdd, Nat.reduceMul, Nat.reduceSub, Nat.reduceLT, Nat.reduceLeDiff, Nat.reducePow, Int.reduceLT, Int.reduceLE, Int.reduceNeg, Int.reduceToNat, lu8]
  refine condK_dec (fun q => ?_) (fun q => ?_)
  · rw [if_pos q, cv_tru]
    simp (dsimp := false) (maxDischargeDepth := 16) only [go_sem, ↓reduceIte, reduceCtorEq, Nat.reduceEqDiff, Nat.reduceAdd, Nat.reduceMul, Nat.reduceSub, Nat.reduceLT, Nat.reduceLeDiff, Nat.reducePow, Int.reduceLT, Int.reduceLE, Int.reduceNeg, Int.reduceToNat, lu8, q]
    refine callK_intro C2 ?_
    simp (dsimp := false) (maxDischargeDepth := 16) only [go_sem, ↓reduceIte, reduceCtorEq, Nat.reduceEqDiff, Nat.reduceAdd, Nat.reduceMul, Nat.reduceSub, Nat.reduceLT, Nat.reduceLeDiff, Nat.reducePow, Int.reduceLT, Int.reduceLE, Int.reduceNeg, Int.reduceToNat, lu8, q]
    exact finK ⟨rfl, rfl⟩
  · rw [if_neg q]
    simp (dsimp := false) (maxDischargeDepth := 16) only [go_sem, ↓reduceIte, reduceCtorEq, Nat.reduceEqDiff, Nat.reduceAdd, Nat.reduceMul, Nat.reduceSub, Nat.reduceLT, Nat.reduceLeDiff, Nat.reducePow, Int.reduceLT, Int.reduceLE, Int.reduceNeg, Int.reduceToNat, lu8, q]
    exact finK (fin_cv1 d)
def groS (g : Gr) (c : Int) : Gr := if c.tmod 2 = 0 ∨ g.n.length = 0 then ⟨g.n ++ [(c.tdiv 2).tmod 3], g.e⟩ else ⟨g.n, g.e ++ [((c.tdiv 2).tmod 2, (c.tdiv 4).tmod g.n.length, (c.tdiv 16).tmod g.n.length)]⟩
def gro (g : Gr) (codes : List Int) (most : Nat) : Gr := (codes.take most).foldl groS g
theorem groS_len (g : Gr) (c : Int) : (groS g c).n.length ≤ g.n.length + 1 ∧ (groS g c).e.length ≤ g.e.length + 1 := by
  unfold groS
  split <;> simp
theorem gro_len (g : Gr) (codes : List Int) : ∀ i : Nat, (gro g codes i).n.length ≤ g.n.length + i ∧ (gro g codes i).e.length ≤ g.e.length + i
  | 0 => by simp [gro]
  | i + 1 => by
    by_cases h : i < codes.length
    · have e : gro g codes (i + 1) = groS (gro g codes i) codes[i] := foldl_take h
      have := groS_len (gro g codes i) codes[i]
      have := gro_len g codes i
      rw [e]
      omega
    · have e : gro g codes (i + 1) = gro g codes i := by unfold gro; rw [List.take_of_length_le (by omega), List.take_of_length_le (by omega)]
      have := gro_len g codes i
      rw [e]
      omega
theorem c58 (g : Gr) (codes : List Int) (most : Nat) (hc : ∀ x ∈ codes, 0 ≤ x ∧ x ≤ 255) (h1 : g.n.length ≤ 100) (h2 : g.e.length ≤ 100) (hm : most ≤ 100) (hl : codes.length ≤ 1000) : Con Try.prog 58 [gv g, lu8 codes, iv most] 0 (gv (gro g codes most)) := by
  refine conT (X := []) (rs := [.cell 6 25]) Try.func58 (by kernel_rfl) rfl rfl (by kernel_rfl) ?_
  have K := c19 g (by omega) (by omega)
  simp (dsimp := false) (maxDischargeDepth := 16) only [go_sem, ↓reduceIte, reduceCtorEq, Nat.reduceEqDiff, Nat.reduceAdd, Nat.reduceMul, Nat.reduceSub, Nat.reduceLT, Nat.reduceLeDiff, Nat.reducePow, Int.reduceLT, Int.reduceLE, Int.reduceNeg, Int.reduceToNat, lu8]
  refine callK_intro K ?_
  simp (dsimp := false) (maxDischargeDepth := 16) only [go_sem, ↓reduceIte, reduceCtorEq, Nat.reduceEqDiff, Nat.reduceAdd, Nat.reduceMul, Nat.reduceSub, Nat.reduceLT, Nat.reduceLeDiff, Nat.reducePow, Int.reduceLT, Int.reduceLE, Int.reduceNeg, Int.reduceToNat, lu8, gvo]
  refine loopK_intro (fun (i : Nat) s => i ≤ codes.length ∧ s.t 2 = iv most ∧ s.t 6 = .box (6, 0, 0) 0 ∧ (∃ z1 z2, s.b (6, 0, 0) = some ⟨[z1, z2], false⟩) ∧ s.t 7 = .box (7, 0, 0) 0 ∧ s.t 13 = lu8 codes ∧ s.t 14 = iv codes.length ∧ s.t 15 = iv i ∧
    ∃ k1 k2, s.b (7, 0, 0) = some ⟨[lvT (gro g codes (min i most)).n k1, elT' (gro g codes (min i most)).e k2], false⟩ ∧ tokOK s k1 = true ∧ tokOK s k2 = true ∧ tkIn [(12, 0), (62, 0)] k1 = true ∧ tkIn [(12, 1), (41, 0)] k2 = true) (fun i => codes.length - i) ?_ ?_
  · refine ⟨0, by omega, rfl, rfl, ⟨_, _, rfl⟩, rfl, rfl, rfl, rfl, .own (12, 0, 0), .own (12, 0, 1), ?_, ?_, ?_, rfl, rfl⟩
    · simp (dsimp := false) (maxDischargeDepth := 16) only [go_sem, ↓reduceIte, reduceCtorEq, Nat.reduceEqDiff, Nat.reduceAdd, Nat.reduceMul, Nat.reduceSub, Nat.reduceLT, Nat.reduceLeDiff, Nat.reducePow, Int.reduceLT, Int.reduceLE, Int.reduceNeg, Int.reduceToNat]
      rw [Nat.zero_min]
      rfl
    · simp (dsimp := false) (maxDischargeDepth := 16) only [go_sem, ↓reduceIte, reduceCtorEq, Nat.reduceEqDiff, Nat.reduceAdd, Nat.reduceMul, Nat.reduceSub, Nat.reduceLT, Nat.reduceLeDiff, Nat.reducePow, Int.reduceLT, Int.reduceLE, Int.reduceNeg, Int.reduceToNat]
    · simp (dsimp := false) (maxDischargeDepth := 16) only [go_sem, ↓reduceIte, reduceCtorEq, Nat.reduceEqDiff, Nat.reduceAdd, Nat.reduceMul, Nat.reduceSub, Nat.reduceLT, Nat.reduceLeDiff, Nat.reducePow, Int.reduceLT, Int.reduceLE, Int.reduceNeg, Int.reduceToNat]
  rintro i s ⟨hi, t2, t6, ⟨z1, z2, b6⟩, t7, t13, t14, t15, k1, k2, b7, a1, a2, i1, i2⟩
  simp (dsimp := false) (maxDischargeDepth := 16) only [go_sem, ↓reduceIte, reduceCtorEq, Nat.reduceEqDiff, Nat.reduceAdd, Nat.reduceMul, Nat.reduceSub, Nat.reduceLT, Nat.reduceLeDiff, Nat.reducePow, Int.reduceLT, Int.reduceLE, Int.reduceNeg, Int.reduceToNat, t2, t6, b6, t7, t13, t14, t15, b7, a1, a2, lu8]
  refine condK_dec (fun h6 => ?_) (fun h6 => ?_)
  · have hx := hc _ (List.getElem_mem h6)
    have gl := gro_len g codes (min i most)
    have hst : i < most → gro g codes (min (i + 1) most) = groS (gro g codes (min i most)) codes[i] := fun h => by
      rw [Nat.min_eq_left (by omega), Nat.min_eq_left (by omega)]
      exact foldl_take h6
    have hst2 : ¬ i < most → gro g codes (min (i + 1) most) = gro g codes (min i most) := fun h => by
      rw [Nat.min_eq_right (by omega), Nat.min_eq_right (by omega)]
    generalize gro g codes (min i most) = G at *
    obtain ⟨gn, ge⟩ := G
    generalize hcc : codes[i] = c at *
    have q2 := tdiv_byte (n := 2) hx (by decide)
    have q4 := tdiv_byte (n := 4) hx (by decide)
    have q16 := tdiv_byte (n := 16) hx (by decide)
    have w2 : IntKind.u8.wrap (c.tdiv 2) = c.tdiv 2 := wrap_u8 q2.1 q2.2
    have w4 : IntKind.u8.wrap (c.tdiv 4) = c.tdiv 4 := wrap_u8 q4.1 q4.2
    have w16 : IntKind.u8.wrap (c.tdiv 16) = c.tdiv 16 := wrap_u8 q16.1 q16.2
    have v2 : IntKind.i64.wrap (c.tdiv 2) = c.tdiv 2 := wrap_i64 _ (by omega) (by omega)
    have v4 : IntKind.i64.wrap (c.tdiv 4) = c.tdiv 4 := wrap_i64 _ (by omega) (by omega)
    have v16 : IntKind.i64.wrap (c.tdiv 16) = c.tdiv 16 := wrap_i64 _ (by omega) (by omega)
    simp only at gl b7
    simp (dsimp := false) (maxDischargeDepth := 16) only [go_sem, ↓reduceIte, reduceCtorEq, Nat.reduceEqDiff, Nat.reduceAdd, Nat.reduceMul, Nat.reduceSub, Nat.reduceLT, Nat.reduceLeDiff, Nat.reducePow, Int.reduceLT, Int.reduceLE, Int.reduceNeg, Int.reduceToNat, t2, t6, b6, t7, t13, t14, t15, b7, a1, a2, h6, idx_nat, hcc, lu8, w2, w4, w16, v2, v4, v16, Int.reduceEq]
    refine condK_dec (fun h7 => ?_) (fun h7 => ?_)
    · simp (dsimp := false) (maxDischargeDepth := 16) only [go_sem, ↓reduceIte, reduceCtorEq, Nat.reduceEqDiff, Nat.reduceAdd, Nat.reduceMul, Nat.reduceSub, Nat.reduceLT, Nat.reduceLeDiff, Nat.reducePow, Int.reduceLT, Int.reduceLE, Int.reduceNeg, Int.reduceToNat, t2, t6, b6, t7, t13, t14, t15, b7, a1, a2, h6, h7, hcc, lu8]
      exact ⟨i + 1, by omega, by omega, ⟨_, _, rfl⟩, by rw [wrapN _ (by omega)], k1, k2, by rw [hst2 (by omega)], a1, a2, i1, i2⟩
    · simp (dsimp := false) (maxDischargeDepth := 16) only [go_sem, ↓reduceIte, reduceCtorEq, Nat.reduceEqDiff, Nat.reduceAdd, Nat.reduceMul, Nat.reduceSub, Nat.reduceLT, Nat.reduceLeDiff, Nat.reducePow, Int.reduceLT, Int.reduceLE, Int.reduceNeg, Int.reduceToNat, t2, t6, b6, t7, t13, t14, t15, b7, a1, a2, h6, h7, hcc, lu8, w2, w4, w16, v2, v4, v16, Int.reduceEq]
      have k12 : ∀ (s : St) (d n : Nat) (x : AV), tokOK s k2 = true → tokOK (s.ntok d n x (tokKey k1)) k2 = true := fun s d n x h => tk_kill i1 i2 rfl h
      have k21 : ∀ (s : St) (d n : Nat) (x : AV), tokOK s k1 = true → tokOK (s.ntok d n x (tokKey k2)) k1 = true := fun s d n x h => tk_kill i2 i1 rfl h
      refine condK_intro (fun qa => ?_) (fun qa => ?_)
      · have e0 : c.tmod 2 = 0 := by simpa using qa
        simp (dsimp := false) (maxDischargeDepth := 16) only [go_sem, ↓reduceIte, reduceCtorEq, Nat.reduceEqDiff, Nat.reduceAdd, Nat.reduceMul, Nat.reduceSub, Nat.reduceLT, Nat.reduceLeDiff, Nat.reducePow, Int.reduceLT, Int.reduceLE, Int.reduceNeg, Int.reduceToNat, t2, t6, b6, t7, t13, t14, t15, b7, a1, a2, h6, h7, hcc, lu8, w2, w4, w16, v2, v4, v16, k12, k21, Int.reduceEq, qa, map1_app]
        refine ⟨⟨by omega, by omega⟩, i + 1, by omega, by omega, ⟨_, _, rfl⟩, by rw [wrapN _ (by omega)], .own (62, s.g 62, 0), k2, ?_, ?_, ?_, rfl, i2⟩
        · rw [hst (by omega), groS, if_pos (.inl e0)]
          simp only [map1_app]
        all_goals simp (dsimp := false) (maxDischargeDepth := 16) only [go_sem, ↓reduceIte, reduceCtorEq, Nat.reduceEqDiff, Nat.reduceAdd, Nat.reduceMul, Nat.reduceSub, Nat.reduceLT, Nat.reduceLeDiff, Nat.reducePow, Int.reduceLT, Int.reduceLE, Int.reduceNeg, Int.reduceToNat, a1, a2, k12]
      · have e0 : ¬ c.tmod 2 = 0 := by simpa using qa
        simp (dsimp := false) (maxDischargeDepth := 16) only [go_sem, ↓reduceIte, reduceCtorEq, Nat.reduceEqDiff, Nat.reduceAdd, Nat.reduceMul, Nat.reduceSub, Nat.reduceLT, Nat.reduceLeDiff, Nat.reducePow, Int.reduceLT, Int.reduceLE, Int.reduceNeg, Int.reduceToNat, t2, t6, b6, t7, t13, t14, t15, b7, a1, a2, h6, h7, hcc, lu8, w2, w4, w16, v2, v4, v16, k12, k21, Int.reduceEq, qa]
        refine condK_intro (fun qb => ?_) (fun qb => ?_)
        · have z0 : gn.length = 0 := by simpa using qb
          simp (dsimp := false) (maxDischargeDepth := 16) only [go_sem, ↓reduceIte, reduceCtorEq, Nat.reduceEqDiff, Nat.reduceAdd, Nat.reduceMul, Nat.reduceSub, Nat.reduceLT, Nat.reduceLeDiff, Nat.reducePow, Int.reduceLT, Int.reduceLE, Int.reduceNeg, Int.reduceToNat, t2, t6, b6, t7, t13, t14, t15, b7, a1, a2, h6, h7, hcc, lu8, w2, w4, w16, v2, v4, v16, k12, k21, Int.reduceEq, qa, qb, map1_app]
          refine ⟨⟨by omega, by omega⟩, i + 1, by omega, by omega, ⟨_, _, rfl⟩, by rw [wrapN _ (by omega)], .own (62, s.g 62, 0), k2, ?_, ?_, ?_, rfl, i2⟩
          · rw [hst (by omega), groS, if_pos (.inr z0)]
            simp only [map1_app]
          all_goals simp (dsimp := false) (maxDischargeDepth := 16) only [go_sem, ↓reduceIte, reduceCtorEq, Nat.reduceEqDiff, Nat.reduceAdd, Nat.reduceMul, Nat.reduceSub, Nat.reduceLT, Nat.reduceLeDiff, Nat.reducePow, Int.reduceLT, Int.reduceLE, Int.reduceNeg, Int.reduceToNat, a1, a2, k12]
        · have z0 : ¬ gn.length = 0 := by simpa using qb
          have zi : ((gn.length : Int) = 0) = False := eq_false (by omega)
          simp (dsimp := false) (maxDischargeDepth := 16) only [go_sem, ↓reduceIte, reduceCtorEq, Nat.reduceEqDiff, Nat.reduceAdd, Nat.reduceMul, Nat.reduceSub, Nat.reduceLT, Nat.reduceLeDiff, Nat.reducePow, Int.reduceLT, Int.reduceLE, Int.reduceNeg, Int.reduceToNat, t2, t6, b6, t7, t13, t14, t15, b7, a1, a2, h6, h7, hcc, lu8, w2, w4, w16, v2, v4, v16, k12, k21, Int.reduceEq, qa, qb, zi, ecs]
          refine ⟨⟨by omega, by omega⟩, i + 1, by omega, by omega, ⟨_, _, rfl⟩, by rw [wrapN _ (by omega)], k1, .own (41, s.g 41, 0), ?_, ?_, ?_, i1, rfl⟩
          · rw [hst (by omega), groS, if_neg (by rintro (h | h); exact e0 h; exact z0 h)]
            simp [ecs, iv]
          all_goals simp (dsimp := false) (maxDischargeDepth := 16) only [go_sem, ↓reduceIte, reduceCtorEq, Nat.reduceEqDiff, Nat.reduceAdd, Nat.reduceMul, Nat.reduceSub, Nat.reduceLT, Nat.reduceLeDiff, Nat.reducePow, Int.reduceLT, Int.reduceLE, Int.reduceNeg, Int.reduceToNat, a1, a2, k21]
  · simp (dsimp := false) (maxDischargeDepth := 16) only [go_sem, ↓reduceIte, reduceCtorEq, Nat.reduceEqDiff, Nat.reduceAdd, Nat.reduceMul, Nat.reduceSub, Nat.reduceLT, Nat.reduceLeDiff, Nat.reducePow, Int.reduceLT, Int.reduceLE, Int.reduceNeg, Int.reduceToNat, t2, t6, b6, t7, t13, t14, t15, b7, a1, a2, h6]
    have hin : i = codes.length := by omega
    subst hin
    have e : gro g codes (min codes.length most) = gro g codes most := by
      unfold gro
      congr 1
      rw [List.take_eq_take_iff]
      omega
    rw [e]
    exact finK ⟨rfl, rfl⟩
structure Ch where
  d : Dr
  b : List Int
  g : List Int
  c : List Int
def chcs (x : Ch) : List AV := dcs x.d ++ [lu8 x.b, lu8 x.g, lu8 x.c]
def chv (x : Ch) : AV := .agg (chcs x)
def by8 (l : List Int) : Prop := ∀ x ∈ l, 0 ≤ x ∧ x ≤ 255
def chOK (x : Ch) : Prop := drOK x.d ∧ by8 x.b ∧ by8 x.g ∧ by8 x.c
def chS (x : Ch) : Bool := !(decide (1 < (x.d.n.length : Int)) || (decide (1 < (x.d.e.length : Int)) || (decide (12 < (x.c.length : Int)) || (decide (10 < (x.b.length : Int)) || decide (10 < (x.g.length : Int))))))
structure Pt where
  a : Gr
  b : Gr
  g : Gr
  c : Cd
  ok : Bool
def ptv (p : Pt) : AV := .tup [gv p.a, gv p.b, gv p.g, cv p.c, bv p.ok]
def prt (x : Ch) : Pt := if chS x = true then ⟨made x.d, gro (made x.d) x.b 2, gro (gro (made x.d) x.b 2) x.g 4, madeC (made x.d) x.c, true⟩ else ⟨⟨[], []⟩, ⟨[], []⟩, ⟨[], []⟩, zc 0, false⟩
theorem made_len {d : Dr} (h1 : d.n.length ≤ 1) (h2 : d.e.length ≤ 1) : (made d).n.length ≤ 1 ∧ (made d).e.length ≤ 1 := by
  unfold made
  constructor
  · simp; omega
  · simp only
    split
    · simp
    · simp; omega
theorem c37 (x : Ch) (h : chOK x) : Con Try.prog 37 [chv x] 0 (ptv (prt x)) := by
  have K1 := c30 x.d h.1
  have es : prt x = if chS x = true then ⟨made x.d, gro (made x.d) x.b 2, gro (gro (made x.d) x.b 2) x.g 4, madeC (made x.d) x.c, true⟩ else ⟨⟨[], []⟩, ⟨[], []⟩, ⟨[], []⟩, zc 0, false⟩ := rfl
  have K2 : chS x = true → Con Try.prog 58 [gv (made x.d), lu8 x.b, iv 2] 0 (gv (gro (made x.d) x.b 2)) ∧ Con Try.prog 58 [gv (gro (made x.d) x.b 2), lu8 x.g, iv 4] 0 (gv (gro (gro (made x.d) x.b 2) x.g 4)) ∧
      Con Try.prog 83 [gv (made x.d), lu8 x.c] 0 (cv (madeC (made x.d) x.c)) := fun hs => by
    simp only [chS, Bool.not_eq_true', Bool.or_eq_false_iff, decide_eq_false_iff_not] at hs
    have ml := made_len (d := x.d) (by omega) (by omega)
    have gl := gro_len (made x.d) x.b 2
    exact ⟨c58 _ _ 2 h.2.1 (by omega) (by omega) (by decide) (by omega), c58 _ _ 4 h.2.2.1 (by omega) (by omega) (by decide) (by omega), c83 _ _ h.2.2.2 (by omega) (by omega)⟩
  rw [es]
  clear es
  generalize gro (gro (made x.d) x.b 2) x.g 4 = gg at *
  generalize gro (made x.d) x.b 2 = bb at *
  generalize madeC (made x.d) x.c = cc at *
  generalize made x.d = aa at *
  have hS : chS x = !(decide (1 < (x.d.n.length : Int)) || (decide (1 < (x.d.e.length : Int)) || (decide (12 < (x.c.length : Int)) || (decide (10 < (x.b.length : Int)) || decide (10 < (x.g.length : Int)))))) := rfl
  generalize chS x = S at *
  have hT : S = false → (AV.tup [gv (if S = true then (⟨aa, bb, gg, cc, true⟩ : Pt) else ⟨⟨[], []⟩, ⟨[], []⟩, ⟨[], []⟩, zc 0, false⟩).a]) = .tup [gv ⟨[], []⟩] := fun h => by subst h; rfl
  clear hT
  refine conT (X := [(5, [], [(2, [7, 8, 53, 57, 3, 4, 5], []), (3, [7, 8, 53, 57, 2, 4, 5], []), (4, [7, 8, 53, 57, 2, 3, 5], []), (5, [7, 8, 53, 57, 2, 3, 4], [])])]) (rs := [.cell 2 25, .cell 3 25, .cell 4 25, .cell 5 69, .tmp 6]) Try.func37 (by kernel_rfl) rfl rfl (by kernel_rfl) ?_
  simp (dsimp := false) (maxDischargeDepth := 16) only [go_sem, ↓reduceIte, reduceCtorEq, Nat.reduceEqDiff, Nat.reduceAdd, Nat.reduceMul, Nat.reduceSub, Nat.reduceLT, Nat.reduceLeDiff, Nat.reducePow, Int.reduceLT, Int.reduceLE, Int.reduceNeg, Int.reduceToNat, chv, chcs, dcs, lu8, List.cons_append, List.nil_append]
  refine condK_dec (fun p1 => ?_) (fun p1 => ?_)
  · have hs : S = false := by rw [hS]; simp only [p1, decide_true, decide_false, Bool.true_or, Bool.or_true, Bool.false_or, Bool.not_true]
    rw [hs]
    simp (dsimp := false) (maxDischargeDepth := 16) only [go_sem, ↓reduceIte, reduceCtorEq, Nat.reduceEqDiff, Nat.reduceAdd, Nat.reduceMul, Nat.reduceSub, Nat.reduceLT, Nat.reduceLeDiff, Nat.reducePow, Int.reduceLT, Int.reduceLE, Int.reduceNeg, Int.reduceToNat, chv, chcs, dcs, lu8, List.cons_append, List.nil_append, p1]
    exact finK ⟨rfl, rfl⟩
  simp (dsimp := false) (maxDischargeDepth := 16) only [go_sem, ↓reduceIte, reduceCtorEq, Nat.reduceEqDiff, Nat.reduceAdd, Nat.reduceMul, Nat.reduceSub, Nat.reduceLT, Nat.reduceLeDiff, Nat.reducePow, Int.reduceLT, Int.reduceLE, Int.reduceNeg, Int.reduceToNat, chv, chcs, dcs, lu8, List.cons_append, List.nil_append, p1]
  refine condK_dec (fun p2 => ?_) (fun p2 => ?_)
  · have hs : S = false := by rw [hS]; simp only [p1, p2, decide_true, decide_false, Bool.true_or, Bool.or_true, Bool.false_or, Bool.not_true]
    rw [hs]
    simp (dsimp := false) (maxDischargeDepth := 16) only [go_sem, ↓reduceIte, reduceCtorEq, Nat.reduceEqDiff, Nat.reduceAdd, Nat.reduceMul, Nat.reduceSub, Nat.reduceLT, Nat.reduceLeDiff, Nat.reducePow, Int.reduceLT, Int.reduceLE, Int.reduceNeg, Int.reduceToNat, chv, chcs, dcs, lu8, List.cons_append, List.nil_append, p1, p2]
    exact finK ⟨rfl, rfl⟩
  simp (dsimp := false) (maxDischargeDepth := 16) only [go_sem, ↓reduceIte, reduceCtorEq, Nat.reduceEqDiff, Nat.reduceAdd, Nat.reduceMul, Nat.reduceSub, Nat.reduceLT, Nat.reduceLeDiff, Nat.reducePow, Int.reduceLT, Int.reduceLE, Int.reduceNeg, Int.reduceToNat, chv, chcs, dcs, lu8, List.cons_append, List.nil_append, p1, p2]
  refine condK_dec (fun p3 => ?_) (fun p3 => ?_)
  · have hs : S = false := by rw [hS]; simp only [p1, p2, p3, decide_true, decide_false, Bool.true_or, Bool.or_true, Bool.false_or, Bool.not_true]
    rw [hs]
    simp (dsimp := false) (maxDischargeDepth := 16) only [go_sem, ↓reduceIte, reduceCtorEq, Nat.reduceEqDiff, Nat.reduceAdd, Nat.reduceMul, Nat.reduceSub, Nat.reduceLT, Nat.reduceLeDiff, Nat.reducePow, Int.reduceLT, Int.reduceLE, Int.reduceNeg, Int.reduceToNat, chv, chcs, dcs, lu8, List.cons_append, List.nil_append, p1, p2, p3]
    exact finK ⟨rfl, rfl⟩
  simp (dsimp := false) (maxDischargeDepth := 16) only [go_sem, ↓reduceIte, reduceCtorEq, Nat.reduceEqDiff, Nat.reduceAdd, Nat.reduceMul, Nat.reduceSub, Nat.reduceLT, Nat.reduceLeDiff, Nat.reducePow, Int.reduceLT, Int.reduceLE, Int.reduceNeg, Int.reduceToNat, chv, chcs, dcs, lu8, List.cons_append, List.nil_append, p1, p2, p3]
  refine condK_dec (fun p4 => ?_) (fun p4 => ?_)
  · have hs : S = false := by rw [hS]; simp only [p1, p2, p3, p4, decide_true, decide_false, Bool.true_or, Bool.or_true, Bool.false_or, Bool.not_true]
    rw [hs]
    simp (dsimp := false) (maxDischargeDepth := 16) only [go_sem, ↓reduceIte, reduceCtorEq, Nat.reduceEqDiff, Nat.reduceAdd, Nat.reduceMul, Nat.reduceSub, Nat.reduceLT, Nat.reduceLeDiff, Nat.reducePow, Int.reduceLT, Int.reduceLE, Int.reduceNeg, Int.reduceToNat, chv, chcs, dcs, lu8, List.cons_append, List.nil_append, p1, p2, p3, p4]
    exact finK ⟨rfl, rfl⟩
  simp (dsimp := false) (maxDischargeDepth := 16) only [go_sem, ↓reduceIte, reduceCtorEq, Nat.reduceEqDiff, Nat.reduceAdd, Nat.reduceMul, Nat.reduceSub, Nat.reduceLT, Nat.reduceLeDiff, Nat.reducePow, Int.reduceLT, Int.reduceLE, Int.reduceNeg, Int.reduceToNat, chv, chcs, dcs, lu8, List.cons_append, List.nil_append, p1, p2, p3, p4]
  refine condK_dec (fun p5 => ?_) (fun p5 => ?_)
  · have hs : S = false := by rw [hS]; simp only [p1, p2, p3, p4, p5, decide_true, decide_false, Bool.true_or, Bool.or_true, Bool.false_or, Bool.not_true]
    rw [hs]
    simp (dsimp := false) (maxDischargeDepth := 16) only [go_sem, ↓reduceIte, reduceCtorEq, Nat.reduceEqDiff, Nat.reduceAdd, Nat.reduceMul, Nat.reduceSub, Nat.reduceLT, Nat.reduceLeDiff, Nat.reducePow, Int.reduceLT, Int.reduceLE, Int.reduceNeg, Int.reduceToNat, chv, chcs, dcs, lu8, List.cons_append, List.nil_append, p1, p2, p3, p4, p5]
    exact finK ⟨rfl, rfl⟩
  simp (dsimp := false) (maxDischargeDepth := 16) only [go_sem, ↓reduceIte, reduceCtorEq, Nat.reduceEqDiff, Nat.reduceAdd, Nat.reduceMul, Nat.reduceSub, Nat.reduceLT, Nat.reduceLeDiff, Nat.reducePow, Int.reduceLT, Int.reduceLE, Int.reduceNeg, Int.reduceToNat, chv, chcs, dcs, lu8, List.cons_append, List.nil_append, p1, p2, p3, p4, p5]
  have hs : S = true := by rw [hS]; simp only [p1, p2, p3, p4, p5, decide_false, Bool.or_false, Bool.not_false]
  obtain ⟨G1, G2, G3⟩ := K2 hs
  rw [hs]
  refine callK_intro K1 ?_
  simp (dsimp := false) (maxDischargeDepth := 16) only [go_sem, ↓reduceIte, reduceCtorEq, Nat.reduceEqDiff, Nat.reduceAdd, Nat.reduceMul, Nat.reduceSub, Nat.reduceLT, Nat.reduceLeDiff, Nat.reducePow, Int.reduceLT, Int.reduceLE, Int.reduceNeg, Int.reduceToNat, chv, chcs, dcs, lu8, List.cons_append, List.nil_append]
  refine callK_intro G1 ?_
  simp (dsimp := false) (maxDischargeDepth := 16) only [go_sem, ↓reduceIte, reduceCtorEq, Nat.reduceEqDiff, Nat.reduceAdd, Nat.reduceMul, Nat.reduceSub, Nat.reduceLT, Nat.reduceLeDiff, Nat.reducePow, Int.reduceLT, Int.reduceLE, Int.reduceNeg, Int.reduceToNat, chv, chcs, dcs, lu8, List.cons_append, List.nil_append]
  refine callK_intro G2 ?_
  simp (dsimp := false) (maxDischargeDepth := 16) only [go_sem, ↓reduceIte, reduceCtorEq, Nat.reduceEqDiff, Nat.reduceAdd, Nat.reduceMul, Nat.reduceSub, Nat.reduceLT, Nat.reduceLeDiff, Nat.reducePow, Int.reduceLT, Int.reduceLE, Int.reduceNeg, Int.reduceToNat, chv, chcs, dcs, lu8, List.cons_append, List.nil_append]
  refine callK_intro G3 ?_
  simp (dsimp := false) (maxDischargeDepth := 16) only [go_sem, ↓reduceIte, reduceCtorEq, Nat.reduceEqDiff, Nat.reduceAdd, Nat.reduceMul, Nat.reduceSub, Nat.reduceLT, Nat.reduceLeDiff, Nat.reducePow, Int.reduceLT, Int.reduceLE, Int.reduceNeg, Int.reduceToNat, chv, chcs, dcs, lu8, List.cons_append, List.nil_append, ccs_cf, ccs_ren]
  refine ⟨by decide, finK ?_⟩
  obtain ⟨k, kids, m, g, sl, v, ts⟩ := cc
  simp only [ccs_mk]
  refine ⟨rfl, ?_⟩
  simp only [ptv, cv, ccs_mk]
  rfl
end Go.Sy

/- Types of arguments: chains. -/
namespace Go.Sy
open Go Go.Proofs Go.RowKit Go.Proofs.Ytkhheblmgbiniaa

structure ChP where
  x : Ch
  ok : chOK x
theorem opensChain : Opens Try.prog 62 (fun x => ∃ c : ChP, x = chcs c.x) := (opens_struct (n := 5) (Ss := [(2, _), (1, _), (1, _), (1, _)]) Try.underlying62 (by kernel_rfl) ⟨rfl, by kernel_rfl, opensDraft, rfl, by kernel_rfl, opensBytes, rfl, by kernel_rfl, opensBytes, rfl, by kernel_rfl, opensBytes, rfl⟩).mono fun x h => by
  obtain ⟨_, _, ⟨d, rfl⟩, ⟨_, _, ⟨b, hb, rfl⟩, ⟨_, _, ⟨g, hg, rfl⟩, ⟨_, _, ⟨c, hc, rfl⟩, rfl, rfl⟩, rfl⟩, rfl⟩, rfl⟩ := h
  exact ⟨⟨⟨d.d, b, g, c⟩, ⟨d.ok, hb, hg, hc⟩⟩, rfl⟩
end Go.Sy

/- What every row asks of the program alone, and how a row's closed facts are put together. -/
namespace Go.Proofs.Ytkhheblmgbiniaa
open Go.Sy Go.ChangeShapes Go.WideShapes Go.ChangeAt Go.RowKit
theorem Try.own : ownKnob Try.prog.godebug = none := by kernel_rfl
theorem Try.laidOut : laidOutB Try.prog = true := by kernel_rfl
theorem Try.mapsRowed : mapsRowed Try.prog = true := by kernel_rfl
theorem Try.heard : Try.prog.stopsHeard = true := by kernel_rfl
theorem Try.may : Try.prog.mayEnter = true := by kernel_rfl
theorem and_mk {a b : Bool} (h1 : a = true) (h2 : b = true) : (a && b) = true := by rw [h1, h2]; rfl
set_option maxRecDepth 20000 in
/-- The closed facts of a row, each by itself. -/
theorem joined_mk {f : FuncId} {fn : Func} {s : ChangeSpec} {c : OpenClaim} (k1 : c.wf (OpenSpec.ofChange s) = true) (k5 : namedTie Try.prog c.named s.vars = true)
    (k10 : (c.inPlace == Try.prog.inPlace f) = true) (k11 : (c.unfollowed == Try.prog.unfollowed f) = true) (k12 : (c.recurses == Try.prog.recurses f) = true) (k13 : (c.named == Try.prog.varsNamed f) = true)
    (k23 : (c.plainKeys == Try.prog.plainKeys) = true) (k31 : (c.veiled == (fn.params.toList ++ s.plain.varTypes Try.prog ++ fn.resultTypes.toList).any (Try.prog.veiledRec ·)) = true)
    (k32 : c.veiledFits Try.prog fn.params.toList (fn.params.toList ++ s.plain.varTypes Try.prog ++ fn.resultTypes.toList) = true)
    (k4 : (fn.params.all (Try.prog.readableRec ·)) = true) (k69 : ((c.stops == []) && (Try.prog.stops == []) && (c.knobs == []) && (Try.prog.stopKnobs == [])) = true)
    (k14 : (c.maps == (fn.params.toList ++ s.plain.varTypes Try.prog).any (Try.prog.mapsRec ·)) = true) (k15 : (c.ifaces == (fn.params.toList ++ s.plain.varTypes Try.prog).any (Try.prog.ifacesRec ·)) = true)
    (k16 : (c.mapsOut == Try.prog.mapsAmong fn.resultTypes.toList) = true) (k17 : (c.loops == (fn.params.toList ++ s.plain.varTypes Try.prog).any (Try.prog.loopsFrom ·)) = true)
    (k18 : (c.wideKeys == (fn.params.toList ++ s.plain.varTypes Try.prog ++ fn.resultTypes.toList).any (Try.prog.wideKeysFrom ·)) = true) (k19 : (s.vars.all (Try.prog.varReadable ·)) = true)
    (k20 : (fn.resultTypes.all (fun t => Try.prog.readableRec t && decide (t < Try.prog.types.size))) = true) (k21 : (c.ifacesOut == fn.resultTypes.toList.any (Try.prog.ifacesRec ·)) = true) (k22 : (c.loopsOut == fn.resultTypes.toList.any (Try.prog.loopsFrom ·)) = true)
    (k24 : c.shortTexts.isNone = true) (k27 : (c.lifted == Try.prog.liftsFinal) = true) (k28 : (Try.prog.make == some c.make) = true)
    (k29 : (c.kinds == (if c.domain.isEmpty then [] else fn.params.toList.map fun t => match Try.prog.underlying t with | some (.int k) => some k | _ => none)) = true) (k30 : (c.pinned == c.pinnedBy) = true) :
    joinedFacts Try.prog f fn s c = true := by
  simp only [Bool.and_eq_true] at k69
  unfold joinedFacts
  exact and_mk (and_mk (and_mk (and_mk (and_mk (and_mk (and_mk (and_mk (and_mk (and_mk (and_mk (and_mk (and_mk (and_mk (and_mk (and_mk (and_mk (and_mk (and_mk (and_mk (and_mk (and_mk (and_mk (and_mk (and_mk (and_mk (and_mk (and_mk (and_mk (and_mk (and_mk k1 Try.laidOut) Try.mapsRowed) k4) k5) k69.1.1.1) k69.1.1.2) k69.1.2) k69.2) k10) k11) k12) k13) k14) k15) k16) k17) k18) k19) k20) k21) k22) k23) k24) Try.heard) Try.may) k27) k28) k29) k30) k31) k32
end Go.Proofs.Ytkhheblmgbiniaa

/- Plain law: what the search for extensions finds. -/
set_option linter.unusedSimpArgs false
set_option linter.unusedVariables false
namespace Go.Sy
open Go Go.Proofs

def srch (ok : Nat → Nat → Bool) (M : Nat) (fin : List Int → Bool) : Nat → Nat → List Int → Bool
  | 0, _, z => fin z
  | k + 1, i, z => if 0 ≤ z.getD i 0 then srch ok M fin k (i + 1) z else (List.range M).any fun x => (ok i x && !z.contains (x : Int)) && srch ok M fin k (i + 1) (z.set i (x : Int))
def okE' (p g : Gr) (l : List Int) (i j : Nat) : Bool := decide (g.e.getD j (0, 0, 0) = ((p.e.getD i (0, 0, 0)).1, l.getD (p.e.getD i (0, 0, 0)).2.1.toNat 0, l.getD (p.e.getD i (0, 0, 0)).2.2.toNat 0))
def okN' (p g : Gr) (i j : Nat) : Bool := decide (g.n.getD j 0 = p.n.getD i 0)
theorem edgeR_srch (p g : Gr) (acc : Mo → Bool) (l : List Int) : ∀ (k i : Nat) (m : List Int), edgeR p g acc l k i m = srch (okE' p g l) g.e.length (fun m => acc ⟨l, m⟩) k i m
  | 0, _, _ => rfl
  | k + 1, i, m => by
    rw [edgeR, srch, edgeR_srch p g acc l k (i + 1) m]
    congr 1
    congr 1
    funext x
    rw [edgeR_srch p g acc l k (i + 1)]
    rfl
theorem nodeR_srch (p g : Gr) (acc : Mo → Bool) (m : List Int) : ∀ (k i : Nat) (l : List Int), nodeR p g acc m k i l = srch (okN' p g) g.n.length (fun l => edgeR p g acc l p.e.length 0 m) k i l
  | 0, _, _ => rfl
  | k + 1, i, l => by
    rw [nodeR, srch, nodeR_srch p g acc m k (i + 1) l]
    congr 1
    congr 1
    funext x
    rw [nodeR_srch p g acc m k (i + 1)]
    rfl
/-- A filled list. -/
structure FL (ok : Nat → Nat → Bool) (M : Nat) (z l : List Int) : Prop where
  len : l.length = z.length
  ext : ∀ j, j < z.length → 0 ≤ z.getD j 0 → l.getD j 0 = z.getD j 0
  new : ∀ j, j < z.length → z.getD j 0 < 0 → 0 ≤ l.getD j 0 ∧ (l.getD j 0).toNat < M ∧ ok j (l.getD j 0).toNat = true
  inj : ∀ j j', j < z.length → j' < z.length → j ≠ j' → z.getD j 0 < 0 → l.getD j 0 ≠ l.getD j' 0
theorem set_getD (z : List Int) (i : Nat) (x : Int) (j : Nat) (hi : i < z.length) : (z.set i x).getD j 0 = if j = i then x else z.getD j 0 := by
  simp only [List.getD_eq_getElem?_getD, List.getElem?_set]
  by_cases h : i = j
  · subst h; simp [hi]
  · rw [if_neg h, if_neg (Ne.symm h)]
theorem srch_iff (ok : Nat → Nat → Bool) (M : Nat) (fin : List Int → Bool) : ∀ (k i : Nat) (z : List Int), k + i = z.length → (∀ j, j < i → 0 ≤ z.getD j 0) → (srch ok M fin k i z = true ↔ ∃ l, FL ok M z l ∧ fin l = true)
  | 0, i, z, hk, hp => by
    rw [srch]
    constructor
    · intro h
      exact ⟨z, ⟨rfl, fun j _ _ => rfl, fun j hj hn => by have := hp j (by omega); omega, fun j j' hj _ _ hn => by have := hp j (by omega); omega⟩, h⟩
    · rintro ⟨l, hl, h⟩
      have : l = z := by
        apply List.ext_getElem hl.len
        intro j h1 h2
        have := hl.ext j h2 (hp j (by omega))
        rwa [getD_at h1, getD_at h2] at this
      rwa [← this]
  | k + 1, i, z, hk, hp => by
    rw [srch]
    have hi : i < z.length := by omega
    by_cases h0 : 0 ≤ z.getD i 0
    · rw [if_pos h0]
      exact srch_iff ok M fin k (i + 1) z (by omega) (fun j hj => by
        by_cases e : j = i
        · subst e; exact h0
        · exact hp j (by omega))
    · rw [if_neg h0, List.any_eq_true]
      have ih := fun (x : Nat) => srch_iff ok M fin k (i + 1) (z.set i (x : Int)) (by simp; omega) (fun j hj => by
        rw [set_getD z i x j hi]
        split
        · omega
        · exact hp j (by omega))
      constructor
      · rintro ⟨x, hx, h⟩
        simp only [Bool.and_eq_true, Bool.not_eq_true'] at h
        obtain ⟨⟨h1, h2⟩, h3⟩ := h
        obtain ⟨l, hl, h4⟩ := (ih x).1 h3
        have hlen := hl.len
        have hext := hl.ext
        have hnew := hl.new
        have hinj := hl.inj
        simp only [List.length_set] at hlen hext hnew hinj
        have li : l.getD i 0 = x := by
          have := hext i hi (by rw [set_getD z i x i hi]; simp)
          rw [set_getD z i x i hi] at this
          simpa using this
        have xn : ∀ j, j < z.length → z.getD j 0 ≠ (x : Int) := fun j hj e => by
          have : z.contains (x : Int) = true := by
            rw [List.contains_iff_mem, ← e, getD_at hj]
            exact List.getElem_mem hj
          rw [this] at h2
          cases h2
        refine ⟨l, ⟨hlen, fun j hj hz => ?_, fun j hj hz => ?_, fun j j' hj hj' hne hz => ?_⟩, h4⟩
        · have e : j ≠ i := by rintro rfl; exact h0 hz
          have := hext j hj (by rw [set_getD z i x j hi, if_neg e]; exact hz)
          rwa [set_getD z i x j hi, if_neg e] at this
        · by_cases e : j = i
          · subst e
            rw [li]
            exact ⟨by omega, by simpa using List.mem_range.1 hx, by simpa using h1⟩
          · exact hnew j hj (by rw [set_getD z i x j hi, if_neg e]; exact hz)
        · by_cases e : j = i
          · subst e
            rw [li]
            by_cases hz' : 0 ≤ z.getD j' 0
            · have := hext j' hj' (by rw [set_getD z j x j' hi, if_neg (Ne.symm hne)]; exact hz')
              rw [set_getD z j x j' hi, if_neg (Ne.symm hne)] at this
              rw [this]
              exact (xn j' hj').symm
            · have := hinj j' j hj' hi (Ne.symm hne) (by rw [set_getD z j x j' hi, if_neg (Ne.symm hne)]; omega)
              rw [li] at this
              exact this.symm
          · exact hinj j j' hj hj' hne (by rw [set_getD z i x j hi, if_neg e]; exact hz)
      · rintro ⟨l, hl, h4⟩
        obtain ⟨n1, n2, n3⟩ := hl.new i hi (by omega)
        refine ⟨(l.getD i 0).toNat, List.mem_range.2 n2, ?_⟩
        have ex : (((l.getD i 0).toNat : Nat) : Int) = l.getD i 0 := by omega
        simp only [Bool.and_eq_true, Bool.not_eq_true']
        refine ⟨⟨n3, ?_⟩, (ih _).2 ⟨l, ⟨by simp [hl.len], fun j hj hz => ?_, fun j hj hz => ?_, fun j j' hj hj' hne hz => ?_⟩, h4⟩⟩
        · rw [← Bool.not_eq_true, List.contains_iff_mem, ex]
          intro hm
          obtain ⟨j, hj, e⟩ := List.getElem_of_mem hm
          have hz : 0 ≤ z.getD j 0 := by rw [getD_at hj, e]; exact n1
          have h5 := hl.ext j hj hz
          rw [getD_at hj, e] at h5
          exact hl.inj i j hi hj (by rintro rfl; exact h0 hz) (by omega) h5.symm
        · rw [List.length_set] at hj
          rw [set_getD z i _ j hi] at hz ⊢
          split
          · rename_i e; rw [ex, e]
          · rename_i e; rw [if_neg e] at hz; exact hl.ext j hj hz
        · rw [List.length_set] at hj
          rw [set_getD z i _ j hi] at hz
          split at hz
          · omega
          · exact hl.new j hj hz
        · rw [List.length_set] at hj hj'
          rw [set_getD z i _ j hi] at hz
          split at hz
          · omega
          · exact hl.inj j j' hj hj' hne hz
end Go.Sy

/- Plain law: injective morphisms, told by their parts; extensions. -/
set_option linter.unusedSimpArgs false
set_option linter.unusedVariables false
namespace Go.Sy
open Go Go.Proofs

structure IJ (p g : Gr) (q : Mo) : Prop where
  gp : gErr p = 0
  gg : gErr g = 0
  ln : q.n.length = p.n.length
  le : q.e.length = p.e.length
  nn : ∀ i, i < p.n.length → 0 ≤ q.n.getD i 0 ∧ (q.n.getD i 0).toNat < g.n.length ∧ g.n.getD (q.n.getD i 0).toNat 0 = p.n.getD i 0
  ee : ∀ i, i < p.e.length → 0 ≤ q.e.getD i 0 ∧ (q.e.getD i 0).toNat < g.e.length ∧ g.e.getD (q.e.getD i 0).toNat (0, 0, 0) = ((p.e.getD i (0, 0, 0)).1, q.n.getD (p.e.getD i (0, 0, 0)).2.1.toNat 0, q.n.getD (p.e.getD i (0, 0, 0)).2.2.toNat 0)
  dn : ∀ i k, i < p.n.length → k < i → q.n.getD i 0 ≠ q.n.getD k 0
  de : ∀ i k, i < p.e.length → k < i → q.e.getD i 0 ≠ q.e.getD k 0
theorem dist_iff (l : List Int) : dist l = true ↔ ∀ i k, i < l.length → k < i → l.getD i 0 ≠ l.getD k 0 := by
  unfold dist
  simp only [List.all_eq_true, List.mem_range, decide_eq_true_eq]
  constructor
  · intro h i k hi hk; exact h i hi k hk
  · intro h i hi k hk; exact h i k hi hk
theorem nodeErr_iff (a b : Gr) (m : Mo) (i : Nat) : nodeErr a b m i = 0 ↔ 0 ≤ m.n.getD i 0 ∧ (m.n.getD i 0).toNat < b.n.length ∧ b.n.getD (m.n.getD i 0).toNat 0 = a.n.getD i 0 := by
  unfold nodeErr
  split
  · constructor
    · intro h; simp at h
    · rintro ⟨h1, h2, _⟩; omega
  · split
    · rename_i h; constructor
      · intro h; simp at h
      · rintro ⟨_, _, h3⟩; exact absurd h3 h
    · rename_i h1 h2
      exact ⟨fun _ => ⟨by omega, by omega, by simpa using h2⟩, fun _ => rfl⟩
theorem edgeErr_iff (a b : Gr) (m : Mo) (i : Nat) : edgeErr a b m i = 0 ↔ 0 ≤ m.e.getD i 0 ∧ (m.e.getD i 0).toNat < b.e.length ∧ b.e.getD (m.e.getD i 0).toNat (0, 0, 0) = ((a.e.getD i (0, 0, 0)).1, m.n.getD (a.e.getD i (0, 0, 0)).2.1.toNat 0, m.n.getD (a.e.getD i (0, 0, 0)).2.2.toNat 0) := by
  unfold edgeErr
  generalize b.e.getD (m.e.getD i 0).toNat (0, 0, 0) = y
  obtain ⟨y1, y2, y3⟩ := y
  split
  · constructor
    · intro h; simp at h
    · rintro ⟨h1, h2, _⟩; omega
  · split
    · rename_i h; constructor
      · intro h; simp at h
      · rintro ⟨_, _, h3⟩
        simp only [Prod.mk.injEq] at h3
        exact absurd h3.1.symm h
    · split
      · rename_i h; constructor
        · intro h; simp at h
        · rintro ⟨_, _, h3⟩
          simp only [Prod.mk.injEq] at h3
          rcases h with h | h
          · exact absurd h3.2.1.symm h
          · exact absurd h3.2.2.symm h
      · rename_i h1 h2 h3
        simp only [ne_eq, Decidable.not_not, not_or] at h2 h3
        refine ⟨fun _ => ⟨by omega, by omega, ?_⟩, fun _ => rfl⟩
        simp only [Prod.mk.injEq]
        exact ⟨h2.symm, h3.1.symm, h3.2.symm⟩
theorem injR_IJ (p g : Gr) (q : Mo) : injR p g q = true ↔ IJ p g q := by
  unfold injR
  simp only [Bool.and_eq_true, beq_iff_eq, dist_iff]
  constructor
  · rintro ⟨h1, h2, h3⟩
    obtain ⟨g1, g2, l1, l2, e1, e2⟩ := mErr_ok h1
    exact ⟨g1, g2, l1, l2, fun i hi => (nodeErr_iff _ _ _ _).1 (e1 i hi), fun i hi => (edgeErr_iff _ _ _ _).1 (e2 i hi), fun i k hi hk => h2 i k (by omega) hk, fun i k hi hk => h3 i k (by omega) hk⟩
  · intro h
    exact ⟨mErr_zero h.gp h.gg h.ln h.le (fun i hi => (nodeErr_iff _ _ _ _).2 (h.nn i hi)) (fun i hi => (edgeErr_iff _ _ _ _).2 (h.ee i hi)), fun i k hi hk => h.dn i k (by rw [← h.ln]; exact hi) hk, fun i k hi hk => h.de i k (by rw [← h.le]; exact hi) hk⟩
/-! ### Images -/
theorem img_at {N : Nat} {b m : List Int} (hb : inR N b) (hd : dist b = true) : ∀ (k : Nat), k ≤ b.length → (∀ j, j < k → (img N b m k).getD (b.getD j 0).toNat 0 = m.getD j 0) ∧ ∀ i, i < N → (img N b m k).getD i 0 = -1 ∧ (∀ j, j < k → (b.getD j 0).toNat ≠ i) ∨ ∃ j, j < k ∧ (b.getD j 0).toNat = i ∧ (img N b m k).getD i 0 = m.getD j 0
  | 0, _ => ⟨fun j hj => by omega, fun i hi => .inl ⟨by simp [img, hi], fun j hj => by omega⟩⟩
  | k + 1, hk => by
    obtain ⟨h1, h2⟩ := img_at hb hd (m := m) k (by omega)
    have hl := img_len N b m k
    have hr := hb _ (List.getElem_mem (show k < b.length by omega))
    have hkN : (b.getD k 0).toNat < (img N b m k).length := by rw [getD_at (by omega), hl]; omega
    have hne : ∀ j, j < k → (b.getD j 0).toNat ≠ (b.getD k 0).toNat := fun j hj e => by
      have := (dist_iff b).1 hd k j (by omega) hj
      have hj2 := hb _ (List.getElem_mem (show j < b.length by omega))
      rw [getD_at (by omega), getD_at (by omega)] at this e
      omega
    constructor
    · intro j hj
      rw [img, set_getD _ _ _ _ hkN]
      by_cases e : j = k
      · subst e; simp
      · rw [if_neg (hne j (by omega))]
        exact h1 j (by omega)
    · intro i hi
      rw [img, set_getD _ _ _ _ hkN]
      by_cases e : i = (b.getD k 0).toNat
      · exact .inr ⟨k, by omega, e.symm, by rw [if_pos e]⟩
      · rw [if_neg e]
        rcases h2 i hi with ⟨h3, h4⟩ | ⟨j, h3, h4, h5⟩
        · refine .inl ⟨h3, fun j hj => ?_⟩
          by_cases ej : j = k
          · subst ej; exact Ne.symm e
          · exact h4 j (by omega)
        · exact .inr ⟨j, by omega, h4, h5⟩
end Go.Sy

/- Plain law: the search finds an injective extension. -/
set_option linter.unusedSimpArgs false
set_option linter.unusedVariables false
namespace Go.Sy
open Go Go.Proofs

def free (b : List Int) (i : Nat) : Prop := ∀ j, j < b.length → (b.getD j 0).toNat ≠ i
theorem FL_img {ok : Nat → Nat → Bool} {M N : Nat} {b m l : List Int} (hb : inR N b) (hd : dist b = true) (hm : ∀ j, j < b.length → 0 ≤ m.getD j 0) :
    FL ok M (img N b m b.length) l ↔ l.length = N ∧ (∀ j, j < b.length → l.getD (b.getD j 0).toNat 0 = m.getD j 0) ∧ (∀ i, i < N → free b i → 0 ≤ l.getD i 0 ∧ (l.getD i 0).toNat < M ∧ ok i (l.getD i 0).toNat = true) ∧
      ∀ i i', i < N → i' < N → i ≠ i' → free b i → l.getD i 0 ≠ l.getD i' 0 := by
  obtain ⟨h1, h2⟩ := img_at hb hd (m := m) b.length (Nat.le_refl _)
  have hl := img_len N b m b.length
  have neg : ∀ i, i < N → ((img N b m b.length).getD i 0 < 0 ↔ free b i) := fun i hi => by
    rcases h2 i hi with ⟨h3, h4⟩ | ⟨j, h3, h4, h5⟩
    · exact ⟨fun _ => h4, fun _ => by omega⟩
    · have := hm j h3
      exact ⟨fun h => by omega, fun h => absurd h4 (h j h3)⟩
  have bN : ∀ j, j < b.length → (b.getD j 0).toNat < N := fun j hj => by
    have := hb _ (List.getElem_mem hj)
    rw [getD_at hj]
    omega
  constructor
  · intro h
    refine ⟨by rw [h.len, hl], fun j hj => ?_, fun i hi hf => h.new i (by omega) ((neg i hi).2 hf), fun i i' hi hi' hne hf => h.inj i i' (by omega) (by omega) hne ((neg i hi).2 hf)⟩
    have := h.ext _ (by rw [hl]; exact bN j hj) (by rw [h1 j hj]; exact hm j hj)
    rw [this, h1 j hj]
  · rintro ⟨k1, k2, k3, k4⟩
    refine ⟨by rw [k1, hl], fun i hi hz => ?_, fun i hi hz => k3 i (by omega) ((neg i (by omega)).1 hz), fun i i' hi hi' hne hz => k4 i i' (by omega) (by omega) hne ((neg i (by omega)).1 hz)⟩
    rcases h2 i (by omega) with ⟨h3, h4⟩ | ⟨j, h3, h4, h5⟩
    · omega
    · rw [h5, ← k2 j h3, h4]
theorem thr_iff (b l m : List Int) : thr b l = m ↔ b.length = m.length ∧ ∀ j, j < b.length → l.getD (b.getD j 0).toNat 0 = m.getD j 0 := by
  unfold thr
  constructor
  · rintro rfl
    refine ⟨by simp, fun j hj => ?_⟩
    rw [getD_at hj, List.getD_eq_getElem?_getD (l := b.map _)]
    simp [hj]
  · rintro ⟨h1, h2⟩
    apply List.ext_getElem (by simpa using h1)
    intro j hj hj'
    simp only [List.length_map] at hj
    have := h2 j hj
    rw [getD_at hj, getD_at hj'] at this
    simpa using this
theorem thn_iff (b q m : Mo) : thn b q = m ↔ thr b.n q.n = m.n ∧ thr b.e q.e = m.e := by
  obtain ⟨m1, m2⟩ := m
  simp [thn]
theorem gIn_at {g : Gr} (h : gErr g = 0) {i : Nat} (hi : i < g.e.length) : (0 ≤ (g.e.getD i (0, 0, 0)).2.1 ∧ (g.e.getD i (0, 0, 0)).2.1.toNat < g.n.length) ∧ 0 ≤ (g.e.getD i (0, 0, 0)).2.2 ∧ (g.e.getD i (0, 0, 0)).2.2.toNat < g.n.length := by
  have := (gErr_parts h).2.2.2 _ (List.getElem_mem hi)
  rw [getD_at hi]
  unfold edOK at this
  omega
theorem IJ.dist1 {p g : Gr} {q : Mo} (h : IJ p g q) : dist q.n = true ∧ dist q.e = true := ⟨(dist_iff _).2 fun i k hi hk => h.dn i k (by rw [← h.ln]; exact hi) hk, (dist_iff _).2 fun i k hi hk => h.de i k (by rw [← h.le]; exact hi) hk⟩
theorem IJ.inR1 {p g : Gr} {q : Mo} (h : IJ p g q) : inR g.n.length q.n ∧ inR g.e.length q.e := by
  constructor
  · intro x hx
    obtain ⟨i, hi, rfl⟩ := List.getElem_of_mem hx
    have := h.nn i (by rw [← h.ln]; exact hi)
    rw [getD_at hi] at this
    omega
  · intro x hx
    obtain ⟨i, hi, rfl⟩ := List.getElem_of_mem hx
    have := h.ee i (by rw [← h.le]; exact hi)
    rw [getD_at hi] at this
    omega
/-- Not free: some place leads there. -/
theorem not_free {b : List Int} {i : Nat} (h : ¬ free b i) : ∃ j, j < b.length ∧ (b.getD j 0).toNat = i := by
  unfold free at h
  simp only [Classical.not_forall, ne_eq, Decidable.not_not] at h
  obtain ⟨j, h1, h2⟩ := h
  exact ⟨j, h1, h2⟩
theorem ext_iff {a p g : Gr} {b m : Mo} (hb : IJ a p b) (hm : IJ a g m) (acc : Mo → Bool) :
    nodeR p g acc (img p.e.length b.e m.e b.e.length) p.n.length 0 (img p.n.length b.n m.n b.n.length) = true ↔ ∃ q, IJ p g q ∧ thn b q = m ∧ acc q = true := by
  have mN : ∀ j, j < b.n.length → 0 ≤ m.n.getD j 0 := fun j hj => (hm.nn j (by rw [← hb.ln]; exact hj)).1
  have mE : ∀ j, j < b.e.length → 0 ≤ m.e.getD j 0 := fun j hj => (hm.ee j (by rw [← hb.le]; exact hj)).1
  rw [nodeR_srch, srch_iff _ _ _ _ _ _ (by rw [img_len]; omega) (fun j hj => by omega)]
  have EQ : ∀ l : List Int, edgeR p g acc l p.e.length 0 (img p.e.length b.e m.e b.e.length) = true ↔ ∃ l2, FL (okE' p g l) g.e.length (img p.e.length b.e m.e b.e.length) l2 ∧ acc ⟨l, l2⟩ = true := fun l => by
    rw [edgeR_srch, srch_iff _ _ _ _ _ _ (by rw [img_len]; omega) (fun j hj => by omega)]
  simp only [EQ, FL_img hb.inR1.1 hb.dist1.1 mN, FL_img hb.inR1.2 hb.dist1.2 mE]
  constructor
  · rintro ⟨l, ⟨k1, k2, k3, k4⟩, l2, ⟨j1, j2, j3, j4⟩, hacc⟩
    refine ⟨⟨l, l2⟩, ⟨hb.gg, hm.gg, k1, j1, fun i hi => ?_, fun i hi => ?_, fun i k hi hk => ?_, fun i k hi hk => ?_⟩, (thn_iff _ _ _).2 ⟨(thr_iff _ _ _).2 ⟨by rw [hb.ln, hm.ln], k2⟩, (thr_iff _ _ _).2 ⟨by rw [hb.le, hm.le], j2⟩⟩, hacc⟩
    · by_cases hf : free b.n i
      · obtain ⟨h1, h2, h3⟩ := k3 i hi hf
        exact ⟨h1, h2, by simpa [okN'] using h3⟩
      · obtain ⟨j, hj, rfl⟩ := not_free hf
        have hj2 : j < a.n.length := by rw [← hb.ln]; exact hj
        have h1 := hm.nn j hj2
        have h2 := hb.nn j hj2
        simp only [k2 j hj]
        exact ⟨h1.1, h1.2.1, by rw [h1.2.2, h2.2.2]⟩
    · by_cases hf : free b.e i
      · obtain ⟨h1, h2, h3⟩ := j3 i hi hf
        exact ⟨h1, h2, by simpa [okE'] using h3⟩
      · obtain ⟨j, hj, rfl⟩ := not_free hf
        have hj2 : j < a.e.length := by rw [← hb.le]; exact hj
        have h1 := hm.ee j hj2
        have h2 := hb.ee j hj2
        have h3 := gIn_at hb.gp hj2
        simp only [j2 j hj]
        refine ⟨h1.1, h1.2.1, ?_⟩
        rw [h1.2.2, h2.2.2]
        simp only
        rw [k2 _ (by rw [hb.ln]; exact h3.1.2), k2 _ (by rw [hb.ln]; exact h3.2.2)]
    · simp only
      by_cases hf : free b.n i
      · exact k4 i k hi (by omega) (by omega) hf
      by_cases hf2 : free b.n k
      · exact (k4 k i (by omega) hi (by omega) hf2).symm
      obtain ⟨j, hj, e1⟩ := not_free hf
      obtain ⟨j', hj', e2⟩ := not_free hf2
      rw [← e1, ← e2, k2 j hj, k2 j' hj']
      have hne : j ≠ j' := by rintro rfl; omega
      rcases Nat.lt_or_gt_of_ne hne with h | h
      · exact (hm.dn j' j (by rw [← hb.ln]; exact hj') h).symm
      · exact hm.dn j j' (by rw [← hb.ln]; exact hj) h
    · simp only
      by_cases hf : free b.e i
      · exact j4 i k hi (by omega) (by omega) hf
      by_cases hf2 : free b.e k
      · exact (j4 k i (by omega) hi (by omega) hf2).symm
      obtain ⟨j, hj, e1⟩ := not_free hf
      obtain ⟨j', hj', e2⟩ := not_free hf2
      rw [← e1, ← e2, j2 j hj, j2 j' hj']
      have hne : j ≠ j' := by rintro rfl; omega
      rcases Nat.lt_or_gt_of_ne hne with h | h
      · exact (hm.de j' j (by rw [← hb.le]; exact hj') h).symm
      · exact hm.de j j' (by rw [← hb.le]; exact hj) h
  · rintro ⟨q, hq, ht, hacc⟩
    obtain ⟨t1, t2⟩ := (thn_iff _ _ _).1 ht
    obtain ⟨_, t1⟩ := (thr_iff _ _ _).1 t1
    obtain ⟨_, t2⟩ := (thr_iff _ _ _).1 t2
    have ne : ∀ (l : List Int) (N : Nat), (∀ i k, i < N → k < i → l.getD i 0 ≠ l.getD k 0) → ∀ i i', i < N → i' < N → i ≠ i' → l.getD i 0 ≠ l.getD i' 0 := fun l N h i i' hi hi' hne => by
      rcases Nat.lt_or_gt_of_ne hne with h1 | h1
      · exact (h i' i hi' h1).symm
      · exact h i i' hi h1
    refine ⟨q.n, ⟨hq.ln, t1, fun i hi _ => ?_, fun i i' hi hi' hne _ => ne q.n _ hq.dn i i' hi hi' hne⟩, q.e, ⟨hq.le, t2, fun i hi _ => ?_, fun i i' hi hi' hne _ => ne q.e _ hq.de i i' hi hi' hne⟩, hacc⟩
    · have := hq.nn i hi
      exact ⟨this.1, this.2.1, by simpa [okN'] using this.2.2⟩
    · have := hq.ee i hi
      exact ⟨this.1, this.2.1, by simpa [okE'] using this.2.2⟩
end Go.Sy

/- Plain law: composition; what holds of a shifted condition. -/
set_option linter.unusedSimpArgs false
set_option linter.unusedVariables false
namespace Go.Sy
open Go Go.Proofs

theorem thr_at (l k : List Int) {x : Nat} (h : x < l.length) : (thr l k).getD x 0 = k.getD (l.getD x 0).toNat 0 := by
  unfold thr
  rw [getD_at h, List.getD_eq_getElem?_getD]
  simp [h]
theorem thr_len (l k : List Int) : (thr l k).length = l.length := by simp [thr]
theorem thr_assoc {l k h : List Int} (hl : inR k.length l) : thr (thr l k) h = thr l (thr k h) := by
  unfold thr
  rw [List.map_map]
  apply List.map_congr_left
  intro x hx
  have := hl x hx
  simp only [Function.comp_apply]
  rw [show (k.map fun x => h.getD x.toNat 0) = thr k h from rfl, thr_at k h (by omega)]
theorem thn_assoc {a b : Gr} {m o q : Mo} (h : IJ a b m) (h1 : o.n.length = b.n.length) (h2 : o.e.length = b.e.length) : thn (thn m o) q = thn m (thn o q) := by
  unfold thn
  simp only [Mo.mk.injEq]
  exact ⟨thr_assoc (by rw [h1]; exact h.inR1.1), thr_assoc (by rw [h2]; exact h.inR1.2)⟩
theorem IJ.comp {a b g : Gr} {m n : Mo} (h : IJ a b m) (k : IJ b g n) : IJ a g (thn m n) := by
  have N : ∀ i, i < a.n.length → (thn m n).n.getD i 0 = n.n.getD (m.n.getD i 0).toNat 0 := fun i hi => thr_at _ _ (by rw [h.ln]; exact hi)
  have E : ∀ i, i < a.e.length → (thn m n).e.getD i 0 = n.e.getD (m.e.getD i 0).toNat 0 := fun i hi => thr_at _ _ (by rw [h.le]; exact hi)
  refine ⟨h.gp, k.gg, by rw [← h.ln]; exact thr_len _ _, by rw [← h.le]; exact thr_len _ _, fun i hi => ?_, fun i hi => ?_, fun i j hi hj => ?_, fun i j hi hj => ?_⟩
  · obtain ⟨h1, h2, h3⟩ := h.nn i hi
    obtain ⟨k1, k2, k3⟩ := k.nn _ h2
    rw [N i hi]
    exact ⟨k1, k2, by rw [k3, h3]⟩
  · obtain ⟨h1, h2, h3⟩ := h.ee i hi
    obtain ⟨k1, k2, k3⟩ := k.ee _ h2
    have hg := gIn_at h.gp hi
    rw [E i hi]
    refine ⟨k1, k2, ?_⟩
    rw [k3, h3, N _ hg.1.2, N _ hg.2.2]
  · rw [N i hi, N j (by omega)]
    obtain ⟨h1, h2, _⟩ := h.nn i hi
    obtain ⟨h3, h4, _⟩ := h.nn j (by omega)
    have hd := h.dn i j hi hj
    rcases Nat.lt_or_gt_of_ne (show (m.n.getD i 0).toNat ≠ (m.n.getD j 0).toNat by omega) with q | q
    · exact (k.dn _ _ h4 q).symm
    · exact k.dn _ _ h2 q
  · rw [E i hi, E j (by omega)]
    obtain ⟨h1, h2, _⟩ := h.ee i hi
    obtain ⟨h3, h4, _⟩ := h.ee j (by omega)
    have hd := h.de i j hi hj
    rcases Nat.lt_or_gt_of_ne (show (m.e.getD i 0).toNat ≠ (m.e.getD j 0).toNat by omega) with q | q
    · exact (k.de _ _ h4 q).symm
    · exact k.de _ _ h2 q
/-- From the right, an injective morphism cancels. -/
theorem thr_cancel {x y h : List Int} {N : Nat} (hx : inR N x) (hy : inR N y) (hd : ∀ i k, i < N → k < N → h.getD i 0 = h.getD k 0 → i = k) (e : thr x h = thr y h) : x = y := by
  have hl : x.length = y.length := by rw [← thr_len x h, e, thr_len]
  apply List.ext_getElem hl
  intro j h1 h2
  have a1 := thr_at x h h1
  have a2 := thr_at y h h2
  rw [e, a2] at a1
  have b1 := hx _ (List.getElem_mem h1)
  have b2 := hy _ (List.getElem_mem h2)
  rw [getD_at h1, getD_at h2] at a1
  have := hd _ _ (by omega) (by omega) a1
  omega
theorem IJ.injN {p g : Gr} {q : Mo} (h : IJ p g q) : (∀ i k, i < p.n.length → k < p.n.length → q.n.getD i 0 = q.n.getD k 0 → i = k) ∧ ∀ i k, i < p.e.length → k < p.e.length → q.e.getD i 0 = q.e.getD k 0 → i = k := by
  constructor
  · intro i k hi hk e
    rcases Nat.lt_trichotomy i k with h1 | h1 | h1
    · exact absurd e.symm (h.dn k i hk h1)
    · exact h1
    · exact absurd e (h.dn i k hi h1)
  · intro i k hi hk e
    rcases Nat.lt_trichotomy i k with h1 | h1 | h1
    · exact absurd e.symm (h.de k i hk h1)
    · exact h1
    · exact absurd e (h.de i k hi h1)
theorem thn_cancel {a b g : Gr} {x y q : Mo} (hx : IJ a b x) (hy : IJ a b y) (hq : IJ b g q) (e : thn x q = thn y q) : x = y := by
  unfold thn at e
  simp only [Mo.mk.injEq] at e
  obtain ⟨x1, x2⟩ := x
  obtain ⟨y1, y2⟩ := y
  simp only [Mo.mk.injEq]
  exact ⟨thr_cancel hx.inR1.1 hy.inR1.1 hq.injN.1 e.1, thr_cancel hx.inR1.2 hy.inR1.2 hq.injN.2 e.2⟩
theorem agr_iff {a b c d : List Int} (hl : a.length = c.length) : agr a b c d = true ↔ thr a b = thr c d := by
  unfold agr
  simp only [List.all_eq_true, List.mem_range, beq_iff_eq]
  constructor
  · intro h
    apply List.ext_getElem (by rw [thr_len, thr_len, hl])
    intro j h1 h2
    rw [thr_len] at h1 h2
    have := h j h1
    rw [← thr_at a b h1, ← thr_at c d h2, getD_at (by rw [thr_len]; exact h1), getD_at (by rw [thr_len]; exact h2)] at this
    exact this
  · intro h j hj
    rw [← thr_at a b hj, h, thr_at c d (by omega)]
theorem agrO_iff {a b p : Gr} {m m0 : Mo} (h : IJ a b m) (k : IJ a p m0) (o : Ov) : agrO m m0 o = true ↔ thn m o.l = thn m0 o.r := by
  unfold agrO thn
  rw [Bool.and_eq_true, agr_iff (by rw [h.ln, k.ln]), agr_iff (by rw [h.le, k.le])]
  simp
theorem hld_ex {a p g : Gr} {m0 n : Mo} (h : IJ a p m0) (k : IJ a g n) (c : Cd) (sl : List (List AV)) (v : Int) (ts : List (List AV)) : hld (.mk 5 [c] m0 p sl v ts) g n = true ↔ ∃ q, IJ p g q ∧ thn m0 q = n ∧ hld c g q = true := by
  rw [hld_mk, if_neg (by decide), if_neg (by decide), if_neg (by decide), if_pos rfl]
  have : (fun q => hldH [c] g q) = fun q => hld c g q := by funext q; rw [hldH]
  rw [this]
  exact ext_iff h k _
end Go.Sy

/- Plain law: what holds of a shifted condition. -/
set_option linter.unusedSimpArgs false
set_option linter.unusedVariables false
namespace Go.Sy
open Go Go.Proofs

inductive F2 {α β : Type} (R : α → β → Prop) : List α → List β → Prop
  | nil : F2 R [] []
  | cons {a : α} {b : β} {l : List α} {r : List β} : R a b → F2 R l r → F2 R (a :: l) (b :: r)
theorem F2.imp {α β : Type} {R S : α → β → Prop} {l : List α} {r : List β} (h : F2 R l r) (hi : ∀ a ∈ l, ∀ b, R a b → S a b) : F2 S l r := by
  induction h with
  | nil => exact .nil
  | cons h1 _ ih => exact .cons (hi _ (by simp) _ h1) (ih fun a ha b => hi a (by simp [ha]) b)
theorem F2.len {α β : Type} {R : α → β → Prop} {l : List α} {r : List β} (h : F2 R l r) : r.length = l.length := by
  induction h with
  | nil => rfl
  | cons _ _ ih => simp [ih]
theorem F2.all {α β : Type} {R : α → β → Prop} {l : List α} {r : List β} (h : F2 R l r) (f : α → Bool) (f' : β → Bool) (he : ∀ a b, R a b → f' b = f a) : r.all f' = l.all f ∧ r.any f' = l.any f := by
  induction h with
  | nil => exact ⟨rfl, rfl⟩
  | cons h1 _ ih => simp [he _ _ h1, ih.1, ih.2]
theorem F2.mem {α β : Type} {R : α → β → Prop} {l : List α} {r : List β} (h : F2 R l r) : (∀ b ∈ r, ∃ a ∈ l, R a b) ∧ ∀ a ∈ l, ∃ b ∈ r, R a b := by
  induction h with
  | nil => simp
  | cons h1 _ ih =>
    constructor
    · intro b hb
      rcases List.mem_cons.1 hb with rfl | hb
      · exact ⟨_, by simp, h1⟩
      · obtain ⟨a, ha, hr⟩ := ih.1 b hb
        exact ⟨a, by simp [ha], hr⟩
    · intro a ha
      rcases List.mem_cons.1 ha with rfl | ha
      · exact ⟨_, by simp, h1⟩
      · obtain ⟨b, hb, hr⟩ := ih.2 a ha
        exact ⟨b, by simp [hb], hr⟩
theorem big_zero {n e : Int} (h : big n e = 0) : e = 0 ∧ n ≤ 2000 := by
  unfold big at h
  split at h
  · simp at h
  · exact ⟨h, by omega⟩
theorem shf_err {c : Cd} {b : Gr} {m : Mo} {s : Int × Int} (h : (shf c b m s).2.2 = 0) : s.2 = 0 := by
  obtain ⟨n, e⟩ := s
  obtain ⟨k, kids, m0, p, sl, v, ts⟩ := c
  rw [shf_mk] at h
  split at h
  · rename_i h1; exact absurd h h1
  · rename_i h1; exact (big_zero (by simpa using h1)).1
def Made1 (b : Gr) (m : Mo) (c d : Cd) : Prop := ∃ s, d = (shf c b m s).1 ∧ (shf c b m s).2.2 = 0
theorem shfF_fold {b : Gr} {m : Mo} : ∀ (l : List Cd) (acc : List Cd × Int × Int), (l.foldl (shfF b m) acc).2.2 = 0 → acc.2.2 = 0 ∧ ∃ ds, (l.foldl (shfF b m) acc).1 = acc.1 ++ ds ∧ F2 (Made1 b m) l ds
  | [], acc, h => ⟨h, [], by simp, .nil⟩
  | c :: l, acc, h => by
    rw [List.foldl_cons] at h ⊢
    obtain ⟨h1, ds, h2, h3⟩ := shfF_fold l _ h
    exact ⟨shf_err h1, (shf c b m acc.2).1 :: ds, by rw [h2]; simp [shfF], .cons ⟨acc.2, rfl, h1⟩ h3⟩
def Made2 (c : Cd) (o : Ov) (d : Cd) : Prop := ∃ d', d = xc o d' ∧ Made1 o.g o.r c d'
theorem shfO_fold {m m0 : Mo} {c : Cd} : ∀ (l : List Ov) (acc : List Cd × Int × Int), (l.foldl (shfO m m0 [c]) acc).2.2 = 0 → acc.2.2 = 0 ∧ ∃ ds, (l.foldl (shfO m m0 [c]) acc).1 = acc.1 ++ ds ∧ F2 (Made2 c) (l.filter (agrO m m0)) ds
  | [], acc, h => ⟨h, [], by simp, .nil⟩
  | o :: l, acc, h => by
    rw [List.foldl_cons] at h ⊢
    obtain ⟨h1, ds, h2, h3⟩ := shfO_fold l _ h
    by_cases ha : agrO m m0 o = true
    · rw [shfO, if_pos ha, shfH] at h1 h2 h ⊢
      have h1' : (shf c o.g o.r (IntKind.i64.wrap (acc.2.1 + 1), acc.2.2)).2.2 = 0 := h1
      have h0 : acc.2.2 = 0 := shf_err (s := (IntKind.i64.wrap (acc.2.1 + 1), acc.2.2)) h1'
      refine ⟨h0, xc o (shf c o.g o.r (IntKind.i64.wrap (acc.2.1 + 1), acc.2.2)).1 :: ds, by rw [h2]; simp, ?_⟩
      rw [List.filter_cons_of_pos ha]
      exact .cons ⟨_, rfl, _, rfl, h1'⟩ h3
    · rw [shfO, if_neg ha] at h1 h2 h ⊢
      refine ⟨h1, ds, h2, ?_⟩
      rw [List.filter_cons_of_neg ha]
      exact h3
def Good (b : Gr) (m : Mo) (c d : Cd) : Prop := ovr d b = 0 ∧ ∀ g n, IJ b g n → hld d g n = hld c g (thn m n)
theorem okK_true {k : Int} {n : Nat} {u : Bool} (h : okK k n u = true) : okK k n true = true := by
  unfold okK at h ⊢
  repeat' split at h
  all_goals simp_all
theorem shp_kc (k : Int) (ds : List Cd) (h : okK k ds.length true = true) : shp (kc k ds) = 0 := by
  have : (unu ⟨[], []⟩ ⟨[], []⟩ && plnB [] 0 []) = true := rfl
  simp only [kc, shp, this, h, if_true]
  rfl
theorem ovr_kc {k : Int} {ds : List Cd} {b : Gr} (hk : k ≠ 5) (h : okK k ds.length true = true) (ha : ∀ d ∈ ds, ovr d b = 0) : ovr (kc k ds) b = 0 := by
  have hs := shp_kc k ds h
  rw [kc] at hs ⊢
  rw [ovr_mk, if_neg (by simp [hs]), if_neg hk]
  exact firstI_all ha
theorem ovr_xc {o : Ov} {d : Cd} {b : Gr} (h1 : mErr b o.g o.l = 0) (h2 : injR b o.g o.l = true) (h3 : ovr d o.g = 0) : ovr (xc o d) b = 0 := by
  have hs : shp (xc o d) = 0 := rfl
  rw [xc] at hs ⊢
  rw [ovr_mk, if_neg (by simp [hs]), if_pos rfl, if_neg (by simp [h1]), if_pos h2]
  exact firstI_all fun x hx => by simp at hx; rw [hx]; exact h3
theorem Good.kids {b : Gr} {m : Mo} {kids ds : List Cd} (h : F2 (Good b m) kids ds) {g : Gr} {n : Mo} (hn : IJ b g n) : ds.all (fun d => hld d g n) = kids.all (fun c => hld c g (thn m n)) ∧ ds.any (fun d => hld d g n) = kids.any (fun c => hld c g (thn m n)) :=
  h.all _ _ fun c d hg => hg.2 g n hn
/-- Some overlap agrees. -/
def AgrSome : Prop := ∀ (a b p : Gr) (m m0 : Mo), IJ a b m → IJ a p m0 → (ovS b p).2 = 0 → ∃ o ∈ (ovS b p).1, agrO m m0 o = true
theorem shf_main (HS : AgrSome) (c : Cd) : ∀ (a b : Gr) (m : Mo) (s : Int × Int), IJ a b m → ovr c a = 0 → (shf c b m s).2.2 = 0 → Good b m c (shf c b m s).1 := by
  induction c using Cd.ind
  rename_i k kids m0 p sl v ts ih
  intro a b m s hm ho he
  obtain ⟨n, e⟩ := s
  obtain ⟨hs, h5, h4⟩ := ovr_parts ho
  have hk := shp_kids hs
  rw [shf_mk] at he ⊢
  split at he
  · rename_i h1; exact absurd he h1
  rename_i h1
  rw [if_neg h1]
  by_cases k5 : k = 5
  · subst k5
    obtain ⟨hm0, hinj, hov⟩ := h5 rfl
    obtain ⟨c, rfl⟩ : ∃ c, kids = [c] := by
      simp [okK] at hk
      exact List.length_eq_one_iff.1 (by omega)
    have hI := (injR_IJ _ _ _).1 hinj
    rw [if_neg (by simp)] at he ⊢
    split at he
    · rename_i h2; exact absurd he h2
    rename_i h2
    rw [if_neg h2]
    have h2 : (ovS b p).2 = 0 := by simpa using h2
    obtain ⟨_, ds, e1, f2⟩ := shfO_fold _ _ he
    simp only [List.nil_append] at e1
    rw [e1]
    have mem : ∀ o ∈ (ovS b p).1, IJ b o.g o.l ∧ IJ p o.g o.r := fun o ho => by
      obtain ⟨i1, i2, _, _⟩ := ovS_mem hm.gg hI.gg h2 ho
      exact ⟨(injR_IJ _ _ _).1 i1, (injR_IJ _ _ _).1 i2⟩
    have good : F2 (fun o d => ∃ d', d = xc o d' ∧ Good o.g o.r c d') ((ovS b p).1.filter (agrO m m0)) ds := f2.imp fun o ho d ⟨d', e2, s, e3, e4⟩ => by
      have := ih c (by simp) p o.g o.r s (mem o (List.mem_filter.1 ho).1).2 (hov c (by simp)) e4
      exact ⟨d', e2, by rw [e3]; exact this⟩
    constructor
    · refine ovr_kc (by decide) ?_ fun d hd => ?_
      · obtain ⟨o, ho, ha⟩ := HS a b p m m0 hm hI h2
        obtain ⟨d, hd, _⟩ := good.mem.2 o (List.mem_filter.2 ⟨ho, ha⟩)
        have : 0 < ds.length := List.length_pos_of_mem hd
        simp [okK]
        omega
      · obtain ⟨o, ho, d', rfl, hg⟩ := good.mem.1 d hd
        obtain ⟨i1, _, i3, _⟩ := ovS_mem hm.gg hI.gg h2 (List.mem_filter.1 ho).1
        exact ovr_xc i3 i1 hg.1
    · intro g n hn
      rw [Bool.eq_iff_iff, hld_ex hI (hm.comp hn), kc, hld_mk, if_neg (by decide), if_neg (by decide), if_pos rfl, List.any_eq_true]
      constructor
      · rintro ⟨d, hd, h⟩
        obtain ⟨o, ho, d', rfl, hg⟩ := good.mem.1 d hd
        obtain ⟨ho, ha⟩ := List.mem_filter.1 ho
        obtain ⟨il, ir⟩ := mem o ho
        rw [xc, hld_ex il hn] at h
        obtain ⟨q, hq, e2, h3⟩ := h
        rw [hg.2 g q hq] at h3
        refine ⟨thn o.r q, ir.comp hq, ?_, h3⟩
        rw [← thn_assoc hI ir.ln ir.le, ← (agrO_iff hm hI o).1 ha, thn_assoc hm il.ln il.le, e2]
      · rintro ⟨q, hq, e2, h3⟩
        have i1 := (injR_IJ _ _ _).2 hn
        have i2 := (injR_IJ _ _ _).2 hq
        obtain ⟨t1, t2, t3⟩ := thru_all i1 i2
        have ho : glue b p (plc n.n q.n) (plc n.e q.e) ∈ (ovS b p).1 := by
          rw [(ovS_ok hm.gg hI.gg h2).2.1]
          exact List.mem_map.2 ⟨(plc n.n q.n, plc n.e q.e), (memP _ _ _).2 (thru_isM i1 i2), rfl⟩
        generalize glue b p (plc n.n q.n) (plc n.e q.e) = o at *
        generalize rst n q (plc n.n q.n) (plc n.e q.e) = r at *
        obtain ⟨il, ir⟩ := mem o ho
        have hr := (injR_IJ _ _ _).1 t3
        have u1 : thn o.l r = n := by
          unfold cmpR at t1
          split at t1
          · rename_i h6; simp only [Prod.mk.injEq] at t1; exact absurd t1.2 h6
          split at t1
          · rename_i h6; simp only [Prod.mk.injEq] at t1; exact absurd t1.2 h6
          · simp only [Prod.mk.injEq] at t1; exact t1.1
        have u2 : thn o.r r = q := by
          unfold cmpR at t2
          split at t2
          · rename_i h6; simp only [Prod.mk.injEq] at t2; exact absurd t2.2 h6
          split at t2
          · rename_i h6; simp only [Prod.mk.injEq] at t2; exact absurd t2.2 h6
          · simp only [Prod.mk.injEq] at t2; exact t2.1
        have ha : agrO m m0 o = true := by
          refine (agrO_iff hm hI o).2 (thn_cancel (hm.comp il) (hI.comp ir) hr ?_)
          rw [thn_assoc hm il.ln il.le, thn_assoc hI ir.ln ir.le, u1, u2, e2]
        obtain ⟨d, hd, d', rfl, hg⟩ := good.mem.2 o (List.mem_filter.2 ⟨ho, ha⟩)
        refine ⟨_, hd, ?_⟩
        rw [xc, hld_ex il hn]
        exact ⟨r, hr, u1, by rw [hg.2 g r hr, u2]; exact h3⟩
  · rw [if_pos k5] at he ⊢
    obtain ⟨_, ds, e1, f2⟩ := shfF_fold _ _ he
    simp only [List.nil_append] at e1
    rw [e1]
    have good : F2 (Good b m) kids ds := f2.imp fun c hc d ⟨s, e3, e4⟩ => by
      rw [e3]
      exact ih c hc a b m s hm (h4 k5 c hc) e4
    constructor
    · refine ovr_kc k5 (by rw [good.len]; exact okK_true hk) fun d hd => ?_
      obtain ⟨c, _, hg⟩ := good.mem.1 d hd
      exact hg.1
    · intro g n hn
      have hAll := Good.kids good hn
      rw [kc, hld_mk, hld_mk, hAll.1, hAll.2]
      have hH : k = 2 → hldH ds g n = hldH kids g (thn m n) := fun k2 => by
        cases good with
        | nil => rw [hldH, hldH]
        | cons h6 _ => rw [hldH, hldH]; exact h6.2 g n hn
      by_cases k2 : k = 2
      · rw [if_pos k2, if_pos k2, hH k2]
      · rw [if_neg k2, if_neg k2]
        split
        · rfl
        split
        · rfl
        rfl
end Go.Sy

/- Plain law: some overlap agrees. -/
set_option linter.unusedSimpArgs false
set_option linter.unusedVariables false
namespace Go.Sy
open Go Go.Proofs

theorem rng_atI {n : Nat} {x : Int} (h0 : 0 ≤ x) (h : x.toNat < n) : (rng n).getD x.toNat 0 = x := by
  unfold rng
  rw [List.getD_eq_getElem?_getD]
  simp [h]
  omega
theorem img_PI {N M : Nat} {b m : List Int} {R : Nat → Nat → Prop} (hb : inR N b) (hd : dist b = true) (hm : ∀ j, j < b.length → 0 ≤ m.getD j 0 ∧ (m.getD j 0).toNat < M ∧ R (b.getD j 0).toNat (m.getD j 0).toNat) (hi : ∀ i k, i < b.length → k < b.length → m.getD i 0 = m.getD k 0 → i = k) :
    PI N M R (img N b m b.length) := by
  obtain ⟨h1, h2⟩ := img_at hb hd (m := m) b.length (Nat.le_refl _)
  refine ⟨img_len _ _ _ _, fun i hi' => ?_, fun i j hij hj he => ?_⟩
  · rcases h2 i hi' with ⟨h3, _⟩ | ⟨j, h3, h4, h5⟩
    · exact .inl h3
    · obtain ⟨m1, m2, m3⟩ := hm j h3
      exact .inr ⟨(m.getD j 0).toNat, m2, by rw [h5]; omega, by rw [← h4]; exact m3⟩
  · rcases h2 i (by omega) with ⟨h3, _⟩ | ⟨a, h3, h4, h5⟩
    · exact h3
    · rcases h2 j hj with ⟨h6, _⟩ | ⟨c, h6, h7, h8⟩
      · rw [he, h6]
      · rw [h5, h8] at he
        have := hi a c h3 h6 he
        subst this
        omega
theorem agr_some : AgrSome := by
  intro a b p m m0 hm h0 he
  have n0 := img_at h0.inR1.1 h0.dist1.1 (m := m.n) m0.n.length (Nat.le_refl _)
  have e0 := img_at h0.inR1.2 h0.dist1.2 (m := m.e) m0.e.length (Nat.le_refl _)
  have hM : isM b p (img p.n.length m0.n m.n m0.n.length, img p.e.length m0.e m.e m0.e.length) := by
    constructor
    · refine img_PI h0.inR1.1 h0.dist1.1 (fun j hj => ?_) (fun i k hi hk e => hm.injN.1 i k (by rw [← h0.ln]; exact hi) (by rw [← h0.ln]; exact hk) e)
      have hj2 : j < a.n.length := by rw [← h0.ln]; exact hj
      have h1 := hm.nn j hj2
      exact ⟨h1.1, h1.2.1, by unfold relN; rw [h1.2.2, (h0.nn j hj2).2.2]⟩
    · refine img_PI h0.inR1.2 h0.dist1.2 (fun j hj => ?_) (fun i k hi hk e => hm.injN.2 i k (by rw [← h0.le]; exact hi) (by rw [← h0.le]; exact hk) e)
      have hj2 : j < a.e.length := by rw [← h0.le]; exact hj
      have h1 := hm.ee j hj2
      have h2 := h0.ee j hj2
      have h3 := gIn_at hm.gp hj2
      refine ⟨h1.1, h1.2.1, ?_⟩
      unfold relE
      rw [h1.2.2, h2.2.2]
      simp only
      rw [n0.1 _ (by rw [h0.ln]; exact h3.1.2), n0.1 _ (by rw [h0.ln]; exact h3.2.2)]
  have hG := glue_ok hM
  refine ⟨glue b p (img p.n.length m0.n m.n m0.n.length) (img p.e.length m0.e m.e m0.e.length), ?_, ?_⟩
  · rw [(ovS_ok hm.gg h0.gg he).2.1]
    exact List.mem_map.2 ⟨_, (memP _ _ _).2 hM, rfl⟩
  · refine (agrO_iff hm h0 _).2 ?_
    have l1 : (glue b p (img p.n.length m0.n m.n m0.n.length) (img p.e.length m0.e m.e m0.e.length)).l.n = rng b.n.length := rfl
    have l2 : (glue b p (img p.n.length m0.n m.n m0.n.length) (img p.e.length m0.e m.e m0.e.length)).l.e = rng b.e.length := rfl
    have o1 := hG.n.old
    have o2 := hG.e.old
    generalize glue b p (img p.n.length m0.n m.n m0.n.length) (img p.e.length m0.e m.e m0.e.length) = o at *
    rw [eq_comm, thn_iff]
    have t1 : (thn m o.l).n = m.n := by
      show thr m.n o.l.n = m.n
      rw [l1, thr_iff]
      refine ⟨rfl, fun j hj => ?_⟩
      have := hm.nn j (by rw [← hm.ln]; exact hj)
      exact rng_atI this.1 this.2.1
    have t2 : (thn m o.l).e = m.e := by
      show thr m.e o.l.e = m.e
      rw [l2, thr_iff]
      refine ⟨rfl, fun j hj => ?_⟩
      have := hm.ee j (by rw [← hm.le]; exact hj)
      exact rng_atI this.1 this.2.1
    rw [t1, t2, thr_iff, thr_iff]
    refine ⟨⟨by rw [h0.ln, hm.ln], fun j hj => ?_⟩, ⟨by rw [h0.le, hm.le], fun j hj => ?_⟩⟩
    · have hj2 : j < a.n.length := by rw [← h0.ln]; exact hj
      have h1 := n0.1 j hj
      have h2 := hm.nn j hj2
      have h3 := h0.nn j hj2
      rw [o1 _ h3.2.1 (by simp only; rw [h1]; omega)]
      exact h1
    · have hj2 : j < a.e.length := by rw [← h0.le]; exact hj
      have h1 := e0.1 j hj
      have h2 := hm.ee j hj2
      have h3 := h0.ee j hj2
      rw [o2 _ h3.2.1 (by simp only; rw [h1]; omega)]
      exact h1
end Go.Sy

/- Contracts: the finder of extensions. -/
set_option linter.unusedSimpArgs false
namespace Go.Sy
open Go Go.Proofs

theorem c137 (l : List Int) (n : Int) : Con Try.prog 137 [lv l, iv n] 0 (bv (l.contains n)) := by
  refine Con.assume (enters_of Try.func137 (by kernel_rfl) rfl) fun hb => ?_
  have hlen := bnd_lv (hb _ (List.mem_cons_self ..))
  refine conT (X := []) (rs := [.tmp 4]) Try.func137 (by kernel_rfl) rfl rfl (by kernel_rfl) ?_
  simp (dsimp := false) (maxDischargeDepth := 16) only [go_sem, ↓reduceIte, reduceCtorEq, Nat.reduceEqDiff, Nat.reduceAdd, Nat.reduceMul, Nat.reduceSub, Nat.reduceLT, Nat.reduceLeDiff, Nat.reducePow, Int.reduceLT, Int.reduceLE, Int.reduceNeg, Int.reduceToNat]
  refine loopK_intro (fun (i : Nat) s => i ≤ l.length ∧ s.t 0 = lv l ∧ s.t 1 = iv n ∧ s.t 5 = iv i ∧ ∀ j, j < i → l[j]? ≠ some n) (fun i => l.length - i) ⟨0, by omega, rfl, rfl, rfl, fun j hj => by omega⟩ ?_
  rintro i s ⟨hi, h0, h1, h5, hn⟩
  simp (dsimp := false) (maxDischargeDepth := 16) only [go_sem, ↓reduceIte, reduceCtorEq, Nat.reduceEqDiff, Nat.reduceAdd, Nat.reduceMul, Nat.reduceSub, Nat.reduceLT, Nat.reduceLeDiff, Nat.reducePow, Int.reduceLT, Int.reduceLE, Int.reduceNeg, Int.reduceToNat, h0, h1, h5]
  refine condK_dec (fun h6 => ?_) (fun h6 => ?_)
  · simp (dsimp := false) (maxDischargeDepth := 16) only [go_sem, ↓reduceIte, reduceCtorEq, Nat.reduceEqDiff, Nat.reduceAdd, Nat.reduceMul, Nat.reduceSub, Nat.reduceLT, Nat.reduceLeDiff, Nat.reducePow, Int.reduceLT, Int.reduceLE, Int.reduceNeg, Int.reduceToNat, h0, h1, h5, h6, idx_nat]
    refine condK_intro (fun h7 => ?_) (fun h7 => ?_)
    · simp (dsimp := false) (maxDischargeDepth := 16) only [go_sem, ↓reduceIte, reduceCtorEq, Nat.reduceEqDiff, Nat.reduceAdd, Nat.reduceMul, Nat.reduceSub, Nat.reduceLT, Nat.reduceLeDiff, Nat.reducePow, Int.reduceLT, Int.reduceLE, Int.reduceNeg, Int.reduceToNat, h0, h1, h5, h6, h7]
      refine finB ?_
      rw [List.contains_iff_mem]
      have := List.getElem_mem h6
      rwa [eq_of_beq h7] at this
    · simp (dsimp := false) (maxDischargeDepth := 16) only [go_sem, ↓reduceIte, reduceCtorEq, Nat.reduceEqDiff, Nat.reduceAdd, Nat.reduceMul, Nat.reduceSub, Nat.reduceLT, Nat.reduceLeDiff, Nat.reducePow, Int.reduceLT, Int.reduceLE, Int.reduceNeg, Int.reduceToNat, h0, h1, h5, h6, h7]
      refine ⟨i + 1, by omega, by omega, by rw [wrapN _ (by omega)], fun j hj => ?_⟩
      by_cases hji : j = i
      · subst hji
        rw [List.getElem?_eq_getElem h6]
        intro hh
        cases hh
        simp at h7
      · exact hn j (by omega)
  · simp (dsimp := false) (maxDischargeDepth := 16) only [go_sem, ↓reduceIte, reduceCtorEq, Nat.reduceEqDiff, Nat.reduceAdd, Nat.reduceMul, Nat.reduceSub, Nat.reduceLT, Nat.reduceLeDiff, Nat.reducePow, Int.reduceLT, Int.reduceLE, Int.reduceNeg, Int.reduceToNat, h0, h1, h5, h6]
    refine finB ?_
    rw [← Bool.not_eq_true, List.contains_iff_mem]
    intro hm
    obtain ⟨j, hj⟩ := List.getElem?_of_mem hm
    exact hn j (by have := (List.getElem?_eq_some_iff.1 hj).1; omega) hj
theorem c136 (n : Int) : Con Try.prog 136 [lv [], iv n] 0 (iv (-1)) := by
  refine conT (X := []) (rs := [.tmp 4]) Try.func136 (by kernel_rfl) rfl rfl (by kernel_rfl) ?_
  simp (dsimp := false) (maxDischargeDepth := 16) only [go_sem, ↓reduceIte, reduceCtorEq, Nat.reduceEqDiff, Nat.reduceAdd, Nat.reduceMul, Nat.reduceSub, Nat.reduceLT, Nat.reduceLeDiff, Nat.reducePow, Int.reduceLT, Int.reduceLE, Int.reduceNeg, Int.reduceToNat]
  refine loopK_intro (fun (i : Nat) s => s.t 0 = lv [] ∧ s.t 1 = iv n ∧ s.t 5 = iv 0) (fun i => 0) ⟨0, rfl, rfl, rfl⟩ ?_
  rintro i s ⟨h0, h1, h5⟩
  simp (dsimp := false) (maxDischargeDepth := 16) only [go_sem, ↓reduceIte, reduceCtorEq, Nat.reduceEqDiff, Nat.reduceAdd, Nat.reduceMul, Nat.reduceSub, Nat.reduceLT, Nat.reduceLeDiff, Nat.reducePow, Int.reduceLT, Int.reduceLE, Int.reduceNeg, Int.reduceToNat, h0, h1, h5, List.map_nil, List.length_nil]
  refine condK_dec (fun h6 => ?_) (fun h6 => ?_)
  · exact absurd h6 (by simp)
  · simp (dsimp := false) (maxDischargeDepth := 16) only [go_sem, ↓reduceIte, reduceCtorEq, Nat.reduceEqDiff, Nat.reduceAdd, Nat.reduceMul, Nat.reduceSub, Nat.reduceLT, Nat.reduceLeDiff, Nat.reducePow, Int.reduceLT, Int.reduceLE, Int.reduceNeg, Int.reduceToNat, h0, h1, h5, h6]
    exact finI rfl
def mlvT (l : List Mo) (tk : Tok) : AV := .list 2 (l.map mcs) tk
attribute [go_sem] mlvT
def genE (p g : Gr) (nodes : List Int) : Nat → List Int → List (List Int)
  | 0, l => [l]
  | k + 1, l => (List.range g.e.length).flatMap fun j => if okX p g nodes l l.length j then genE p g nodes k (l ++ [(j : Int)]) else []
def genN (p g : Gr) : Nat → List Int → List Mo
  | 0, l => (genE p g l p.e.length []).map fun e => ⟨l, e⟩
  | k + 1, l => (List.range g.n.length).flatMap fun j => if okY p g l l.length j then genN p g k (l ++ [(j : Int)]) else []
theorem flat_succ {α : Type} (f : Nat → List α) (j : Nat) : (List.range (j + 1)).flatMap f = (List.range j).flatMap f ++ f j := by
  rw [List.range_succ, List.flatMap_append]
  simp
theorem flat_le {α : Type} (f : Nat → List α) {j n : Nat} (h : j < n) : ((List.range j).flatMap f).length + (f j).length ≤ ((List.range n).flatMap f).length := by
  rw [← List.length_append, ← flat_succ]
  obtain ⟨m, rfl⟩ := Nat.exists_eq_add_of_le (show j + 1 ≤ n by omega)
  have e : List.range (j + 1 + m) = List.range (j + 1) ++ (List.range m).map (fun x => j + 1 + x) := by simp [List.range_add]
  rw [e, List.flatMap_append, List.length_append]
  omega
theorem c135 (p g : Gr) (nodes : List Int) (hp : ∀ x ∈ p.e, (0 ≤ x.2.1 ∧ x.2.1.toNat < nodes.length) ∧ 0 ≤ x.2.2 ∧ x.2.2.toNat < nodes.length) (hpe : p.e.length ≤ 1000) (hge : g.e.length ≤ 1000) (hnn : nodes.length ≤ 1000) :
    ∀ (k : Nat) (l : List Int) (out : List Mo), l.length + k = p.e.length → out.length + (genE p g nodes k l).length ≤ 1000000000 →
      ECon Try.prog 135 [lv nodes, lv l] (gcs p ++ gcs g ++ [lv [], lv [], lv [], lv []]) (mlvT out (.own (0, 0, 0))) .any (gcs p ++ gcs g ++ [lv [], lv [], lv [], lv []]) (mlvT (out ++ (genE p g nodes k l).map fun e => ⟨nodes, e⟩) (.own (0, 0, 0)))
  | 0, l, out, hk, hout => by
    have h0 : l.length = p.e.length := by omega
    have hb : ((l.length : Int) == (p.e.length : Int)) = true := by simp [h0]
    simp only [genE, List.length_singleton] at hout
    refine econT (X := []) (rs := []) Try.func135 (by kernel_rfl) rfl rfl (by kernel_rfl) ?_
    simp (dsimp := false) (maxDischargeDepth := 16) only [go_sem, ↓reduceIte, reduceCtorEq, Nat.reduceEqDiff, Nat.reduceAdd, Nat.reduceMul, Nat.reduceSub, Nat.reduceLT, Nat.reduceLeDiff, Nat.reducePow, Int.reduceLT, Int.reduceLE, Int.reduceNeg, Int.reduceToNat, hb]
    refine ⟨⟨by omega, by omega⟩, .inl trivial, _, rfl, ?_, ?_⟩
    · simp (dsimp := false) (maxDischargeDepth := 16) only [go_sem, ↓reduceIte, reduceCtorEq, Nat.reduceEqDiff, Nat.reduceAdd, Nat.reduceMul, Nat.reduceSub, Nat.reduceLT, Nat.reduceLeDiff, Nat.reducePow, Int.reduceLT, Int.reduceLE, Int.reduceNeg, Int.reduceToNat]
    · simp (dsimp := false) (maxDischargeDepth := 16) only [go_sem, ↓reduceIte, reduceCtorEq, Nat.reduceEqDiff, Nat.reduceAdd, Nat.reduceMul, Nat.reduceSub, Nat.reduceLT, Nat.reduceLeDiff, Nat.reducePow, Int.reduceLT, Int.reduceLE, Int.reduceNeg, Int.reduceToNat]
      rw [genE, List.map_append]
      rfl
  | k + 1, l, out, hk, hout => by
    have ih := c135 p g nodes hp hpe hge hnn k
    have hne : ((l.length : Int) == (p.e.length : Int)) = false := by simp; omega
    have hi : l.length < p.e.length := by omega
    have hy := hp _ (List.getElem_mem hi)
    refine econT (X := []) (rs := []) Try.func135 (by kernel_rfl) rfl rfl (by kernel_rfl) ?_
    simp (dsimp := false) (maxDischargeDepth := 16) only [go_sem, ↓reduceIte, reduceCtorEq, Nat.reduceEqDiff, Nat.reduceAdd, Nat.reduceMul, Nat.reduceSub, Nat.reduceLT, Nat.reduceLeDiff, Nat.reducePow, Int.reduceLT, Int.reduceLE, Int.reduceNeg, Int.reduceToNat, hne, idx_nat, hi]
    refine callK_intro (c136 l.length) ?_
    simp (dsimp := false) (maxDischargeDepth := 16) only [go_sem, ↓reduceIte, reduceCtorEq, Nat.reduceEqDiff, Nat.reduceAdd, Nat.reduceMul, Nat.reduceSub, Nat.reduceLT, Nat.reduceLeDiff, Nat.reducePow, Int.reduceLT, Int.reduceLE, Int.reduceNeg, Int.reduceToNat, hne, idx_nat, hi]
    have hsp : genE p g nodes (k + 1) l = (List.range g.e.length).flatMap fun j => if okX p g nodes l l.length j then genE p g nodes k (l ++ [(j : Int)]) else [] := by rw [genE]
    rw [hsp] at hout ⊢
    clear hsp
    have hok : ∀ j, okX p g nodes l l.length j = (decide (g.e.getD j (0, 0, 0) = (p.e[l.length].1, nodes.getD p.e[l.length].2.1.toNat 0, nodes.getD p.e[l.length].2.2.toNat 0)) && !l.contains (j : Int)) := fun j => by unfold okX; rw [getD_at hi]
    generalize hF : (fun j => if okX p g nodes l l.length j then genE p g nodes k (l ++ [(j : Int)]) else []) = F at *
    have hFj : ∀ j, F j = if okX p g nodes l l.length j then genE p g nodes k (l ++ [(j : Int)]) else [] := fun j => by rw [← hF]
    refine loopK_intro (fun (j : Nat) s => j ≤ g.e.length ∧ s.t 0 = .box (0, 0, 0) 0 ∧ s.t 1 = lv nodes ∧ s.t 2 = lv l ∧ s.t 7 = .box (7, 0, 0) 0 ∧ s.b (7, 0, 0) = some ⟨ecs p.e[l.length], false⟩ ∧ s.t 8 = iv (-1) ∧ s.t 9 = iv j ∧
      ∃ γ, s.b (0, 0, 0) = some ⟨gcs p ++ gcs g ++ [lv [], lv [], lv [], lv []] ++ [mlvT (out ++ ((List.range j).flatMap F).map fun e => ⟨nodes, e⟩) (.own (0, γ, 0))], false⟩ ∧ s.d (0, γ, 0) = false) (fun j => g.e.length - j) ?_ ?_
    · refine ⟨0, by omega, rfl, rfl, rfl, rfl, rfl, rfl, rfl, 0, ?_, ?_⟩
      · simp (dsimp := false) (maxDischargeDepth := 16) only [go_sem, ↓reduceIte, reduceCtorEq, Nat.reduceEqDiff, Nat.reduceAdd, Nat.reduceMul, Nat.reduceSub, Nat.reduceLT, Nat.reduceLeDiff, Nat.reducePow, Int.reduceLT, Int.reduceLE, Int.reduceNeg, Int.reduceToNat]
        simp
      · simp (dsimp := false) (maxDischargeDepth := 16) only [go_sem, ↓reduceIte, reduceCtorEq, Nat.reduceEqDiff, Nat.reduceAdd, Nat.reduceMul, Nat.reduceSub, Nat.reduceLT, Nat.reduceLeDiff, Nat.reducePow, Int.reduceLT, Int.reduceLE, Int.reduceNeg, Int.reduceToNat]
    rintro j s ⟨hj, t0, t1, t2, t7, b7, t8, t9, γ, b0, d0⟩
    simp (dsimp := false) (maxDischargeDepth := 16) only [go_sem, ↓reduceIte, reduceCtorEq, Nat.reduceEqDiff, Nat.reduceAdd, Nat.reduceMul, Nat.reduceSub, Nat.reduceLT, Nat.reduceLeDiff, Nat.reducePow, Int.reduceLT, Int.reduceLE, Int.reduceNeg, Int.reduceToNat, t0, t1, t2, t7, b7, t8, t9, b0, d0]
    refine condK_dec (fun h6 => ?_) (fun h6 => ?_)
    · have hle := flat_le F h6
      have hokj := hok j
      rw [getD_at h6] at hokj
      generalize hP : nodes.getD p.e[l.length].2.1.toNat 0 = P1 at *
      generalize hQ : nodes.getD p.e[l.length].2.2.toNat 0 = Q1 at *
      rw [getD_at hy.1.2] at hP
      rw [getD_at hy.2.2] at hQ
      simp (dsimp := false) (maxDischargeDepth := 16) only [go_sem, ↓reduceIte, reduceCtorEq, Nat.reduceEqDiff, Nat.reduceAdd, Nat.reduceMul, Nat.reduceSub, Nat.reduceLT, Nat.reduceLeDiff, Nat.reducePow, Int.reduceLT, Int.reduceLE, Int.reduceNeg, Int.reduceToNat, t0, t1, t2, t7, b7, t8, t9, b0, d0, h6]
      refine callK_intro (c137 l j) ?_
      have next : okX p g nodes l l.length j = false → (List.range (j + 1)).flatMap F = (List.range j).flatMap F := fun h => by
        rw [flat_succ, hFj, h]
        simp
      cases hc : l.contains (j : Int) with
      | true =>
        simp (dsimp := false) (maxDischargeDepth := 16) only [go_sem, ↓reduceIte, reduceCtorEq, Nat.reduceEqDiff, Nat.reduceAdd, Nat.reduceMul, Nat.reduceSub, Nat.reduceLT, Nat.reduceLeDiff, Nat.reducePow, Int.reduceLT, Int.reduceLE, Int.reduceNeg, Int.reduceToNat, t0, t1, t2, t7, b7, t8, t9, b0, d0, h6]
        refine ⟨j + 1, by omega, by omega, by rw [wrapN _ (by omega)], γ, ?_, d0⟩
        rw [next (by rw [hokj, hc]; simp)]
      | false =>
        simp (dsimp := false) (maxDischargeDepth := 16) only [go_sem, ↓reduceIte, reduceCtorEq, Nat.reduceEqDiff, Nat.reduceAdd, Nat.reduceMul, Nat.reduceSub, Nat.reduceLT, Nat.reduceLeDiff, Nat.reducePow, Int.reduceLT, Int.reduceLE, Int.reduceNeg, Int.reduceToNat, t0, t1, t2, t7, b7, t8, t9, b0, d0, h6, idx_nat, idx_int, hy.1.1, hy.1.2, hy.2.1, hy.2.2, hP, hQ]
        refine condK_intro (fun q => ?_) (fun q => ?_)
        · have hW : g.e[j] = (p.e[l.length].1, P1, Q1) := by
            simp only [Bool.and_eq_true, beq_iff_eq] at q
            exact Prod.ext q.1 (Prod.ext q.2.1 q.2.2)
          have ho : okX p g nodes l l.length j = true := by rw [hokj, hc]; simp [hW]
          have hFe : F j = genE p g nodes k (l ++ [(j : Int)]) := by rw [hFj, if_pos ho]
          have ih2 := ih (l ++ [(j : Int)]) (out ++ ((List.range j).flatMap F).map fun e => ⟨nodes, e⟩) (by simp; omega) (by rw [← hFe, List.length_append, List.length_map]; omega)
          simp only [lv, lvT, iv, map1_app] at ih2
          simp (dsimp := false) (maxDischargeDepth := 16) only [go_sem, ↓reduceIte, reduceCtorEq, Nat.reduceEqDiff, Nat.reduceAdd, Nat.reduceMul, Nat.reduceSub, Nat.reduceLT, Nat.reduceLeDiff, Nat.reducePow, Int.reduceLT, Int.reduceLE, Int.reduceNeg, Int.reduceToNat, t0, t1, t2, t7, b7, t8, t9, b0, d0, h6, q]
          refine ⟨⟨by omega, by omega⟩, ⟨by omega, by omega⟩, ?_⟩
          refine ecallK_intro (pre := gcs p ++ gcs g ++ [lv [], lv [], lv [], lv []]) (x := mlvT (out ++ ((List.range j).flatMap F).map fun e => ⟨nodes, e⟩) (.own (0, γ, 0))) rfl ?_ ih2 ?_
          · simp (dsimp := false) (maxDischargeDepth := 16) only [go_sem, ↓reduceIte, reduceCtorEq, Nat.reduceEqDiff, Nat.reduceAdd, Nat.reduceMul, Nat.reduceSub, Nat.reduceLT, Nat.reduceLeDiff, Nat.reducePow, Int.reduceLT, Int.reduceLE, Int.reduceNeg, Int.reduceToNat, d0]
          · simp (dsimp := false) (maxDischargeDepth := 16) only [go_sem, ↓reduceIte, reduceCtorEq, Nat.reduceEqDiff, Nat.reduceAdd, Nat.reduceMul, Nat.reduceSub, Nat.reduceLT, Nat.reduceLeDiff, Nat.reducePow, Int.reduceLT, Int.reduceLE, Int.reduceNeg, Int.reduceToNat, t0, t1, t2, t7, b7, t8, t9, b0, d0, h6, q]
            refine ⟨j + 1, by omega, by omega, by rw [wrapN _ (by omega)], s.g 0, ?_, ?_⟩
            · rw [flat_succ, hFe]
              simp only [List.map_append, List.append_assoc]
            · simp
        · have ho : okX p g nodes l l.length j = false := by
            rw [hokj, hc]
            simp only [Bool.not_false, Bool.and_true, decide_eq_false_iff_not]
            intro e
            rw [e] at q
            simp at q
          simp (dsimp := false) (maxDischargeDepth := 16) only [go_sem, ↓reduceIte, reduceCtorEq, Nat.reduceEqDiff, Nat.reduceAdd, Nat.reduceMul, Nat.reduceSub, Nat.reduceLT, Nat.reduceLeDiff, Nat.reducePow, Int.reduceLT, Int.reduceLE, Int.reduceNeg, Int.reduceToNat, t0, t1, t2, t7, b7, t8, t9, b0, d0, h6, q]
          refine ⟨j + 1, by omega, by omega, by rw [wrapN _ (by omega)], γ, ?_, d0⟩
          rw [next ho]
    · simp (dsimp := false) (maxDischargeDepth := 16) only [go_sem, ↓reduceIte, reduceCtorEq, Nat.reduceEqDiff, Nat.reduceAdd, Nat.reduceMul, Nat.reduceSub, Nat.reduceLT, Nat.reduceLeDiff, Nat.reducePow, Int.reduceLT, Int.reduceLE, Int.reduceNeg, Int.reduceToNat, t0, t1, t2, t7, b7, t8, t9, b0, d0, h6]
      have : j = g.e.length := by omega
      subst this
      refine ⟨.inl trivial, _, rfl, ?_, rfl⟩
      simp (dsimp := false) (maxDischargeDepth := 16) only [go_sem, ↓reduceIte, reduceCtorEq, Nat.reduceEqDiff, Nat.reduceAdd, Nat.reduceMul, Nat.reduceSub, Nat.reduceLT, Nat.reduceLeDiff, Nat.reducePow, Int.reduceLT, Int.reduceLE, Int.reduceNeg, Int.reduceToNat, d0]
theorem c89 (p g : Gr) (hp : ∀ x ∈ p.e, (0 ≤ x.2.1 ∧ x.2.1.toNat < p.n.length) ∧ 0 ≤ x.2.2 ∧ x.2.2.toNat < p.n.length) (hpn : p.n.length ≤ 1000) (hgn : g.n.length ≤ 1000) (hpe : p.e.length ≤ 1000) (hge : g.e.length ≤ 1000) :
    ∀ (k : Nat) (l : List Int) (out : List Mo), l.length + k = p.n.length → out.length + (genN p g k l).length ≤ 1000000000 →
      ECon Try.prog 89 [lv l] (gcs p ++ gcs g ++ [lv [], lv [], lv [], lv []]) (mlvT out (.own (0, 0, 0))) .any (gcs p ++ gcs g ++ [lv [], lv [], lv [], lv []]) (mlvT (out ++ genN p g k l) (.own (0, 0, 0)))
  | 0, l, out, hk, hout => by
    have h0 : l.length = p.n.length := by omega
    have hb : ((l.length : Int) == (p.n.length : Int)) = true := by simp [h0]
    rw [genN] at hout ⊢
    rw [List.length_map] at hout
    have ic := c135 p g l (by rw [h0]; exact hp) hpe hge (by omega) p.e.length [] out (by simp) hout
    simp only [lv, lvT, iv, List.map_nil] at ic
    refine econT (X := []) (rs := []) Try.func89 (by kernel_rfl) rfl rfl (by kernel_rfl) ?_
    simp (dsimp := false) (maxDischargeDepth := 16) only [go_sem, ↓reduceIte, reduceCtorEq, Nat.reduceEqDiff, Nat.reduceAdd, Nat.reduceMul, Nat.reduceSub, Nat.reduceLT, Nat.reduceLeDiff, Nat.reducePow, Int.reduceLT, Int.reduceLE, Int.reduceNeg, Int.reduceToNat, hb]
    refine ecallK_intro (pre := gcs p ++ gcs g ++ [lv [], lv [], lv [], lv []]) (x := mlvT out (.own (0, 0, 0))) rfl ?_ ic ?_
    · simp (dsimp := false) (maxDischargeDepth := 16) only [go_sem, ↓reduceIte, reduceCtorEq, Nat.reduceEqDiff, Nat.reduceAdd, Nat.reduceMul, Nat.reduceSub, Nat.reduceLT, Nat.reduceLeDiff, Nat.reducePow, Int.reduceLT, Int.reduceLE, Int.reduceNeg, Int.reduceToNat]
    · simp (dsimp := false) (maxDischargeDepth := 16) only [go_sem, ↓reduceIte, reduceCtorEq, Nat.reduceEqDiff, Nat.reduceAdd, Nat.reduceMul, Nat.reduceSub, Nat.reduceLT, Nat.reduceLeDiff, Nat.reducePow, Int.reduceLT, Int.reduceLE, Int.reduceNeg, Int.reduceToNat, hb]
      refine ⟨.inl trivial, _, rfl, ?_, ?_⟩
      · simp (dsimp := false) (maxDischargeDepth := 16) only [go_sem, ↓reduceIte, reduceCtorEq, Nat.reduceEqDiff, Nat.reduceAdd, Nat.reduceMul, Nat.reduceSub, Nat.reduceLT, Nat.reduceLeDiff, Nat.reducePow, Int.reduceLT, Int.reduceLE, Int.reduceNeg, Int.reduceToNat]
      · simp (dsimp := false) (maxDischargeDepth := 16) only [go_sem, ↓reduceIte, reduceCtorEq, Nat.reduceEqDiff, Nat.reduceAdd, Nat.reduceMul, Nat.reduceSub, Nat.reduceLT, Nat.reduceLeDiff, Nat.reducePow, Int.reduceLT, Int.reduceLE, Int.reduceNeg, Int.reduceToNat]
  | k + 1, l, out, hk, hout => by
    have ih := c89 p g hp hpn hgn hpe hge k
    have hne : ((l.length : Int) == (p.n.length : Int)) = false := by simp; omega
    have hi : l.length < p.n.length := by omega
    refine econT (X := []) (rs := []) Try.func89 (by kernel_rfl) rfl rfl (by kernel_rfl) ?_
    simp (dsimp := false) (maxDischargeDepth := 16) only [go_sem, ↓reduceIte, reduceCtorEq, Nat.reduceEqDiff, Nat.reduceAdd, Nat.reduceMul, Nat.reduceSub, Nat.reduceLT, Nat.reduceLeDiff, Nat.reducePow, Int.reduceLT, Int.reduceLE, Int.reduceNeg, Int.reduceToNat, hne]
    refine callK_intro (c136 l.length) ?_
    simp (dsimp := false) (maxDischargeDepth := 16) only [go_sem, ↓reduceIte, reduceCtorEq, Nat.reduceEqDiff, Nat.reduceAdd, Nat.reduceMul, Nat.reduceSub, Nat.reduceLT, Nat.reduceLeDiff, Nat.reducePow, Int.reduceLT, Int.reduceLE, Int.reduceNeg, Int.reduceToNat, hne]
    have hsp : genN p g (k + 1) l = (List.range g.n.length).flatMap fun j => if okY p g l l.length j then genN p g k (l ++ [(j : Int)]) else [] := by rw [genN]
    rw [hsp] at hout ⊢
    clear hsp
    have hok : ∀ j, okY p g l l.length j = (decide (g.n.getD j 0 = p.n[l.length]) && !l.contains (j : Int)) := fun j => by unfold okY; rw [getD_at hi]
    generalize hF : (fun j => if okY p g l l.length j then genN p g k (l ++ [(j : Int)]) else []) = F at *
    have hFj : ∀ j, F j = if okY p g l l.length j then genN p g k (l ++ [(j : Int)]) else [] := fun j => by rw [← hF]
    refine loopK_intro (fun (j : Nat) s => j ≤ g.n.length ∧ s.t 0 = .box (0, 0, 0) 0 ∧ s.t 1 = lv l ∧ s.t 4 = iv l.length ∧ s.t 5 = iv (-1) ∧ s.t 6 = iv j ∧
      ∃ γ, s.b (0, 0, 0) = some ⟨gcs p ++ gcs g ++ [lv [], lv [], lv [], lv []] ++ [mlvT (out ++ (List.range j).flatMap F) (.own (0, γ, 0))], false⟩ ∧ s.d (0, γ, 0) = false) (fun j => g.n.length - j) ?_ ?_
    · refine ⟨0, by omega, rfl, rfl, rfl, rfl, rfl, 0, ?_, ?_⟩
      · simp (dsimp := false) (maxDischargeDepth := 16) only [go_sem, ↓reduceIte, reduceCtorEq, Nat.reduceEqDiff, Nat.reduceAdd, Nat.reduceMul, Nat.reduceSub, Nat.reduceLT, Nat.reduceLeDiff, Nat.reducePow, Int.reduceLT, Int.reduceLE, Int.reduceNeg, Int.reduceToNat]
        simp
      · simp (dsimp := false) (maxDischargeDepth := 16) only [go_sem, ↓reduceIte, reduceCtorEq, Nat.reduceEqDiff, Nat.reduceAdd, Nat.reduceMul, Nat.reduceSub, Nat.reduceLT, Nat.reduceLeDiff, Nat.reducePow, Int.reduceLT, Int.reduceLE, Int.reduceNeg, Int.reduceToNat]
    rintro j s ⟨hj, t0, t1, t4, t8, t9, γ, b0, d0⟩
    simp (dsimp := false) (maxDischargeDepth := 16) only [go_sem, ↓reduceIte, reduceCtorEq, Nat.reduceEqDiff, Nat.reduceAdd, Nat.reduceMul, Nat.reduceSub, Nat.reduceLT, Nat.reduceLeDiff, Nat.reducePow, Int.reduceLT, Int.reduceLE, Int.reduceNeg, Int.reduceToNat, t0, t1, t4, t8, t9, b0, d0]
    refine condK_dec (fun h6 => ?_) (fun h6 => ?_)
    · have hle := flat_le F h6
      have hokj := hok j
      rw [getD_at h6] at hokj
      simp (dsimp := false) (maxDischargeDepth := 16) only [go_sem, ↓reduceIte, reduceCtorEq, Nat.reduceEqDiff, Nat.reduceAdd, Nat.reduceMul, Nat.reduceSub, Nat.reduceLT, Nat.reduceLeDiff, Nat.reducePow, Int.reduceLT, Int.reduceLE, Int.reduceNeg, Int.reduceToNat, t0, t1, t4, t8, t9, b0, d0, h6]
      refine callK_intro (c137 l j) ?_
      have next : okY p g l l.length j = false → (List.range (j + 1)).flatMap F = (List.range j).flatMap F := fun h => by
        rw [flat_succ, hFj, h]
        simp
      cases hc : l.contains (j : Int) with
      | true =>
        simp (dsimp := false) (maxDischargeDepth := 16) only [go_sem, ↓reduceIte, reduceCtorEq, Nat.reduceEqDiff, Nat.reduceAdd, Nat.reduceMul, Nat.reduceSub, Nat.reduceLT, Nat.reduceLeDiff, Nat.reducePow, Int.reduceLT, Int.reduceLE, Int.reduceNeg, Int.reduceToNat, t0, t1, t4, t8, t9, b0, d0, h6]
        refine ⟨j + 1, by omega, by omega, by rw [wrapN _ (by omega)], γ, ?_, d0⟩
        rw [next (by rw [hokj, hc]; simp)]
      | false =>
        simp (dsimp := false) (maxDischargeDepth := 16) only [go_sem, ↓reduceIte, reduceCtorEq, Nat.reduceEqDiff, Nat.reduceAdd, Nat.reduceMul, Nat.reduceSub, Nat.reduceLT, Nat.reduceLeDiff, Nat.reducePow, Int.reduceLT, Int.reduceLE, Int.reduceNeg, Int.reduceToNat, t0, t1, t4, t8, t9, b0, d0, h6, idx_nat, hi]
        refine condK_intro (fun q => ?_) (fun q => ?_)
        · have hW : g.n[j] = p.n[l.length] := by simpa using q
          have ho : okY p g l l.length j = true := by rw [hokj, hc]; simp [hW]
          have hFe : F j = genN p g k (l ++ [(j : Int)]) := by rw [hFj, if_pos ho]
          have ih2 := ih (l ++ [(j : Int)]) (out ++ (List.range j).flatMap F) (by simp; omega) (by rw [← hFe, List.length_append]; omega)
          simp only [lv, lvT, iv, map1_app] at ih2
          simp (dsimp := false) (maxDischargeDepth := 16) only [go_sem, ↓reduceIte, reduceCtorEq, Nat.reduceEqDiff, Nat.reduceAdd, Nat.reduceMul, Nat.reduceSub, Nat.reduceLT, Nat.reduceLeDiff, Nat.reducePow, Int.reduceLT, Int.reduceLE, Int.reduceNeg, Int.reduceToNat, t0, t1, t4, t8, t9, b0, d0, h6, q]
          refine ⟨⟨by omega, by omega⟩, ⟨by omega, by omega⟩, ?_⟩
          refine ecallK_intro (pre := gcs p ++ gcs g ++ [lv [], lv [], lv [], lv []]) (x := mlvT (out ++ (List.range j).flatMap F) (.own (0, γ, 0))) rfl ?_ ih2 ?_
          · simp (dsimp := false) (maxDischargeDepth := 16) only [go_sem, ↓reduceIte, reduceCtorEq, Nat.reduceEqDiff, Nat.reduceAdd, Nat.reduceMul, Nat.reduceSub, Nat.reduceLT, Nat.reduceLeDiff, Nat.reducePow, Int.reduceLT, Int.reduceLE, Int.reduceNeg, Int.reduceToNat, d0]
          · simp (dsimp := false) (maxDischargeDepth := 16) only [go_sem, ↓reduceIte, reduceCtorEq, Nat.reduceEqDiff, Nat.reduceAdd, Nat.reduceMul, Nat.reduceSub, Nat.reduceLT, Nat.reduceLeDiff, Nat.reducePow, Int.reduceLT, Int.reduceLE, Int.reduceNeg, Int.reduceToNat, t0, t1, t4, t8, t9, b0, d0, h6, q]
            refine ⟨j + 1, by omega, by omega, by rw [wrapN _ (by omega)], s.g 0, ?_, ?_⟩
            · rw [flat_succ, hFe]
              simp only [List.map_append, List.append_assoc]
            · simp
        · have ho : okY p g l l.length j = false := by
            rw [hokj, hc]
            simp only [Bool.not_false, Bool.and_true, decide_eq_false_iff_not]
            intro e
            rw [e] at q
            simp at q
          simp (dsimp := false) (maxDischargeDepth := 16) only [go_sem, ↓reduceIte, reduceCtorEq, Nat.reduceEqDiff, Nat.reduceAdd, Nat.reduceMul, Nat.reduceSub, Nat.reduceLT, Nat.reduceLeDiff, Nat.reducePow, Int.reduceLT, Int.reduceLE, Int.reduceNeg, Int.reduceToNat, t0, t1, t4, t8, t9, b0, d0, h6, q]
          refine ⟨j + 1, by omega, by omega, by rw [wrapN _ (by omega)], γ, ?_, d0⟩
          rw [next ho]
    · simp (dsimp := false) (maxDischargeDepth := 16) only [go_sem, ↓reduceIte, reduceCtorEq, Nat.reduceEqDiff, Nat.reduceAdd, Nat.reduceMul, Nat.reduceSub, Nat.reduceLT, Nat.reduceLeDiff, Nat.reducePow, Int.reduceLT, Int.reduceLE, Int.reduceNeg, Int.reduceToNat, t0, t1, t4, t8, t9, b0, d0, h6]
      have : j = g.n.length := by omega
      subst this
      refine ⟨.inl trivial, _, rfl, ?_, rfl⟩
      simp (dsimp := false) (maxDischargeDepth := 16) only [go_sem, ↓reduceIte, reduceCtorEq, Nat.reduceEqDiff, Nat.reduceAdd, Nat.reduceMul, Nat.reduceSub, Nat.reduceLT, Nat.reduceLeDiff, Nat.reducePow, Int.reduceLT, Int.reduceLE, Int.reduceNeg, Int.reduceToNat, d0]
def mlv (l : List Mo) : AV := .list 2 (l.map mcs) .no
attribute [go_sem] mlv
theorem c41 (p g : Gr) (hp : ∀ x ∈ p.e, (0 ≤ x.2.1 ∧ x.2.1.toNat < p.n.length) ∧ 0 ≤ x.2.2 ∧ x.2.2.toNat < p.n.length) (hpn : p.n.length ≤ 1000) (hgn : g.n.length ≤ 1000) (hpe : p.e.length ≤ 1000) (hge : g.e.length ≤ 1000) (hN : (genN p g p.n.length []).length ≤ 1000000000) :
    Con Try.prog 41 [gv p, gv g, mv ⟨[], []⟩, mv ⟨[], []⟩] 0 (mlv (genN p g p.n.length [])) := by
  refine conT (X := []) (rs := [.tmp 8]) Try.func41 (by kernel_rfl) rfl rfl (by kernel_rfl) ?_
  have K := c89 p g hp hpn hgn hpe hge p.n.length [] [] (by simp) (by simpa using hN)
  simp only [lv, lvT, iv, List.map_nil, List.nil_append] at K
  simp (dsimp := false) (maxDischargeDepth := 16) only [go_sem, ↓reduceIte, reduceCtorEq, Nat.reduceEqDiff, Nat.reduceAdd, Nat.reduceMul, Nat.reduceSub, Nat.reduceLT, Nat.reduceLeDiff, Nat.reducePow, Int.reduceLT, Int.reduceLE, Int.reduceNeg, Int.reduceToNat, List.map_nil]
  refine ecallK_intro (pre := gcs p ++ gcs g ++ [lv [], lv [], lv [], lv []]) (x := .list 2 [] .nil) rfl ?_ K ?_
  · simp (dsimp := false) (maxDischargeDepth := 16) only [go_sem, ↓reduceIte, reduceCtorEq, Nat.reduceEqDiff, Nat.reduceAdd, Nat.reduceMul, Nat.reduceSub, Nat.reduceLT, Nat.reduceLeDiff, Nat.reducePow, Int.reduceLT, Int.reduceLE, Int.reduceNeg, Int.reduceToNat]
  · simp (dsimp := false) (maxDischargeDepth := 16) only [go_sem, ↓reduceIte, reduceCtorEq, Nat.reduceEqDiff, Nat.reduceAdd, Nat.reduceMul, Nat.reduceSub, Nat.reduceLT, Nat.reduceLeDiff, Nat.reducePow, Int.reduceLT, Int.reduceLE, Int.reduceNeg, Int.reduceToNat, List.map_nil]
    exact finL rfl
end Go.Sy

/- ShiftGlobal: the law's contract. -/
set_option linter.unusedSimpArgs false
set_option linter.unusedVariables false
namespace Go.Sy
open Go Go.Proofs

/-- What the walk of Extensions asks of two graphs. -/
structure ExtOK (p g : Gr) : Prop where
  hp : ∀ x ∈ p.e, (0 ≤ x.2.1 ∧ x.2.1.toNat < p.n.length) ∧ 0 ≤ x.2.2 ∧ x.2.2.toNat < p.n.length
  pn : p.n.length ≤ 1000
  gn : g.n.length ≤ 1000
  pe : p.e.length ≤ 1000
  ge : g.e.length ≤ 1000
  N : (genN p g p.n.length []).length ≤ 1000000000
def exts (p g : Gr) : List Mo := genN p g p.n.length []
structure GlobOK (p : Pt) : Prop where
  sz : szN p.c ≤ 1000000
  ext : ExtOK p.b p.g
  e : (locR p.b p.c).2 ≠ 0 → (locR p.b p.c).2 = 3
  f : (satR emp p.c p.g emo).2 = 0
  all : (locR p.b p.c).2 = 0 → ∀ n ∈ exts p.b p.g, satR p.b (locR p.b p.c).1 p.g n = ((satR emp p.c p.g emo).1, 0)
end Go.Sy

/- ShiftMeans: the law's contract. -/
set_option linter.unusedSimpArgs false
set_option linter.unusedVariables false
namespace Go.Sy
open Go Go.Proofs

def tkm (a : Gr) (n : Mo) : Mo := ⟨n.n.take a.n.length, n.e.take a.e.length⟩
structure MeansOK (p : Pt) : Prop where
  sz : szN p.c ≤ 1000000
  ext : ExtOK p.b p.g
  an : p.a.n.length ≤ 1000
  ae : p.a.e.length ≤ 1000
  e : (shiR p.a p.b (idm p.a) p.c).2 ≠ 0 → (shiR p.a p.b (idm p.a) p.c).2 = 3
  len : ∀ n ∈ exts p.b p.g, p.a.n.length ≤ n.n.length ∧ p.a.e.length ≤ n.e.length
  all : (shiR p.a p.b (idm p.a) p.c).2 = 0 → ∀ n ∈ exts p.b p.g, ∃ r, satR p.b (shiR p.a p.b (idm p.a) p.c).1 p.g n = (r, 0) ∧ satR p.a p.c p.g (tkm p.a n) = (r, 0)
theorem c13 (x : Ch) (h : chOK x) (H : (prt x).ok = true → MeansOK (prt x)) : Con Try.prog 13 [chv x] 0 (bv true) := by
  have K1 := c37 x h
  generalize prt x = p at *
  obtain ⟨a, b, g, c, ok⟩ := p
  refine conT (X := [(99, [], [])]) (rs := [.tmp 2]) Try.func13 (by kernel_rfl) rfl rfl (by kernel_rfl) ?_
  simp only [ptv, cv, gv, gcs, bv, iv, lv, lvT, elv, elT', chv, chcs, dcs, lu8, List.cons_append, List.nil_append] at K1
  simp (dsimp := false) (maxDischargeDepth := 16) only [go_sem, ↓reduceIte, reduceCtorEq, Nat.reduceEqDiff, Nat.reduceAdd, Nat.reduceMul, Nat.reduceSub, Nat.reduceLT, Nat.reduceLeDiff, Nat.reducePow, Int.reduceLT, Int.reduceLE, Int.reduceNeg, Int.reduceToNat, chv, chcs, dcs, lu8, List.cons_append, List.nil_append]
  refine callK_intro K1 ?_
  simp (dsimp := false) (maxDischargeDepth := 16) only [go_sem, ↓reduceIte, reduceCtorEq, Nat.reduceEqDiff, Nat.reduceAdd, Nat.reduceMul, Nat.reduceSub, Nat.reduceLT, Nat.reduceLeDiff, Nat.reducePow, Int.reduceLT, Int.reduceLE, Int.reduceNeg, Int.reduceToNat, ccs_cf, ccs_ren]
  refine callK_intro c38 ?_
  cases ok with
  | false =>
    simp (dsimp := false) (maxDischargeDepth := 16) only [go_sem, ↓reduceIte, reduceCtorEq, Nat.reduceEqDiff, Nat.reduceAdd, Nat.reduceMul, Nat.reduceSub, Nat.reduceLT, Nat.reduceLeDiff, Nat.reducePow, Int.reduceLT, Int.reduceLE, Int.reduceNeg, Int.reduceToNat]
    refine callK_intro c38 ?_
    simp (dsimp := false) (maxDischargeDepth := 16) only [go_sem, ↓reduceIte, reduceCtorEq, Nat.reduceEqDiff, Nat.reduceAdd, Nat.reduceMul, Nat.reduceSub, Nat.reduceLT, Nat.reduceLeDiff, Nat.reducePow, Int.reduceLT, Int.reduceLE, Int.reduceNeg, Int.reduceToNat]
    exact finB rfl
  | true =>
    obtain ⟨sz, ext, an, ae, he, hlen, hall⟩ := H rfl
    simp only at sz ext an ae he hlen hall
    have n30 : ((3 : Int) != 0) = true := rfl
    have n33 : ((3 : Int) == 3) = true := rfl
    have n00 : ((0 : Int) != 0) = false := rfl
    have K2 : Con Try.prog 57 [gv a] 0 (mv (idm a)) := c57 a (by omega) (by omega)
    have K3 := c56 a b (idm a) c sz
    have K4 := c41 b g ext.hp ext.pn ext.gn ext.pe ext.ge ext.N
    have K5 : (shiR a b (idm a) c).2 = 0 → ∀ n ∈ exts b g, ∃ r, Con Try.prog 40 [gv b, cv (shiR a b (idm a) c).1, gv g, mv n] 0 (.tup [bv r, iv 0]) ∧ Con Try.prog 40 [gv a, cv c, gv g, mv (tkm a n)] 0 (.tup [bv r, iv 0]) := fun e n hn => by
      obtain ⟨r, r1, r2⟩ := hall e n hn
      have h1 := c40 b (shiR a b (idm a) c).1 g n
      have h2 := c40 a c g (tkm a n)
      rw [r1] at h1
      rw [r2] at h2
      exact ⟨r, h1, h2⟩
    have hN := ext.N
    rw [show genN b g b.n.length [] = exts b g from rfl] at K4 hN
    clear hall
    generalize exts b g = L at *
    generalize shiR a b (idm a) c = r at *
    obtain ⟨d, e⟩ := r
    generalize idm a = ia at *
    simp only at K3 K5 he
    simp (dsimp := false) (maxDischargeDepth := 16) only [go_sem, ↓reduceIte, reduceCtorEq, Nat.reduceEqDiff, Nat.reduceAdd, Nat.reduceMul, Nat.reduceSub, Nat.reduceLT, Nat.reduceLeDiff, Nat.reducePow, Int.reduceLT, Int.reduceLE, Int.reduceNeg, Int.reduceToNat]
    refine callK_intro K2 ?_
    simp (dsimp := false) (maxDischargeDepth := 16) only [go_sem, ↓reduceIte, reduceCtorEq, Nat.reduceEqDiff, Nat.reduceAdd, Nat.reduceMul, Nat.reduceSub, Nat.reduceLT, Nat.reduceLeDiff, Nat.reducePow, Int.reduceLT, Int.reduceLE, Int.reduceNeg, Int.reduceToNat]
    refine callK_intro K3 ?_
    simp (dsimp := false) (maxDischargeDepth := 16) only [go_sem, ↓reduceIte, reduceCtorEq, Nat.reduceEqDiff, Nat.reduceAdd, Nat.reduceMul, Nat.reduceSub, Nat.reduceLT, Nat.reduceLeDiff, Nat.reducePow, Int.reduceLT, Int.reduceLE, Int.reduceNeg, Int.reduceToNat, ccs_cf, ccs_ren]
    refine condK_intro (fun q1 => ?_) (fun q1 => ?_)
    · have e3 := he (ne0_T q1)
      subst e3
      simp (dsimp := false) (maxDischargeDepth := 16) only [go_sem, ↓reduceIte, reduceCtorEq, Nat.reduceEqDiff, Nat.reduceAdd, Nat.reduceMul, Nat.reduceSub, Nat.reduceLT, Nat.reduceLeDiff, Nat.reducePow, Int.reduceLT, Int.reduceLE, Int.reduceNeg, Int.reduceToNat, n30, n33, n00]
      exact finB rfl
    · have e0 := ne0_F q1
      subst e0
      have K5 := K5 rfl
      simp (dsimp := false) (maxDischargeDepth := 16) only [go_sem, ↓reduceIte, reduceCtorEq, Nat.reduceEqDiff, Nat.reduceAdd, Nat.reduceMul, Nat.reduceSub, Nat.reduceLT, Nat.reduceLeDiff, Nat.reducePow, Int.reduceLT, Int.reduceLE, Int.reduceNeg, Int.reduceToNat, n00]
      refine callK_intro K4 ?_
      simp (dsimp := false) (maxDischargeDepth := 16) only [go_sem, ↓reduceIte, reduceCtorEq, Nat.reduceEqDiff, Nat.reduceAdd, Nat.reduceMul, Nat.reduceSub, Nat.reduceLT, Nat.reduceLeDiff, Nat.reducePow, Int.reduceLT, Int.reduceLE, Int.reduceNeg, Int.reduceToNat]
      refine loopK_intro (fun (i : Nat) s => i ≤ L.length ∧ s.t 3 = .box (3, 0, 0) 0 ∧ s.b (3, 0, 0) = some ⟨gcs a, false⟩ ∧ s.t 4 = .box (4, 0, 0) 0 ∧ s.b (4, 0, 0) = some ⟨gcs b, false⟩ ∧ s.t 5 = .box (5, 0, 0) 0 ∧ s.b (5, 0, 0) = some ⟨gcs g, false⟩ ∧
        s.t 6 = .box (6, 0, 0) 0 ∧ s.b (6, 0, 0) = some ⟨ccs c, false⟩ ∧ s.t 8 = .box (8, 0, 0) 0 ∧ s.b (8, 0, 0) = some ⟨ccs d, false⟩ ∧
        s.t 49 = mlv L ∧ s.t 50 = iv L.length ∧ s.t 51 = iv i) (fun i => L.length - i) ⟨0, by omega, rfl, rfl, rfl, rfl, rfl, rfl, rfl, rfl, rfl, rfl, rfl, rfl, rfl⟩ ?_
      rintro i s ⟨hi, t3, b3, t4, b4, t5, b5, t6, b6, t8, b8, t49, t50, t51⟩
      obtain ⟨u, hu⟩ : ∃ u, s.g 11 = u := ⟨_, rfl⟩
      obtain ⟨u2, hu2⟩ : ∃ u, s.g 12 = u := ⟨_, rfl⟩
      simp (dsimp := false) (maxDischargeDepth := 16) only [go_sem, ↓reduceIte, reduceCtorEq, Nat.reduceEqDiff, Nat.reduceAdd, Nat.reduceMul, Nat.reduceSub, Nat.reduceLT, Nat.reduceLeDiff, Nat.reducePow, Int.reduceLT, Int.reduceLE, Int.reduceNeg, Int.reduceToNat, t3, b3, t4, b4, t5, b5, t6, b6, t8, b8, t49, t50, t51, hu, hu2]
      refine condK_dec (fun h6 => ?_) (fun h6 => ?_)
      · obtain ⟨r, K6, K7⟩ := K5 _ (List.getElem_mem h6)
        have hl := hlen _ (List.getElem_mem h6)
        simp only [tkm, gv, gcs, mv, mcs, lv, lvT, elv, elT', cv, iv, bv, List.map_take] at K6 K7
        simp (dsimp := false) (maxDischargeDepth := 16) only [go_sem, ↓reduceIte, reduceCtorEq, Nat.reduceEqDiff, Nat.reduceAdd, Nat.reduceMul, Nat.reduceSub, Nat.reduceLT, Nat.reduceLeDiff, Nat.reducePow, Int.reduceLT, Int.reduceLE, Int.reduceNeg, Int.reduceToNat, t3, b3, t4, b4, t5, b5, t6, b6, t8, b8, t49, t50, t51, hu, hu2, h6, idx_nat, hl.1, hl.2, Int.toNat_natCast]
        refine ⟨by omega, by omega, ?_⟩
        refine callK_intro K6 ?_
        simp (dsimp := false) (maxDischargeDepth := 16) only [go_sem, ↓reduceIte, reduceCtorEq, Nat.reduceEqDiff, Nat.reduceAdd, Nat.reduceMul, Nat.reduceSub, Nat.reduceLT, Nat.reduceLeDiff, Nat.reducePow, Int.reduceLT, Int.reduceLE, Int.reduceNeg, Int.reduceToNat, t3, b3, t4, b4, t5, b5, t6, b6, t8, b8, t49, t50, t51, hu, hu2, h6, n00]
        refine callK_intro K7 ?_
        have nww : (r != r) = false := by simp
        simp (dsimp := false) (maxDischargeDepth := 16) only [go_sem, ↓reduceIte, reduceCtorEq, Nat.reduceEqDiff, Nat.reduceAdd, Nat.reduceMul, Nat.reduceSub, Nat.reduceLT, Nat.reduceLeDiff, Nat.reducePow, Int.reduceLT, Int.reduceLE, Int.reduceNeg, Int.reduceToNat, t3, b3, t4, b4, t5, b5, t6, b6, t8, b8, t49, t50, t51, hu, hu2, h6, n00, nww]
        exact ⟨i + 1, by omega, by omega, by rw [wrapN _ (by have := hN; omega)]⟩
      · simp (dsimp := false) (maxDischargeDepth := 16) only [go_sem, ↓reduceIte, reduceCtorEq, Nat.reduceEqDiff, Nat.reduceAdd, Nat.reduceMul, Nat.reduceSub, Nat.reduceLT, Nat.reduceLeDiff, Nat.reducePow, Int.reduceLT, Int.reduceLE, Int.reduceNeg, Int.reduceToNat, t3, b3, t4, b4, t5, b5, t6, b6, t8, b8, t49, t50, t51, hu, hu2, h6]
        exact finB rfl
end Go.Sy

/- Plain law: the size of a shifted condition; its errors; extensions. -/
set_option linter.unusedSimpArgs false
set_option linter.unusedVariables false
namespace Go.Sy
open Go Go.Proofs

/-! ### Errors -/
theorem ovS_err {a b : Gr} (ha : gErr a = 0) (hb : gErr b = 0) : (ovS a b).2 = 0 ∨ (ovS a b).2 = 3 := by
  rw [ovS, if_neg (by simp [ha]), if_neg (by simp [hb])]
  split
  · exact .inr rfl
  split
  · exact .inr rfl
  · exact .inl rfl
theorem fold_err {α β : Type} {f : α × Int × Int → β → α × Int × Int} {l : List β} (hf : ∀ acc, ∀ x ∈ l, acc.2.2 = 0 ∨ acc.2.2 = 3 → (f acc x).2.2 = 0 ∨ (f acc x).2.2 = 3) : ∀ acc : α × Int × Int, acc.2.2 = 0 ∨ acc.2.2 = 3 → (l.foldl f acc).2.2 = 0 ∨ (l.foldl f acc).2.2 = 3 := by
  induction l with
  | nil => intro acc h; exact h
  | cons x l ih =>
    intro acc h
    rw [List.foldl_cons]
    exact ih (fun acc y hy => hf acc y (by simp [hy])) _ (hf acc x (by simp) h)
theorem shf_errs (c : Cd) : ∀ (a b : Gr) (m : Mo) (s : Int × Int), IJ a b m → ovr c a = 0 → s.2 = 0 ∨ s.2 = 3 → (shf c b m s).2.2 = 0 ∨ (shf c b m s).2.2 = 3 := by
  induction c using Cd.ind
  rename_i k kids m0 p sl v ts ih
  intro a b m s hm ho he
  obtain ⟨n, e⟩ := s
  obtain ⟨hs, h5, h4⟩ := ovr_parts ho
  have hk := shp_kids hs
  have hb : big (inc n) e = 0 ∨ big (inc n) e = 3 := by
    unfold big
    split
    · exact .inr rfl
    · exact he
  rw [shf_mk]
  split
  · exact hb
  by_cases k5 : k = 5
  · subst k5
    obtain ⟨hm0, hinj, hov⟩ := h5 rfl
    obtain ⟨c, rfl⟩ : ∃ c, kids = [c] := by
      simp [okK] at hk
      exact List.length_eq_one_iff.1 (by omega)
    have hI := (injR_IJ _ _ _).1 hinj
    rw [if_neg (by simp)]
    split
    · exact ovS_err hm.gg hI.gg
    · rename_i h2
      have h2 : (ovS b p).2 = 0 := by simpa using h2
      refine fold_err (f := shfO m m0 [c]) (fun acc o hoo ha => ?_) ([], inc n, 0) (.inl rfl)
      unfold shfO
      split
      · rw [shfH]
        obtain ⟨_, i2, _, _⟩ := ovS_mem hm.gg hI.gg h2 hoo
        exact ih c (by simp) p o.g o.r _ ((injR_IJ _ _ _).1 i2) (hov c (by simp)) ha
      · exact ha
  · rw [if_pos k5]
    exact fold_err (f := shfF b m) (fun acc c hc ha => ih c hc a b m acc.2 hm (h4 k5 c hc) ha) ([], inc n, 0) (.inl rfl)
/-! ### Sizes -/
theorem maxI_le {a b c : Int} (h1 : a ≤ c) (h2 : b ≤ c) : maxI a b ≤ c := by unfold maxI; split <;> omega
theorem maxI_ge (a b : Int) : a ≤ maxI a b ∧ b ≤ maxI a b := by unfold maxI; split <;> omega
theorem szF_dep (l : List Cd) (N : Int) (h : ∀ c ∈ l, 0 ≤ (szC c).2 ∧ (szC c).2 ≤ N) : ∀ r : Int × Int, 0 ≤ r.2 → r.2 ≤ N → 0 ≤ (l.foldl szF r).2 ∧ (l.foldl szF r).2 ≤ N ∧ r.2 ≤ (l.foldl szF r).2 ∧ ∀ c ∈ l, (szC c).2 ≤ (l.foldl szF r).2 := by
  induction l with
  | nil => intro r h0 h1; exact ⟨h0, h1, Int.le_refl _, by simp⟩
  | cons c l ih =>
    intro r h0 h1
    rw [List.foldl_cons]
    have hc := h c (by simp)
    have g := maxI_ge r.2 (szC c).2
    have := ih (fun d hd => h d (by simp [hd])) (szF r c) (by show 0 ≤ maxI _ _; omega) (maxI_le h1 hc.2)
    refine ⟨this.1, this.2.1, ?_, ?_⟩
    · have h3 : maxI r.2 (szC c).2 ≤ _ := this.2.2.1
      omega
    · intro d hd
      rcases List.mem_cons.1 hd with rfl | hd
      · have h3 : maxI r.2 (szC d).2 ≤ _ := this.2.2.1
        omega
      · exact this.2.2.2 d hd
theorem szN_at {k : Int} {kids : List Cd} {m0 : Mo} {p : Gr} {sl : List (List AV)} {v : Int} {ts : List (List AV)} : ∀ c ∈ kids, szN c + 1 ≤ szN (.mk k kids m0 p sl v ts) := by
  rw [szN]
  intro c hc
  have g : ∀ l : List Cd, ∀ c ∈ l, szN c ≤ szNL l := by
    intro l
    induction l with
    | nil => simp
    | cons c l ih =>
      rw [szNL]
      intro d hd
      rcases List.mem_cons.1 hd with rfl | hd
      · omega
      · have := ih d hd; omega
  have := g kids c hc
  omega
theorem szN_pos (c : Cd) : 1 ≤ szN c := by cases c; rw [szN]; omega
theorem dep_bnd (c : Cd) : szN c ≤ 1000000 → 0 ≤ (szC c).2 ∧ (szC c).2 ≤ szN c := by
  induction c using Cd.ind
  rename_i k kids m0 p sl v ts ih
  intro hN
  have hat := szN_at (k := k) (kids := kids) (m0 := m0) (p := p) (sl := sl) (v := v) (ts := ts)
  have h1 := szN_pos (.mk k kids m0 p sl v ts)
  have := szF_dep kids ((szN (.mk k kids m0 p sl v ts) : Int) - 1) (fun c hc => by have := hat c hc; have := ih c hc (by omega); omega) (1, 0) (Int.le_refl _) (by simp only; omega)
  rw [szC_mk]
  generalize kids.foldl szF (1, 0) = r at *
  simp only
  split
  · rw [wrap_i64 _ (by omega) (by omega)]
    omega
  · omega
/-- The size of what is made is what is counted. -/
def SzOK (n D : Int) (r : Cd × Int × Int) : Prop := (szC r.1).1 = r.2.1 - n ∧ n < r.2.1 ∧ r.2.1 ≤ 2000 ∧ 0 ≤ (szC r.1).2 ∧ (szC r.1).2 ≤ D
def Cnt (n0 D : Int) (acc : List Cd × Int × Int) : Prop := (acc.1.foldl szF (1, 0)).1 = acc.2.1 - n0 ∧ n0 < acc.2.1 ∧ acc.2.1 ≤ 2000 ∧ 0 ≤ (acc.1.foldl szF (1, 0)).2 ∧ (acc.1.foldl szF (1, 0)).2 ≤ D
theorem fold_cnt {β : Type} {f : List Cd × Int × Int → β → List Cd × Int × Int} {n0 D : Int} {l : List β} (hk : ∀ acc, ∀ x ∈ l, (f acc x).2.2 = 0 → acc.2.2 = 0) (hf : ∀ acc, ∀ x ∈ l, (f acc x).2.2 = 0 → Cnt n0 D acc → Cnt n0 D (f acc x)) :
    ∀ acc, (l.foldl f acc).2.2 = 0 → (Cnt n0 D acc → Cnt n0 D (l.foldl f acc)) ∧ acc.2.2 = 0 := by
  induction l with
  | nil => intro acc h; exact ⟨id, h⟩
  | cons x l ih =>
    intro acc h
    rw [List.foldl_cons] at h ⊢
    obtain ⟨h1, h2⟩ := ih (fun acc y hy => hk acc y (by simp [hy])) (fun acc y hy => hf acc y (by simp [hy])) _ h
    exact ⟨fun hc => h1 (hf acc x (by simp) h2 hc), hk acc x (by simp) h2⟩
theorem Cnt.add {n0 D : Int} (hn0 : 0 ≤ n0) {l : List Cd} {t u : Int} {e e' : Int} {d : Cd} (h : Cnt n0 D (l, t, e)) (h1 : (szC d).1 = u - t) (h2 : t < u) (h3 : u ≤ 2000) (h4 : 0 ≤ (szC d).2) (h5 : (szC d).2 ≤ D) : Cnt n0 D (l ++ [d], u, e') := by
  obtain ⟨c1, c2, c3, c4, c5⟩ := h
  unfold Cnt
  simp only [List.foldl_append, List.foldl_cons, List.foldl_nil] at c1 c2 c3 c4 c5 ⊢
  have g := maxI_ge (l.foldl szF (1, 0)).2 (szC d).2
  refine ⟨?_, by omega, h3, ?_, maxI_le c5 h5⟩
  · show IntKind.i64.wrap _ = _
    rw [c1, h1, wrap_i64 _ (by omega) (by omega)]
    omega
  · show 0 ≤ maxI _ _
    omega
theorem szC_xc (o : Ov) (d : Cd) (h1 : 0 ≤ (szC d).1) (h2 : (szC d).1 ≤ 3000) (h3 : 0 ≤ (szC d).2) (h4 : (szC d).2 ≤ 1000000) : szC (xc o d) = ((szC d).1 + 1, (szC d).2 + 1) := by
  rw [xc, szC_mk]
  simp only [List.foldl_cons, List.foldl_nil, if_true, szF]
  have e1 : maxI 0 (szC d).2 = (szC d).2 := by unfold maxI; split <;> omega
  rw [e1, wrap_i64 _ (by omega) (by omega), wrap_i64 _ (by omega) (by omega)]
  exact Prod.ext (by simp only; omega) rfl
theorem shf_size (c : Cd) : ∀ (a b : Gr) (m : Mo) (n e : Int), szN c ≤ 1000000 → IJ a b m → ovr c a = 0 → 0 ≤ n → n ≤ 3000 → (shf c b m (n, e)).2.2 = 0 → SzOK n (szC c).2 (shf c b m (n, e)) := by
  induction c using Cd.ind
  rename_i k kids m0 p sl v ts ih
  intro a b m n e hN hm ho h0 h1 he
  obtain ⟨hs, h5, h4⟩ := ovr_parts ho
  have hk := shp_kids hs
  have hNc := (szN_kid hN).2
  have hat := szN_at (k := k) (kids := kids) (m0 := m0) (p := p) (sl := sl) (v := v) (ts := ts)
  have wi : inc n = n + 1 := wrap_i64 _ (by omega) (by omega)
  have dk := szF_dep kids 1000000 (fun c hc => by have := hat c hc; have := dep_bnd c (hNc c hc); omega) (1, 0) (Int.le_refl _) (by simp)
  rw [shf_mk] at he ⊢
  split at he
  · rename_i h6; exact absurd he h6
  rename_i h6
  have hb := big_zero (show big (inc n) e = 0 by simpa using h6)
  rw [if_neg h6]
  by_cases k5 : k = 5
  · subst k5
    obtain ⟨hm0, hinj, hov⟩ := h5 rfl
    obtain ⟨c, rfl⟩ : ∃ c, kids = [c] := by
      simp [okK] at hk
      exact List.length_eq_one_iff.1 (by omega)
    have hI := (injR_IJ _ _ _).1 hinj
    have dc := dep_bnd c (hNc c (by simp))
    have dN := hNc c (by simp)
    rw [if_neg (show ¬ (5 : Int) ≠ 5 by simp)] at he ⊢
    split at he
    · rename_i h2; exact absurd he h2
    rename_i h2
    rw [if_neg h2]
    have h2 : (ovS b p).2 = 0 := by simpa using h2
    have eD : (List.foldl szF (1, 0) [c]).2 = (szC c).2 := by
      show maxI 0 (szC c).2 = _
      unfold maxI
      split <;> omega
    have eC : (szC (.mk 5 [c] m0 p sl v ts)).2 = (szC c).2 + 1 := by
      rw [szC_mk, if_pos rfl, eD]
      exact wrap_i64 _ (by omega) (by omega)
    rw [eC]
    have key := (fold_cnt (f := shfO m m0 [c]) (n0 := n) (D := (szC c).2 + 1) (l := (ovS b p).1) (fun acc o hoo h7 => by
        unfold shfO at h7
        split at h7
        · rw [shfH] at h7
          exact shf_err (s := (IntKind.i64.wrap (acc.2.1 + 1), acc.2.2)) h7
        · exact h7) (fun acc o hoo h7 hc => by
        unfold shfO at h7 ⊢
        split at h7
        · rename_i ha
          rw [if_pos ha]
          rw [shfH] at h7 ⊢
          obtain ⟨_, i2, _, _⟩ := ovS_mem hm.gg hI.gg h2 hoo
          obtain ⟨l, t, e'⟩ := acc
          have hc' := hc
          obtain ⟨c1, c2, c3, c4, c5⟩ := hc'
          simp only at h7 c1 c2 c3 c4 c5 ⊢
          have wt : IntKind.i64.wrap (t + 1) = t + 1 := wrap_i64 _ (by omega) (by omega)
          rw [wt] at h7 ⊢
          obtain ⟨s1, s2, s3, s4, s5⟩ := ih c (by simp) p o.g o.r (t + 1) e' dN ((injR_IJ _ _ _).1 i2) (hov c (by simp)) (by omega) (by omega) h7
          have sx := szC_xc o (shf c o.g o.r (t + 1, e')).1 (by omega) (by omega) s4 (by omega)
          exact Cnt.add (u := (shf c o.g o.r (t + 1, e')).2.1) (e' := (shf c o.g o.r (t + 1, e')).2.2) h0 hc (by rw [sx]; simp only; omega) (by omega) s3 (by rw [sx]; simp only; omega) (by rw [sx]; simp only; omega)
        · rename_i ha
          rw [if_neg ha]
          exact hc) ([], inc n, 0) he).1 ⟨by simp only [List.foldl_nil]; omega, by simp only; omega, by simp only; omega, by simp, by simp only [List.foldl_nil]; omega⟩
    obtain ⟨c1, c2, c3, c4, c5⟩ := key
    generalize (ovS b p).1.foldl (shfO m m0 [c]) ([], inc n, 0) = acc at *
    have hz : szC (kc 4 acc.1) = acc.1.foldl szF (1, 0) := by rw [kc, szC_mk, if_neg (by decide)]
    exact ⟨by simp only; rw [hz, c1], c2, c3, by simp only; rw [hz]; exact c4, by simp only; rw [hz]; exact c5⟩
  · rw [if_pos k5] at he ⊢
    have eC : (szC (.mk k kids m0 p sl v ts)).2 = (kids.foldl szF (1, 0)).2 := by rw [szC_mk, if_neg k5]
    rw [eC]
    have key := (fold_cnt (f := shfF b m) (n0 := n) (D := (kids.foldl szF (1, 0)).2) (l := kids) (fun acc c hc h7 => shf_err h7) (fun acc c hc h7 hcn => by
        obtain ⟨l, t, e'⟩ := acc
        have hc' := hcn
        obtain ⟨c1, c2, c3, c4, c5⟩ := hc'
        simp only at c1 c2 c3 c4 c5
        obtain ⟨s1, s2, s3, s4, s5⟩ := ih c hc a b m t e' (hNc c hc) hm (h4 k5 c hc) (by omega) (by omega) h7
        have dd := dk.2.2.2 c hc
        exact Cnt.add (d := (shf c b m (t, e')).1) (u := (shf c b m (t, e')).2.1) (e' := (shf c b m (t, e')).2.2) h0 hcn s1 (by omega) s3 s4 (by omega)) ([], inc n, 0) he).1 ⟨by simp only [List.foldl_nil]; omega, by simp only; omega, by simp only; omega, by simp, by simp only [List.foldl_nil]; omega⟩
    obtain ⟨c1, c2, c3, c4, c5⟩ := key
    generalize kids.foldl (shfF b m) ([], inc n, 0) = acc at *
    have hz : szC (kc k acc.1) = acc.1.foldl szF (1, 0) := by rw [kc, szC_mk, if_neg k5]
    exact ⟨by simp only; rw [hz, c1], c2, c3, by simp only; rw [hz]; exact c4, by simp only; rw [hz]; exact c5⟩
theorem lrg_zero {c : Cd} : lrg c = 0 ↔ (szC c).1 ≤ 2000 ∧ (szC c).2 ≤ 3 := by
  unfold lrg
  split
  · constructor
    · intro h; simp at h
    · intro h; omega
  · exact ⟨fun _ => by omega, fun _ => rfl⟩
/-- A shifted condition is valid. -/
theorem shf_vld {a b : Gr} {m : Mo} {c : Cd} (hN : szN c ≤ 1000000) (hm : IJ a b m) (hv : vld a c = 0) (he : (shf c b m (0, 0)).2.2 = 0) : vld b (shf c b m (0, 0)).1 = 0 ∧ ∀ g n, IJ b g n → hld (shf c b m (0, 0)).1 g n = hld c g (thn m n) := by
  obtain ⟨v1, v2, v3⟩ := vld_ok hv
  have hg := shf_main agr_some c a b m (0, 0) hm v2 he
  obtain ⟨s1, s2, s3, s4, s5⟩ := shf_size c a b m 0 0 hN hm v2 (by omega) (by omega) he
  have hl := lrg_zero.1 v3
  refine ⟨?_, hg.2⟩
  unfold vld
  rw [if_neg (by simp [hm.gg]), if_neg (by simp [hg.1])]
  exact lrg_zero.2 ⟨by omega, by omega⟩
theorem satR_ok {a g : Gr} {c : Cd} {n : Mo} (hv : vld a c = 0) (hn : IJ a g n) : satR a c g n = (hld c g n, 0) := by
  have h1 := (injR_IJ _ _ _).2 hn
  have h2 : injE a g n = 0 := by
    have := (injR_dist h1).1
    unfold injE
    rw [if_neg (by simp [this]), if_pos h1]
  unfold satR
  rw [if_neg (by simp [h2]), if_neg (by simp [hv])]
theorem shdR_cases {a b : Gr} {m : Mo} {c : Cd} (hN : szN c ≤ 1000000) (hm : IJ a b m) (hv : vld a c = 0) : (shdR b m c).2 = 3 ∨ (shdR b m c).2 = 0 ∧ vld b (shdR b m c).1 = 0 ∧ ∀ g n, IJ b g n → hld (shdR b m c).1 g n = hld c g (thn m n) := by
  have he := shf_errs c a b m (0, 0) hm (vld_ok hv).2.1 (.inl rfl)
  unfold shdR
  split
  · rename_i h
    exact .inl (he.resolve_left h)
  · rename_i h
    have h : (shf c b m (0, 0)).2.2 = 0 := by simpa using h
    exact .inr ⟨rfl, shf_vld hN hm hv h⟩
end Go.Sy

/- Plain law: the extensions that are listed are injective morphisms. -/
set_option linter.unusedSimpArgs false
set_option linter.unusedVariables false
namespace Go.Sy
open Go Go.Proofs

def Pre (M : Nat) (R : Nat → Nat → Prop) (l : List Int) : Prop := ∀ i, i < l.length → 0 ≤ l.getD i 0 ∧ (l.getD i 0).toNat < M ∧ R i (l.getD i 0).toNat ∧ ∀ k, k < i → l.getD i 0 ≠ l.getD k 0
theorem Pre.nil (M : Nat) (R : Nat → Nat → Prop) : Pre M R [] := fun i hi => by simp at hi
theorem Pre.snoc {M : Nat} {R : Nat → Nat → Prop} {l : List Int} (h : Pre M R l) {j : Nat} (hj : j < M) (hr : R l.length j) (hc : l.contains (j : Int) = false) : Pre M R (l ++ [(j : Int)]) := by
  intro i hi
  simp only [List.length_append, List.length_singleton] at hi
  by_cases e : i = l.length
  · subst e
    rw [getD_app_eq rfl]
    refine ⟨by omega, by simpa using hj, by simpa using hr, fun k hk he => ?_⟩
    rw [getD_app_lt hk, getD_at hk] at he
    have : l.contains (j : Int) = true := by
      rw [List.contains_iff_mem, he]
      exact List.getElem_mem hk
    rw [this] at hc
    cases hc
  · have hi2 : i < l.length := by omega
    rw [getD_app_lt hi2]
    obtain ⟨h1, h2, h3, h4⟩ := h i hi2
    exact ⟨h1, h2, h3, fun k hk => by rw [getD_app_lt (by omega)]; exact h4 k hk⟩
def RE (p g : Gr) (nodes : List Int) (i k : Nat) : Prop := g.e.getD k (0, 0, 0) = ((p.e.getD i (0, 0, 0)).1, nodes.getD (p.e.getD i (0, 0, 0)).2.1.toNat 0, nodes.getD (p.e.getD i (0, 0, 0)).2.2.toNat 0)
def RN (p g : Gr) (i k : Nat) : Prop := g.n.getD k 0 = p.n.getD i 0
theorem genE_sound (p g : Gr) (nodes : List Int) : ∀ (k : Nat) (l : List Int), Pre g.e.length (RE p g nodes) l → ∀ e ∈ genE p g nodes k l, e.length = l.length + k ∧ Pre g.e.length (RE p g nodes) e
  | 0, l, hl, e, he => by
    rw [genE, List.mem_singleton] at he
    subst he
    exact ⟨rfl, hl⟩
  | k + 1, l, hl, e, he => by
    rw [genE, List.mem_flatMap] at he
    obtain ⟨j, hj, he⟩ := he
    have hj := List.mem_range.1 hj
    split at he
    · rename_i hok
      simp only [okX, Bool.and_eq_true, decide_eq_true_eq, Bool.not_eq_true'] at hok
      obtain ⟨h1, h2⟩ := genE_sound p g nodes k _ (hl.snoc hj hok.1 hok.2) e he
      exact ⟨by rw [h1]; simp; omega, h2⟩
    · simp at he
theorem genN_sound (p g : Gr) : ∀ (k : Nat) (l : List Int), Pre g.n.length (RN p g) l → ∀ n ∈ genN p g k l, n.n.length = l.length + k ∧ Pre g.n.length (RN p g) n.n ∧ n.e.length = p.e.length ∧ Pre g.e.length (RE p g n.n) n.e
  | 0, l, hl, n, hn => by
    rw [genN, List.mem_map] at hn
    obtain ⟨e, he, rfl⟩ := hn
    obtain ⟨h1, h2⟩ := genE_sound p g l p.e.length [] (Pre.nil _ _) e he
    exact ⟨rfl, hl, by simpa using h1, h2⟩
  | k + 1, l, hl, n, hn => by
    rw [genN, List.mem_flatMap] at hn
    obtain ⟨j, hj, hn⟩ := hn
    have hj := List.mem_range.1 hj
    split at hn
    · rename_i hok
      simp only [okY, Bool.and_eq_true, decide_eq_true_eq, Bool.not_eq_true'] at hok
      obtain ⟨h1, h2⟩ := genN_sound p g k _ (hl.snoc hj hok.1 hok.2) n hn
      exact ⟨by rw [h1]; simp; omega, h2⟩
    · simp at hn
theorem exts_IJ {p g : Gr} (hp : gErr p = 0) (hg : gErr g = 0) {n : Mo} (h : n ∈ exts p g) : IJ p g n := by
  obtain ⟨h1, h2, h3, h4⟩ := genN_sound p g p.n.length [] (Pre.nil _ _) n h
  simp only [List.length_nil, Nat.zero_add] at h1
  exact ⟨hp, hg, h1, h3, fun i hi => by have := h2 i (by omega); exact ⟨this.1, this.2.1, this.2.2.1⟩, fun i hi => by have := h4 i (by omega); exact ⟨this.1, this.2.1, this.2.2.1⟩, fun i k hi hk => (h2 i (by omega)).2.2.2 k hk, fun i k hi hk => (h4 i (by omega)).2.2.2 k hk⟩
theorem flat_bound {α : Type} (f : Nat → List α) (B : Nat) (h : ∀ j, (f j).length ≤ B) : ∀ n : Nat, ((List.range n).flatMap f).length ≤ n * B
  | 0 => by simp
  | n + 1 => by
    rw [flat_succ, List.length_append, Nat.succ_mul]
    have := flat_bound f B h n
    have := h n
    omega
theorem genE_len (p g : Gr) (nodes : List Int) : ∀ (k : Nat) (l : List Int), (genE p g nodes k l).length ≤ g.e.length ^ k
  | 0, l => by simp [genE]
  | k + 1, l => by
    rw [genE, Nat.pow_succ, Nat.mul_comm]
    refine flat_bound _ _ (fun j => ?_) _
    split
    · exact genE_len p g nodes k _
    · simp
theorem genN_len (p g : Gr) : ∀ (k : Nat) (l : List Int), (genN p g k l).length ≤ g.n.length ^ k * g.e.length ^ p.e.length
  | 0, l => by rw [genN, List.length_map]; simpa using genE_len p g l p.e.length []
  | k + 1, l => by
    rw [genN, Nat.pow_succ, Nat.mul_comm (g.n.length ^ k), Nat.mul_assoc]
    refine flat_bound _ _ (fun j => ?_) _
    split
    · exact genN_len p g k _
    · simp
theorem ext_ok {p g : Gr} (hp : gErr p = 0) (h1 : p.n.length ≤ 4) (h2 : p.e.length ≤ 4) (h3 : g.n.length ≤ 8) (h4 : g.e.length ≤ 8) : ExtOK p g := by
  refine ⟨fun x hx => ?_, by omega, by omega, by omega, by omega, ?_⟩
  · have := (gErr_parts hp).2.2.2 x hx
    unfold edOK at this
    omega
  · refine Nat.le_trans (genN_len p g _ _) ?_
    have e1 : g.n.length ^ p.n.length ≤ 8 ^ 4 := Nat.le_trans (Nat.pow_le_pow_left h3 _) (Nat.pow_le_pow_right (by decide) h1)
    have e2 : g.e.length ^ p.e.length ≤ 8 ^ 4 := Nat.le_trans (Nat.pow_le_pow_left h4 _) (Nat.pow_le_pow_right (by decide) h2)
    exact Nat.le_trans (Nat.mul_le_mul e1 e2) (by decide)
end Go.Sy

/- Plain law: made conditions and grown graphs. -/
set_option linter.unusedSimpArgs false
set_option linter.unusedVariables false
namespace Go.Sy
open Go Go.Proofs

theorem gErr_mk {g : Gr} (h1 : g.n.length ≤ 40) (h2 : g.e.length ≤ 80) (h3 : gIn g) : gErr g = 0 := by rw [gErr, if_pos ⟨h1, h2⟩, if_pos h3]
theorem IJ_pre {a G : Gr} (ha : gErr a = 0) (hG : gErr G = 0) (hn : ∃ t, G.n = a.n ++ t) (he : ∃ t, G.e = a.e ++ t) : IJ a G (idm a) := by
  obtain ⟨t, ht⟩ := hn
  obtain ⟨u, hu⟩ := he
  have N : ∀ i, i < a.n.length → (idm a).n.getD i 0 = i := fun i hi => rng_at hi
  have E : ∀ i, i < a.e.length → (idm a).e.getD i 0 = i := fun i hi => rng_at hi
  refine ⟨ha, hG, by simp [idm, rng], by simp [idm, rng], fun i hi => ?_, fun i hi => ?_, fun i k hi hk => ?_, fun i k hi hk => ?_⟩
  · rw [N i hi]
    refine ⟨by omega, by rw [ht]; simp; omega, ?_⟩
    rw [ht, Int.toNat_natCast, getD_at (by simp; omega), getD_at hi, List.getElem_append_left hi]
  · have hg := gIn_at ha hi
    rw [E i hi]
    refine ⟨by omega, by rw [hu]; simp; omega, ?_⟩
    have e1 := N _ hg.1.2
    have e2 := N _ hg.2.2
    rw [e1, e2, hu, Int.toNat_natCast, getD_at (by simp; omega), List.getElem_append_left hi]
    rw [getD_at hi] at hg ⊢
    exact Prod.ext rfl (Prod.ext (by simp only; omega) (by simp only; omega))
  · rw [N i hi, N k (by omega)]
    omega
  · rw [E i hi, E k (by omega)]
    omega
theorem gIn_add {g : Gr} {ns : List Int} {es : List Ed} (h : gIn g) (hn : ∃ t, ns = g.n ++ t ∧ ∀ x ∈ t, 0 ≤ x ∧ x ≤ 99) (he : ∃ u, es = g.e ++ u ∧ ∀ x ∈ u, edOK ns.length x) : gIn ⟨ns, es⟩ := by
  obtain ⟨t, rfl, ht⟩ := hn
  obtain ⟨u, rfl, hu⟩ := he
  constructor
  · intro x hx
    rcases List.mem_append.1 hx with hx | hx
    · exact h.1 x hx
    · exact ht x hx
  · intro x hx
    rcases List.mem_append.1 hx with hx | hx
    · exact edOK_mono (h.2 x hx) (by simp)
    · exact hu x hx
theorem tmod_in {c n : Int} (h0 : 0 ≤ c) (hn : 0 < n) : 0 ≤ c.tmod n ∧ c.tmod n < n := tmod_byte h0 hn
theorem exG_pre (a : Gr) (c : Int) : (∃ t, (exG a c).n = a.n ++ t) ∧ ∃ t, (exG a c).e = a.e ++ t := by
  constructor
  · show ∃ t, exN a c = a.n ++ t
    unfold exN
    split
    · exact ⟨_, rfl⟩
    · exact ⟨[], by simp⟩
  · simp only [exG]
    split
    · exact ⟨_, rfl⟩
    · exact ⟨[], by simp⟩
theorem exN_pos (a : Gr) (c : Int) : 0 < (exN a c).length := by
  unfold exN
  split
  · simp
  · rename_i h
    have : a.n.length ≠ 0 := fun e => h (.inl e)
    omega
theorem exG_ok {a : Gr} {c : Int} (h : gErr a = 0) (h1 : a.n.length + 1 ≤ 40) (h2 : a.e.length + 1 ≤ 80) (hc : 0 ≤ c ∧ c ≤ 255) : gErr (exG a c) = 0 := by
  have xl := exG_len a c
  refine gErr_mk (by omega) (by omega) ?_
  have q32 := tdiv_byte (n := 32) hc (by decide)
  have q64 := tdiv_byte (n := 64) hc (by decide)
  have q16 := tdiv_byte (n := 16) hc (by decide)
  refine gIn_add (gErr_parts h).2.2 ?_ ?_
  · unfold exN
    split
    · refine ⟨_, rfl, fun x hx => ?_⟩
      rw [List.mem_singleton] at hx
      subst hx
      have := tmod_in (n := 3) q32.1 (by decide)
      omega
    · exact ⟨[], by simp, by simp⟩
  · split
    · refine ⟨_, rfl, fun x hx => ?_⟩
      rw [List.mem_singleton] at hx
      subst hx
      have hp := exN_pos a c
      have t1 := tmod_in (n := 2) q64.1 (by decide)
      have t2 := tmod_in (n := (exN a c).length) q16.1 (by omega)
      unfold edOK
      simp only
      omega
    · exact ⟨[], by simp, by simp⟩
theorem groS_ok {g : Gr} {c : Int} (h : gErr g = 0) (h1 : g.n.length + 1 ≤ 40) (h2 : g.e.length + 1 ≤ 80) (hc : 0 ≤ c ∧ c ≤ 255) : gErr (groS g c) = 0 ∧ (∃ t, (groS g c).n = g.n ++ t) ∧ ∃ t, (groS g c).e = g.e ++ t := by
  have q2 := tdiv_byte (n := 2) hc (by decide)
  have q4 := tdiv_byte (n := 4) hc (by decide)
  have q16 := tdiv_byte (n := 16) hc (by decide)
  unfold groS
  split
  · refine ⟨gErr_mk (by simp; omega) (by simp only; omega) (gIn_add (gErr_parts h).2.2 ⟨_, rfl, fun x hx => ?_⟩ ⟨[], by simp, by simp⟩), ⟨_, rfl⟩, ⟨[], by simp⟩⟩
    rw [List.mem_singleton] at hx
    subst hx
    have := tmod_in (n := 3) q2.1 (by decide)
    omega
  · rename_i hn
    have hp : 0 < g.n.length := by
      have : g.n.length ≠ 0 := fun e => hn (.inr e)
      omega
    refine ⟨gErr_mk (by simp only; omega) (by simp; omega) (gIn_add (gErr_parts h).2.2 ⟨[], by simp, by simp⟩ ⟨_, rfl, fun x hx => ?_⟩), ⟨[], by simp⟩, ⟨_, rfl⟩⟩
    rw [List.mem_singleton] at hx
    subst hx
    have t1 := tmod_in (n := 2) q2.1 (by decide)
    have t2 := tmod_in (n := g.n.length) q4.1 (by omega)
    have t3 := tmod_in (n := g.n.length) q16.1 (by omega)
    unfold edOK
    simp only
    omega
theorem gro_ok {g : Gr} {codes : List Int} (h : gErr g = 0) (hc : by8 codes) : ∀ i : Nat, g.n.length + i ≤ 40 → g.e.length + i ≤ 80 → gErr (gro g codes i) = 0 ∧ (∃ t, (gro g codes i).n = g.n ++ t) ∧ ∃ t, (gro g codes i).e = g.e ++ t
  | 0, _, _ => ⟨by simpa [gro] using h, ⟨[], by simp [gro]⟩, ⟨[], by simp [gro]⟩⟩
  | i + 1, h1, h2 => by
    obtain ⟨k1, ⟨t, k2⟩, ⟨u, k3⟩⟩ := gro_ok h hc i (by omega) (by omega)
    by_cases hi : i < codes.length
    · have e : gro g codes (i + 1) = groS (gro g codes i) codes[i] := foldl_take hi
      have gl := gro_len g codes i
      obtain ⟨j1, ⟨t', j2⟩, ⟨u', j3⟩⟩ := groS_ok k1 (by omega) (by omega) (hc _ (List.getElem_mem hi))
      rw [e]
      exact ⟨j1, ⟨t ++ t', by rw [j2, k2, List.append_assoc]⟩, ⟨u ++ u', by rw [j3, k3, List.append_assoc]⟩⟩
    · have e : gro g codes (i + 1) = gro g codes i := by unfold gro; rw [List.take_of_length_le (by omega), List.take_of_length_le (by omega)]
      rw [e]
      exact ⟨k1, ⟨t, k2⟩, ⟨u, k3⟩⟩
end Go.Sy

/- Plain law: made conditions are valid; the facts of ShiftGlobal and ShiftMeans. -/
set_option linter.unusedSimpArgs false
set_option linter.unusedVariables false
namespace Go.Sy
open Go Go.Proofs

def CdOK (a : Gr) (d : Int) (N : Nat) (c : Cd) : Prop := ovr c a = 0 ∧ szN c ≤ N ∧ 0 ≤ (szC c).2 ∧ (szC c).2 ≤ d
theorem tru_ok (a : Gr) {d : Int} {N : Nat} (hd : 0 ≤ d) (hN : 1 ≤ N) : CdOK a d N tru := by
  refine ⟨?_, by simp [tru, szN, szNL]; omega, ?_, ?_⟩
  · exact ovr_kc (k := 1) (ds := []) (by decide) rfl (by simp)
  · rw [tru, szC_mk]; simp
  · rw [tru, szC_mk]; simpa using hd
theorem kc_ok {a : Gr} {d : Int} {N : Nat} {k : Int} {l : List Cd} (hk : k ≠ 5) (hs : okK k l.length true = true) (hd : 0 ≤ d) (h : ∀ c ∈ l, ovr c a = 0 ∧ 0 ≤ (szC c).2 ∧ (szC c).2 ≤ d) (hN : szNL l + 1 ≤ N) : CdOK a d N (kc k l) := by
  have := szF_dep l d (fun c hc => (h c hc).2) (1, 0) (Int.le_refl _) hd
  refine ⟨ovr_kc hk hs fun c hc => (h c hc).1, by rw [kc, szN]; exact hN, ?_, ?_⟩
  · rw [kc, szC_mk, if_neg hk]; exact this.1
  · rw [kc, szC_mk, if_neg hk]; exact this.2.1
theorem ex_ok {a : Gr} {d : Int} {N : Nat} {G : Gr} {c : Cd} (h0 : 0 ≤ d) (hd : d ≤ 100) (hI : IJ a G (idm a)) (h : CdOK G d N c) : CdOK a (d + 1) (N + 1) (.mk 5 [c] (idm a) G [] 0 []) := by
  obtain ⟨h1, h2, h3, h4⟩ := h
  have hi := (injR_IJ _ _ _).2 hI
  have e := szF_dep [c] d (fun x hx => by simp at hx; rw [hx]; exact ⟨h3, h4⟩) (1, 0) (Int.le_refl _) h0
  refine ⟨ovr_xc (o := ⟨G, idm a, emo⟩) (injR_dist hi).1 hi h1, by simp [szN, szNL]; omega, ?_, ?_⟩
  · rw [szC_mk, if_pos rfl, wrap_i64 _ (by omega) (by omega)]; omega
  · rw [szC_mk, if_pos rfl, wrap_i64 _ (by omega) (by omega)]; omega
theorem mk_ok {codes : List Int} (hc : by8 codes) : ∀ (F : Nat) (a : Gr) (d at' left : Int), gErr a = 0 → a.n.length + F ≤ 40 → a.e.length + F ≤ 80 → 0 ≤ at' → 0 ≤ d → d ≤ 10 → CdOK a d (nF F) (mk F codes a d at' left).1
  | 0, a, d, at', left, _, _, _, _, h5, _ => by rw [mk]; exact tru_ok a h5 (by simp [nF])
  | F + 1, a, d, at', left, h1, h2, h3, h4, h5, h6 => by
    have ih := mk_ok hc F
    have hcr := nxt_in hc h4
    rw [mk, nF]
    generalize nxt codes at' = c at *
    simp only
    split
    · exact tru_ok a h5 (by omega)
    split
    · obtain ⟨r1, r2, r3⟩ := ih a d (at' + 1) (left - 1) h1 (by omega) (by omega) (by omega) h5 h6
      exact kc_ok (by decide) rfl h5 (fun x hx => by simp at hx; rw [hx]; exact ⟨r1, r3⟩) (by simp [szNL]; omega)
    split
    · rename_i hm
      obtain ⟨r1, r2, r3⟩ := ih a d (at' + 1) (left - 1) h1 (by omega) (by omega) (by omega) h5 h6
      have hb := mk_bnd F codes a d (at' + 1) (left - 1)
      obtain ⟨q1, q2, q3⟩ := ih a d (mk F codes a d (at' + 1) (left - 1)).2.1 (mk F codes a d (at' + 1) (left - 1)).2.2 h1 (by omega) (by omega) (by omega) h5 h6
      refine kc_ok (by omega) ?_ h5 (fun x hx => ?_) (by simp [szNL]; omega)
      · rcases hm with hm | hm <;> rw [hm] <;> rfl
      · simp at hx
        rcases hx with rfl | rfl
        · exact ⟨r1, r3⟩
        · exact ⟨q1, q3⟩
    split
    · split
      · exact tru_ok a h5 (by omega)
      · rename_i hd
        have hG := exG_ok h1 (by omega) (by omega) hcr
        have xl := exG_len a c
        have hI := IJ_pre h1 hG (exG_pre a c).1 (exG_pre a c).2
        have r := ih (exG a c) (d - 1) (at' + 1) (left - 1) hG (by omega) (by omega) (by omega) (by omega) (by omega)
        have e := ex_ok (by omega) (by omega) hI r
        rw [Int.sub_add_cancel] at e
        exact ⟨e.1, Nat.le_trans e.2.1 (by omega), e.2.2⟩
    · exact tru_ok a h5 (by omega)
theorem madeC_ok {codes : List Int} (hc : by8 codes) {a : Gr} (ha : gErr a = 0) (h1 : a.n.length ≤ 30) (h2 : a.e.length ≤ 70) : vld a (madeC a codes) = 0 ∧ szN (madeC a codes) ≤ 1000000 ∧ (szC (madeC a codes)).2 ≤ 2 := by
  have k := mk_ok hc 8 a 2 0 8 ha (by omega) (by omega) (by omega) (by omega) (by omega)
  have t := tru_ok a (d := 2) (N := nF 8) (by decide) (by decide)
  have n8 : nF 8 ≤ 1000000 := by decide
  have ts : (szC tru).1 = 1 := by rw [tru, szC_mk]; rfl
  unfold madeC
  split
  · refine ⟨?_, by have := t.2.1; omega, t.2.2.2⟩
    unfold vld
    rw [if_neg (by simp [ha]), if_neg (by simp [t.1])]
    exact lrg_zero.2 ⟨by omega, by have := t.2.2.2; omega⟩
  · refine ⟨?_, by have := k.2.1; omega, k.2.2.2⟩
    unfold vld
    rw [if_neg (by simp [ha]), if_neg (by simp [k.1])]
    exact lrg_zero.2 ⟨by omega, by have := k.2.2.2; omega⟩
theorem tkm_thn {a b g : Gr} {n : Mo} (hn : b.n.length = n.n.length) (he : b.e.length = n.e.length) (h1 : a.n.length ≤ b.n.length) (h2 : a.e.length ≤ b.e.length) : tkm a n = thn (idm a) n := by
  symm
  refine (thn_iff _ _ _).2 ⟨(thr_iff _ _ _).2 ⟨by simp [idm, tkm, rng]; omega, fun j hj => ?_⟩, (thr_iff _ _ _).2 ⟨by simp [idm, tkm, rng]; omega, fun j hj => ?_⟩⟩
  · have hj2 : j < a.n.length := by simpa [idm, rng] using hj
    rw [show (idm a).n.getD j 0 = (j : Int) from rng_at hj2, Int.toNat_natCast, getD_at (by omega)]
    simp only [tkm]
    rw [getD_at (by simp; omega)]
    simp
  · have hj2 : j < a.e.length := by simpa [idm, rng] using hj
    rw [show (idm a).e.getD j 0 = (j : Int) from rng_at hj2, Int.toNat_natCast, getD_at (by omega)]
    simp only [tkm]
    rw [getD_at (by simp; omega)]
    simp
/-- The parts of a chain. -/
structure PtOK (p : Pt) : Prop where
  ga : gErr p.a = 0
  gb : gErr p.b = 0
  gg : gErr p.g = 0
  an : p.a.n.length ≤ 1
  ae : p.a.e.length ≤ 1
  bn : p.b.n.length ≤ 3
  be : p.b.e.length ≤ 3
  gn : p.g.n.length ≤ 7
  ge : p.g.e.length ≤ 7
  ab : IJ p.a p.b (idm p.a)
  nb : ∃ t, p.b.n = p.a.n ++ t
  eb : ∃ t, p.b.e = p.a.e ++ t
  v : vld p.a p.c = 0
  sz : szN p.c ≤ 1000000
theorem prt_ok {x : Ch} (h : chOK x) (hs : (prt x).ok = true) : PtOK (prt x) := by
  have hS : chS x = true := by
    unfold prt at hs
    split at hs
    · assumption
    · cases hs
  have e : prt x = ⟨made x.d, gro (made x.d) x.b 2, gro (gro (made x.d) x.b 2) x.g 4, madeC (made x.d) x.c, true⟩ := by unfold prt; rw [if_pos hS]
  rw [e]
  simp only [chS, Bool.not_eq_true', Bool.or_eq_false_iff, decide_eq_false_iff_not] at hS
  have ml := made_len (d := x.d) (by omega) (by omega)
  have ga := (made_ok h.1).1
  obtain ⟨gb, nb, eb⟩ := gro_ok ga h.2.1 2 (by omega) (by omega)
  have gl := gro_len (made x.d) x.b 2
  obtain ⟨gg, ng, eg⟩ := gro_ok gb h.2.2.1 4 (by omega) (by omega)
  have gl2 := gro_len (gro (made x.d) x.b 2) x.g 4
  obtain ⟨v1, v2, _⟩ := madeC_ok h.2.2.2 ga (by omega) (by omega)
  exact ⟨ga, gb, gg, ml.1, ml.2, by simp only; omega, by simp only; omega, by simp only; omega, by simp only; omega, IJ_pre ga gb nb eb, nb, eb, v1, v2⟩
theorem means_ok {p : Pt} (h : PtOK p) : MeansOK p := by
  have hi := (injR_IJ _ _ _).2 h.ab
  have e1 : injE p.a p.b (idm p.a) = 0 := by
    unfold injE
    rw [if_neg (by simp [(injR_dist hi).1]), if_pos hi]
  have es : shiR p.a p.b (idm p.a) p.c = shdR p.b (idm p.a) p.c := by
    unfold shiR
    rw [if_neg (by simp [e1]), if_neg (by simp [h.v])]
  have hc := shdR_cases h.sz h.ab h.v
  have lb : p.a.n.length ≤ p.b.n.length ∧ p.a.e.length ≤ p.b.e.length := by
    obtain ⟨t, ht⟩ := h.nb
    obtain ⟨u, hu⟩ := h.eb
    rw [ht, hu]
    simp
  have hb := h.bn; have hbe := h.be; have hg := h.gn; have hge := h.ge; have ha := h.an; have hae := h.ae
  refine ⟨h.sz, ext_ok h.gb (by omega) (by omega) (by omega) (by omega), by omega, by omega, fun e => ?_, fun n hn => ?_, fun e n hn => ?_⟩
  · rw [es] at e ⊢
    exact hc.resolve_right fun h' => e h'.1
  · have := exts_IJ h.gb h.gg hn
    rw [this.ln, this.le]
    exact lb
  · rw [es] at e ⊢
    obtain ⟨_, v2, v3⟩ := hc.resolve_left fun h' => by omega
    have hn := exts_IJ h.gb h.gg hn
    refine ⟨hld p.c p.g (thn (idm p.a) n), ?_, ?_⟩
    · rw [satR_ok v2 hn, v3 p.g n hn]
    · rw [tkm_thn (g := p.g) hn.ln.symm hn.le.symm lb.1 lb.2, satR_ok h.v (h.ab.comp hn)]
theorem c13' (x : Ch) (h : chOK x) : Con Try.prog 13 [chv x] 0 (bv true) := c13 x h fun hs => means_ok (prt_ok h hs)
end Go.Sy
