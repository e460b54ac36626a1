/- Contracts: graphs out of drafts; injective morphisms. -/
import Derived.Test.YtkhheblmgbiniaaWN
set_option linter.unusedSimpArgs false
namespace Go.Sy
open Go Go.Proofs

structure Dr where
  n : List Int
  e : List Ed
def u8 (x : Int) : AV := .v (.int .u8 x)
def tcs (x : Ed) : List AV := [u8 x.1, u8 x.2.1, u8 x.2.2]
def dcs (d : Dr) : List AV := [.list 1 (d.n.map fun x => [u8 x]) .no, .list 3 (d.e.map tcs) .no]
def dv (d : Dr) : AV := .agg (dcs d)
attribute [go_sem] u8 tcs dcs dv
/-- What a draft holds are bytes. -/
def drOK (d : Dr) : Prop := (∀ x ∈ d.n, 0 ≤ x ∧ x ≤ 255) ∧ ∀ x ∈ d.e, (0 ≤ x.1 ∧ x.1 ≤ 255) ∧ (0 ≤ x.2.1 ∧ x.2.1 ≤ 255) ∧ 0 ≤ x.2.2 ∧ x.2.2 ≤ 255
theorem idx_arrP {P : Program} {t e : TypeId} {m : Nat} (hu : P.underlying t = some (.array m e)) (hi : (P.info? e).isSome = true) (hc : P.cellsOf e = 1) (l : List AV) (k : IntKind) (n : Int) :
    idxAV P t (.ptr l) (.v (.int k n)) = if 0 ≤ n ∧ n < m then some (.ptr (l.drop n.toNat)) else none := by
  show (match P.underlying t with
    | some (.array m e) => if (P.info? e).isSome ∧ 0 ≤ n ∧ n < m then some (AV.ptr (l.drop (n.toNat * P.cellsOf e))) else none
    | _ => none) = _
  rw [hu]
  simp only [hi, hc, Nat.mul_one, true_and]
theorem idx_arr (l : List AV) (k : IntKind) (n : Int) : idxAV Try.prog 127 (.ptr l) (.v (.int k n)) = if 0 ≤ n ∧ n < (3 : Int) then some (.ptr (l.drop n.toNat)) else none := idx_arrP (e := 5) (by kernel_rfl) (by kernel_rfl) (by kernel_rfl) l k n
def smallD (d : Dr) (n m : Int) : Bool := decide ((d.n.length : Int) ≤ n ∧ (d.e.length : Int) ≤ m)
theorem c29 (d : Dr) (n m : Int) : Con Try.prog 29 [dv d, iv n, iv m] 0 (bv (smallD d n m)) := by
  unfold smallD
  refine conT (X := []) (rs := [.tmp 6]) Try.func29 (by kernel_rfl) rfl rfl (by kernel_rfl) ?_
  simp (dsimp := false) (maxDischargeDepth := 16) only [go_sem, ↓reduceIte, reduceCtorEq, Nat.reduceEqDiff, Nat.reduceAdd, Nat.reduceMul, Nat.reduceSub, Nat.reduceLT, Nat.reduceLeDiff, Nat.reducePow, Int.reduceLT, Int.reduceLE, Int.reduceNeg, Int.reduceToNat]
  refine condK_dec (fun h1 => ?_) (fun h1 => ?_)
  · simp (dsimp := false) (maxDischargeDepth := 16) only [go_sem, ↓reduceIte, reduceCtorEq, Nat.reduceEqDiff, Nat.reduceAdd, Nat.reduceMul, Nat.reduceSub, Nat.reduceLT, Nat.reduceLeDiff, Nat.reducePow, Int.reduceLT, Int.reduceLE, Int.reduceNeg, Int.reduceToNat, h1]; exact finP (by omega)
  · simp (dsimp := false) (maxDischargeDepth := 16) only [go_sem, ↓reduceIte, reduceCtorEq, Nat.reduceEqDiff, Nat.reduceAdd, Nat.reduceMul, Nat.reduceSub, Nat.reduceLT, Nat.reduceLeDiff, Nat.reducePow, Int.reduceLT, Int.reduceLE, Int.reduceNeg, Int.reduceToNat, h1]; first | exact finB rfl | exact finF' (by omega)
/-- Are no two numbers equal? -/
def dist (l : List Int) : Bool := (List.range l.length).all fun i => (List.range i).all fun k => decide (l.getD i 0 ≠ l.getD k 0)
theorem dist_no {l : List Int} {i k : Nat} (hi : i < l.length) (hk : k < i) (h : l.getD i 0 = l.getD k 0) : dist l = false := by
  rw [← Bool.not_eq_true, dist, List.all_eq_true]
  intro hall
  have := List.all_eq_true.1 (hall i (List.mem_range.2 hi)) k (List.mem_range.2 hk)
  simp only [decide_eq_true_eq] at this
  exact this h
theorem dist_yes {l : List Int} (h : ∀ i, i < l.length → ∀ k, k < i → l.getD i 0 ≠ l.getD k 0) : dist l = true := by
  rw [dist, List.all_eq_true]
  intro i hi
  rw [List.all_eq_true]
  intro k hk
  exact decide_eq_true (h i (List.mem_range.1 hi) k (List.mem_range.1 hk))
theorem c74 (l : List Int) : Con Try.prog 74 [lv l] 0 (bv (dist l)) := by
  refine Con.assume (enters_of Try.func74 (by kernel_rfl) rfl) fun hb => ?_
  have hlen := bnd_lv (hb _ (List.mem_cons_self ..))
  refine conT (X := []) (rs := [.tmp 2]) Try.func74 (by kernel_rfl) rfl rfl (by kernel_rfl) ?_
  simp (dsimp := false) (maxDischargeDepth := 16) only [go_sem, ↓reduceIte, reduceCtorEq, Nat.reduceEqDiff, Nat.reduceAdd, Nat.reduceMul, Nat.reduceSub, Nat.reduceLT, Nat.reduceLeDiff, Nat.reducePow, Int.reduceLT, Int.reduceLE, Int.reduceNeg, Int.reduceToNat]
  refine loopK_intro (fun (i : Nat) s => i ≤ l.length ∧ s.t 0 = lv l ∧ s.t 3 = iv i ∧ ∀ j, j < i → ∀ k, k < j → l.getD j 0 ≠ l.getD k 0) (fun i => l.length - i) ⟨0, by omega, rfl, rfl, fun j hj => by omega⟩ ?_
  rintro i s ⟨hi, t0, t3, hn⟩
  simp (dsimp := false) (maxDischargeDepth := 16) only [go_sem, ↓reduceIte, reduceCtorEq, Nat.reduceEqDiff, Nat.reduceAdd, Nat.reduceMul, Nat.reduceSub, Nat.reduceLT, Nat.reduceLeDiff, Nat.reducePow, Int.reduceLT, Int.reduceLE, Int.reduceNeg, Int.reduceToNat, t0, t3]
  refine condK_dec (fun h6 => ?_) (fun h6 => ?_)
  rotate_left
  · simp (dsimp := false) (maxDischargeDepth := 16) only [go_sem, ↓reduceIte, reduceCtorEq, Nat.reduceEqDiff, Nat.reduceAdd, Nat.reduceMul, Nat.reduceSub, Nat.reduceLT, Nat.reduceLeDiff, Nat.reducePow, Int.reduceLT, Int.reduceLE, Int.reduceNeg, Int.reduceToNat, t0, t3, h6]
    exact finB (dist_yes fun j hj => hn j (by omega))
  simp (dsimp := false) (maxDischargeDepth := 16) only [go_sem, ↓reduceIte, reduceCtorEq, Nat.reduceEqDiff, Nat.reduceAdd, Nat.reduceMul, Nat.reduceSub, Nat.reduceLT, Nat.reduceLeDiff, Nat.reducePow, Int.reduceLT, Int.reduceLE, Int.reduceNeg, Int.reduceToNat, t0, t3, h6]
  refine loopK_intro (fun (k : Nat) s => k ≤ i ∧ s.t 0 = lv l ∧ s.t 3 = iv i ∧ s.t 4 = iv k ∧ ∀ j, j < k → l.getD i 0 ≠ l.getD j 0) (fun k => i - k) ⟨0, by omega, t0, t3, rfl, fun j hj => by omega⟩ ?_
  clear t0 t3
  rintro k s ⟨hk, t0, t3, t4, hm⟩
  simp (dsimp := false) (maxDischargeDepth := 16) only [go_sem, ↓reduceIte, reduceCtorEq, Nat.reduceEqDiff, Nat.reduceAdd, Nat.reduceMul, Nat.reduceSub, Nat.reduceLT, Nat.reduceLeDiff, Nat.reducePow, Int.reduceLT, Int.reduceLE, Int.reduceNeg, Int.reduceToNat, t0, t3, t4]
  refine condK_dec (fun h7 => ?_) (fun h7 => ?_)
  · have h8 : k < l.length := by omega
    simp (dsimp := false) (maxDischargeDepth := 16) only [go_sem, ↓reduceIte, reduceCtorEq, Nat.reduceEqDiff, Nat.reduceAdd, Nat.reduceMul, Nat.reduceSub, Nat.reduceLT, Nat.reduceLeDiff, Nat.reducePow, Int.reduceLT, Int.reduceLE, Int.reduceNeg, Int.reduceToNat, t0, t3, t4, h7, h6, h8, idx_nat]
    refine condK_intro (fun h9 => ?_) (fun h9 => ?_)
    · simp (dsimp := false) (maxDischargeDepth := 16) only [go_sem, ↓reduceIte, reduceCtorEq, Nat.reduceEqDiff, Nat.reduceAdd, Nat.reduceMul, Nat.reduceSub, Nat.reduceLT, Nat.reduceLeDiff, Nat.reducePow, Int.reduceLT, Int.reduceLE, Int.reduceNeg, Int.reduceToNat, t0, t3, t4, h7, h9]
      exact finB (dist_no h6 h7 (by rw [getD_at h6, getD_at h8]; exact beqT h9))
    · simp (dsimp := false) (maxDischargeDepth := 16) only [go_sem, ↓reduceIte, reduceCtorEq, Nat.reduceEqDiff, Nat.reduceAdd, Nat.reduceMul, Nat.reduceSub, Nat.reduceLT, Nat.reduceLeDiff, Nat.reducePow, Int.reduceLT, Int.reduceLE, Int.reduceNeg, Int.reduceToNat, t0, t3, t4, h7, h9]
      refine ⟨k + 1, by omega, by omega, by rw [wrapN _ (by omega)], fun j hj => ?_⟩
      by_cases hjk : j = k
      · rw [hjk, getD_at h6, getD_at h8]; exact beqF h9
      · exact hm j (by omega)
  · simp (dsimp := false) (maxDischargeDepth := 16) only [go_sem, ↓reduceIte, reduceCtorEq, Nat.reduceEqDiff, Nat.reduceAdd, Nat.reduceMul, Nat.reduceSub, Nat.reduceLT, Nat.reduceLeDiff, Nat.reducePow, Int.reduceLT, Int.reduceLE, Int.reduceNeg, Int.reduceToNat, t0, t3, t4, h7]
    refine ⟨i + 1, by omega, by omega, by rw [wrapN _ (by omega)], fun j hj => ?_⟩
    by_cases hji : j = i
    · rw [hji]; exact fun k hk => hm k (by omega)
    · exact hn j (by omega)
def injR (a b : Gr) (m : Mo) : Bool := mErr a b m == 0 && (dist m.n && dist m.e)
theorem c31 (a b : Gr) (m : Mo) : Con Try.prog 31 [gv a, gv b, mv m] 0 (bv (injR a b m)) := by
  refine conT (X := []) (rs := [.tmp 6]) Try.func31 (by kernel_rfl) rfl rfl (by kernel_rfl) ?_
  simp (dsimp := false) (maxDischargeDepth := 16) only [go_sem, ↓reduceIte, reduceCtorEq, Nat.reduceEqDiff, Nat.reduceAdd, Nat.reduceMul, Nat.reduceSub, Nat.reduceLT, Nat.reduceLeDiff, Nat.reducePow, Int.reduceLT, Int.reduceLE, Int.reduceNeg, Int.reduceToNat]
  refine callK_intro (c72 a b m) ?_
  simp (dsimp := false) (maxDischargeDepth := 16) only [go_sem, ↓reduceIte, reduceCtorEq, Nat.reduceEqDiff, Nat.reduceAdd, Nat.reduceMul, Nat.reduceSub, Nat.reduceLT, Nat.reduceLeDiff, Nat.reducePow, Int.reduceLT, Int.reduceLE, Int.reduceNeg, Int.reduceToNat]
  refine condK_intro (fun h1 => ?_) (fun h1 => ?_)
  · simp (dsimp := false) (maxDischargeDepth := 16) only [go_sem, ↓reduceIte, reduceCtorEq, Nat.reduceEqDiff, Nat.reduceAdd, Nat.reduceMul, Nat.reduceSub, Nat.reduceLT, Nat.reduceLeDiff, Nat.reducePow, Int.reduceLT, Int.reduceLE, Int.reduceNeg, Int.reduceToNat, h1]
    refine callK_intro (c74 m.n) ?_
    simp (dsimp := false) (maxDischargeDepth := 16) only [go_sem, ↓reduceIte, reduceCtorEq, Nat.reduceEqDiff, Nat.reduceAdd, Nat.reduceMul, Nat.reduceSub, Nat.reduceLT, Nat.reduceLeDiff, Nat.reducePow, Int.reduceLT, Int.reduceLE, Int.reduceNeg, Int.reduceToNat, h1]
    refine condK_intro (fun h2 => ?_) (fun h2 => ?_)
    · simp (dsimp := false) (maxDischargeDepth := 16) only [go_sem, ↓reduceIte, reduceCtorEq, Nat.reduceEqDiff, Nat.reduceAdd, Nat.reduceMul, Nat.reduceSub, Nat.reduceLT, Nat.reduceLeDiff, Nat.reducePow, Int.reduceLT, Int.reduceLE, Int.reduceNeg, Int.reduceToNat, h1, h2]
      refine callK_intro (c74 m.e) ?_
      simp (dsimp := false) (maxDischargeDepth := 16) only [go_sem, ↓reduceIte, reduceCtorEq, Nat.reduceEqDiff, Nat.reduceAdd, Nat.reduceMul, Nat.reduceSub, Nat.reduceLT, Nat.reduceLeDiff, Nat.reducePow, Int.reduceLT, Int.reduceLE, Int.reduceNeg, Int.reduceToNat, h1, h2]
      exact finB (by rw [injR, h1, h2]; rfl)
    · simp (dsimp := false) (maxDischargeDepth := 16) only [go_sem, ↓reduceIte, reduceCtorEq, Nat.reduceEqDiff, Nat.reduceAdd, Nat.reduceMul, Nat.reduceSub, Nat.reduceLT, Nat.reduceLeDiff, Nat.reducePow, Int.reduceLT, Int.reduceLE, Int.reduceNeg, Int.reduceToNat, h1, h2]
      exact finB (by rw [injR, h1, h2]; rfl)
  · simp (dsimp := false) (maxDischargeDepth := 16) only [go_sem, ↓reduceIte, reduceCtorEq, Nat.reduceEqDiff, Nat.reduceAdd, Nat.reduceMul, Nat.reduceSub, Nat.reduceLT, Nat.reduceLeDiff, Nat.reducePow, Int.reduceLT, Int.reduceLE, Int.reduceNeg, Int.reduceToNat, h1]
    exact finB (by rw [injR, h1]; rfl)
def mkE (n : Int) (x : Ed) : Ed := (x.1.tmod 2, x.2.1.tmod n, x.2.2.tmod n)
/-- The graph of a draft. -/
def made (d : Dr) : Gr := ⟨(d.n.take 8).map (·.tmod 3), if d.n = [] then [] else (d.e.take 10).map (mkE (d.n.take 8).length)⟩
theorem take_stop {α : Type} {l : List α} {i n : Nat} (h : ¬ (i < l.length ∧ i < n)) (h1 : i ≤ l.length) (h2 : i ≤ n) : l.take i = l.take n := by
  by_cases hi : i = n
  · rw [hi]
  · rw [List.take_of_length_le (by omega), List.take_of_length_le (by omega)]
theorem take_map {α β : Type} {f : α → β} {l : List α} {i : Nat} (h : i < l.length) : (l.take (i + 1)).map f = (l.take i).map f ++ [f l[i]] := by
  rw [List.take_add_one, List.getElem?_eq_getElem h, List.map_append]
  rfl
theorem tmod_byte {x n : Int} (h0 : 0 ≤ x) (hn : 0 < n) : 0 ≤ x.tmod n ∧ x.tmod n < n := by
  rw [Int.tmod_eq_emod_of_nonneg h0]
  exact ⟨Int.emod_nonneg _ (by omega), Int.emod_lt_of_pos _ hn⟩
theorem wrap_byte {x : Int} (h0 : 0 ≤ x ∧ x ≤ 255) : IntKind.i64.wrap x = x := wrap_i64 _ (by omega) (by omega)
set_option maxHeartbeats 1000000 in
theorem c30 (d : Dr) (hd : drOK d) : Con Try.prog 30 [dv d] 0 (gv (made d)) := by
  refine Con.assume (enters_of Try.func30 (by kernel_rfl) rfl) fun hb => ?_
  refine conT (X := []) (rs := [.cell 2 25]) Try.func30 (by kernel_rfl) rfl rfl (by kernel_rfl) ?_
  simp (dsimp := false) (maxDischargeDepth := 16) only [go_sem, ↓reduceIte, reduceCtorEq, Nat.reduceEqDiff, Nat.reduceAdd, Nat.reduceMul, Nat.reduceSub, Nat.reduceLT, Nat.reduceLeDiff, Nat.reducePow, Int.reduceLT, Int.reduceLE, Int.reduceNeg, Int.reduceToNat]
  refine loopK_intro (fun (i : Nat) s => i ≤ d.n.length ∧ i ≤ 8 ∧ s.t 1 = .box (1, 0, 0) 0 ∧ s.b (1, 0, 0) = some ⟨dcs d, false⟩ ∧ s.t 2 = .box (2, 0, 0) 0 ∧ (∃ z1 z2, s.b (2, 0, 0) = some ⟨[z1, z2], false⟩) ∧ s.t 3 = .box (3, 0, 0) 0 ∧ s.t 4 = iv i ∧
    ∃ tk, s.b (3, 0, 0) = some ⟨[lvT ((d.n.take i).map (·.tmod 3)) tk, .list 3 [] .nil], false⟩ ∧ tokOK s tk = true) (fun i => 8 - i) ?_ ?_
  · exact ⟨0, by omega, by omega, rfl, rfl, rfl, ⟨_, _, rfl⟩, rfl, rfl, .nil, rfl, rfl⟩
  rintro i s ⟨hi, hi8, t1, b1, t2, ⟨z1, z2, b2⟩, t3, t4, tk, b3, htk⟩
  simp (dsimp := false) (maxDischargeDepth := 16) only [go_sem, ↓reduceIte, reduceCtorEq, Nat.reduceEqDiff, Nat.reduceAdd, Nat.reduceMul, Nat.reduceSub, Nat.reduceLT, Nat.reduceLeDiff, Nat.reducePow, Int.reduceLT, Int.reduceLE, Int.reduceNeg, Int.reduceToNat, t1, b1, t2, b2, t3, t4, b3]
  have stop : ¬ (i < d.n.length ∧ i < 8) → (d.n.take i).map (·.tmod 3) = (made d).n := fun h => by rw [take_stop h hi hi8]; rfl
  have hnl : (made d).n.length ≤ 8 := by simp [made]; omega
  have hnn : (made d).n.length = 0 ↔ d.n = [] := by
    simp only [made, List.length_map, List.length_take]
    constructor
    · intro h
      exact List.eq_nil_of_length_eq_zero (by omega)
    · intro h
      simp [h]
  have hnt : ((d.n.take 8).length : Int) = ((made d).n.length : Int) := by simp [made]
  have hme : (made d).e = if d.n = [] then [] else (d.e.take 10).map (mkE (made d).n.length) := by rw [← hnt]; rfl
  refine condK_dec (fun h6 => ?_) (fun h6 => ?_)
  · simp (dsimp := false) (maxDischargeDepth := 16) only [go_sem, ↓reduceIte, reduceCtorEq, Nat.reduceEqDiff, Nat.reduceAdd, Nat.reduceMul, Nat.reduceSub, Nat.reduceLT, Nat.reduceLeDiff, Nat.reducePow, Int.reduceLT, Int.reduceLE, Int.reduceNeg, Int.reduceToNat, t1, b1, t2, b2, t3, t4, b3, h6]
    refine condK_dec (fun h7 => ?_) (fun h7 => ?_)
    · have hx := hd.1 _ (List.getElem_mem h6)
      have tb := tmod_byte (n := 3) hx.1 (by decide)
      have hw : IntKind.i64.wrap (d.n[i].tmod 3) = d.n[i].tmod 3 := wrap_i64 _ (by omega) (by omega)
      simp (dsimp := false) (maxDischargeDepth := 16) only [go_sem, ↓reduceIte, reduceCtorEq, Nat.reduceEqDiff, Nat.reduceAdd, Nat.reduceMul, Nat.reduceSub, Nat.reduceLT, Nat.reduceLeDiff, Nat.reducePow, Int.reduceLT, Int.reduceLE, Int.reduceNeg, Int.reduceToNat, t1, b1, t2, b2, t3, t4, b3, h6, h7, idx_nat, hw, htk, Int.reduceEq]
      refine ⟨⟨by simp; omega, by simp; omega⟩, i + 1, by omega, by omega, by omega, ⟨_, _, rfl⟩, by rw [wrapN _ (by omega)], .own (28, s.g 28, 0), ?_, ?_⟩
      · rw [take_map h6]
        simp only [map1_app]
      · simp (dsimp := false) (maxDischargeDepth := 16) only [go_sem, ↓reduceIte, reduceCtorEq, Nat.reduceEqDiff, Nat.reduceAdd, Nat.reduceMul, Nat.reduceSub, Nat.reduceLT, Nat.reduceLeDiff, Nat.reducePow, Int.reduceLT, Int.reduceLE, Int.reduceNeg, Int.reduceToNat]
    · simp (dsimp := false) (maxDischargeDepth := 16) only [go_sem, ↓reduceIte, reduceCtorEq, Nat.reduceEqDiff, Nat.reduceAdd, Nat.reduceMul, Nat.reduceSub, Nat.reduceLT, Nat.reduceLeDiff, Nat.reducePow, Int.reduceLT, Int.reduceLE, Int.reduceNeg, Int.reduceToNat, t1, b1, t2, b2, t3, t4, b3, h6, h7]
      have hstop := stop (by omega)
      rw [hstop] at b3
      have hlen2 : (d.n.take i).length = (made d).n.length := by rw [← hstop, List.length_map]
      generalize hG : (made d).n = G at *
      refine loopK_intro (fun (i : Nat) s => i ≤ d.e.length ∧ i ≤ 10 ∧ (G = [] → i = 0) ∧ s.t 1 = .box (1, 0, 0) 0 ∧ s.b (1, 0, 0) = some ⟨dcs d, false⟩ ∧ s.t 2 = .box (2, 0, 0) 0 ∧ s.b (2, 0, 0) = some ⟨[z1, z2], false⟩ ∧ s.t 3 = .box (3, 0, 0) 0 ∧
        s.t 5 = iv G.length ∧ s.t 6 = iv i ∧ ∃ tk2, s.b (3, 0, 0) = some ⟨[lvT G tk, elT' ((d.e.take i).map (mkE G.length)) tk2], false⟩ ∧ tokOK s tk2 = true) (fun i => 10 - i) ?_ ?_
      · exact ⟨0, by omega, by omega, fun _ => rfl, t1, b1, t2, b2, t3, by simp (dsimp := false) (maxDischargeDepth := 16) only [go_sem, ↓reduceIte, reduceCtorEq, Nat.reduceEqDiff, Nat.reduceAdd, Nat.reduceMul, Nat.reduceSub, Nat.reduceLT, Nat.reduceLeDiff, Nat.reducePow, Int.reduceLT, Int.reduceLE, Int.reduceNeg, Int.reduceToNat, hlen2], rfl, .nil, b3, rfl⟩
      clear t1 b1 t2 b2 t3 t4 b3 htk
      rintro i s ⟨hi, hi10, hG0, t1, b1, t2, b2, t3, t5, t6, tk2, b3, htk⟩
      simp (dsimp := false) (maxDischargeDepth := 16) only [go_sem, ↓reduceIte, reduceCtorEq, Nat.reduceEqDiff, Nat.reduceAdd, Nat.reduceMul, Nat.reduceSub, Nat.reduceLT, Nat.reduceLeDiff, Nat.reducePow, Int.reduceLT, Int.reduceLE, Int.reduceNeg, Int.reduceToNat, t1, b1, t2, b2, t3, t5, t6, b3]
      have endE : (d.e.take i).map (mkE G.length) = (made d).e → made d = ⟨G, (d.e.take i).map (mkE G.length)⟩ := fun h => by rw [h, ← hG]
      refine condK_dec (fun h6 => ?_) (fun h6 => ?_)
      rotate_left
      · have hm := endE (by
          rw [hme]
          split
          · rename_i h0; rw [hG0 (by have := hnn.2 h0; exact List.eq_nil_of_length_eq_zero this)]; rfl
          · rw [take_stop (n := 10) (by omega) hi hi10])
        simp (dsimp := false) (maxDischargeDepth := 16) only [go_sem, ↓reduceIte, reduceCtorEq, Nat.reduceEqDiff, Nat.reduceAdd, Nat.reduceMul, Nat.reduceSub, Nat.reduceLT, Nat.reduceLeDiff, Nat.reducePow, Int.reduceLT, Int.reduceLE, Int.reduceNeg, Int.reduceToNat, t1, b1, t2, b2, t3, t5, t6, b3, h6]
        rw [hm]
        exact finK ⟨rfl, rfl⟩
      simp (dsimp := false) (maxDischargeDepth := 16) only [go_sem, ↓reduceIte, reduceCtorEq, Nat.reduceEqDiff, Nat.reduceAdd, Nat.reduceMul, Nat.reduceSub, Nat.reduceLT, Nat.reduceLeDiff, Nat.reducePow, Int.reduceLT, Int.reduceLE, Int.reduceNeg, Int.reduceToNat, t1, b1, t2, b2, t3, t5, t6, b3, h6]
      refine condK_dec (fun h7 => ?_) (fun h7 => ?_)
      rotate_left
      · have hm := endE (by
          rw [hme]
          split
          · rename_i h0; rw [hG0 (by have := hnn.2 h0; exact List.eq_nil_of_length_eq_zero this)]; rfl
          · rw [take_stop (n := 10) (by omega) hi hi10])
        simp (dsimp := false) (maxDischargeDepth := 16) only [go_sem, ↓reduceIte, reduceCtorEq, Nat.reduceEqDiff, Nat.reduceAdd, Nat.reduceMul, Nat.reduceSub, Nat.reduceLT, Nat.reduceLeDiff, Nat.reducePow, Int.reduceLT, Int.reduceLE, Int.reduceNeg, Int.reduceToNat, t1, b1, t2, b2, t3, t5, t6, b3, h6, h7]
        rw [hm]
        exact finK ⟨rfl, rfl⟩
      simp (dsimp := false) (maxDischargeDepth := 16) only [go_sem, ↓reduceIte, reduceCtorEq, Nat.reduceEqDiff, Nat.reduceAdd, Nat.reduceMul, Nat.reduceSub, Nat.reduceLT, Nat.reduceLeDiff, Nat.reducePow, Int.reduceLT, Int.reduceLE, Int.reduceNeg, Int.reduceToNat, t1, b1, t2, b2, t3, t5, t6, b3, h6, h7]
      refine condK_dec (fun h8 => ?_) (fun h8 => ?_)
      rotate_left
      · have hg : G = [] := List.eq_nil_of_length_eq_zero (by omega)
        have hm := endE (by
          rw [hme, if_pos (hnn.1 (by rw [hg]; rfl)), hG0 hg]
          rfl)
        simp (dsimp := false) (maxDischargeDepth := 16) only [go_sem, ↓reduceIte, reduceCtorEq, Nat.reduceEqDiff, Nat.reduceAdd, Nat.reduceMul, Nat.reduceSub, Nat.reduceLT, Nat.reduceLeDiff, Nat.reducePow, Int.reduceLT, Int.reduceLE, Int.reduceNeg, Int.reduceToNat, t1, b1, t2, b2, t3, t5, t6, b3, h6, h7, h8]
        rw [hm]
        exact finK ⟨rfl, rfl⟩
      have hx := hd.2 _ (List.getElem_mem h6)
      have x1 := tmod_byte (n := 2) hx.1.1 (by decide)
      have x2 := tmod_byte (n := (G.length : Int)) hx.2.1.1 h8
      have x3 := tmod_byte (n := (G.length : Int)) hx.2.2.1 h8
      have w1 : IntKind.i64.wrap (d.e[i].1.tmod 2) = d.e[i].1.tmod 2 := wrap_i64 _ (by omega) (by omega)
      have w2 := wrap_byte hx.2.1
      have w3 := wrap_byte hx.2.2
      have htl : (d.e.take i).length ≤ i := by rw [List.length_take]; omega
      have hne : ((G.length : Int) = 0) = False := propext ⟨fun h => by omega, False.elim⟩
      simp (dsimp := false) (maxDischargeDepth := 16) only [go_sem, ↓reduceIte, reduceCtorEq, Nat.reduceEqDiff, Nat.reduceAdd, Nat.reduceMul, Nat.reduceSub, Nat.reduceLT, Nat.reduceLeDiff, Nat.reducePow, Int.reduceLT, Int.reduceLE, Int.reduceNeg, Int.reduceToNat, t1, b1, t2, b2, t3, t5, t6, b3, h6, h7, h8, idx_nat, idx_arr, w1, w2, w3, hne, htk, Int.reduceEq]
      refine ⟨⟨by omega, by omega⟩, i + 1, by omega, by omega, by omega, fun h => by rw [h] at h8; simp at h8, by rw [wrapN _ (by omega)], .own (78, s.g 78, 0), ?_, ?_⟩
      · rw [take_map h6]
        simp only [map3_app]
        rfl
      · simp (dsimp := false) (maxDischargeDepth := 16) only [go_sem, ↓reduceIte, reduceCtorEq, Nat.reduceEqDiff, Nat.reduceAdd, Nat.reduceMul, Nat.reduceSub, Nat.reduceLT, Nat.reduceLeDiff, Nat.reducePow, Int.reduceLT, Int.reduceLE, Int.reduceNeg, Int.reduceToNat]
  · simp (dsimp := false) (maxDischargeDepth := 16) only [go_sem, ↓reduceIte, reduceCtorEq, Nat.reduceEqDiff, Nat.reduceAdd, Nat.reduceMul, Nat.reduceSub, Nat.reduceLT, Nat.reduceLeDiff, Nat.reducePow, Int.reduceLT, Int.reduceLE, Int.reduceNeg, Int.reduceToNat, t1, b1, t2, b2, t3, t4, b3, h6]
    have hstop := stop (by omega)
    rw [hstop] at b3
    have hlen2 : (d.n.take i).length = (made d).n.length := by rw [← hstop, List.length_map]
    generalize hG : (made d).n = G at *
    refine loopK_intro (fun (i : Nat) s => i ≤ d.e.length ∧ i ≤ 10 ∧ (G = [] → i = 0) ∧ s.t 1 = .box (1, 0, 0) 0 ∧ s.b (1, 0, 0) = some ⟨dcs d, false⟩ ∧ s.t 2 = .box (2, 0, 0) 0 ∧ s.b (2, 0, 0) = some ⟨[z1, z2], false⟩ ∧ s.t 3 = .box (3, 0, 0) 0 ∧
      s.t 5 = iv G.length ∧ s.t 6 = iv i ∧ ∃ tk2, s.b (3, 0, 0) = some ⟨[lvT G tk, elT' ((d.e.take i).map (mkE G.length)) tk2], false⟩ ∧ tokOK s tk2 = true) (fun i => 10 - i) ?_ ?_
    · exact ⟨0, by omega, by omega, fun _ => rfl, t1, b1, t2, b2, t3, by simp (dsimp := false) (maxDischargeDepth := 16) only [go_sem, ↓reduceIte, reduceCtorEq, Nat.reduceEqDiff, Nat.reduceAdd, Nat.reduceMul, Nat.reduceSub, Nat.reduceLT, Nat.reduceLeDiff, Nat.reducePow, Int.reduceLT, Int.reduceLE, Int.reduceNeg, Int.reduceToNat, hlen2], rfl, .nil, b3, rfl⟩
    clear t1 b1 t2 b2 t3 t4 b3 htk
    rintro i s ⟨hi, hi10, hG0, t1, b1, t2, b2, t3, t5, t6, tk2, b3, htk⟩
    simp (dsimp := false) (maxDischargeDepth := 16) only [go_sem, ↓reduceIte, reduceCtorEq, Nat.reduceEqDiff, Nat.reduceAdd, Nat.reduceMul, Nat.reduceSub, Nat.reduceLT, Nat.reduceLeDiff, Nat.reducePow, Int.reduceLT, Int.reduceLE, Int.reduceNeg, Int.reduceToNat, t1, b1, t2, b2, t3, t5, t6, b3]
    have endE : (d.e.take i).map (mkE G.length) = (made d).e → made d = ⟨G, (d.e.take i).map (mkE G.length)⟩ := fun h => by rw [h, ← hG]
    refine condK_dec (fun h6 => ?_) (fun h6 => ?_)
    rotate_left
    · have hm := endE (by
        rw [hme]
        split
        · rename_i h0; rw [hG0 (by have := hnn.2 h0; exact List.eq_nil_of_length_eq_zero this)]; rfl
        · rw [take_stop (n := 10) (by omega) hi hi10])
      simp (dsimp := false) (maxDischargeDepth := 16) only [go_sem, ↓reduceIte, reduceCtorEq, Nat.reduceEqDiff, Nat.reduceAdd, Nat.reduceMul, Nat.reduceSub, Nat.reduceLT, Nat.reduceLeDiff, Nat.reducePow, Int.reduceLT, Int.reduceLE, Int.reduceNeg, Int.reduceToNat, t1, b1, t2, b2, t3, t5, t6, b3, h6]
      rw [hm]
      exact finK ⟨rfl, rfl⟩
    simp (dsimp := false) (maxDischargeDepth := 16) only [go_sem, ↓reduceIte, reduceCtorEq, Nat.reduceEqDiff, Nat.reduceAdd, Nat.reduceMul, Nat.reduceSub, Nat.reduceLT, Nat.reduceLeDiff, Nat.reducePow, Int.reduceLT, Int.reduceLE, Int.reduceNeg, Int.reduceToNat, t1, b1, t2, b2, t3, t5, t6, b3, h6]
    refine condK_dec (fun h7 => ?_) (fun h7 => ?_)
    rotate_left
    · have hm := endE (by
        rw [hme]
        split
        · rename_i h0; rw [hG0 (by have := hnn.2 h0; exact List.eq_nil_of_length_eq_zero this)]; rfl
        · rw [take_stop (n := 10) (by omega) hi hi10])
      simp (dsimp := false) (maxDischargeDepth := 16) only [go_sem, ↓reduceIte, reduceCtorEq, Nat.reduceEqDiff, Nat.reduceAdd, Nat.reduceMul, Nat.reduceSub, Nat.reduceLT, Nat.reduceLeDiff, Nat.reducePow, Int.reduceLT, Int.reduceLE, Int.reduceNeg, Int.reduceToNat, t1, b1, t2, b2, t3, t5, t6, b3, h6, h7]
      rw [hm]
      exact finK ⟨rfl, rfl⟩
    simp (dsimp := false) (maxDischargeDepth := 16) only [go_sem, ↓reduceIte, reduceCtorEq, Nat.reduceEqDiff, Nat.reduceAdd, Nat.reduceMul, Nat.reduceSub, Nat.reduceLT, Nat.reduceLeDiff, Nat.reducePow, Int.reduceLT, Int.reduceLE, Int.reduceNeg, Int.reduceToNat, t1, b1, t2, b2, t3, t5, t6, b3, h6, h7]
    refine condK_dec (fun h8 => ?_) (fun h8 => ?_)
    rotate_left
    · have hg : G = [] := List.eq_nil_of_length_eq_zero (by omega)
      have hm := endE (by
        rw [hme, if_pos (hnn.1 (by rw [hg]; rfl)), hG0 hg]
        rfl)
      simp (dsimp := false) (maxDischargeDepth := 16) only [go_sem, ↓reduceIte, reduceCtorEq, Nat.reduceEqDiff, Nat.reduceAdd, Nat.reduceMul, Nat.reduceSub, Nat.reduceLT, Nat.reduceLeDiff, Nat.reducePow, Int.reduceLT, Int.reduceLE, Int.reduceNeg, Int.reduceToNat, t1, b1, t2, b2, t3, t5, t6, b3, h6, h7, h8]
      rw [hm]
      exact finK ⟨rfl, rfl⟩
    have hx := hd.2 _ (List.getElem_mem h6)
    have x1 := tmod_byte (n := 2) hx.1.1 (by decide)
    have x2 := tmod_byte (n := (G.length : Int)) hx.2.1.1 h8
    have x3 := tmod_byte (n := (G.length : Int)) hx.2.2.1 h8
    have w1 : IntKind.i64.wrap (d.e[i].1.tmod 2) = d.e[i].1.tmod 2 := wrap_i64 _ (by omega) (by omega)
    have w2 := wrap_byte hx.2.1
    have w3 := wrap_byte hx.2.2
    have htl : (d.e.take i).length ≤ i := by rw [List.length_take]; omega
    have hne : ((G.length : Int) = 0) = False := propext ⟨fun h => by omega, False.elim⟩
    simp (dsimp := false) (maxDischargeDepth := 16) only [go_sem, ↓reduceIte, reduceCtorEq, Nat.reduceEqDiff, Nat.reduceAdd, Nat.reduceMul, Nat.reduceSub, Nat.reduceLT, Nat.reduceLeDiff, Nat.reducePow, Int.reduceLT, Int.reduceLE, Int.reduceNeg, Int.reduceToNat, t1, b1, t2, b2, t3, t5, t6, b3, h6, h7, h8, idx_nat, idx_arr, w1, w2, w3, hne, htk, Int.reduceEq]
    refine ⟨⟨by omega, by omega⟩, i + 1, by omega, by omega, by omega, fun h => by rw [h] at h8; simp at h8, by rw [wrapN _ (by omega)], .own (78, s.g 78, 0), ?_, ?_⟩
    · rw [take_map h6]
      simp only [map3_app]
      rfl
    · simp (dsimp := false) (maxDischargeDepth := 16) only [go_sem, ↓reduceIte, reduceCtorEq, Nat.reduceEqDiff, Nat.reduceAdd, Nat.reduceMul, Nat.reduceSub, Nat.reduceLT, Nat.reduceLeDiff, Nat.reducePow, Int.reduceLT, Int.reduceLE, Int.reduceNeg, Int.reduceToNat]
end Go.Sy
