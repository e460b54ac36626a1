/- Contracts: graphs out of drafts; injective morphisms. -/
import Derived.Test.YtkhheblmgbiniaaVG3
import Derived.Lib.SlicesCompact
import Derived.Lib.RowBridge
import Derived.Shelf.Sort.Plain
import Derived.Shelf.Bits.Mul64
import Derived.Shelf.Slices.Turned
import Derived.Ground.Names2Prog
import Derived.Shelf.Slices.Clone
import Derived.Shelf.Slices.CompactI
import Derived.Shelf.Slices.In.SortNone
import Derived.Test.YtkhheblmgbiniaaProg
import Derived.WalkKit
import Derived.Below
import Derived.Lib.OwnBridge
import Derived.Sort.Grow
import Derived.Sort.OwnSortedInts
set_option linter.unusedSimpArgs false
namespace Go.Sy
open Go Go.Proofs

structure Dr where
  n : List Int
  e : List Ed
def u8 (x : Int) : AV := .v (.int .u8 x)
def tcs (x : Ed) : List AV := [u8 x.1, u8 x.2.1, u8 x.2.2]
def dcs (d : Dr) : List AV := [.list 1 (d.n.map fun x => [u8 x]) .no, .list 3 (d.e.map tcs) .no]
def dv (d : Dr) : AV := .agg (dcs d)
attribute [go_sem] u8 tcs dcs dv
/-- What a draft holds are bytes. -/
def drOK (d : Dr) : Prop := (∀ x ∈ d.n, 0 ≤ x ∧ x ≤ 255) ∧ ∀ x ∈ d.e, (0 ≤ x.1 ∧ x.1 ≤ 255) ∧ (0 ≤ x.2.1 ∧ x.2.1 ≤ 255) ∧ 0 ≤ x.2.2 ∧ x.2.2 ≤ 255
theorem idx_arrP {P : Program} {t e : TypeId} {m : Nat} (hu : P.underlying t = some (.array m e)) (hi : (P.info? e).isSome = true) (hc : P.cellsOf e = 1) (l : List AV) (k : IntKind) (n : Int) :
    idxAV P t (.ptr l) (.v (.int k n)) = if 0 ≤ n ∧ n < m then some (.ptr (l.drop n.toNat)) else none := by
  show (match P.underlying t with
    | some (.array m e) => if (P.info? e).isSome ∧ 0 ≤ n ∧ n < m then some (AV.ptr (l.drop (n.toNat * P.cellsOf e))) else none
    | _ => none) = _
  rw [hu]
  simp only [hi, hc, Nat.mul_one, true_and]
theorem idx_arr (l : List AV) (k : IntKind) (n : Int) : idxAV Try.prog 127 (.ptr l) (.v (.int k n)) = if 0 ≤ n ∧ n < (3 : Int) then some (.ptr (l.drop n.toNat)) else none := idx_arrP (e := 5) (by kernel_rfl) (by kernel_rfl) (by kernel_rfl) l k n
def smallD (d : Dr) (n m : Int) : Bool := decide ((d.n.length : Int) ≤ n ∧ (d.e.length : Int) ≤ m)
theorem c29 (d : Dr) (n m : Int) : Con Try.prog 29 [dv d, iv n, iv m] 0 (bv (smallD d n m)) := by
  unfold smallD
  refine conT (X := []) (rs := [.tmp 6]) Try.func29 (by kernel_rfl) rfl rfl (by kernel_rfl) ?_
  simp (dsimp := false) (maxDischargeDepth := 16) only [go_sem, ↓reduceIte, reduceCtorEq, Nat.reduceEqDiff, Nat.reduceAdd, Nat.reduceMul, Nat.reduceSub, Nat.reduceLT, Nat.reduceLeDiff, Nat.reducePow, Int.reduceLT, Int.reduceLE, Int.reduceNeg, Int.reduceToNat]
  refine condK_dec (fun h1 => ?_) (fun h1 => ?_)
  · simp (dsimp := false) (maxDischargeDepth := 16) only [go_sem, ↓reduceIte, reduceCtorEq, Nat.reduceEqDiff, Nat.reduceAdd, Nat.reduceMul, Nat.reduceSub, Nat.reduceLT, Nat.reduceLeDiff, Nat.reducePow, Int.reduceLT, Int.reduceLE, Int.reduceNeg, Int.reduceToNat, h1]; exact finP (by omega)
  · simp (dsimp := false) (maxDischargeDepth := 16) only [go_sem, ↓reduceIte, reduceCtorEq, Nat.reduceEqDiff, Nat.reduceAdd, Nat.reduceMul, Nat.reduceSub, Nat.reduceLT, Nat.reduceLeDiff, Nat.reducePow, Int.reduceLT, Int.reduceLE, Int.reduceNeg, Int.reduceToNat, h1]; first | exact finB rfl | exact finF' (by omega)
/-- Are no two numbers equal? -/
def dist (l : List Int) : Bool := (List.range l.length).all fun i => (List.range i).all fun k => decide (l.getD i 0 ≠ l.getD k 0)
theorem dist_no {l : List Int} {i k : Nat} (hi : i < l.length) (hk : k < i) (h : l.getD i 0 = l.getD k 0) : dist l = false := by
  rw [← Bool.not_eq_true, dist, List.all_eq_true]
  intro hall
  have := List.all_eq_true.1 (hall i (List.mem_range.2 hi)) k (List.mem_range.2 hk)
  simp only [decide_eq_true_eq] at this
  exact this h
theorem dist_yes {l : List Int} (h : ∀ i, i < l.length → ∀ k, k < i → l.getD i 0 ≠ l.getD k 0) : dist l = true := by
  rw [dist, List.all_eq_true]
  intro i hi
  rw [List.all_eq_true]
  intro k hk
  exact decide_eq_true (h i (List.mem_range.1 hi) k (List.mem_range.1 hk))
theorem c74 (l : List Int) : Con Try.prog 74 [lv l] 0 (bv (dist l)) := by
  refine Con.assume (enters_of Try.func74 (by kernel_rfl) rfl) fun hb => ?_
  have hlen := bnd_lv (hb _ (List.mem_cons_self ..))
  refine conT (X := []) (rs := [.tmp 2]) Try.func74 (by kernel_rfl) rfl rfl (by kernel_rfl) ?_
  simp (dsimp := false) (maxDischargeDepth := 16) only [go_sem, ↓reduceIte, reduceCtorEq, Nat.reduceEqDiff, Nat.reduceAdd, Nat.reduceMul, Nat.reduceSub, Nat.reduceLT, Nat.reduceLeDiff, Nat.reducePow, Int.reduceLT, Int.reduceLE, Int.reduceNeg, Int.reduceToNat]
  refine loopK_intro (fun (i : Nat) s => i ≤ l.length ∧ s.t 0 = lv l ∧ s.t 3 = iv i ∧ ∀ j, j < i → ∀ k, k < j → l.getD j 0 ≠ l.getD k 0) (fun i => l.length - i) ⟨0, by omega, rfl, rfl, fun j hj => by omega⟩ ?_
  rintro i s ⟨hi, t0, t3, hn⟩
  simp (dsimp := false) (maxDischargeDepth := 16) only [go_sem, ↓reduceIte, reduceCtorEq, Nat.reduceEqDiff, Nat.reduceAdd, Nat.reduceMul, Nat.reduceSub, Nat.reduceLT, Nat.reduceLeDiff, Nat.reducePow, Int.reduceLT, Int.reduceLE, Int.reduceNeg, Int.reduceToNat, t0, t3]
  refine condK_dec (fun h6 => ?_) (fun h6 => ?_)
  rotate_left
  · simp (dsimp := false) (maxDischargeDepth := 16) only [go_sem, ↓reduceIte, reduceCtorEq, Nat.reduceEqDiff, Nat.reduceAdd, Nat.reduceMul, Nat.reduceSub, Nat.reduceLT, Nat.reduceLeDiff, Nat.reducePow, Int.reduceLT, Int.reduceLE, Int.reduceNeg, Int.reduceToNat, t0, t3, h6]
    exact finB (dist_yes fun j hj => hn j (by omega))
  simp (dsimp := false) (maxDischargeDepth := 16) only [go_sem, ↓reduceIte, reduceCtorEq, Nat.reduceEqDiff, Nat.reduceAdd, Nat.reduceMul, Nat.reduceSub, Nat.reduceLT, Nat.reduceLeDiff, Nat.reducePow, Int.reduceLT, Int.reduceLE, Int.reduceNeg, Int.reduceToNat, t0, t3, h6]
  refine loopK_intro (fun (k : Nat) s => k ≤ i ∧ s.t 0 = lv l ∧ s.t 3 = iv i ∧ s.t 4 = iv k ∧ ∀ j, j < k → l.getD i 0 ≠ l.getD j 0) (fun k => i - k) ⟨0, by omega, t0, t3, rfl, fun j hj => by omega⟩ ?_
  clear t0 t3
  rintro k s ⟨hk, t0, t3, t4, hm⟩
  simp (dsimp := false) (maxDischargeDepth := 16) only [go_sem, ↓reduceIte, reduceCtorEq, Nat.reduceEqDiff, Nat.reduceAdd, Nat.reduceMul, Nat.reduceSub, Nat.reduceLT, Nat.reduceLeDiff, Nat.reducePow, Int.reduceLT, Int.reduceLE, Int.reduceNeg, Int.reduceToNat, t0, t3, t4]
  refine condK_dec (fun h7 => ?_) (fun h7 => ?_)
  · have h8 : k < l.length := by omega
    simp (dsimp := false) (maxDischargeDepth := 16) only [go_sem, ↓reduceIte, reduceCtorEq, Nat.reduceEqDiff, Nat.reduceAdd, Nat.reduceMul, Nat.reduceSub, Nat.reduceLT, Nat.reduceLeDiff, Nat.reducePow, Int.reduceLT, Int.reduceLE, Int.reduceNeg, Int.reduceToNat, t0, t3, t4, h7, h6, h8, idx_nat]
    refine condK_intro (fun h9 => ?_) (fun h9 => ?_)
    · simp (dsimp := false) (maxDischargeDepth := 16) only [go_sem, ↓reduceIte, reduceCtorEq, Nat.reduceEqDiff, Nat.reduceAdd, Nat.reduceMul, Nat.reduceSub, Nat.reduceLT, Nat.reduceLeDiff, Nat.reducePow, Int.reduceLT, Int.reduceLE, Int.reduceNeg, Int.reduceToNat, t0, t3, t4, h7, h9]
      exact finB (dist_no h6 h7 (by rw [getD_at h6, getD_at h8]; exact beqT h9))
    · simp (dsimp := false) (maxDischargeDepth := 16) only [go_sem, ↓reduceIte, reduceCtorEq, Nat.reduceEqDiff, Nat.reduceAdd, Nat.reduceMul, Nat.reduceSub, Nat.reduceLT, Nat.reduceLeDiff, Nat.reducePow, Int.reduceLT, Int.reduceLE, Int.reduceNeg, Int.reduceToNat, t0, t3, t4, h7, h9]
      refine ⟨k + 1, by omega, by omega, by rw [wrapN _ (by omega)], fun j hj => ?_⟩
      by_cases hjk : j = k
      · rw [hjk, getD_at h6, getD_at h8]; exact beqF h9
      · exact hm j (by omega)
  · simp (dsimp := false) (maxDischargeDepth := 16) only [go_sem, ↓reduceIte, reduceCtorEq, Nat.reduceEqDiff, Nat.reduceAdd, Nat.reduceMul, Nat.reduceSub, Nat.reduceLT, Nat.reduceLeDiff, Nat.reducePow, Int.reduceLT, Int.reduceLE, Int.reduceNeg, Int.reduceToNat, t0, t3, t4, h7]
    refine ⟨i + 1, by omega, by omega, by rw [wrapN _ (by omega)], fun j hj => ?_⟩
    by_cases hji : j = i
    · rw [hji]; exact fun k hk => hm k (by omega)
    · exact hn j (by omega)
def injR (a b : Gr) (m : Mo) : Bool := mErr a b m == 0 && (dist m.n && dist m.e)
theorem c31 (a b : Gr) (m : Mo) : Con Try.prog 31 [gv a, gv b, mv m] 0 (bv (injR a b m)) := by
  refine conT (X := []) (rs := [.tmp 6]) Try.func31 (by kernel_rfl) rfl rfl (by kernel_rfl) ?_
  simp (dsimp := false) (maxDischargeDepth := 16) only [go_sem, ↓reduceIte, reduceCtorEq, Nat.reduceEqDiff, Nat.reduceAdd, Nat.reduceMul, Nat.reduceSub, Nat.reduceLT, Nat.reduceLeDiff, Nat.reducePow, Int.reduceLT, Int.reduceLE, Int.reduceNeg, Int.reduceToNat]
  refine callK_intro (c72 a b m) ?_
  simp (dsimp := false) (maxDischargeDepth := 16) only [go_sem, ↓reduceIte, reduceCtorEq, Nat.reduceEqDiff, Nat.reduceAdd, Nat.reduceMul, Nat.reduceSub, Nat.reduceLT, Nat.reduceLeDiff, Nat.reducePow, Int.reduceLT, Int.reduceLE, Int.reduceNeg, Int.reduceToNat]
  refine condK_intro (fun h1 => ?_) (fun h1 => ?_)
  · simp (dsimp := false) (maxDischargeDepth := 16) only [go_sem, ↓reduceIte, reduceCtorEq, Nat.reduceEqDiff, Nat.reduceAdd, Nat.reduceMul, Nat.reduceSub, Nat.reduceLT, Nat.reduceLeDiff, Nat.reducePow, Int.reduceLT, Int.reduceLE, Int.reduceNeg, Int.reduceToNat, h1]
    refine callK_intro (c74 m.n) ?_
    simp (dsimp := false) (maxDischargeDepth := 16) only [go_sem, ↓reduceIte, reduceCtorEq, Nat.reduceEqDiff, Nat.reduceAdd, Nat.reduceMul, Nat.reduceSub, Nat.reduceLT, Nat.reduceLeDiff, Nat.reducePow, Int.reduceLT, Int.reduceLE, Int.reduceNeg, Int.reduceToNat, h1]
    refine condK_intro (fun h2 => ?_) (fun h2 => ?_)
    · simp (dsimp := false) (maxDischargeDepth := 16) only [go_sem, ↓reduceIte, reduceCtorEq, Nat.reduceEqDiff, Nat.reduceAdd, Nat.reduceMul, Nat.reduceSub, Nat.reduceLT, Nat.reduceLeDiff, Nat.reducePow, Int.reduceLT, Int.reduceLE, Int.reduceNeg, Int.reduceToNat, h1, h2]
      refine callK_intro (c74 m.e) ?_
      simp (dsimp := false) (maxDischargeDepth := 16) only [go_sem, ↓reduceIte, reduceCtorEq, Nat.reduceEqDiff, Nat.reduceAdd, Nat.reduceMul, Nat.reduceSub, Nat.reduceLT, Nat.reduceLeDiff, Nat.reducePow, Int.reduceLT, Int.reduceLE, Int.reduceNeg, Int.reduceToNat, h1, h2]
      exact finB (by rw [injR, h1, h2]; rfl)
    · simp (dsimp := false) (maxDischargeDepth := 16) only [go_sem, ↓reduceIte, reduceCtorEq, Nat.reduceEqDiff, Nat.reduceAdd, Nat.reduceMul, Nat.reduceSub, Nat.reduceLT, Nat.reduceLeDiff, Nat.reducePow, Int.reduceLT, Int.reduceLE, Int.reduceNeg, Int.reduceToNat, h1, h2]
      exact finB (by rw [injR, h1, h2]; rfl)
  · simp (dsimp := false) (maxDischargeDepth := 16) only [go_sem, ↓reduceIte, reduceCtorEq, Nat.reduceEqDiff, Nat.reduceAdd, Nat.reduceMul, Nat.reduceSub, Nat.reduceLT, Nat.reduceLeDiff, Nat.reducePow, Int.reduceLT, Int.reduceLE, Int.reduceNeg, Int.reduceToNat, h1]
    exact finB (by rw [injR, h1]; rfl)
def mkE (n : Int) (x : Ed) : Ed := (x.1.tmod 2, x.2.1.tmod n, x.2.2.tmod n)
/-- The graph of a draft. -/
def made (d : Dr) : Gr := ⟨(d.n.take 8).map (·.tmod 3), if d.n = [] then [] else (d.e.take 10).map (mkE (d.n.take 8).length)⟩
theorem take_stop {α : Type} {l : List α} {i n : Nat} (h : ¬ (i < l.length ∧ i < n)) (h1 : i ≤ l.length) (h2 : i ≤ n) : l.take i = l.take n := by
  by_cases hi : i = n
  · rw [hi]
  · rw [List.take_of_length_le (by omega), List.take_of_length_le (by omega)]
theorem take_map {α β : Type} {f : α → β} {l : List α} {i : Nat} (h : i < l.length) : (l.take (i + 1)).map f = (l.take i).map f ++ [f l[i]] := by
  rw [List.take_add_one, List.getElem?_eq_getElem h, List.map_append]
  rfl
theorem tmod_byte {x n : Int} (h0 : 0 ≤ x) (hn : 0 < n) : 0 ≤ x.tmod n ∧ x.tmod n < n := by
  rw [Int.tmod_eq_emod_of_nonneg h0]
  exact ⟨Int.emod_nonneg _ (by omega), Int.emod_lt_of_pos _ hn⟩
theorem wrap_byte {x : Int} (h0 : 0 ≤ x ∧ x ≤ 255) : IntKind.i64.wrap x = x := wrap_i64 _ (by omega) (by omega)
set_option maxHeartbeats 1000000 in
theorem c30 (d : Dr) (hd : drOK d) : Con Try.prog 30 [dv d] 0 (gv (made d)) := by
  refine Con.assume (enters_of Try.func30 (by kernel_rfl) rfl) fun hb => ?_
  refine conT (X := []) (rs := [.cell 2 25]) Try.func30 (by kernel_rfl) rfl rfl (by kernel_rfl) ?_
  simp (dsimp := false) (maxDischargeDepth := 16) only [go_sem, ↓reduceIte, reduceCtorEq, Nat.reduceEqDiff, Nat.reduceAdd, Nat.reduceMul, Nat.reduceSub, Nat.reduceLT, Nat.reduceLeDiff, Nat.reducePow, Int.reduceLT, Int.reduceLE, Int.reduceNeg, Int.reduceToNat]
  refine loopK_intro (fun (i : Nat) s => i ≤ d.n.length ∧ i ≤ 8 ∧ s.t 1 = .box (1, 0, 0) 0 ∧ s.b (1, 0, 0) = some ⟨dcs d, false⟩ ∧ s.t 2 = .box (2, 0, 0) 0 ∧ (∃ z1 z2, s.b (2, 0, 0) = some ⟨[z1, z2], false⟩) ∧ s.t 3 = .box (3, 0, 0) 0 ∧ s.t 4 = iv i ∧
    ∃ tk, s.b (3, 0, 0) = some ⟨[lvT ((d.n.take i).map (·.tmod 3)) tk, .list 3 [] .nil], false⟩ ∧ tokOK s tk = true) (fun i => 8 - i) ?_ ?_
  · exact ⟨0, by omega, by omega, rfl, rfl, rfl, ⟨_, _, rfl⟩, rfl, rfl, .nil, rfl, rfl⟩
  rintro i s ⟨hi, hi8, t1, b1, t2, ⟨z1, z2, b2⟩, t3, t4, tk, b3, htk⟩
  simp (dsimp := false) (maxDischargeDepth := 16) only [go_sem, ↓reduceIte, reduceCtorEq, Nat.reduceEqDiff, Nat.reduceAdd, Nat.reduceMul, Nat.reduceSub, Nat.reduceLT, Nat.reduceLeDiff, Nat.reducePow, Int.reduceLT, Int.reduceLE, Int.reduceNeg, Int.reduceToNat, t1, b1, t2, b2, t3, t4, b3]
  have stop : ¬ (i < d.n.length ∧ i < 8) → (d.n.take i).map (·.tmod 3) = (made d).n := fun h => by rw [take_stop h hi hi8]; rfl
  have hnl : (made d).n.length ≤ 8 := by simp [made]; omega
  have hnn : (made d).n.length = 0 ↔ d.n = [] := by
    simp only [made, List.length_map, List.length_take]
    constructor
    · intro h
      exact List.eq_nil_of_length_eq_zero (by omega)
    · intro h
      simp [h]
  have hnt : ((d.n.take 8).length : Int) = ((made d).n.length : Int) := by simp [made]
  have hme : (made d).e = if d.n = [] then [] else (d.e.take 10).map (mkE (made d).n.length) := by rw [← hnt]; rfl
  refine condK_dec (fun h6 => ?_) (fun h6 => ?_)
  · simp (dsimp := false) (maxDischargeDepth := 16) only [go_sem, ↓reduceIte, reduceCtorEq, Nat.reduceEqDiff, Nat.reduceAdd, Nat.reduceMul, Nat.reduceSub, Nat.reduceLT, Nat.reduceLeDiff, Nat.reducePow, Int.reduceLT, Int.reduceLE, Int.reduceNeg, Int.reduceToNat, t1, b1, t2, b2, t3, t4, b3, h6]
    refine condK_dec (fun h7 => ?_) (fun h7 => ?_)
    · have hx := hd.1 _ (List.getElem_mem h6)
      have tb := tmod_byte (n := 3) hx.1 (by decide)
      have hw : IntKind.i64.wrap (d.n[i].tmod 3) = d.n[i].tmod 3 := wrap_i64 _ (by omega) (by omega)
      simp (dsimp := false) (maxDischargeDepth := 16) only [go_sem, ↓reduceIte, reduceCtorEq, Nat.reduceEqDiff, Nat.reduceAdd, Nat.reduceMul, Nat.reduceSub, Nat.reduceLT, Nat.reduceLeDiff, Nat.reducePow, Int.reduceLT, Int.reduceLE, Int.reduceNeg, Int.reduceToNat, t1, b1, t2, b2, t3, t4, b3, h6, h7, idx_nat, hw, htk, Int.reduceEq]
      refine ⟨⟨by simp; omega, by simp; omega⟩, i + 1, by omega, by omega, by omega, ⟨_, _, rfl⟩, by rw [wrapN _ (by omega)], .own (28, s.g 28, 0), ?_, ?_⟩
      · rw [take_map h6]
        simp only [map1_app]
      · simp (dsimp := false) (maxDischargeDepth := 16) only [go_sem, ↓reduceIte, reduceCtorEq, Nat.reduceEqDiff, Nat.reduceAdd, Nat.reduceMul, Nat.reduceSub, Nat.reduceLT, Nat.reduceLeDiff, Nat.reducePow, Int.reduceLT, Int.reduceLE, Int.reduceNeg, Int.reduceToNat]
    · simp (dsimp := false) (maxDischargeDepth := 16) only [go_sem, ↓reduceIte, reduceCtorEq, Nat.reduceEqDiff, Nat.reduceAdd, Nat.reduceMul, Nat.reduceSub, Nat.reduceLT, Nat.reduceLeDiff, Nat.reducePow, Int.reduceLT, Int.reduceLE, Int.reduceNeg, Int.reduceToNat, t1, b1, t2, b2, t3, t4, b3, h6, h7]
      have hstop := stop (by omega)
      rw [hstop] at b3
      have hlen2 : (d.n.take i).length = (made d).n.length := by rw [← hstop, List.length_map]
      generalize hG : (made d).n = G at *
      refine loopK_intro (fun (i : Nat) s => i ≤ d.e.length ∧ i ≤ 10 ∧ (G = [] → i = 0) ∧ s.t 1 = .box (1, 0, 0) 0 ∧ s.b (1, 0, 0) = some ⟨dcs d, false⟩ ∧ s.t 2 = .box (2, 0, 0) 0 ∧ s.b (2, 0, 0) = some ⟨[z1, z2], false⟩ ∧ s.t 3 = .box (3, 0, 0) 0 ∧
        s.t 5 = iv G.length ∧ s.t 6 = iv i ∧ ∃ tk2, s.b (3, 0, 0) = some ⟨[lvT G tk, elT' ((d.e.take i).map (mkE G.length)) tk2], false⟩ ∧ tokOK s tk2 = true) (fun i => 10 - i) ?_ ?_
      · exact ⟨0, by omega, by omega, fun _ => rfl, t1, b1, t2, b2, t3, by simp (dsimp := false) (maxDischargeDepth := 16) only [go_sem, ↓reduceIte, reduceCtorEq, Nat.reduceEqDiff, Nat.reduceAdd, Nat.reduceMul, Nat.reduceSub, Nat.reduceLT, Nat.reduceLeDiff, Nat.reducePow, Int.reduceLT, Int.reduceLE, Int.reduceNeg, Int.reduceToNat, hlen2], rfl, .nil, b3, rfl⟩
      clear t1 b1 t2 b2 t3 t4 b3 htk
      rintro i s ⟨hi, hi10, hG0, t1, b1, t2, b2, t3, t5, t6, tk2, b3, htk⟩
      simp (dsimp := false) (maxDischargeDepth := 16) only [go_sem, ↓reduceIte, reduceCtorEq, Nat.reduceEqDiff, Nat.reduceAdd, Nat.reduceMul, Nat.reduceSub, Nat.reduceLT, Nat.reduceLeDiff, Nat.reducePow, Int.reduceLT, Int.reduceLE, Int.reduceNeg, Int.reduceToNat, t1, b1, t2, b2, t3, t5, t6, b3]
      have endE : (d.e.take i).map (mkE G.length) = (made d).e → made d = ⟨G, (d.e.take i).map (mkE G.length)⟩ := fun h => by rw [h, ← hG]
      refine condK_dec (fun h6 => ?_) (fun h6 => ?_)
      rotate_left
      · have hm := endE (by
          rw [hme]
          split
          · rename_i h0; rw [hG0 (by have := hnn.2 h0; exact List.eq_nil_of_length_eq_zero this)]; rfl
          · rw [take_stop (n := 10) (by omega) hi hi10])
        simp (dsimp := false) (maxDischargeDepth := 16) only [go_sem, ↓reduceIte, reduceCtorEq, Nat.reduceEqDiff, Nat.reduceAdd, Nat.reduceMul, Nat.reduceSub, Nat.reduceLT, Nat.reduceLeDiff, Nat.reducePow, Int.reduceLT, Int.reduceLE, Int.reduceNeg, Int.reduceToNat, t1, b1, t2, b2, t3, t5, t6, b3, h6]
        rw [hm]
        exact finK ⟨rfl, rfl⟩
      simp (dsimp := false) (maxDischargeDepth := 16) only [go_sem, ↓reduceIte, reduceCtorEq, Nat.reduceEqDiff, Nat.reduceAdd, Nat.reduceMul, Nat.reduceSub, Nat.reduceLT, Nat.reduceLeDiff, Nat.reducePow, Int.reduceLT, Int.reduceLE, Int.reduceNeg, Int.reduceToNat, t1, b1, t2, b2, t3, t5, t6, b3, h6]
      refine condK_dec (fun h7 => ?_) (fun h7 => ?_)
      rotate_left
      · have hm := endE (by
          rw [hme]
          split
          · rename_i h0; rw [hG0 (by have := hnn.2 h0; exact List.eq_nil_of_length_eq_zero this)]; rfl
          · rw [take_stop (n := 10) (by omega) hi hi10])
        simp (dsimp := false) (maxDischargeDepth := 16) only [go_sem, ↓reduceIte, reduceCtorEq, Nat.reduceEqDiff, Nat.reduceAdd, Nat.reduceMul, Nat.reduceSub, Nat.reduceLT, Nat.reduceLeDiff, Nat.reducePow, Int.reduceLT, Int.reduceLE, Int.reduceNeg, Int.reduceToNat, t1, b1, t2, b2, t3, t5, t6, b3, h6, h7]
        rw [hm]
        exact finK ⟨rfl, rfl⟩
      simp (dsimp := false) (maxDischargeDepth := 16) only [go_sem, ↓reduceIte, reduceCtorEq, Nat.reduceEqDiff, Nat.reduceAdd, Nat.reduceMul, Nat.reduceSub, Nat.reduceLT, Nat.reduceLeDiff, Nat.reducePow, Int.reduceLT, Int.reduceLE, Int.reduceNeg, Int.reduceToNat, t1, b1, t2, b2, t3, t5, t6, b3, h6, h7]
      refine condK_dec (fun h8 => ?_) (fun h8 => ?_)
      rotate_left
      · have hg : G = [] := List.eq_nil_of_length_eq_zero (by omega)
        have hm := endE (by
          rw [hme, if_pos (hnn.1 (by rw [hg]; rfl)), hG0 hg]
          rfl)
        simp (dsimp := false) (maxDischargeDepth := 16) only [go_sem, ↓reduceIte, reduceCtorEq, Nat.reduceEqDiff, Nat.reduceAdd, Nat.reduceMul, Nat.reduceSub, Nat.reduceLT, Nat.reduceLeDiff, Nat.reducePow, Int.reduceLT, Int.reduceLE, Int.reduceNeg, Int.reduceToNat, t1, b1, t2, b2, t3, t5, t6, b3, h6, h7, h8]
        rw [hm]
        exact finK ⟨rfl, rfl⟩
      have hx := hd.2 _ (List.getElem_mem h6)
      have x1 := tmod_byte (n := 2) hx.1.1 (by decide)
      have x2 := tmod_byte (n := (G.length : Int)) hx.2.1.1 h8
      have x3 := tmod_byte (n := (G.length : Int)) hx.2.2.1 h8
      have w1 : IntKind.i64.wrap (d.e[i].1.tmod 2) = d.e[i].1.tmod 2 := wrap_i64 _ (by omega) (by omega)
      have w2 := wrap_byte hx.2.1
      have w3 := wrap_byte hx.2.2
      have htl : (d.e.take i).length ≤ i := by rw [List.length_take]; omega
      have hne : ((G.length : Int) = 0) = False := propext ⟨fun h => by omega, False.elim⟩
      simp (dsimp := false) (maxDischargeDepth := 16) only [go_sem, ↓reduceIte, reduceCtorEq, Nat.reduceEqDiff, Nat.reduceAdd, Nat.reduceMul, Nat.reduceSub, Nat.reduceLT, Nat.reduceLeDiff, Nat.reducePow, Int.reduceLT, Int.reduceLE, Int.reduceNeg, Int.reduceToNat, t1, b1, t2, b2, t3, t5, t6, b3, h6, h7, h8, idx_nat, idx_arr, w1, w2, w3, hne, htk, Int.reduceEq]
      refine ⟨⟨by omega, by omega⟩, i + 1, by omega, by omega, by omega, fun h => by rw [h] at h8; simp at h8, by rw [wrapN _ (by omega)], .own (78, s.g 78, 0), ?_, ?_⟩
      · rw [take_map h6]
        simp only [map3_app]
        rfl
      · simp (dsimp := false) (maxDischargeDepth := 16) only [go_sem, ↓reduceIte, reduceCtorEq, Nat.reduceEqDiff, Nat.reduceAdd, Nat.reduceMul, Nat.reduceSub, Nat.reduceLT, Nat.reduceLeDiff, Nat.reducePow, Int.reduceLT, Int.reduceLE, Int.reduceNeg, Int.reduceToNat]
  · simp (dsimp := false) (maxDischargeDepth := 16) only [go_sem, ↓reduceIte, reduceCtorEq, Nat.reduceEqDiff, Nat.reduceAdd, Nat.reduceMul, Nat.reduceSub, Nat.reduceLT, Nat.reduceLeDiff, Nat.reducePow, Int.reduceLT, Int.reduceLE, Int.reduceNeg, Int.reduceToNat, t1, b1, t2, b2, t3, t4, b3, h6]
    have hstop := stop (by omega)
    rw [hstop] at b3
    have hlen2 : (d.n.take i).length = (made d).n.length := by rw [← hstop, List.length_map]
    generalize hG : (made d).n = G at *
    refine loopK_intro (fun (i : Nat) s => i ≤ d.e.length ∧ i ≤ 10 ∧ (G = [] → i = 0) ∧ s.t 1 = .box (1, 0, 0) 0 ∧ s.b (1, 0, 0) = some ⟨dcs d, false⟩ ∧ s.t 2 = .box (2, 0, 0) 0 ∧ s.b (2, 0, 0) = some ⟨[z1, z2], false⟩ ∧ s.t 3 = .box (3, 0, 0) 0 ∧
      s.t 5 = iv G.length ∧ s.t 6 = iv i ∧ ∃ tk2, s.b (3, 0, 0) = some ⟨[lvT G tk, elT' ((d.e.take i).map (mkE G.length)) tk2], false⟩ ∧ tokOK s tk2 = true) (fun i => 10 - i) ?_ ?_
    · exact ⟨0, by omega, by omega, fun _ => rfl, t1, b1, t2, b2, t3, by simp (dsimp := false) (maxDischargeDepth := 16) only [go_sem, ↓reduceIte, reduceCtorEq, Nat.reduceEqDiff, Nat.reduceAdd, Nat.reduceMul, Nat.reduceSub, Nat.reduceLT, Nat.reduceLeDiff, Nat.reducePow, Int.reduceLT, Int.reduceLE, Int.reduceNeg, Int.reduceToNat, hlen2], rfl, .nil, b3, rfl⟩
    clear t1 b1 t2 b2 t3 t4 b3 htk
    rintro i s ⟨hi, hi10, hG0, t1, b1, t2, b2, t3, t5, t6, tk2, b3, htk⟩
    simp (dsimp := false) (maxDischargeDepth := 16) only [go_sem, ↓reduceIte, reduceCtorEq, Nat.reduceEqDiff, Nat.reduceAdd, Nat.reduceMul, Nat.reduceSub, Nat.reduceLT, Nat.reduceLeDiff, Nat.reducePow, Int.reduceLT, Int.reduceLE, Int.reduceNeg, Int.reduceToNat, t1, b1, t2, b2, t3, t5, t6, b3]
    have endE : (d.e.take i).map (mkE G.length) = (made d).e → made d = ⟨G, (d.e.take i).map (mkE G.length)⟩ := fun h => by rw [h, ← hG]
    refine condK_dec (fun h6 => ?_) (fun h6 => ?_)
    rotate_left
    · have hm := endE (by
        rw [hme]
        split
        · rename_i h0; rw [hG0 (by have := hnn.2 h0; exact List.eq_nil_of_length_eq_zero this)]; rfl
        · rw [take_stop (n := 10) (by omega) hi hi10])
      simp (dsimp := false) (maxDischargeDepth := 16) only [go_sem, ↓reduceIte, reduceCtorEq, Nat.reduceEqDiff, Nat.reduceAdd, Nat.reduceMul, Nat.reduceSub, Nat.reduceLT, Nat.reduceLeDiff, Nat.reducePow, Int.reduceLT, Int.reduceLE, Int.reduceNeg, Int.reduceToNat, t1, b1, t2, b2, t3, t5, t6, b3, h6]
      rw [hm]
      exact finK ⟨rfl, rfl⟩
    simp (dsimp := false) (maxDischargeDepth := 16) only [go_sem, ↓reduceIte, reduceCtorEq, Nat.reduceEqDiff, Nat.reduceAdd, Nat.reduceMul, Nat.reduceSub, Nat.reduceLT, Nat.reduceLeDiff, Nat.reducePow, Int.reduceLT, Int.reduceLE, Int.reduceNeg, Int.reduceToNat, t1, b1, t2, b2, t3, t5, t6, b3, h6]
    refine condK_dec (fun h7 => ?_) (fun h7 => ?_)
    rotate_left
    · have hm := endE (by
        rw [hme]
        split
        · rename_i h0; rw [hG0 (by have := hnn.2 h0; exact List.eq_nil_of_length_eq_zero this)]; rfl
        · rw [take_stop (n := 10) (by omega) hi hi10])
      simp (dsimp := false) (maxDischargeDepth := 16) only [go_sem, ↓reduceIte, reduceCtorEq, Nat.reduceEqDiff, Nat.reduceAdd, Nat.reduceMul, Nat.reduceSub, Nat.reduceLT, Nat.reduceLeDiff, Nat.reducePow, Int.reduceLT, Int.reduceLE, Int.reduceNeg, Int.reduceToNat, t1, b1, t2, b2, t3, t5, t6, b3, h6, h7]
      rw [hm]
      exact finK ⟨rfl, rfl⟩
    simp (dsimp := false) (maxDischargeDepth := 16) only [go_sem, ↓reduceIte, reduceCtorEq, Nat.reduceEqDiff, Nat.reduceAdd, Nat.reduceMul, Nat.reduceSub, Nat.reduceLT, Nat.reduceLeDiff, Nat.reducePow, Int.reduceLT, Int.reduceLE, Int.reduceNeg, Int.reduceToNat, t1, b1, t2, b2, t3, t5, t6, b3, h6, h7]
    refine condK_dec (fun h8 => ?_) (fun h8 => ?_)
    rotate_left
    · have hg : G = [] := List.eq_nil_of_length_eq_zero (by omega)
      have hm := endE (by
        rw [hme, if_pos (hnn.1 (by rw [hg]; rfl)), hG0 hg]
        rfl)
      simp (dsimp := false) (maxDischargeDepth := 16) only [go_sem, ↓reduceIte, reduceCtorEq, Nat.reduceEqDiff, Nat.reduceAdd, Nat.reduceMul, Nat.reduceSub, Nat.reduceLT, Nat.reduceLeDiff, Nat.reducePow, Int.reduceLT, Int.reduceLE, Int.reduceNeg, Int.reduceToNat, t1, b1, t2, b2, t3, t5, t6, b3, h6, h7, h8]
      rw [hm]
      exact finK ⟨rfl, rfl⟩
    have hx := hd.2 _ (List.getElem_mem h6)
    have x1 := tmod_byte (n := 2) hx.1.1 (by decide)
    have x2 := tmod_byte (n := (G.length : Int)) hx.2.1.1 h8
    have x3 := tmod_byte (n := (G.length : Int)) hx.2.2.1 h8
    have w1 : IntKind.i64.wrap (d.e[i].1.tmod 2) = d.e[i].1.tmod 2 := wrap_i64 _ (by omega) (by omega)
    have w2 := wrap_byte hx.2.1
    have w3 := wrap_byte hx.2.2
    have htl : (d.e.take i).length ≤ i := by rw [List.length_take]; omega
    have hne : ((G.length : Int) = 0) = False := propext ⟨fun h => by omega, False.elim⟩
    simp (dsimp := false) (maxDischargeDepth := 16) only [go_sem, ↓reduceIte, reduceCtorEq, Nat.reduceEqDiff, Nat.reduceAdd, Nat.reduceMul, Nat.reduceSub, Nat.reduceLT, Nat.reduceLeDiff, Nat.reducePow, Int.reduceLT, Int.reduceLE, Int.reduceNeg, Int.reduceToNat, t1, b1, t2, b2, t3, t5, t6, b3, h6, h7, h8, idx_nat, idx_arr, w1, w2, w3, hne, htk, Int.reduceEq]
    refine ⟨⟨by omega, by omega⟩, i + 1, by omega, by omega, by omega, fun h => by rw [h] at h8; simp at h8, by rw [wrapN _ (by omega)], .own (78, s.g 78, 0), ?_, ?_⟩
    · rw [take_map h6]
      simp only [map3_app]
      rfl
    · simp (dsimp := false) (maxDischargeDepth := 16) only [go_sem, ↓reduceIte, reduceCtorEq, Nat.reduceEqDiff, Nat.reduceAdd, Nat.reduceMul, Nat.reduceSub, Nat.reduceLT, Nat.reduceLeDiff, Nat.reducePow, Int.reduceLT, Int.reduceLE, Int.reduceNeg, Int.reduceToNat]
end Go.Sy

/- Plain law: a list's different numbers, ascending; there are as many as it has places just where no number occurs twice. -/
namespace Go.Sy
open Go Go.Proofs

/-- The different numbers, ascending. -/
def sq (l : List Int) : List Int := Lib.compact (l.mergeSort fun x y => decide (x ≤ y))

theorem sq_len (l : List Int) : (sq l).length ≤ l.length := by
  have := Lib.compact_length_le (l.mergeSort fun x y => decide (x ≤ y))
  rw [List.length_mergeSort] at this
  exact this

theorem cu_spec {d : Array Int} (hs : ∀ i j, i ≤ j → j < d.size → d[i]! ≤ d[j]!) : ∀ m, m ≤ d.size →
    (Lib.compactUpTo d m).Pairwise (· < ·) ∧ (∀ x, x ∈ Lib.compactUpTo d m ↔ ∃ j, j < m ∧ d[j]! = x) ∧ (Lib.compactUpTo d m).length ≤ m ∧ ((Lib.compactUpTo d m).length = m → ∀ i j, i < j → j < m → d[i]! < d[j]!)
  | 0, _ => by
    refine ⟨by simp [Lib.compactUpTo], fun x => ?_, by simp [Lib.compactUpTo], fun _ i j _ h => by omega⟩
    simp [Lib.compactUpTo]
  | m + 1, hm => by
    obtain ⟨h1, h2, h3, h4⟩ := cu_spec hs m (by omega)
    rw [Lib.compactUpTo_succ]
    by_cases hk : Lib.keeps d m = true
    · rw [if_pos hk]
      have hlt : ∀ j, j < m → d[j]! < d[m]! := by
        intro j hj
        have hk' : m = 0 ∨ d[m]! ≠ d[m - 1]! := by simpa [Lib.keeps] using hk
        have a1 := hs j (m - 1) (by omega) (by omega)
        have a2 := hs (m - 1) m (by omega) (by omega)
        rcases hk' with h | h
        · omega
        · omega
      refine ⟨?_, fun x => ?_, by simp; omega, fun hl i j hij hj => ?_⟩
      · rw [List.pairwise_append]
        refine ⟨h1, by simp, fun x hx y hy => ?_⟩
        obtain ⟨j, hj, rfl⟩ := (h2 x).1 hx
        rw [List.mem_singleton.1 hy]
        exact hlt j hj
      · rw [List.mem_append, h2, List.mem_singleton]
        constructor
        · rintro (⟨j, hj, rfl⟩ | rfl)
          · exact ⟨j, by omega, rfl⟩
          · exact ⟨m, by omega, rfl⟩
        · rintro ⟨j, hj, rfl⟩
          by_cases hjm : j = m
          · exact .inr (by rw [hjm])
          · exact .inl ⟨j, by omega, rfl⟩
      · by_cases hjm : j = m
        · rw [hjm]; exact hlt i (by omega)
        · exact h4 (by simpa using hl) i j hij (by omega)
    · have hk0 : Lib.keeps d m = false := by simpa using hk
      rw [if_neg hk, List.append_nil]
      have hk' : ¬ (m = 0 ∨ d[m]! ≠ d[m - 1]!) := by
        intro h
        apply hk
        simp [Lib.keeps, h]
      have hm0 : m ≠ 0 := fun h => hk' (.inl h)
      have he : d[m]! = d[m - 1]! := Decidable.not_not.1 fun h => hk' (.inr h)
      refine ⟨h1, fun x => ?_, by omega, fun hl => by omega⟩
      rw [h2]
      constructor
      · rintro ⟨j, hj, rfl⟩; exact ⟨j, by omega, rfl⟩
      · rintro ⟨j, hj, rfl⟩
        by_cases hjm : j = m
        · exact ⟨m - 1, by omega, by rw [hjm, he]⟩
        · exact ⟨j, by omega, rfl⟩

theorem bang_at {s : List Int} {j : Nat} (h : j < s.length) : s.toArray[j]! = s[j] := by
  rw [getElem!_pos s.toArray j (show j < s.toArray.size by simpa using h)]
  simp
theorem ms_sorted (l : List Int) : ∀ i j, i ≤ j → j < (l.mergeSort fun x y => decide (x ≤ y)).toArray.size → (l.mergeSort fun x y => decide (x ≤ y)).toArray[i]! ≤ (l.mergeSort fun x y => decide (x ≤ y)).toArray[j]! := by
  intro i j hij hj
  have hp := List.pairwise_mergeSort (le := fun x y : Int => decide (x ≤ y)) (fun a b c h1 h2 => by simp at h1 h2 ⊢; omega) (fun a b => by simp; omega) l
  generalize l.mergeSort (fun x y => decide (x ≤ y)) = s at *
  have hj' : j < s.length := by simpa using hj
  by_cases h : i = j
  · rw [h]; exact Int.le_refl _
  · have := (List.pairwise_iff_getElem.1 hp) i j (by omega) hj' (by omega)
    simp only [decide_eq_true_eq] at this
    simpa [getElem!_pos, hj', show i < s.length by omega] using this

theorem sq_pw (l : List Int) : (sq l).Pairwise (· < ·) := (cu_spec (ms_sorted l) _ (by simp)).1
theorem mem_sq (l : List Int) (x : Int) : x ∈ sq l ↔ x ∈ l := by
  have h := (cu_spec (ms_sorted l) (l.mergeSort fun x y => decide (x ≤ y)).length (by simp)).2.1 x
  refine Iff.trans h ?_
  rw [← (List.mergeSort_perm l fun x y => decide (x ≤ y)).mem_iff, List.mem_iff_getElem]
  constructor
  · rintro ⟨j, hj, h1⟩
    exact ⟨j, hj, by rw [← bang_at hj]; exact h1⟩
  · rintro ⟨j, hj, h1⟩
    exact ⟨j, hj, by rw [bang_at hj]; exact h1⟩

theorem dist_nodup (l : List Int) : dist l = true ↔ l.Nodup := by
  constructor
  · intro h
    have h := List.all_eq_true.1 h
    refine List.pairwise_iff_getElem.2 fun i j hi hj hij e => ?_
    have h1 := List.all_eq_true.1 (h j (List.mem_range.2 hj)) i (List.mem_range.2 hij)
    simp only [decide_eq_true_eq] at h1
    exact h1 (by rw [getD_at hi, getD_at hj, e])
  · intro h
    refine dist_yes fun i hi k hk => ?_
    rw [getD_at hi, getD_at (show k < l.length by omega)]
    exact fun e => List.pairwise_iff_getElem.1 h k i (by omega) hi hk e.symm

theorem sq_dist (l : List Int) : (sq l).length = l.length ↔ dist l = true := by
  rw [dist_nodup, ← (List.mergeSort_perm l fun x y => decide (x ≤ y)).nodup_iff]
  have hsl : (l.mergeSort fun x y => decide (x ≤ y)).length = l.length := List.length_mergeSort l
  constructor
  · intro h
    have h4 := (cu_spec (ms_sorted l) (l.mergeSort fun x y => decide (x ≤ y)).length (by simp)).2.2.2 (by rw [show Lib.compactUpTo (l.mergeSort fun x y => decide (x ≤ y)).toArray (l.mergeSort fun x y => decide (x ≤ y)).length = sq l from rfl, hsl]; exact h)
    refine List.pairwise_iff_getElem.2 fun i j hi hj hij e => ?_
    have := h4 i j hij hj
    rw [bang_at hi, bang_at hj] at this
    omega
  · intro h
    have : sq l = l.mergeSort fun x y => decide (x ≤ y) := by
      refine Lib.compact_all _ fun j hj => ?_
      by_cases h0 : j = 0
      · subst h0; simp [Lib.keeps]
      · refine Lib.keeps_pos fun e => ?_
        have h1 := List.pairwise_iff_getElem.1 h (j - 1) j (by omega) hj (by omega)
        apply h1
        have hj' : j - 1 < (l.mergeSort fun x y => decide (x ≤ y)).length := by omega
        rw [bang_at hj, bang_at hj'] at e
        exact e.symm
    rw [this, hsl]
end Go.Sy

/- The library's sort, clone, compaction and product at this program: laid by the kit's tool. -/
namespace Go.Proofs
open Go.Shelf
def Try.lays189_ren : Go.Shelf.Ren := ⟨fun | 189 => 148 | 125 => 164 | 257 => 163 | 128 => 176 | 129 => 177 | 294 => 167 | 295 => 168 | 296 => 169 | 297 => 170 | 298 => 171 | 299 => 172 | 216 => 173 | 300 => 174 | 301 => 175 | 328 => 180 | 329 => 181 | 330 => 182 | 331 => 183 | 332 => 184 | 215 => 185 | 343 => 186 | n => n, fun | 28 => 22 | 3 => 3 | 46 => 197 | 0 => 0 | 51 => 210 | 53 => 212 | 4 => 4 | 183 => 203 | 182 => 202 | 131 => 207 | 5 => 5 | 9 => 9 | 218 => 217 | 222 => 221 | 228 => 223 | 229 => 149 | n => n, fun | n => n⟩
theorem Try.lays189 : Go.Proofs.Lays.n189 Try.prog Try.lays189_ren := {
  mixed := by kernel_rfl
  f125 := Try.func164.trans (congrArg some (by kernel_rfl))
  f128 := Try.func176.trans (congrArg some (by kernel_rfl))
  f129 := Try.func177.trans (congrArg some (by kernel_rfl))
  f189 := Try.func148.trans (congrArg some (by kernel_rfl))
  f215 := Try.func185.trans (congrArg some (by kernel_rfl))
  f216 := Try.func173.trans (congrArg some (by kernel_rfl))
  f257 := Try.func163.trans (congrArg some (by kernel_rfl))
  f294 := Try.func167.trans (congrArg some (by kernel_rfl))
  f295 := Try.func168.trans (congrArg some (by kernel_rfl))
  f296 := Try.func169.trans (congrArg some (by kernel_rfl))
  f297 := Try.func170.trans (congrArg some (by kernel_rfl))
  f298 := Try.func171.trans (congrArg some (by kernel_rfl))
  f299 := Try.func172.trans (congrArg some (by kernel_rfl))
  f300 := Try.func174.trans (congrArg some (by kernel_rfl))
  f301 := Try.func175.trans (congrArg some (by kernel_rfl))
  f328 := Try.func180.trans (congrArg some (by kernel_rfl))
  f329 := Try.func181.trans (congrArg some (by kernel_rfl))
  f330 := Try.func182.trans (congrArg some (by kernel_rfl))
  f331 := Try.func183.trans (congrArg some (by kernel_rfl))
  f332 := Try.func184.trans (congrArg some (by kernel_rfl))
  f343 := Try.func186.trans (congrArg some (by kernel_rfl))
  t0 := Try.underlying0
  a0 := Try.isAgg0
  z0 := Try.sizeOf0
  v0 := Try.zeroValue0
  t3 := Try.underlying3
  a3 := Try.isAgg3
  z3 := Try.sizeOf3
  v3 := Try.zeroValue3
  t4 := Try.underlying4
  a4 := Try.isAgg4
  z4 := Try.sizeOf4
  v4 := Try.zeroValue4
  t5 := Try.underlying5
  a5 := Try.isAgg5
  z5 := Try.sizeOf5
  v5 := Try.zeroValue5
  t9 := Try.underlying9
  a9 := Try.isAgg9
  z9 := Try.sizeOf9
  v9 := Try.zeroValue9
  t28 := Try.underlying22
  a28 := Try.isAgg22
  z28 := Try.sizeOf22
  v28 := Try.zeroValue22
  t46 := Try.underlying197
  a46 := Try.isAgg197
  z46 := Try.sizeOf197
  v46 := Try.zeroValue197
  t51 := Try.underlying210
  a51 := Try.isAgg210
  z51 := Try.sizeOf210
  v51 := Try.zeroValue210
  t53 := Try.underlying212
  a53 := Try.isAgg212
  z53 := Try.sizeOf212
  v53 := Try.zeroValue212
  t131 := Try.underlying207
  a131 := Try.isAgg207
  z131 := Try.sizeOf207
  v131 := Try.zeroValue207
  t182 := Try.underlying202
  a182 := Try.isAgg202
  z182 := Try.sizeOf202
  v182 := Try.zeroValue202
  t183 := Try.underlying203
  a183 := Try.isAgg203
  z183 := Try.sizeOf203
  v183 := Try.zeroValue203
  t218 := Try.underlying217
  a218 := Try.isAgg217
  z218 := Try.sizeOf217
  v218 := Try.zeroValue217
  t222 := Try.underlying221
  a222 := Try.isAgg221
  z222 := Try.sizeOf221
  v222 := Try.zeroValue221
  t228 := Try.underlying223
  a228 := Try.isAgg223
  z228 := Try.sizeOf223
  v228 := Try.zeroValue223
  t229 := Try.underlying149
  a229 := Try.isAgg149
  z229 := Try.sizeOf149
  v229 := Try.zeroValue149 }
open Go.Sort Go.RowKit in
theorem Try.slices_Sort_int (blk off cap : Nat) (zs : List Int) (w : World) (hH : Holds (Value.int .i64) w blk off zs.toArray) (hblk : blk < w.heap.size) (hsz : zs.length < 4611686018427387904) :
    Calls Try.prog 148 #[.slice (some ⟨blk, off, none⟩) zs.length cap] w fun e w' =>
      e = .returned (.tuple #[]) ∧ ∃ n os, w' = grow (putRow (Value.int .i64) (Sort.ahead w n) blk off (zs.mergeSort fun x y => decide (x ≤ y)).toArray) os := Any.slices_Sort_int Try.lays189 blk off cap zs w hH hblk hsz
def Try.lays212_ren : Go.Shelf.Ren := ⟨fun | 212 => 165 | 263 => 178 | 264 => 179 | n => n, fun | 46 => 197 | 51 => 210 | 146 => 213 | 53 => 212 | 148 => 215 | n => n, fun | n => n⟩
theorem Try.lays212 : Go.Proofs.Lays.n212 Try.prog Try.lays212_ren := {
  mixed := by kernel_rfl
  f212 := Try.func165.trans (congrArg some (by kernel_rfl))
  f263 := Try.func178.trans (congrArg some (by kernel_rfl))
  f264 := Try.func179.trans (congrArg some (by kernel_rfl))
  t46 := Try.underlying197
  a46 := Try.isAgg197
  z46 := Try.sizeOf197
  v46 := Try.zeroValue197
  t51 := Try.underlying210
  a51 := Try.isAgg210
  z51 := Try.sizeOf210
  v51 := Try.zeroValue210
  t53 := Try.underlying212
  a53 := Try.isAgg212
  z53 := Try.sizeOf212
  v53 := Try.zeroValue212
  t146 := Try.underlying213
  a146 := Try.isAgg213
  z146 := Try.sizeOf213
  v146 := Try.zeroValue213
  t148 := Try.underlying215
  a148 := Try.isAgg215
  z148 := Try.sizeOf215
  v148 := Try.zeroValue215 }
open Go.RowKit Go.Lib in
theorem Try.bits_Mul (x y : Nat) (hx : x < 18446744073709551616) (hy : y < 18446744073709551616) (w : World) :
    Calls Try.prog 165 #[.int .u64 x, .int .u64 y] w fun e w' => e = .returned (.tuple #[.int .u64 ((x * y / 18446744073709551616 : Nat) : Int), .int .u64 ((x * y % 18446744073709551616 : Nat) : Int)]) ∧ w' = w := Any.bits_Mul Try.lays212 x y hx hy w
def Try.laysNm215_ren : Go.Shelf.Ren := ⟨fun | 15 => 78 | n => n, fun | 22 => 22 | 3 => 3 | 4 => 4 | n => n, fun | n => n⟩
theorem Try.laysNm215 : Go.Proofs.Lays2.n15 Try.prog Try.laysNm215_ren := {
  mixed := by kernel_rfl
  f15 := Try.func78.trans (congrArg some (by kernel_rfl))
  t3 := Try.underlying3
  a3 := Try.isAgg3
  z3 := Try.sizeOf3
  v3 := Try.zeroValue3
  t4 := Try.underlying4
  a4 := Try.isAgg4
  z4 := Try.sizeOf4
  v4 := Try.zeroValue4
  t22 := Try.underlying22
  a22 := Try.isAgg22
  z22 := Try.sizeOf22
  v22 := Try.zeroValue22
  i3 := by kernel_rfl }
open Go.RowKit Go.Lib in
theorem Try.slices_Clone_int (b off n c : Nat) (zs : List Int) (w : World) (hz : n ≤ zs.length) (hbig : n * 8 ≤ 140737488355328) (hc : ∀ j, j < zs.length → w.cell? ⟨b, off + j, none⟩ = some (.int .i64 (zs.getD j 0))) :
    Calls Try.prog 78 #[.slice (some ⟨b, off, none⟩) n c] w fun e w' => ∃ v', e = .returned v' ∧ w'.ownsRow w.heap.size 3 1 v' n ((zs.take n).map (Value.int .i64)) ∧ v' ≠ .slice none 0 0 ∧ Below w.heap.size w w' := Any.slices_Clone_int Try.laysNm215 b off n c zs w hz hbig hc
open Go.RowKit Go.Lib in
theorem Try.slices_Clone_int_nil (n c : Nat) (w : World) :
    Calls Try.prog 78 #[.slice none n c] w fun e w' => e = .returned (.slice none 0 0) ∧ w' = w := Any.slices_Clone_int_nil Try.laysNm215 n c w
open Go.RowKit Go.Lib in
theorem Try.slices_Clone_int_zero (a : Addr) (c : Nat) (w : World) :
    Calls Try.prog 78 #[.slice (some a) 0 c] w fun e w' => ∃ v', e = .returned v' ∧ w'.ownsRow w.heap.size 3 1 v' 0 [] ∧ v' ≠ .slice none 0 0 ∧ Below w.heap.size w w' := Any.slices_Clone_int_zero Try.laysNm215 a c w
def Try.laysNm220_ren : Go.Shelf.Ren := ⟨fun | 20 => 138 | n => n, fun | 22 => 22 | 3 => 3 | 4 => 4 | 0 => 0 | n => n, fun | n => n⟩
theorem Try.laysNm220 : Go.Proofs.Lays2.n20 Try.prog Try.laysNm220_ren := {
  mixed := by kernel_rfl
  f20 := Try.func138.trans (congrArg some (by kernel_rfl))
  t0 := Try.underlying0
  a0 := Try.isAgg0
  z0 := Try.sizeOf0
  v0 := Try.zeroValue0
  t3 := Try.underlying3
  a3 := Try.isAgg3
  z3 := Try.sizeOf3
  v3 := Try.zeroValue3
  t4 := Try.underlying4
  a4 := Try.isAgg4
  z4 := Try.sizeOf4
  v4 := Try.zeroValue4
  t22 := Try.underlying22
  a22 := Try.isAgg22
  z22 := Try.sizeOf22
  v22 := Try.zeroValue22
  i3 := by kernel_rfl }
open Go.RowKit Go.Lib Go.Sort in
theorem Try.slices_Compact_int (blk off cap : Nat) (zs : List Int) (w : World) (hH : Holds (Value.int .i64) w blk off zs.toArray) (hsz : zs.length ≤ 9223372036854775807) (hcap : zs.length ≤ cap) :
    Calls Try.prog 138 #[.slice (some ⟨blk, off, none⟩) zs.length cap] w fun e w' => e = .returned (.slice (some ⟨blk, off, none⟩) (Lib.compact zs).length cap) ∧ ∃ q, w' = putRow (Value.int .i64) (Sort.ahead w q) blk off (Lib.compact zs ++ List.replicate (zs.length - (Lib.compact zs).length) 0).toArray := Any.slices_Compact_int Try.laysNm220 blk off cap zs w hH hsz hcap
open Go.RowKit Go.Lib Go.Sort in
theorem Try.slices_Compact_int_empty (a : Option Addr) (cap : Nat) (w : World) :
    Calls Try.prog 138 #[.slice a 0 cap] w fun e w' => e = .returned (.slice a 0 cap) ∧ w' = w := Any.slices_Compact_int_empty Try.laysNm220 a cap w
open Go.RowKit Go.Sort in
theorem Try.slices_Sort_int_none (p : Option Addr) (cap : Nat) (w : World) :
    Calls Try.prog 148 #[.slice p 0 cap] w fun e w' => e = .returned (.tuple #[]) ∧ w' = w := Any.slices_Sort_int_none Try.lays189 p cap w
end Go.Proofs

/- How many different numbers a list has, as the program counts them: a clone, sorted and compacted. The sorted, compacted list of a list's numbers. -/
namespace Go.Sy
open Go Go.RowKit Go.Sort Go.Proofs Go.Shelf

set_option maxHeartbeats 2000000 in
set_option maxRecDepth 100000 in
theorem img_tail (n : Nat) (arg : Value) (ss : List Int) (w : World) (hn : n ≤ 1000000)
    (hclone : Calls Try.prog 78 #[arg] w fun e w' => ∃ v', e = .returned v' ∧ w'.ownsRow w.heap.size 3 1 v' n (ss.map (Value.int .i64)) ∧ v' ≠ .slice none 0 0 ∧ Below w.heap.size w w') :
    Calls Try.prog 123 #[arg] w fun e w' => e = .returned (.int .i64 (sq ss).length) ∧ Below w.heap.size w w' := by
  go_enter Try.func123, Try.ntmps123
  go_wp2_with (first
    | (go_at_call 78; refine hclone.mono ?_; rintro e w1 ⟨v1, rfl, hown, hnn, hbel⟩
       obtain ⟨g, cap, rfl, hbg, hgl, hncap, hcm, hlen, hH⟩ := Lib.holds_of_ownsRow hown hnn
       have hsort := Try.slices_Sort_int g 0 cap ss w1 hH hgl (by omega)
       rw [hlen] at hsort
       have X : Aside (Below w.heap.size w w1 ∧ w.heap.size ≤ g ∧ g < w1.heap.size ∧ n ≤ cap ∧ ss.length = n ∧ Holds (Value.int .i64) w1 g 0 ss.toArray) := ⟨hbel, hbg, hgl, hncap, hlen, hH⟩
       clear hown hbel hH hnn)
    | (go_at_call 148; refine hsort.mono ?_; rintro e w2 ⟨rfl, nn, os, rfl⟩
       have hl2 : (ss.mergeSort fun x y => decide (x ≤ y)).length = n := by rw [List.length_mergeSort]; exact X.out.2.2.2.2.1
       have hH2 : Holds (Value.int .i64) (grow (putRow (Value.int .i64) (Sort.ahead w1 nn) g 0 (ss.mergeSort fun x y => decide (x ≤ y)).toArray) os) g 0 (ss.mergeSort fun x y => decide (x ≤ y)).toArray :=
         holds_grow (Value.int .i64) _ os g 0 _ (by simpa [putRow, mapBlock, Sort.ahead] using X.out.2.2.1) (holds_putRow (Value.int .i64) _ g 0 _ _ (holds_ahead (Value.int .i64) w1 nn g 0 _ X.out.2.2.2.2.2) (by simp))
       have hcomp := Try.slices_Compact_int g 0 cap (ss.mergeSort fun x y => decide (x ≤ y)) _ hH2 (by omega) (by have := X.out.2.2.2.1; omega)
       rw [hl2] at hcomp
       clear hH2 hsort)
    | (go_at_call 138; refine hcomp.mono ?_; rintro e w3 ⟨rfl, q, rfl⟩))
  go_ret
  exact ⟨rfl, Lib.below_putRow (X.out.1.grown (grownBy_sortedI _) X.out.1.size (fun j hj => by cases hj; exact X.out.2.1)) X.out.2.1⟩

set_option maxHeartbeats 2000000 in
theorem img_nil_c (c : Nat) (w : World) : Calls Try.prog 123 #[.slice none 0 c] w fun e w' => e = .returned (.int .i64 0) ∧ w' = w := by
  go_enter Try.func123, Try.ntmps123
  go_wp2_with (first
    | (go_at_call 78; refine (Try.slices_Clone_int_nil 0 c _).mono ?_; rintro e w' ⟨rfl, rfl⟩)
    | (go_at_call 148; refine (Try.slices_Sort_int_none none 0 _).mono ?_; rintro e w' ⟨rfl, rfl⟩)
    | (go_at_call 138; refine (Try.slices_Compact_int_empty none 0 _).mono ?_; rintro e w' ⟨rfl, rfl⟩))
  go_ret
  exact ⟨rfl, rfl⟩

theorem cell_ltS {w : World} {b o : Nat} {v : Value} (h : w.cell? ⟨b, o, none⟩ = some v) : b < w.heap.size := by
  rcases Nat.lt_or_ge b w.heap.size with h1 | h1
  · exact h1
  · simp [World.cell?, Array.getElem?_eq_none h1] at h
theorem cw_below {C : CMap} {w w' : World} (hC : CW C w) (hb : Below w.heap.size w w') : CW C w' := fun b o v h =>
  ⟨by rw [hb.cell (p := ⟨b, o, none⟩) (cell_ltS (hC b o v h).1)]; exact (hC b o v h).1, (hC b o v h).2⟩
theorem intl_cells {C : CMap} {w : World} {v : Value} {l : List Int} {ρ : RMap} {τ : TMap} (hC : CW C w) (h : RV C ρ τ v (lv l)) :
    ∃ A c, v = .slice A l.length c ∧ l.length ≤ c ∧ (l ≠ [] → ∃ b o, A = some ⟨b, o, none⟩ ∧ ∀ j, j < l.length → w.cell? ⟨b, o + j, none⟩ = some (.int .i64 (l.getD j 0))) := by
  obtain ⟨A, c, cv, rfl, hc, hm, hcell, hrv, _⟩ := rv_list h
  have hlen : (l.map fun n => [iv n]).length = l.length := by simp
  refine ⟨A, c, by rw [hlen], by rw [← hlen]; exact hc, fun hne => ?_⟩
  have hpos : 0 < l.length := List.length_pos_iff.2 hne
  obtain ⟨_, b, o, hA, _⟩ := hcell 0 _ (List.getElem?_eq_getElem (by simp; exact hpos))
  refine ⟨b, o, hA, fun j hj => ?_⟩
  have hx : (l.map fun n => [iv n])[j]? = some [iv l[j]] := by simp [hj]
  obtain ⟨_, b', o', hA', hC'⟩ := hcell j _ hx
  rw [hA] at hA'
  injection hA' with hA'
  injection hA' with h1 h2
  subst h1; subst h2
  have h3 := (hC _ _ _ (hC' 0 (by omega))).1
  have h4 := rv_v (hrv j _ 0 _ hx rfl)
  rw [h4.1] at h3
  rw [getD_at hj]
  simpa using h3
set_option maxRecDepth 10000 in
theorem c123 (l : List Int) (h : l.length ≤ 1000000) : Con Try.prog 123 [lv l] 0 (iv (sq l).length) := by
  refine ⟨(enters_of Try.func123 (by kernel_rfl) rfl), fun C w vs hC hsz hrv => ?_⟩
  obtain ⟨vl⟩ := vs
  match vl, hsz with
  | [v], _ =>
    have hv := hrv 0 v (lv l) rfl rfl
    obtain ⟨A, c, rfl, _, hcell⟩ := intl_cells hC hv
    have fin : ∀ e w', (e = .returned (.int .i64 ((sq l).length : Int)) ∧ Below w.heap.size w w') → ∃ v C' τ', e = Ending.returned v ∧ Below w.heap.size w w' ∧ (∀ b o v, C b o = some v → C' b o = some v) ∧ (∀ b o v, C' b o = some v → C b o = some v ∨ w.heap.size ≤ b) ∧
        CW C' w' ∧ RV C' noρ τ' v (iv (sq l).length) ∧ Toks C' w' τ' 0 w.heap.size := fun e w' ⟨he, hb⟩ =>
      ⟨_, C, noτ, he, hb, fun _ _ _ h => h, fun _ _ _ h => .inl h, cw_below hC hb, .v _ rfl, ⟨fun _ _ h => (by cases h), fun _ _ _ h => (by cases h), fun _ _ _ _ _ _ _ h => (by cases h)⟩⟩
    by_cases hl : l = []
    · subst hl
      have e0 : (sq []).length = 0 := by have := sq_len []; simpa using this
      cases A with
      | none =>
        refine (img_nil_c c w).mono fun e w' hq => fin e w' ⟨by rw [hq.1, e0]; rfl, by rw [hq.2]; exact Below.refl _ _⟩
      | some a => exact (img_tail 0 _ [] w (by omega) (Try.slices_Clone_int_zero a c w)).mono fin
    · obtain ⟨b, o, rfl, hc2⟩ := hcell hl
      have hcl := Try.slices_Clone_int b o l.length c l w (Nat.le_refl _) (by omega) hc2
      rw [List.take_length] at hcl
      exact (img_tail l.length _ l w h hcl).mono fin
end Go.Sy

/- Contracts: partitions. -/
set_option linter.unusedSimpArgs false
namespace Go.Sy
open Go Go.Proofs

abbrev pOK (p : List Int) (i : Nat) : Prop := 0 ≤ p.getD i 0 ∧ p.getD i 0 ≤ i ∧ p.getD (p.getD i 0).toNat 0 = p.getD i 0
abbrev isP (p : List Int) : Prop := ∀ i, i < p.length → pOK p i
theorem c161 (p : List Int) : Con Try.prog 161 [lv p] 0 (bv (decide (isP p))) := by
  refine Con.assume (enters_of Try.func161 (by kernel_rfl) rfl) fun hb => ?_
  have hlen := bnd_lv (hb _ (List.mem_cons_self ..))
  refine conT (X := []) (rs := [.tmp 2]) Try.func161 (by kernel_rfl) rfl rfl (by kernel_rfl) ?_
  simp (dsimp := false) (maxDischargeDepth := 16) only [go_sem, ↓reduceIte, reduceCtorEq, Nat.reduceEqDiff, Nat.reduceAdd, Nat.reduceMul, Nat.reduceSub, Nat.reduceLT, Nat.reduceLeDiff, Nat.reducePow, Int.reduceLT, Int.reduceLE, Int.reduceNeg, Int.reduceToNat]
  refine loopK_intro (fun (i : Nat) s => i ≤ p.length ∧ s.t 0 = lv p ∧ s.t 5 = lv p ∧ s.t 6 = iv p.length ∧ s.t 7 = iv i ∧ ∀ j, j < i → pOK p j) (fun i => p.length - i) ⟨0, by omega, rfl, rfl, rfl, rfl, fun j hj => by omega⟩ ?_
  rintro i s ⟨hi, t0, t5, t6, t7, hn⟩
  simp (dsimp := false) (maxDischargeDepth := 16) only [go_sem, ↓reduceIte, reduceCtorEq, Nat.reduceEqDiff, Nat.reduceAdd, Nat.reduceMul, Nat.reduceSub, Nat.reduceLT, Nat.reduceLeDiff, Nat.reducePow, Int.reduceLT, Int.reduceLE, Int.reduceNeg, Int.reduceToNat, t0, t5, t6, t7]
  refine condK_dec (fun h6 => ?_) (fun h6 => ?_)
  · have e0 : p.getD i 0 = p[i] := getD_at h6
    have no : ¬ pOK p i → ¬ isP p := fun h h2 => h (h2 i h6)
    simp (dsimp := false) (maxDischargeDepth := 16) only [go_sem, ↓reduceIte, reduceCtorEq, Nat.reduceEqDiff, Nat.reduceAdd, Nat.reduceMul, Nat.reduceSub, Nat.reduceLT, Nat.reduceLeDiff, Nat.reducePow, Int.reduceLT, Int.reduceLE, Int.reduceNeg, Int.reduceToNat, t0, t5, t6, t7, h6, idx_nat]
    refine condK_dec (fun h8 => ?_) (fun h8 => ?_)
    · simp (dsimp := false) (maxDischargeDepth := 16) only [go_sem, ↓reduceIte, reduceCtorEq, Nat.reduceEqDiff, Nat.reduceAdd, Nat.reduceMul, Nat.reduceSub, Nat.reduceLT, Nat.reduceLeDiff, Nat.reducePow, Int.reduceLT, Int.reduceLE, Int.reduceNeg, Int.reduceToNat, t0, t5, t6, t7, h6, h8]
      exact finF' (no fun h => by have := h.1; omega)
    simp (dsimp := false) (maxDischargeDepth := 16) only [go_sem, ↓reduceIte, reduceCtorEq, Nat.reduceEqDiff, Nat.reduceAdd, Nat.reduceMul, Nat.reduceSub, Nat.reduceLT, Nat.reduceLeDiff, Nat.reducePow, Int.reduceLT, Int.reduceLE, Int.reduceNeg, Int.reduceToNat, t0, t5, t6, t7, h6, h8]
    refine condK_dec (fun h9 => ?_) (fun h9 => ?_)
    · simp (dsimp := false) (maxDischargeDepth := 16) only [go_sem, ↓reduceIte, reduceCtorEq, Nat.reduceEqDiff, Nat.reduceAdd, Nat.reduceMul, Nat.reduceSub, Nat.reduceLT, Nat.reduceLeDiff, Nat.reducePow, Int.reduceLT, Int.reduceLE, Int.reduceNeg, Int.reduceToNat, t0, t5, t6, t7, h6, h8, h9]
      exact finF' (no fun h => by have := h.2.1; omega)
    have r1 : 0 ≤ p[i] := by omega
    have r2 : p[i].toNat < p.length := by omega
    simp (dsimp := false) (maxDischargeDepth := 16) only [go_sem, ↓reduceIte, reduceCtorEq, Nat.reduceEqDiff, Nat.reduceAdd, Nat.reduceMul, Nat.reduceSub, Nat.reduceLT, Nat.reduceLeDiff, Nat.reducePow, Int.reduceLT, Int.reduceLE, Int.reduceNeg, Int.reduceToNat, t0, t5, t6, t7, h6, h8, h9, idx_int, r1, r2]
    refine condK_intro (fun h10 => ?_) (fun h10 => ?_)
    · simp (dsimp := false) (maxDischargeDepth := 16) only [go_sem, ↓reduceIte, reduceCtorEq, Nat.reduceEqDiff, Nat.reduceAdd, Nat.reduceMul, Nat.reduceSub, Nat.reduceLT, Nat.reduceLeDiff, Nat.reducePow, Int.reduceLT, Int.reduceLE, Int.reduceNeg, Int.reduceToNat, t0, t5, t6, t7, h6, h8, h9, h10]
      exact finF' (no fun h => by have h3 := h.2.2; rw [e0, getD_at r2] at h3; exact ineq h10 h3)
    · simp (dsimp := false) (maxDischargeDepth := 16) only [go_sem, ↓reduceIte, reduceCtorEq, Nat.reduceEqDiff, Nat.reduceAdd, Nat.reduceMul, Nat.reduceSub, Nat.reduceLT, Nat.reduceLeDiff, Nat.reducePow, Int.reduceLT, Int.reduceLE, Int.reduceNeg, Int.reduceToNat, t0, t5, t6, t7, h6, h8, h9, h10]
      refine ⟨i + 1, by omega, by omega, by rw [wrapN _ (by omega)], fun j hj => ?_⟩
      by_cases hji : j = i
      · subst hji
        refine ⟨by omega, by omega, ?_⟩
        rw [e0, getD_at r2]
        exact ieq h10
      · exact hn j (by omega)
  · simp (dsimp := false) (maxDischargeDepth := 16) only [go_sem, ↓reduceIte, reduceCtorEq, Nat.reduceEqDiff, Nat.reduceAdd, Nat.reduceMul, Nat.reduceSub, Nat.reduceLT, Nat.reduceLeDiff, Nat.reducePow, Int.reduceLT, Int.reduceLE, Int.reduceNeg, Int.reduceToNat, t0, t5, t6, t7, h6]
    refine finT ?_
    intro j hj
    exact hn j (by omega)
theorem c146 (p : List Int) : Con Try.prog 146 [lv p] 0 (iv (if p.length ≤ 80 then (if isP p then 0 else 1) else 3)) := by
  refine conT (X := []) (rs := [.tmp 2]) Try.func146 (by kernel_rfl) rfl rfl (by kernel_rfl) ?_
  simp (dsimp := false) (maxDischargeDepth := 16) only [go_sem, ↓reduceIte, reduceCtorEq, Nat.reduceEqDiff, Nat.reduceAdd, Nat.reduceMul, Nat.reduceSub, Nat.reduceLT, Nat.reduceLeDiff, Nat.reducePow, Int.reduceLT, Int.reduceLE, Int.reduceNeg, Int.reduceToNat]
  refine condK_dec (fun h1 => ?_) (fun h1 => ?_)
  · simp (dsimp := false) (maxDischargeDepth := 16) only [go_sem, ↓reduceIte, reduceCtorEq, Nat.reduceEqDiff, Nat.reduceAdd, Nat.reduceMul, Nat.reduceSub, Nat.reduceLT, Nat.reduceLeDiff, Nat.reducePow, Int.reduceLT, Int.reduceLE, Int.reduceNeg, Int.reduceToNat, h1]
    exact finI (if_neg (by omega))
  simp (dsimp := false) (maxDischargeDepth := 16) only [go_sem, ↓reduceIte, reduceCtorEq, Nat.reduceEqDiff, Nat.reduceAdd, Nat.reduceMul, Nat.reduceSub, Nat.reduceLT, Nat.reduceLeDiff, Nat.reducePow, Int.reduceLT, Int.reduceLE, Int.reduceNeg, Int.reduceToNat, h1]
  refine callK_intro (c161 p) ?_
  simp (dsimp := false) (maxDischargeDepth := 16) only [go_sem, ↓reduceIte, reduceCtorEq, Nat.reduceEqDiff, Nat.reduceAdd, Nat.reduceMul, Nat.reduceSub, Nat.reduceLT, Nat.reduceLeDiff, Nat.reducePow, Int.reduceLT, Int.reduceLE, Int.reduceNeg, Int.reduceToNat, h1]
  refine condK_intro (fun h2 => ?_) (fun h2 => ?_)
  · simp (dsimp := false) (maxDischargeDepth := 16) only [go_sem, ↓reduceIte, reduceCtorEq, Nat.reduceEqDiff, Nat.reduceAdd, Nat.reduceMul, Nat.reduceSub, Nat.reduceLT, Nat.reduceLeDiff, Nat.reducePow, Int.reduceLT, Int.reduceLE, Int.reduceNeg, Int.reduceToNat, h1, h2]
    exact finI (by rw [if_pos (by omega), if_neg (ndec h2)])
  · simp (dsimp := false) (maxDischargeDepth := 16) only [go_sem, ↓reduceIte, reduceCtorEq, Nat.reduceEqDiff, Nat.reduceAdd, Nat.reduceMul, Nat.reduceSub, Nat.reduceLT, Nat.reduceLeDiff, Nat.reducePow, Int.reduceLT, Int.reduceLE, Int.reduceNeg, Int.reduceToNat, h1, h2]
    exact finI (by rw [if_pos (by omega), if_pos (ydec h2)])
/-- The numbers of the classes of the first elements, and how many classes these have. -/
def nq (p : List Int) : Nat → List Int × Int
  | 0 => ([], 0)
  | i + 1 => if p.getD i 0 = i then ((nq p i).1 ++ [(nq p i).2], (nq p i).2 + 1) else ((nq p i).1 ++ [(nq p i).1.getD (p.getD i 0).toNat 0], (nq p i).2)
theorem nq_len (p : List Int) (i : Nat) : (nq p i).1.length = i := by
  induction i with
  | zero => rfl
  | succ i ih => unfold nq; split <;> simp [ih]
theorem nq_bound (p : List Int) (i : Nat) : 0 ≤ (nq p i).2 ∧ (nq p i).2 ≤ i := by
  induction i with
  | zero => simp [nq]
  | succ i ih => unfold nq; split <;> simp <;> omega
theorem nq_root {p : List Int} {i : Nat} (h : i < p.length) (h1 : p[i] = i) : nq p (i + 1) = ((nq p i).1 ++ [(nq p i).2], (nq p i).2 + 1) := by rw [nq, getD_at h, if_pos h1]
theorem nq_kid {p : List Int} {i : Nat} (h : i < p.length) (h1 : p[i] ≠ i) (h2 : p[i].toNat < (nq p i).1.length) : nq p (i + 1) = ((nq p i).1 ++ [(nq p i).1[p[i].toNat]], (nq p i).2) := by
  rw [nq, getD_at h, if_neg h1, getD_at h2]
theorem c121 (p : List Int) (hl : p.length ≤ 80) (hp : isP p) : Con Try.prog 121 [lv p] 0 (.tup [lv (nq p p.length).1, iv (nq p p.length).2, iv 0]) := by
  refine conT (X := []) (rs := [.tmp 2, .tmp 3, .tmp 4]) Try.func121 (by kernel_rfl) rfl rfl (by kernel_rfl) ?_
  simp (dsimp := false) (maxDischargeDepth := 16) only [go_sem, ↓reduceIte, reduceCtorEq, Nat.reduceEqDiff, Nat.reduceAdd, Nat.reduceMul, Nat.reduceSub, Nat.reduceLT, Nat.reduceLeDiff, Nat.reducePow, Int.reduceLT, Int.reduceLE, Int.reduceNeg, Int.reduceToNat]
  refine callK_intro (c146 p) ?_
  have e0 : (if p.length ≤ 80 then (if isP p then 0 else 1) else 3 : Int) = 0 := by rw [if_pos hl, if_pos hp]
  rw [e0]
  simp (dsimp := false) (maxDischargeDepth := 16) only [go_sem, ↓reduceIte, reduceCtorEq, Nat.reduceEqDiff, Nat.reduceAdd, Nat.reduceMul, Nat.reduceSub, Nat.reduceLT, Nat.reduceLeDiff, Nat.reducePow, Int.reduceLT, Int.reduceLE, Int.reduceNeg, Int.reduceToNat]
  refine condK_intro (fun h1 => absurd h1 (by decide)) (fun h1 => ?_)
  simp (dsimp := false) (maxDischargeDepth := 16) only [go_sem, ↓reduceIte, reduceCtorEq, Nat.reduceEqDiff, Nat.reduceAdd, Nat.reduceMul, Nat.reduceSub, Nat.reduceLT, Nat.reduceLeDiff, Nat.reducePow, Int.reduceLT, Int.reduceLE, Int.reduceNeg, Int.reduceToNat, h1]
  refine loopK_intro (fun (i : Nat) s => i ≤ p.length ∧ s.t 15 = lv p ∧ s.t 16 = iv p.length ∧ s.t 17 = iv i ∧ s.t 7 = iv (nq p i).2 ∧ ∃ tk, s.t 6 = lvT (nq p i).1 tk ∧ tokOK s tk = true) (fun i => p.length - i)
    ?_ ?_
  · exact ⟨0, by omega, rfl, rfl, rfl, rfl, .nil, rfl, rfl⟩
  rintro i s ⟨hi, t15, t16, t17, t7, tk, t6, htk⟩
  have hnl := nq_len p i
  have hnb := nq_bound p i
  simp (dsimp := false) (maxDischargeDepth := 16) only [go_sem, ↓reduceIte, reduceCtorEq, Nat.reduceEqDiff, Nat.reduceAdd, Nat.reduceMul, Nat.reduceSub, Nat.reduceLT, Nat.reduceLeDiff, Nat.reducePow, Int.reduceLT, Int.reduceLE, Int.reduceNeg, Int.reduceToNat, t15, t16, t17, t7, t6]
  refine condK_dec (fun h6 => ?_) (fun h6 => ?_)
  · simp (dsimp := false) (maxDischargeDepth := 16) only [go_sem, ↓reduceIte, reduceCtorEq, Nat.reduceEqDiff, Nat.reduceAdd, Nat.reduceMul, Nat.reduceSub, Nat.reduceLT, Nat.reduceLeDiff, Nat.reducePow, Int.reduceLT, Int.reduceLE, Int.reduceNeg, Int.reduceToNat, t15, t16, t17, t7, t6, h6, idx_nat]
    refine condK_intro (fun h8 => ?_) (fun h8 => ?_)
    · simp (dsimp := false) (maxDischargeDepth := 16) only [go_sem, ↓reduceIte, reduceCtorEq, Nat.reduceEqDiff, Nat.reduceAdd, Nat.reduceMul, Nat.reduceSub, Nat.reduceLT, Nat.reduceLeDiff, Nat.reducePow, Int.reduceLT, Int.reduceLE, Int.reduceNeg, Int.reduceToNat, t15, t16, t17, t7, t6, h6, h8, htk]
      refine ⟨⟨by omega, by omega⟩, i + 1, by omega, by omega, by rw [wrapN _ (by omega)], ?_, .own (28, s.g 28, 0), ?_, ?_⟩
      · rw [nq_root h6 (beqT h8), wrap_i64 _ (by omega) (by omega)]
      · rw [nq_root h6 (beqT h8)]
        simp only [map1_app]
      · simp (dsimp := false) (maxDischargeDepth := 16) only [go_sem, ↓reduceIte, reduceCtorEq, Nat.reduceEqDiff, Nat.reduceAdd, Nat.reduceMul, Nat.reduceSub, Nat.reduceLT, Nat.reduceLeDiff, Nat.reducePow, Int.reduceLT, Int.reduceLE, Int.reduceNeg, Int.reduceToNat]
    · have h9 := hp i h6
      rw [pOK, getD_at h6] at h9
      have h10 : p[i].toNat < (nq p i).1.length := by
        have := beqF h8
        rw [hnl]
        omega
      simp (dsimp := false) (maxDischargeDepth := 16) only [go_sem, ↓reduceIte, reduceCtorEq, Nat.reduceEqDiff, Nat.reduceAdd, Nat.reduceMul, Nat.reduceSub, Nat.reduceLT, Nat.reduceLeDiff, Nat.reducePow, Int.reduceLT, Int.reduceLE, Int.reduceNeg, Int.reduceToNat, t15, t16, t17, t7, t6, h6, h8, htk, idx_int, h9.1, h10]
      refine ⟨⟨by omega, by omega⟩, i + 1, by omega, by omega, by rw [wrapN _ (by omega)], ?_, .own (37, s.g 37, 0), ?_, ?_⟩
      · rw [nq_kid h6 (beqF h8) h10]
      · rw [nq_kid h6 (beqF h8) h10]
        simp only [map1_app]
      · simp (dsimp := false) (maxDischargeDepth := 16) only [go_sem, ↓reduceIte, reduceCtorEq, Nat.reduceEqDiff, Nat.reduceAdd, Nat.reduceMul, Nat.reduceSub, Nat.reduceLT, Nat.reduceLeDiff, Nat.reducePow, Int.reduceLT, Int.reduceLE, Int.reduceNeg, Int.reduceToNat]
  · simp (dsimp := false) (maxDischargeDepth := 16) only [go_sem, ↓reduceIte, reduceCtorEq, Nat.reduceEqDiff, Nat.reduceAdd, Nat.reduceMul, Nat.reduceSub, Nat.reduceLT, Nat.reduceLeDiff, Nat.reducePow, Int.reduceLT, Int.reduceLE, Int.reduceNeg, Int.reduceToNat, t15, t16, t17, t7, t6, h6]
    have : i = p.length := by omega
    subst this
    exact finK ⟨rfl, rfl⟩
theorem c162 (p : List Int) (hl : p.length ≤ 80) (hp : isP p) : Con Try.prog 162 [lv p] 0 (lv (nq p p.length).1) := by
  refine conT (X := []) (rs := [.tmp 2]) Try.func162 (by kernel_rfl) rfl rfl (by kernel_rfl) ?_
  simp (dsimp := false) (maxDischargeDepth := 16) only [go_sem, ↓reduceIte, reduceCtorEq, Nat.reduceEqDiff, Nat.reduceAdd, Nat.reduceMul, Nat.reduceSub, Nat.reduceLT, Nat.reduceLeDiff, Nat.reducePow, Int.reduceLT, Int.reduceLE, Int.reduceNeg, Int.reduceToNat]
  refine loopK_intro (fun (i : Nat) s => i ≤ p.length ∧ s.t 0 = lv p ∧ s.t 5 = iv i ∧ s.t 4 = iv (nq p i).2 ∧ ∃ tk, s.t 3 = lvT (nq p i).1 tk ∧ tokOK s tk = true) (fun i => p.length - i)
    ?_ ?_
  · exact ⟨0, by omega, rfl, rfl, rfl, .nil, rfl, rfl⟩
  rintro i s ⟨hi, t0, t5, t4, tk, t3, htk⟩
  have hnl := nq_len p i
  have hnb := nq_bound p i
  simp (dsimp := false) (maxDischargeDepth := 16) only [go_sem, ↓reduceIte, reduceCtorEq, Nat.reduceEqDiff, Nat.reduceAdd, Nat.reduceMul, Nat.reduceSub, Nat.reduceLT, Nat.reduceLeDiff, Nat.reducePow, Int.reduceLT, Int.reduceLE, Int.reduceNeg, Int.reduceToNat, t0, t5, t4, t3]
  refine condK_dec (fun h6 => ?_) (fun h6 => ?_)
  · simp (dsimp := false) (maxDischargeDepth := 16) only [go_sem, ↓reduceIte, reduceCtorEq, Nat.reduceEqDiff, Nat.reduceAdd, Nat.reduceMul, Nat.reduceSub, Nat.reduceLT, Nat.reduceLeDiff, Nat.reducePow, Int.reduceLT, Int.reduceLE, Int.reduceNeg, Int.reduceToNat, t0, t5, t4, t3, h6, idx_nat]
    refine condK_intro (fun h8 => ?_) (fun h8 => ?_)
    · simp (dsimp := false) (maxDischargeDepth := 16) only [go_sem, ↓reduceIte, reduceCtorEq, Nat.reduceEqDiff, Nat.reduceAdd, Nat.reduceMul, Nat.reduceSub, Nat.reduceLT, Nat.reduceLeDiff, Nat.reducePow, Int.reduceLT, Int.reduceLE, Int.reduceNeg, Int.reduceToNat, t0, t5, t4, t3, h6, h8, htk]
      refine ⟨⟨by omega, by omega⟩, i + 1, by omega, by omega, by rw [wrapN _ (by omega)], ?_, .own (21, s.g 21, 0), ?_, ?_⟩
      · rw [nq_root h6 (beqT h8), wrap_i64 _ (by omega) (by omega)]
      · rw [nq_root h6 (beqT h8)]
        simp only [map1_app]
      · simp (dsimp := false) (maxDischargeDepth := 16) only [go_sem, ↓reduceIte, reduceCtorEq, Nat.reduceEqDiff, Nat.reduceAdd, Nat.reduceMul, Nat.reduceSub, Nat.reduceLT, Nat.reduceLeDiff, Nat.reducePow, Int.reduceLT, Int.reduceLE, Int.reduceNeg, Int.reduceToNat]
    · have h9 := hp i h6
      rw [pOK, getD_at h6] at h9
      have h10 : p[i].toNat < (nq p i).1.length := by
        have := beqF h8
        rw [hnl]
        omega
      simp (dsimp := false) (maxDischargeDepth := 16) only [go_sem, ↓reduceIte, reduceCtorEq, Nat.reduceEqDiff, Nat.reduceAdd, Nat.reduceMul, Nat.reduceSub, Nat.reduceLT, Nat.reduceLeDiff, Nat.reducePow, Int.reduceLT, Int.reduceLE, Int.reduceNeg, Int.reduceToNat, t0, t5, t4, t3, h6, h8, htk, idx_nat, idx_int, h9.1, h10]
      refine ⟨⟨by omega, by omega⟩, i + 1, by omega, by omega, by rw [wrapN _ (by omega)], ?_, .own (33, s.g 33, 0), ?_, ?_⟩
      · rw [nq_kid h6 (beqF h8) h10]
      · rw [nq_kid h6 (beqF h8) h10]
        simp only [map1_app]
      · simp (dsimp := false) (maxDischargeDepth := 16) only [go_sem, ↓reduceIte, reduceCtorEq, Nat.reduceEqDiff, Nat.reduceAdd, Nat.reduceMul, Nat.reduceSub, Nat.reduceLT, Nat.reduceLeDiff, Nat.reducePow, Int.reduceLT, Int.reduceLE, Int.reduceNeg, Int.reduceToNat]
  · simp (dsimp := false) (maxDischargeDepth := 16) only [go_sem, ↓reduceIte, reduceCtorEq, Nat.reduceEqDiff, Nat.reduceAdd, Nat.reduceMul, Nat.reduceSub, Nat.reduceLT, Nat.reduceLeDiff, Nat.reducePow, Int.reduceLT, Int.reduceLE, Int.reduceNeg, Int.reduceToNat, t0, t5, t4, t3, h6]
    have : i = p.length := by omega
    subst this
    exact finK ⟨rfl, rfl⟩
end Go.Sy

/- Contracts: all partitions; what is alike. -/
set_option linter.unusedSimpArgs false
namespace Go.Sy
open Go Go.Proofs

def llvT (l : List (List Int)) (tk : Tok) : AV := .list 1 (l.map fun p => [lv p]) tk
def llv (l : List (List Int)) : AV := llvT l .no
attribute [go_sem] llvT llv
/-- The partitions of one more element than p has, with classes from 0 to below j. -/
def ext (p : List Int) (i j : Nat) : List (List Int) := ((List.range j).filter fun (x : Nat) => decide (x = i) || decide (p.getD x 0 = (x : Int))).map fun (x : Nat) => p ++ [(x : Int)]
def allP : Nat → List (List Int)
  | 0 => [[]]
  | i + 1 => (allP i).flatMap fun p => ext p i (i + 1)
theorem ext_yes {p : List Int} {i j : Nat} (h : j = i ∨ p.getD j 0 = (j : Int)) : ext p i (j + 1) = ext p i j ++ [p ++ [(j : Int)]] := by
  unfold ext
  rw [List.range_succ, List.filter_append, List.map_append]
  congr 1
  simp only [List.filter_cons, List.filter_nil]
  rw [if_pos (by simpa using h)]
  rfl
theorem ext_no {p : List Int} {i j : Nat} (h : ¬ (j = i ∨ p.getD j 0 = (j : Int))) : ext p i (j + 1) = ext p i j := by
  unfold ext
  rw [List.range_succ, List.filter_append, List.map_append]
  simp only [List.filter_cons, List.filter_nil]
  rw [if_neg (by simpa using h)]
  simp
theorem ext_len (p : List Int) (i j : Nat) : (ext p i j).length ≤ j := by
  unfold ext
  rw [List.length_map]
  exact Nat.le_trans (List.length_filter_le _ _) (by simp)
theorem ext_mem {p : List Int} {i j : Nat} {q : List Int} (h : q ∈ ext p i j) : q.length = p.length + 1 := by
  unfold ext at h
  obtain ⟨x, _, rfl⟩ := List.mem_map.1 h
  simp
theorem allP_mem : ∀ (i : Nat) (p : List Int), p ∈ allP i → p.length = i
  | 0, p, h => by simp [allP] at h; simp [h]
  | i + 1, p, h => by
    unfold allP at h
    obtain ⟨q, hq, h⟩ := List.mem_flatMap.1 h
    rw [ext_mem h, allP_mem i q hq]
theorem flat_len {α β : Type} {f : α → List β} {k : Nat} (h : ∀ x, (f x).length ≤ k) : ∀ l : List α, (l.flatMap f).length ≤ l.length * k
  | [] => by simp
  | x :: l => by
    rw [List.flatMap_cons, List.length_append, List.length_cons, Nat.add_mul]
    have := h x
    have := flat_len h l
    omega
theorem allP_len : ∀ i, i ≤ 7 → (allP i).length ≤ 8 ^ i
  | 0, _ => by simp [allP]
  | i + 1, hi => by
    unfold allP
    have h := flat_len (f := fun p => ext p i (i + 1)) (k := 8) (fun p => Nat.le_trans (ext_len _ _ _) (by omega)) (allP i)
    have := allP_len i (by omega)
    rw [Nat.pow_succ]
    exact Nat.le_trans h (Nat.mul_le_mul_right _ this)
theorem take_flat {α β : Type} {f : α → List β} {l : List α} {m : Nat} (h : m < l.length) : (l.take (m + 1)).flatMap f = (l.take m).flatMap f ++ f l[m] := by
  rw [List.take_add_one, List.getElem?_eq_getElem h, List.flatMap_append]
  simp
theorem mapL_app (l : List (List Int)) (x : List Int) : (l ++ [x]).map (fun p => [AV.list 1 (p.map fun n => [AV.v (.int .i64 n)]) .no]) = l.map (fun p => [AV.list 1 (p.map fun n => [AV.v (.int .i64 n)]) .no]) ++ [[AV.list 1 (x.map fun n => [AV.v (.int .i64 n)]) .no]] := by simp
set_option maxHeartbeats 1000000 in
theorem c64 (n : Nat) (hn : n ≤ 7) : Con Try.prog 64 [iv n] 0 (.tup [llv (allP n), iv 0]) := by
  refine conT (X := []) (rs := [.tmp 2, .tmp 3]) Try.func64 (by kernel_rfl) rfl rfl (by kernel_rfl) ?_
  simp (dsimp := false) (maxDischargeDepth := 16) only [go_sem, ↓reduceIte, reduceCtorEq, Nat.reduceEqDiff, Nat.reduceAdd, Nat.reduceMul, Nat.reduceSub, Nat.reduceLT, Nat.reduceLeDiff, Nat.reducePow, Int.reduceLT, Int.reduceLE, Int.reduceNeg, Int.reduceToNat]
  refine condK_dec (fun h1 => ?_) (fun h1 => ?_)
  · omega
  simp (dsimp := false) (maxDischargeDepth := 16) only [go_sem, ↓reduceIte, reduceCtorEq, Nat.reduceEqDiff, Nat.reduceAdd, Nat.reduceMul, Nat.reduceSub, Nat.reduceLT, Nat.reduceLeDiff, Nat.reducePow, Int.reduceLT, Int.reduceLE, Int.reduceNeg, Int.reduceToNat, h1]
  refine condK_dec (fun h2 => ?_) (fun h2 => ?_)
  · omega
  simp (dsimp := false) (maxDischargeDepth := 16) only [go_sem, ↓reduceIte, reduceCtorEq, Nat.reduceEqDiff, Nat.reduceAdd, Nat.reduceMul, Nat.reduceSub, Nat.reduceLT, Nat.reduceLeDiff, Nat.reducePow, Int.reduceLT, Int.reduceLE, Int.reduceNeg, Int.reduceToNat, h1, h2]
  refine loopK_intro (fun (i : Nat) s => i ≤ n ∧ s.t 15 = iv n ∧ s.t 16 = iv i ∧ ∃ tk, s.t 4 = llvT (allP i) tk) (fun i => n - i) ?_ ?_
  · exact ⟨0, by omega, rfl, rfl, _, rfl⟩
  clear h1 h2
  rintro i s ⟨hi, t15, t16, tk, t4⟩
  simp (dsimp := false) (maxDischargeDepth := 16) only [go_sem, ↓reduceIte, reduceCtorEq, Nat.reduceEqDiff, Nat.reduceAdd, Nat.reduceMul, Nat.reduceSub, Nat.reduceLT, Nat.reduceLeDiff, Nat.reducePow, Int.reduceLT, Int.reduceLE, Int.reduceNeg, Int.reduceToNat, t15, t16, t4]
  refine condK_dec (fun h6 => ?_) (fun h6 => ?_)
  rotate_left
  · simp (dsimp := false) (maxDischargeDepth := 16) only [go_sem, ↓reduceIte, reduceCtorEq, Nat.reduceEqDiff, Nat.reduceAdd, Nat.reduceMul, Nat.reduceSub, Nat.reduceLT, Nat.reduceLeDiff, Nat.reducePow, Int.reduceLT, Int.reduceLE, Int.reduceNeg, Int.reduceToNat, t15, t16, t4, h6]
    have : i = n := by omega
    subst this
    exact finK ⟨rfl, rfl⟩
  simp (dsimp := false) (maxDischargeDepth := 16) only [go_sem, ↓reduceIte, reduceCtorEq, Nat.reduceEqDiff, Nat.reduceAdd, Nat.reduceMul, Nat.reduceSub, Nat.reduceLT, Nat.reduceLeDiff, Nat.reducePow, Int.reduceLT, Int.reduceLE, Int.reduceNeg, Int.reduceToNat, t15, t16, t4, h6]
  have hal := allP_len i (by omega)
  have h8 : 8 ^ i ≤ 8 ^ 7 := Nat.pow_le_pow_right (by decide) (by omega)
  refine loopK_intro (fun (m : Nat) s => m ≤ (allP i).length ∧ s.t 15 = iv n ∧ s.t 16 = iv i ∧ s.t 5 = iv i ∧ (∃ tk, s.t 19 = llvT (allP i) tk) ∧ s.t 20 = iv (allP i).length ∧ s.t 21 = iv m ∧
    ∃ tk, s.t 6 = llvT (((allP i).take m).flatMap fun p => ext p i (i + 1)) tk ∧ tokOK s tk = true ∧ tkIn [(48, 0)] tk = true) (fun m => (allP i).length - m) ?_ ?_
  · exact ⟨0, by omega, t15, t16, rfl, ⟨_, rfl⟩, rfl, rfl, .nil, rfl, rfl, rfl⟩
  have hlt : i < n := h6
  clear t15 t16 t4 tk h6
  rintro m s ⟨hm, t15, t16, t5, ⟨tk0, t19⟩, t20, t21, tk, t6, htk, hin⟩
  simp (dsimp := false) (maxDischargeDepth := 16) only [go_sem, ↓reduceIte, reduceCtorEq, Nat.reduceEqDiff, Nat.reduceAdd, Nat.reduceMul, Nat.reduceSub, Nat.reduceLT, Nat.reduceLeDiff, Nat.reducePow, Int.reduceLT, Int.reduceLE, Int.reduceNeg, Int.reduceToNat, t15, t16, t5, t19, t20, t21, t6]
  refine condK_dec (fun h6 => ?_) (fun h6 => ?_)
  rotate_left
  · simp (dsimp := false) (maxDischargeDepth := 16) only [go_sem, ↓reduceIte, reduceCtorEq, Nat.reduceEqDiff, Nat.reduceAdd, Nat.reduceMul, Nat.reduceSub, Nat.reduceLT, Nat.reduceLeDiff, Nat.reducePow, Int.reduceLT, Int.reduceLE, Int.reduceNeg, Int.reduceToNat, t15, t16, t5, t19, t20, t21, t6, h6]
    have : m = (allP i).length := by omega
    subst this
    refine ⟨i + 1, by omega, by omega, by rw [wrapN _ (by omega)], tk, ?_⟩
    rw [List.take_length]
    rfl
  have w1 : IntKind.i64.wrap ((i : Int) + 1) = (i : Int) + 1 := wrap_i64 _ (by omega) (by omega)
  have hpl := allP_mem i _ (List.getElem_mem h6)
  simp (dsimp := false) (maxDischargeDepth := 16) only [go_sem, ↓reduceIte, reduceCtorEq, Nat.reduceEqDiff, Nat.reduceAdd, Nat.reduceMul, Nat.reduceSub, Nat.reduceLT, Nat.reduceLeDiff, Nat.reducePow, Int.reduceLT, Int.reduceLE, Int.reduceNeg, Int.reduceToNat, t15, t16, t5, t19, t20, t21, t6, h6, idx_nat, w1]
  refine loopK_intro (fun (j : Nat) s => j ≤ i + 1 ∧ s.t 15 = iv n ∧ s.t 16 = iv i ∧ s.t 5 = iv i ∧ (∃ tk, s.t 19 = llvT (allP i) tk) ∧ s.t 20 = iv (allP i).length ∧ s.t 21 = iv m ∧ s.t 8 = lv (allP i)[m] ∧ s.t 26 = iv (i + 1) ∧ s.t 27 = iv j ∧
    ∃ tk, s.t 6 = llvT ((((allP i).take m).flatMap fun p => ext p i (i + 1)) ++ ext (allP i)[m] i j) tk ∧ tokOK s tk = true ∧ tkIn [(48, 0)] tk = true) (fun j => i + 1 - j) ?_ ?_
  · refine ⟨0, by omega, t15, t16, t5, ⟨_, t19⟩, t20, t21, rfl, rfl, rfl, tk, ?_, ?_, hin⟩
    · have : ext (allP i)[m] i 0 = [] := rfl
      rw [this, List.append_nil]
      exact t6
    · simp (dsimp := false) (maxDischargeDepth := 16) only [go_sem, ↓reduceIte, reduceCtorEq, Nat.reduceEqDiff, Nat.reduceAdd, Nat.reduceMul, Nat.reduceSub, Nat.reduceLT, Nat.reduceLeDiff, Nat.reducePow, Int.reduceLT, Int.reduceLE, Int.reduceNeg, Int.reduceToNat, htk]
  clear t15 t16 t5 t19 t20 t21 t6 htk hin tk tk0
  have hcur := flat_len (f := fun p => ext p i (i + 1)) (k := i + 1) (fun p => ext_len _ _ _) ((allP i).take m)
  have hcur2 : ((allP i).take m).length * (i + 1) ≤ 8 ^ 7 * 8 := Nat.mul_le_mul (by rw [List.length_take]; omega) (by omega)
  have hnext : ((allP i).take (m + 1)).flatMap (fun p => ext p i (i + 1)) = (((allP i).take m).flatMap fun p => ext p i (i + 1)) ++ ext (allP i)[m] i (i + 1) := take_flat h6
  generalize ((allP i).take m).flatMap (fun p => ext p i (i + 1)) = cur at *
  generalize (allP i)[m] = p at *
  rintro j s ⟨hj, t15, t16, t5, ⟨tk0, t19⟩, t20, t21, t8, t26, t27, tk, t6, htk, hin⟩
  have hex := ext_len p i j
  have hsum : (cur ++ ext p i j).length ≤ 100000000 := by rw [List.length_append]; omega
  simp (dsimp := false) (maxDischargeDepth := 16) only [go_sem, ↓reduceIte, reduceCtorEq, Nat.reduceEqDiff, Nat.reduceAdd, Nat.reduceMul, Nat.reduceSub, Nat.reduceLT, Nat.reduceLeDiff, Nat.reducePow, Int.reduceLT, Int.reduceLE, Int.reduceNeg, Int.reduceToNat, t15, t16, t5, t19, t20, t21, t8, t26, t27, t6]
  refine condK_dec (fun h7 => ?_) (fun h7 => ?_)
  rotate_left
  · simp (dsimp := false) (maxDischargeDepth := 16) only [go_sem, ↓reduceIte, reduceCtorEq, Nat.reduceEqDiff, Nat.reduceAdd, Nat.reduceMul, Nat.reduceSub, Nat.reduceLT, Nat.reduceLeDiff, Nat.reducePow, Int.reduceLT, Int.reduceLE, Int.reduceNeg, Int.reduceToNat, t15, t16, t5, t19, t20, t21, t8, t26, t27, t6, h7]
    have : j = i + 1 := by omega
    subst this
    exact ⟨m + 1, by omega, by omega, ⟨tk0, rfl⟩, by rw [wrapN _ (by omega)], tk, by rw [hnext], by simp (dsimp := false) (maxDischargeDepth := 16) only [go_sem, ↓reduceIte, reduceCtorEq, Nat.reduceEqDiff, Nat.reduceAdd, Nat.reduceMul, Nat.reduceSub, Nat.reduceLT, Nat.reduceLeDiff, Nat.reducePow, Int.reduceLT, Int.reduceLE, Int.reduceNeg, Int.reduceToNat, htk], hin⟩
  have kk : ∀ (s : St) (d n : Nat) (x : AV) (γ : Nat), tokOK s tk = true → tokOK (s.ntok d n x (some (43, γ, 0))) tk = true := fun s d n x γ h => tk_kill (t1 := .own (43, γ, 0)) (l1 := [(43, 0)]) rfl hin rfl h
  have w2 : IntKind.i64.wrap ((j : Int) + 1) = ((j + 1 : Nat) : Int) := wrapN _ (by omega)
  simp (dsimp := false) (maxDischargeDepth := 16) only [go_sem, ↓reduceIte, reduceCtorEq, Nat.reduceEqDiff, Nat.reduceAdd, Nat.reduceMul, Nat.reduceSub, Nat.reduceLT, Nat.reduceLeDiff, Nat.reducePow, Int.reduceLT, Int.reduceLE, Int.reduceNeg, Int.reduceToNat, t15, t16, t5, t19, t20, t21, t8, t26, t27, t6, h7]
  refine condK_intro (fun h9 => ?_) (fun h9 => ?_)
  · have e9 := beqT h9
    simp (dsimp := false) (maxDischargeDepth := 16) only [go_sem, ↓reduceIte, reduceCtorEq, Nat.reduceEqDiff, Nat.reduceAdd, Nat.reduceMul, Nat.reduceSub, Nat.reduceLT, Nat.reduceLeDiff, Nat.reducePow, Int.reduceLT, Int.reduceLE, Int.reduceNeg, Int.reduceToNat, t15, t16, t5, t19, t20, t21, t8, t26, t27, t6, h7, h9]
    refine callK_intro (c78 p (by omega)) ?_
    simp (dsimp := false) (maxDischargeDepth := 16) only [go_sem, ↓reduceIte, reduceCtorEq, Nat.reduceEqDiff, Nat.reduceAdd, Nat.reduceMul, Nat.reduceSub, Nat.reduceLT, Nat.reduceLeDiff, Nat.reducePow, Int.reduceLT, Int.reduceLE, Int.reduceNeg, Int.reduceToNat, t15, t16, t5, t19, t20, t21, t8, t26, t27, t6, h7, h9, htk, kk]
    refine ⟨⟨by omega, by omega⟩, ⟨by omega, by omega⟩, j + 1, by omega, by omega, ⟨tk0, rfl⟩, by rw [w2], .own (48, s.g 48, 0), ?_, ?_, rfl⟩
    · rw [ext_yes (.inl (by omega)), ← List.append_assoc]
      simp only [mapL_app, map1_app]
    · simp (dsimp := false) (maxDischargeDepth := 16) only [go_sem, ↓reduceIte, reduceCtorEq, Nat.reduceEqDiff, Nat.reduceAdd, Nat.reduceMul, Nat.reduceSub, Nat.reduceLT, Nat.reduceLeDiff, Nat.reducePow, Int.reduceLT, Int.reduceLE, Int.reduceNeg, Int.reduceToNat, htk, kk]
  · have e9 := beqF h9
    have h10 : j < p.length := by omega
    simp (dsimp := false) (maxDischargeDepth := 16) only [go_sem, ↓reduceIte, reduceCtorEq, Nat.reduceEqDiff, Nat.reduceAdd, Nat.reduceMul, Nat.reduceSub, Nat.reduceLT, Nat.reduceLeDiff, Nat.reducePow, Int.reduceLT, Int.reduceLE, Int.reduceNeg, Int.reduceToNat, t15, t16, t5, t19, t20, t21, t8, t26, t27, t6, h7, h9, idx_nat, h10]
    refine condK_intro (fun h11 => ?_) (fun h11 => ?_)
    · simp (dsimp := false) (maxDischargeDepth := 16) only [go_sem, ↓reduceIte, reduceCtorEq, Nat.reduceEqDiff, Nat.reduceAdd, Nat.reduceMul, Nat.reduceSub, Nat.reduceLT, Nat.reduceLeDiff, Nat.reducePow, Int.reduceLT, Int.reduceLE, Int.reduceNeg, Int.reduceToNat, t15, t16, t5, t19, t20, t21, t8, t26, t27, t6, h7, h9, h11]
      refine callK_intro (c78 p (by omega)) ?_
      simp (dsimp := false) (maxDischargeDepth := 16) only [go_sem, ↓reduceIte, reduceCtorEq, Nat.reduceEqDiff, Nat.reduceAdd, Nat.reduceMul, Nat.reduceSub, Nat.reduceLT, Nat.reduceLeDiff, Nat.reducePow, Int.reduceLT, Int.reduceLE, Int.reduceNeg, Int.reduceToNat, t15, t16, t5, t19, t20, t21, t8, t26, t27, t6, h7, h9, h11, htk, kk]
      refine ⟨⟨by omega, by omega⟩, ⟨by omega, by omega⟩, j + 1, by omega, by omega, ⟨tk0, rfl⟩, by rw [w2], .own (48, s.g 48, 0), ?_, ?_, rfl⟩
      · rw [ext_yes (.inr (by rw [getD_at h10]; exact beqT h11)), ← List.append_assoc]
        simp only [mapL_app, map1_app]
      · simp (dsimp := false) (maxDischargeDepth := 16) only [go_sem, ↓reduceIte, reduceCtorEq, Nat.reduceEqDiff, Nat.reduceAdd, Nat.reduceMul, Nat.reduceSub, Nat.reduceLT, Nat.reduceLeDiff, Nat.reducePow, Int.reduceLT, Int.reduceLE, Int.reduceNeg, Int.reduceToNat, htk, kk]
    · simp (dsimp := false) (maxDischargeDepth := 16) only [go_sem, ↓reduceIte, reduceCtorEq, Nat.reduceEqDiff, Nat.reduceAdd, Nat.reduceMul, Nat.reduceSub, Nat.reduceLT, Nat.reduceLeDiff, Nat.reducePow, Int.reduceLT, Int.reduceLE, Int.reduceNeg, Int.reduceToNat, t15, t16, t5, t19, t20, t21, t8, t26, t27, t6, h7, h9, h11]
      refine ⟨j + 1, by omega, by omega, ⟨tk0, rfl⟩, by rw [w2], tk, ?_, ?_, hin⟩
      · rw [ext_no (by rw [getD_at h10]; have := beqF h11; omega)]
      · simp (dsimp := false) (maxDischargeDepth := 16) only [go_sem, ↓reduceIte, reduceCtorEq, Nat.reduceEqDiff, Nat.reduceAdd, Nat.reduceMul, Nat.reduceSub, Nat.reduceLT, Nat.reduceLeDiff, Nat.reducePow, Int.reduceLT, Int.reduceLE, Int.reduceNeg, Int.reduceToNat, htk]
/-- Are all elements like the first of their classes? -/
theorem c65 (p : List Int) (f : FuncId) (caps : List AV) (q : Nat → Int → Bool) (hq : ∀ i (h : i < p.length), Con Try.prog f (iv i :: iv p[i] :: caps) 0 (bv (q i p[i]))) :
    Con Try.prog 65 [lv p, .clo f caps] 0 (bv ((List.range p.length).all fun i => q i (p.getD i 0))) := by
  refine Con.assume (enters_of Try.func65 (by kernel_rfl) rfl) fun hb => ?_
  have hlen := bnd_lv (hb _ (List.mem_cons_self ..))
  refine conT (X := []) (rs := [.tmp 4]) Try.func65 (by kernel_rfl) rfl rfl (by kernel_rfl) ?_
  simp (dsimp := false) (maxDischargeDepth := 16) only [go_sem, ↓reduceIte, reduceCtorEq, Nat.reduceEqDiff, Nat.reduceAdd, Nat.reduceMul, Nat.reduceSub, Nat.reduceLT, Nat.reduceLeDiff, Nat.reducePow, Int.reduceLT, Int.reduceLE, Int.reduceNeg, Int.reduceToNat]
  refine loopK_intro (fun (i : Nat) s => i ≤ p.length ∧ s.t 1 = .clo f caps ∧ s.t 7 = lv p ∧ s.t 8 = iv p.length ∧ s.t 9 = iv i ∧ ∀ j, j < i → q j (p.getD j 0) = true) (fun i => p.length - i) ⟨0, by omega, rfl, rfl, rfl, rfl, fun j hj => by omega⟩ ?_
  rintro i s ⟨hi, t1, t7, t8, t9, hn⟩
  simp (dsimp := false) (maxDischargeDepth := 16) only [go_sem, ↓reduceIte, reduceCtorEq, Nat.reduceEqDiff, Nat.reduceAdd, Nat.reduceMul, Nat.reduceSub, Nat.reduceLT, Nat.reduceLeDiff, Nat.reducePow, Int.reduceLT, Int.reduceLE, Int.reduceNeg, Int.reduceToNat, t1, t7, t8, t9]
  refine condK_dec (fun h6 => ?_) (fun h6 => ?_)
  · simp (dsimp := false) (maxDischargeDepth := 16) only [go_sem, ↓reduceIte, reduceCtorEq, Nat.reduceEqDiff, Nat.reduceAdd, Nat.reduceMul, Nat.reduceSub, Nat.reduceLT, Nat.reduceLeDiff, Nat.reducePow, Int.reduceLT, Int.reduceLE, Int.reduceNeg, Int.reduceToNat, t1, t7, t8, t9, h6, idx_nat]
    refine callK_intro (hq i h6) ?_
    simp (dsimp := false) (maxDischargeDepth := 16) only [go_sem, ↓reduceIte, reduceCtorEq, Nat.reduceEqDiff, Nat.reduceAdd, Nat.reduceMul, Nat.reduceSub, Nat.reduceLT, Nat.reduceLeDiff, Nat.reducePow, Int.reduceLT, Int.reduceLE, Int.reduceNeg, Int.reduceToNat, t1, t7, t8, t9, h6]
    refine condK_intro (fun h8 => ?_) (fun h8 => ?_)
    · simp (dsimp := false) (maxDischargeDepth := 16) only [go_sem, ↓reduceIte, reduceCtorEq, Nat.reduceEqDiff, Nat.reduceAdd, Nat.reduceMul, Nat.reduceSub, Nat.reduceLT, Nat.reduceLeDiff, Nat.reducePow, Int.reduceLT, Int.reduceLE, Int.reduceNeg, Int.reduceToNat, t1, t7, t8, t9, h6, h8]
      refine finB ?_
      rw [← Bool.not_eq_true, List.all_eq_true]
      intro hall
      have := hall i (List.mem_range.2 h6)
      rw [getD_at h6] at this
      simp [this] at h8
    · simp (dsimp := false) (maxDischargeDepth := 16) only [go_sem, ↓reduceIte, reduceCtorEq, Nat.reduceEqDiff, Nat.reduceAdd, Nat.reduceMul, Nat.reduceSub, Nat.reduceLT, Nat.reduceLeDiff, Nat.reducePow, Int.reduceLT, Int.reduceLE, Int.reduceNeg, Int.reduceToNat, t1, t7, t8, t9, h6, h8]
      refine ⟨i + 1, by omega, by omega, by rw [wrapN _ (by omega)], fun j hj => ?_⟩
      by_cases hji : j = i
      · subst hji
        rw [getD_at h6]
        simpa using h8
      · exact hn j (by omega)
  · simp (dsimp := false) (maxDischargeDepth := 16) only [go_sem, ↓reduceIte, reduceCtorEq, Nat.reduceEqDiff, Nat.reduceAdd, Nat.reduceMul, Nat.reduceSub, Nat.reduceLT, Nat.reduceLeDiff, Nat.reducePow, Int.reduceLT, Int.reduceLE, Int.reduceNeg, Int.reduceToNat, t1, t7, t8, t9, h6]
    refine finB ?_
    rw [List.all_eq_true]
    intro j hj
    have := List.mem_range.1 hj
    exact hn j (by omega)
theorem c66 (a : Gr) (i : Nat) (k : Int) (h : i < a.n.length) (h1 : 0 ≤ k) (h2 : k.toNat < a.n.length) : Con Try.prog 66 [iv i, iv k, .ptr (gcs a)] 0 (bv (a.n[i] == a.n[k.toNat])) := by
  refine conT (X := []) (rs := [.tmp 5]) Try.func66 (by kernel_rfl) rfl rfl (by kernel_rfl) ?_
  simp (dsimp := false) (maxDischargeDepth := 16) only [go_sem, ↓reduceIte, reduceCtorEq, Nat.reduceEqDiff, Nat.reduceAdd, Nat.reduceMul, Nat.reduceSub, Nat.reduceLT, Nat.reduceLeDiff, Nat.reducePow, Int.reduceLT, Int.reduceLE, Int.reduceNeg, Int.reduceToNat, idx_nat, idx_int, h, h1, h2]
  exact finB rfl
/-- Are two edges of one type, between the same classes of nodes? -/
def sameE (p : List Int) (x y : Ed) : Bool := x.1 == y.1 && (p.getD x.2.1.toNat 0 == p.getD y.2.1.toNat 0 && p.getD x.2.2.toNat 0 == p.getD y.2.2.toNat 0)
theorem c67 (a : Gr) (p : List Int) (i : Nat) (k : Int) (h : i < a.e.length) (h1 : 0 ≤ k) (h2 : k.toNat < a.e.length) (hp : ∀ x ∈ a.e, 0 ≤ x.2.1 ∧ x.2.1 < p.length ∧ 0 ≤ x.2.2 ∧ x.2.2 < p.length) :
    Con Try.prog 67 [iv i, iv k, .ptr (gcs a), .ptr [lv p]] 0 (bv (sameE p a.e[i] a.e[k.toNat])) := by
  have p1 := hp _ (List.getElem_mem h)
  have p2 := hp _ (List.getElem_mem h2)
  have r1 : a.e[i].2.1.toNat < p.length := by omega
  have r2 : a.e[i].2.2.toNat < p.length := by omega
  have r3 : a.e[k.toNat].2.1.toNat < p.length := by omega
  have r4 : a.e[k.toNat].2.2.toNat < p.length := by omega
  have q1 := p1.1
  have q2 := p1.2.2.1
  have q3 := p2.1
  have q4 := p2.2.2.1
  rw [sameE, getD_at r1, getD_at r2, getD_at r3, getD_at r4]
  refine conT (X := [(1, [], [(7, [14, 17], [])])]) (rs := [.tmp 6]) Try.func67 (by kernel_rfl) rfl rfl (by kernel_rfl) ?_
  simp (dsimp := false) (maxDischargeDepth := 16) only [go_sem, ↓reduceIte, reduceCtorEq, Nat.reduceEqDiff, Nat.reduceAdd, Nat.reduceMul, Nat.reduceSub, Nat.reduceLT, Nat.reduceLeDiff, Nat.reducePow, Int.reduceLT, Int.reduceLE, Int.reduceNeg, Int.reduceToNat, idx_nat, idx_int, h, h1, h2]
  refine condK_intro (fun g1 => ?_) (fun g1 => ?_)
  rotate_left
  · rw [g1]
    simp (dsimp := false) (maxDischargeDepth := 16) only [go_sem, ↓reduceIte, reduceCtorEq, Nat.reduceEqDiff, Nat.reduceAdd, Nat.reduceMul, Nat.reduceSub, Nat.reduceLT, Nat.reduceLeDiff, Nat.reducePow, Int.reduceLT, Int.reduceLE, Int.reduceNeg, Int.reduceToNat, g1]
    exact finB rfl
  rw [g1]
  simp (dsimp := false) (maxDischargeDepth := 16) only [go_sem, ↓reduceIte, reduceCtorEq, Nat.reduceEqDiff, Nat.reduceAdd, Nat.reduceMul, Nat.reduceSub, Nat.reduceLT, Nat.reduceLeDiff, Nat.reducePow, Int.reduceLT, Int.reduceLE, Int.reduceNeg, Int.reduceToNat, g1, idx_int, q1, q2, q3, q4, r1, r2, r3, r4]
  refine condK_intro (fun g2 => ?_) (fun g2 => ?_)
  rotate_left
  · rw [g2]
    simp (dsimp := false) (maxDischargeDepth := 16) only [go_sem, ↓reduceIte, reduceCtorEq, Nat.reduceEqDiff, Nat.reduceAdd, Nat.reduceMul, Nat.reduceSub, Nat.reduceLT, Nat.reduceLeDiff, Nat.reducePow, Int.reduceLT, Int.reduceLE, Int.reduceNeg, Int.reduceToNat, g1, g2]
    exact finB rfl
  rw [g2]
  simp (dsimp := false) (maxDischargeDepth := 16) only [go_sem, ↓reduceIte, reduceCtorEq, Nat.reduceEqDiff, Nat.reduceAdd, Nat.reduceMul, Nat.reduceSub, Nat.reduceLT, Nat.reduceLeDiff, Nat.reducePow, Int.reduceLT, Int.reduceLE, Int.reduceNeg, Int.reduceToNat, g1, g2, idx_int, q1, q2, q3, q4, r1, r2, r3, r4]
  exact finB rfl
end Go.Sy

/- Contracts: the reference's quotient by partitions. -/
set_option linter.unusedSimpArgs false
namespace Go.Sy
open Go Go.Proofs

/-- The least elements of the classes of the first i. -/
def rts (p : List Int) (i : Nat) : List Nat := (List.range i).filter fun (x : Nat) => decide (p.getD x 0 = (x : Int))
theorem rts_yes {p : List Int} {i : Nat} (h : p.getD i 0 = (i : Int)) : rts p (i + 1) = rts p i ++ [i] := by
  unfold rts
  rw [List.range_succ, List.filter_append]
  simp only [List.filter_cons, List.filter_nil]
  rw [if_pos (by simpa using h)]
theorem rts_no {p : List Int} {i : Nat} (h : p.getD i 0 ≠ (i : Int)) : rts p (i + 1) = rts p i := by
  unfold rts
  rw [List.range_succ, List.filter_append]
  simp only [List.filter_cons, List.filter_nil]
  rw [if_neg (by simpa using h), List.append_nil]
theorem rts_len (p : List Int) (i : Nat) : (rts p i).length ≤ i := by
  unfold rts
  exact Nat.le_trans (List.length_filter_le _ _) (by simp)
def nodeAt (l : List Int) (x : Nat) : Int := l.getD x 0
def edgeAt (l : List Ed) (P : List Int) (x : Nat) : Ed := ((l.getD x (0, 0, 0)).1, P.getD (l.getD x (0, 0, 0)).2.1.toNat 0, P.getD (l.getD x (0, 0, 0)).2.2.toNat 0)
/-- The quotient by partitions of the nodes and of the edges. -/
def quo (a : Gr) (p q : List Int) : Qu :=
  ⟨⟨(rts p p.length).map (nodeAt a.n), (rts q q.length).map (edgeAt a.e (nq p p.length).1)⟩, ⟨(nq p p.length).1, (nq q q.length).1⟩⟩
theorem edgeAt_at {l : List Ed} {P : List Int} {i : Nat} (h : i < l.length) (r1 : l[i].2.1.toNat < P.length) (r2 : l[i].2.2.toNat < P.length) : edgeAt l P i = (l[i].1, P[l[i].2.1.toNat], P[l[i].2.2.toNat]) := by
  rw [edgeAt, getD_at h, getD_at r1, getD_at r2]
set_option maxHeartbeats 1000000 in
theorem c147 (a : Gr) (p q : List Int) (hp : isP p) (hq : isP q) (hpl : p.length = a.n.length) (hql : q.length = a.e.length) (hn : a.n.length ≤ 80) (he : a.e.length ≤ 80)
    (hR : ∀ x ∈ a.e, 0 ≤ x.2.1 ∧ x.2.1 < a.n.length ∧ 0 ≤ x.2.2 ∧ x.2.2 < a.n.length) : Con Try.prog 147 [gv a, lv p, lv q] 0 (qv (quo a p q)) := by
  refine conT (X := []) (rs := [.cell 6 92]) Try.func147 (by kernel_rfl) rfl rfl (by kernel_rfl) ?_
  simp (dsimp := false) (maxDischargeDepth := 16) only [go_sem, ↓reduceIte, reduceCtorEq, Nat.reduceEqDiff, Nat.reduceAdd, Nat.reduceMul, Nat.reduceSub, Nat.reduceLT, Nat.reduceLeDiff, Nat.reducePow, Int.reduceLT, Int.reduceLE, Int.reduceNeg, Int.reduceToNat]
  refine callK_intro (c162 p (by omega) hp) ?_
  simp (dsimp := false) (maxDischargeDepth := 16) only [go_sem, ↓reduceIte, reduceCtorEq, Nat.reduceEqDiff, Nat.reduceAdd, Nat.reduceMul, Nat.reduceSub, Nat.reduceLT, Nat.reduceLeDiff, Nat.reducePow, Int.reduceLT, Int.reduceLE, Int.reduceNeg, Int.reduceToNat]
  refine callK_intro (c162 q (by omega) hq) ?_
  simp (dsimp := false) (maxDischargeDepth := 16) only [go_sem, ↓reduceIte, reduceCtorEq, Nat.reduceEqDiff, Nat.reduceAdd, Nat.reduceMul, Nat.reduceSub, Nat.reduceLT, Nat.reduceLeDiff, Nat.reducePow, Int.reduceLT, Int.reduceLE, Int.reduceNeg, Int.reduceToNat]
  have hPl := nq_len p p.length
  unfold quo
  generalize (nq p p.length).1 = P at *
  generalize (nq q q.length).1 = Q at *
  refine loopK_intro (fun (i : Nat) s => i ≤ p.length ∧ s.t 1 = lv p ∧ s.t 2 = lv q ∧ s.t 3 = .box (3, 0, 0) 0 ∧ s.b (3, 0, 0) = some ⟨gcs a, false⟩ ∧ s.t 6 = .box (6, 0, 0) 0 ∧ (∃ z1 z2 z3 z4, s.b (6, 0, 0) = some ⟨[z1, z2, z3, z4], false⟩) ∧
    s.t 7 = .box (7, 0, 0) 0 ∧ s.t 8 = iv i ∧ ∃ tk, s.b (7, 0, 0) = some ⟨[lvT ((rts p i).map (nodeAt a.n)) tk, .list 3 [] .nil, lv P, lv Q], false⟩ ∧ tokOK s tk = true) (fun i => p.length - i) ?_ ?_
  · exact ⟨0, by omega, rfl, rfl, rfl, rfl, rfl, ⟨_, _, _, _, rfl⟩, rfl, rfl, .nil, rfl, rfl⟩
  rintro i s ⟨hi, t1, t2, t3, b3, t6, ⟨z1, z2, z3, z4, b6⟩, t7, t8, tk, b7, htk⟩
  simp (dsimp := false) (maxDischargeDepth := 16) only [go_sem, ↓reduceIte, reduceCtorEq, Nat.reduceEqDiff, Nat.reduceAdd, Nat.reduceMul, Nat.reduceSub, Nat.reduceLT, Nat.reduceLeDiff, Nat.reducePow, Int.reduceLT, Int.reduceLE, Int.reduceNeg, Int.reduceToNat, t1, t2, t3, b3, t6, b6, t7, t8, b7]
  refine condK_dec (fun h6 => ?_) (fun h6 => ?_)
  · have h7 : i < a.n.length := by omega
    have hrl := rts_len p i
    simp (dsimp := false) (maxDischargeDepth := 16) only [go_sem, ↓reduceIte, reduceCtorEq, Nat.reduceEqDiff, Nat.reduceAdd, Nat.reduceMul, Nat.reduceSub, Nat.reduceLT, Nat.reduceLeDiff, Nat.reducePow, Int.reduceLT, Int.reduceLE, Int.reduceNeg, Int.reduceToNat, t1, t2, t3, b3, t6, b6, t7, t8, b7, h6, idx_nat]
    refine condK_intro (fun h8 => ?_) (fun h8 => ?_)
    · simp (dsimp := false) (maxDischargeDepth := 16) only [go_sem, ↓reduceIte, reduceCtorEq, Nat.reduceEqDiff, Nat.reduceAdd, Nat.reduceMul, Nat.reduceSub, Nat.reduceLT, Nat.reduceLeDiff, Nat.reducePow, Int.reduceLT, Int.reduceLE, Int.reduceNeg, Int.reduceToNat, t1, t2, t3, b3, t6, b6, t7, t8, b7, h6, h7, h8, idx_nat, htk]
      refine ⟨⟨by omega, by omega⟩, i + 1, by omega, by omega, ⟨_, _, _, _, rfl⟩, by rw [wrapN _ (by omega)], .own (38, s.g 38, 0), ?_, ?_⟩
      · rw [rts_yes (by rw [getD_at h6]; exact beqT h8), List.map_append]
        simp only [List.map_cons, List.map_nil, map1_app, nodeAt, getD_at h7]
      · simp (dsimp := false) (maxDischargeDepth := 16) only [go_sem, ↓reduceIte, reduceCtorEq, Nat.reduceEqDiff, Nat.reduceAdd, Nat.reduceMul, Nat.reduceSub, Nat.reduceLT, Nat.reduceLeDiff, Nat.reducePow, Int.reduceLT, Int.reduceLE, Int.reduceNeg, Int.reduceToNat]
    · simp (dsimp := false) (maxDischargeDepth := 16) only [go_sem, ↓reduceIte, reduceCtorEq, Nat.reduceEqDiff, Nat.reduceAdd, Nat.reduceMul, Nat.reduceSub, Nat.reduceLT, Nat.reduceLeDiff, Nat.reducePow, Int.reduceLT, Int.reduceLE, Int.reduceNeg, Int.reduceToNat, t1, t2, t3, b3, t6, b6, t7, t8, b7, h6, h8]
      refine ⟨i + 1, by omega, by omega, ⟨_, _, _, _, rfl⟩, by rw [wrapN _ (by omega)], tk, ?_, ?_⟩
      · rw [rts_no (by rw [getD_at h6]; exact beqF h8)]
      · simp (dsimp := false) (maxDischargeDepth := 16) only [go_sem, ↓reduceIte, reduceCtorEq, Nat.reduceEqDiff, Nat.reduceAdd, Nat.reduceMul, Nat.reduceSub, Nat.reduceLT, Nat.reduceLeDiff, Nat.reducePow, Int.reduceLT, Int.reduceLE, Int.reduceNeg, Int.reduceToNat, htk]
  simp (dsimp := false) (maxDischargeDepth := 16) only [go_sem, ↓reduceIte, reduceCtorEq, Nat.reduceEqDiff, Nat.reduceAdd, Nat.reduceMul, Nat.reduceSub, Nat.reduceLT, Nat.reduceLeDiff, Nat.reducePow, Int.reduceLT, Int.reduceLE, Int.reduceNeg, Int.reduceToNat, t1, t2, t3, b3, t6, b6, t7, t8, b7, h6]
  have : i = p.length := by omega
  subst this
  generalize (rts p p.length).map (nodeAt a.n) = G at *
  refine loopK_intro (fun (i : Nat) s => i ≤ q.length ∧ s.t 2 = lv q ∧ s.t 3 = .box (3, 0, 0) 0 ∧ s.b (3, 0, 0) = some ⟨gcs a, false⟩ ∧ s.t 6 = .box (6, 0, 0) 0 ∧ s.b (6, 0, 0) = some ⟨[z1, z2, z3, z4], false⟩ ∧
    s.t 7 = .box (7, 0, 0) 0 ∧ s.t 9 = iv i ∧ ∃ tk2, s.b (7, 0, 0) = some ⟨[lvT G tk, elT' ((rts q i).map (edgeAt a.e P)) tk2, lv P, lv Q], false⟩ ∧ tokOK s tk2 = true) (fun i => q.length - i) ?_ ?_
  · exact ⟨0, by omega, t2, t3, b3, t6, b6, t7, rfl, .nil, b7, rfl⟩
  clear t1 t2 t3 b3 t6 b6 t7 t8 b7 h6 hi htk
  rintro i s ⟨hi, t2, t3, b3, t6, b6, t7, t9, tk2, b7, htk⟩
  simp (dsimp := false) (maxDischargeDepth := 16) only [go_sem, ↓reduceIte, reduceCtorEq, Nat.reduceEqDiff, Nat.reduceAdd, Nat.reduceMul, Nat.reduceSub, Nat.reduceLT, Nat.reduceLeDiff, Nat.reducePow, Int.reduceLT, Int.reduceLE, Int.reduceNeg, Int.reduceToNat, t2, t3, b3, t6, b6, t7, t9, b7]
  refine condK_dec (fun h6 => ?_) (fun h6 => ?_)
  · have h7 : i < a.e.length := by omega
    have hrl := rts_len q i
    have hx := hR _ (List.getElem_mem h7)
    have r1 : a.e[i].2.1.toNat < P.length := by omega
    have r2 : a.e[i].2.2.toNat < P.length := by omega
    have r3 := hx.1
    have r4 := hx.2.2.1
    simp (dsimp := false) (maxDischargeDepth := 16) only [go_sem, ↓reduceIte, reduceCtorEq, Nat.reduceEqDiff, Nat.reduceAdd, Nat.reduceMul, Nat.reduceSub, Nat.reduceLT, Nat.reduceLeDiff, Nat.reducePow, Int.reduceLT, Int.reduceLE, Int.reduceNeg, Int.reduceToNat, t2, t3, b3, t6, b6, t7, t9, b7, h6, idx_nat]
    refine condK_intro (fun h8 => ?_) (fun h8 => ?_)
    · simp (dsimp := false) (maxDischargeDepth := 16) only [go_sem, ↓reduceIte, reduceCtorEq, Nat.reduceEqDiff, Nat.reduceAdd, Nat.reduceMul, Nat.reduceSub, Nat.reduceLT, Nat.reduceLeDiff, Nat.reducePow, Int.reduceLT, Int.reduceLE, Int.reduceNeg, Int.reduceToNat, t2, t3, b3, t6, b6, t7, t9, b7, h6, h7, h8, idx_nat, idx_int, r1, r2, r3, r4, htk]
      refine ⟨⟨by omega, by omega⟩, i + 1, by omega, by omega, by rw [wrapN _ (by omega)], .own (79, s.g 79, 0), ?_, ?_⟩
      · rw [rts_yes (by rw [getD_at h6]; exact beqT h8), List.map_append]
        simp only [List.map_cons, List.map_nil, edgeAt_at h7 r1 r2, map3_app]
        rfl
      · simp (dsimp := false) (maxDischargeDepth := 16) only [go_sem, ↓reduceIte, reduceCtorEq, Nat.reduceEqDiff, Nat.reduceAdd, Nat.reduceMul, Nat.reduceSub, Nat.reduceLT, Nat.reduceLeDiff, Nat.reducePow, Int.reduceLT, Int.reduceLE, Int.reduceNeg, Int.reduceToNat]
    · simp (dsimp := false) (maxDischargeDepth := 16) only [go_sem, ↓reduceIte, reduceCtorEq, Nat.reduceEqDiff, Nat.reduceAdd, Nat.reduceMul, Nat.reduceSub, Nat.reduceLT, Nat.reduceLeDiff, Nat.reducePow, Int.reduceLT, Int.reduceLE, Int.reduceNeg, Int.reduceToNat, t2, t3, b3, t6, b6, t7, t9, b7, h6, h8]
      refine ⟨i + 1, by omega, by omega, by rw [wrapN _ (by omega)], tk2, ?_, ?_⟩
      · rw [rts_no (by rw [getD_at h6]; exact beqF h8)]
      · simp (dsimp := false) (maxDischargeDepth := 16) only [go_sem, ↓reduceIte, reduceCtorEq, Nat.reduceEqDiff, Nat.reduceAdd, Nat.reduceMul, Nat.reduceSub, Nat.reduceLT, Nat.reduceLeDiff, Nat.reducePow, Int.reduceLT, Int.reduceLE, Int.reduceNeg, Int.reduceToNat, htk]
  · simp (dsimp := false) (maxDischargeDepth := 16) only [go_sem, ↓reduceIte, reduceCtorEq, Nat.reduceEqDiff, Nat.reduceAdd, Nat.reduceMul, Nat.reduceSub, Nat.reduceLT, Nat.reduceLeDiff, Nat.reducePow, Int.reduceLT, Int.reduceLE, Int.reduceNeg, Int.reduceToNat, t2, t3, b3, t6, b6, t7, t9, b7, h6]
    have : i = q.length := by omega
    subst this
    exact finK ⟨rfl, rfl⟩
end Go.Sy

/- Contracts: the program's quotient by partitions. -/
set_option linter.unusedSimpArgs false
namespace Go.Sy
open Go Go.Proofs

theorem getD_app_lt {l : List Int} {x : Int} {j : Nat} (h : j < l.length) : (l ++ [x]).getD j 0 = l.getD j 0 := by
  rw [getD_at (by simp; omega), getD_at h, List.getElem_append_left h]
theorem getD_app_eq {l : List Int} {x : Int} {j : Nat} (h : l.length = j) : (l ++ [x]).getD j 0 = x := by
  subst h
  simp
/-- The number of an element's class is the place of the class's least element. -/
theorem nq_spec {p : List Int} (hp : isP p) : ∀ i, i ≤ p.length → (nq p i).2 = ((rts p i).length : Int) ∧ ∀ j, j < i → 0 ≤ (nq p i).1.getD j 0 ∧ (rts p i)[((nq p i).1.getD j 0).toNat]? = some (p.getD j 0).toNat
  | 0, _ => ⟨rfl, fun j hj => by omega⟩
  | i + 1, hi => by
    obtain ⟨h1, h2⟩ := nq_spec hp i (by omega)
    have hl := nq_len p i
    have h3 := hp i (by omega)
    by_cases h4 : p.getD i 0 = (i : Int)
    · rw [nq, if_pos h4, rts_yes h4]
      refine ⟨by simp [h1], fun j hj => ?_⟩
      by_cases hji : j = i
      · subst hji
        simp only [getD_app_eq hl, h1]
        refine ⟨by omega, ?_⟩
        rw [h4]
        simp
      · have := h2 j (by omega)
        simp only [getD_app_lt (show j < (nq p i).1.length by omega)]
        refine ⟨this.1, ?_⟩
        rw [List.getElem?_append_left (List.getElem?_eq_some_iff.1 this.2).1]
        exact this.2
    · rw [nq, if_neg h4, rts_no h4]
      refine ⟨h1, fun j hj => ?_⟩
      by_cases hji : j = i
      · subst hji
        simp only [getD_app_eq hl]
        have hk : (p.getD j 0).toNat < j := by have := h3.1; have := h3.2.1; omega
        have := h2 _ hk
        rw [h3.2.2] at this
        exact this
      · have := h2 j (by omega)
        simp only [getD_app_lt (show j < (nq p i).1.length by omega)]
        exact this
theorem rts_nodup (p : List Int) (i : Nat) : (rts p i).Nodup := (List.filter_sublist).nodup List.nodup_range
def be (zs : List Ed) : List AV := (zs.map ecs).flatten
theorem be_len (zs : List Ed) : (be zs).length = 3 * zs.length := by
  induction zs with
  | nil => rfl
  | cons z zs ih => simp [be, ecs] at ih ⊢; omega
theorem be_zero (n : Nat) : (List.replicate n [AV.v (.int .i64 0), AV.v (.int .i64 0), AV.v (.int .i64 0)]).flatten = be (List.replicate n (0, 0, 0)) := by
  unfold be
  rw [List.map_replicate]
  rfl
theorem be_app (x y : List Ed) : be (x ++ y) = be x ++ be y := by simp [be]
theorem be_set {zs : List Ed} {i : Nat} {x : Ed} (h : i < zs.length) : (be zs).take (i * 3) ++ [AV.v (.int .i64 x.1), AV.v (.int .i64 x.2.1), AV.v (.int .i64 x.2.2)] ++ (be zs).drop (i * 3 + 3) = be (zs.set i x) := by
  have e : zs = zs.take i ++ [zs[i]] ++ zs.drop (i + 1) := by
    rw [List.append_assoc, List.singleton_append, ← List.drop_eq_getElem_cons h, List.take_append_drop]
  have e1 : (be (zs.take i)).length = i * 3 := by rw [be_len, List.length_take]; omega
  have e2 : (be (zs.take i ++ [zs[i]])).length = i * 3 + 3 := by rw [be_len]; simp; omega
  have t1 : (be zs).take (i * 3) = be (zs.take i) := by
    rw [← e1]
    conv => lhs; rw [show be zs = be (zs.take i) ++ be ([zs[i]] ++ zs.drop (i + 1)) by rw [← be_app, ← List.append_assoc, ← e]]
    rw [List.take_left]
  have t2 : (be zs).drop (i * 3 + 3) = be (zs.drop (i + 1)) := by
    rw [← e2]
    conv => lhs; rw [show be zs = be (zs.take i ++ [zs[i]]) ++ be (zs.drop (i + 1)) by rw [← be_app, ← e]]
    rw [List.drop_left]
  rw [t1, t2, List.set_eq_take_append_cons_drop, if_pos h, be_app, List.append_assoc]
  rfl
theorem fin0S {s : St} {k : Key} {n : Nat} {zs : List Int} {b : Bool} (hb : s.b k = some ⟨bi zs, b⟩) (hn : zs.length = n) : fin0 s (.sl k n 1) (lv zs) := by
  refine .inr ⟨k, n, 1, zs.map fun n => [iv n], _, rfl, rfl, hb, bi_flat zs, by simpa using hn, ?_, ?_⟩
  · intro y hy
    obtain ⟨z, _, rfl⟩ := List.mem_map.1 hy
    rfl
  · intro x hx
    obtain ⟨z, _, rfl⟩ := List.mem_map.1 hx
    rfl
theorem fin0E {s : St} {k : Key} {n : Nat} {zs : List Ed} {b : Bool} (hb : s.b k = some ⟨be zs, b⟩) (hn : zs.length = n) : fin0 s (.sl k n 3) (elv zs) := by
  refine .inr ⟨k, n, 3, zs.map ecs, _, rfl, rfl, hb, rfl, by simpa using hn, ?_, ?_⟩
  · intro y hy
    obtain ⟨z, _, rfl⟩ := List.mem_map.1 hy
    rfl
  · intro x hx
    obtain ⟨y, hy, hx⟩ := List.mem_flatten.1 hx
    obtain ⟨z, _, rfl⟩ := List.mem_map.1 hy
    simp [ecs, iv] at hx
    rcases hx with rfl | rfl | rfl <;> rfl
/-- What is alike: the nodes of one class; the edges of one class. -/
def okP (a : Gr) (p : List Int) : Bool := (List.range p.length).all fun i => a.n.getD i 0 == a.n.getD (p.getD i 0).toNat 0
def okQ (a : Gr) (p q : List Int) : Bool := (List.range q.length).all fun i => sameE p (a.e.getD i (0, 0, 0)) (a.e.getD (q.getD i 0).toNat (0, 0, 0))
/-- A list that holds at the number of each element's class what the element is is the list of the least elements. -/
theorem class_list {α : Type} {p : List Int} (hp : isP p) {f : Nat → α} {zs : List α} (hz : zs.length = (rts p p.length).length) (hall : ∀ j, j < p.length → zs[((nq p p.length).1.getD j 0).toNat]? = some (f j)) : zs = (rts p p.length).map f := by
  refine List.ext_getElem? fun c => ?_
  by_cases hc : c < (rts p p.length).length
  · have hr : (rts p p.length)[c] ∈ rts p p.length := List.getElem_mem hc
    have hr2 := List.mem_filter.1 hr
    have hlt := List.mem_range.1 hr2.1
    have hroot : p.getD (rts p p.length)[c] 0 = ((rts p p.length)[c] : Int) := by simpa using hr2.2
    obtain ⟨_, h2⟩ := nq_spec hp p.length (Nat.le_refl _)
    have h3 := (h2 _ hlt).2
    rw [hroot, Int.toNat_natCast] at h3
    have h4 : ((nq p p.length).1.getD (rts p p.length)[c] 0).toNat = c := by
      have hlt2 := (List.getElem?_eq_some_iff.1 h3).1
      refine (List.getElem?_inj hlt2 (rts_nodup p p.length)).1 ?_
      rw [h3, List.getElem?_eq_getElem hc]
    have h5 := hall _ hlt
    rw [h4] at h5
    rw [h5, List.getElem?_map, List.getElem?_eq_getElem hc]
    rfl
  · rw [List.getElem?_eq_none (by omega), List.getElem?_eq_none (by simp; omega)]
end Go.Sy

/- Contracts: the program's quotient by partitions. -/
set_option linter.unusedSimpArgs false
namespace Go.Sy
open Go Go.Proofs

theorem class_set {α : Type} {p P : List Int} {R : List Nat} {n : Nat} (hspec : ∀ j, j < n → 0 ≤ P.getD j 0 ∧ R[(P.getD j 0).toNat]? = some (p.getD j 0).toNat) {f : Nat → α} (hal : ∀ j, j < n → f j = f (p.getD j 0).toNat)
    {zs : List α} (hz : zs.length = R.length) {i : Nat} (hi : i < n) (hall : ∀ j, j < i → zs[(P.getD j 0).toNat]? = some (f j)) : ∀ j, j < i + 1 → (zs.set (P.getD i 0).toNat (f i))[(P.getD j 0).toNat]? = some (f j) := by
  intro j hj
  rw [List.getElem?_set]
  have hi2 := (hspec i hi).2
  have hlt := (List.getElem?_eq_some_iff.1 hi2).1
  split
  · rename_i e
    rw [if_pos (by omega)]
    have hj2 := (hspec j (by omega)).2
    rw [← e, hi2] at hj2
    rw [hal i hi, hal j (by omega), Option.some.inj hj2]
  · rename_i e
    refine hall j ?_
    rcases Nat.lt_or_ge j i with h | h
    · exact h
    · exact absurd (by rw [show j = i by omega]) e
theorem class_eq {p P : List Int} {R : List Nat} (hR : R.Nodup) {n : Nat} (hspec : ∀ j, j < n → 0 ≤ P.getD j 0 ∧ R[(P.getD j 0).toNat]? = some (p.getD j 0).toNat) {u v : Nat} (hu : u < n) (hv : v < n) (h : p.getD u 0 = p.getD v 0) : P.getD u 0 = P.getD v 0 := by
  have h1 := hspec u hu
  have h2 := hspec v hv
  rw [h] at h1
  have : (P.getD u 0).toNat = (P.getD v 0).toNat := (List.getElem?_inj (List.getElem?_eq_some_iff.1 h1.2).1 hR).1 (h1.2.trans h2.2.symm)
  omega
theorem okP_at {a : Gr} {p : List Int} (h : okP a p = true) {j : Nat} (hj : j < p.length) : a.n.getD j 0 = a.n.getD (p.getD j 0).toNat 0 := by
  have := List.all_eq_true.1 h j (List.mem_range.2 hj)
  simpa using this
theorem okQ_at {a : Gr} {p q : List Int} (h : okQ a p q = true) {j : Nat} (hj : j < q.length) : sameE p (a.e.getD j (0, 0, 0)) (a.e.getD (q.getD j 0).toNat (0, 0, 0)) = true :=
  List.all_eq_true.1 h j (List.mem_range.2 hj)
set_option maxHeartbeats 1000000 in
theorem c68 (a : Gr) (p q : List Int) (hp : isP p) (hq : isP q) (hpl : p.length = a.n.length) (hql : q.length = a.e.length) (hn : a.n.length ≤ 80) (he : a.e.length ≤ 80)
    (hR : ∀ x ∈ a.e, 0 ≤ x.2.1 ∧ x.2.1 < a.n.length ∧ 0 ≤ x.2.2 ∧ x.2.2 < a.n.length) (op : okP a p = true) (oq : okQ a p q = true) : Con Try.prog 68 [gv a, lv p, lv q] 0 (qv (quo a p q)) := by
  refine conT (X := []) (rs := [.cell 6 92]) Try.func68 (by kernel_rfl) rfl rfl (by kernel_rfl) ?_
  simp (dsimp := false) (maxDischargeDepth := 16) only [go_sem, ↓reduceIte, reduceCtorEq, Nat.reduceEqDiff, Nat.reduceAdd, Nat.reduceMul, Nat.reduceSub, Nat.reduceLT, Nat.reduceLeDiff, Nat.reducePow, Int.reduceLT, Int.reduceLE, Int.reduceNeg, Int.reduceToNat]
  refine callK_intro (c121 p (by omega) hp) ?_
  simp (dsimp := false) (maxDischargeDepth := 16) only [go_sem, ↓reduceIte, reduceCtorEq, Nat.reduceEqDiff, Nat.reduceAdd, Nat.reduceMul, Nat.reduceSub, Nat.reduceLT, Nat.reduceLeDiff, Nat.reducePow, Int.reduceLT, Int.reduceLE, Int.reduceNeg, Int.reduceToNat]
  refine callK_intro (c121 q (by omega) hq) ?_
  obtain ⟨np, sp⟩ := nq_spec hp p.length (Nat.le_refl _)
  obtain ⟨nqq, sq⟩ := nq_spec hq q.length (Nat.le_refl _)
  have lp := nq_len p p.length
  have lq := nq_len q q.length
  have rp := rts_len p p.length
  have rq := rts_len q q.length
  have fp : ∀ zs : List Int, zs.length = (rts p p.length).length → (∀ j, j < p.length → zs[((nq p p.length).1.getD j 0).toNat]? = some (nodeAt a.n j)) → zs = (rts p p.length).map (nodeAt a.n) := fun zs h1 h2 => class_list hp h1 h2
  have fq : ∀ zs : List Ed, zs.length = (rts q q.length).length → (∀ j, j < q.length → zs[((nq q q.length).1.getD j 0).toNat]? = some (edgeAt a.e (nq p p.length).1 j)) → zs = (rts q q.length).map (edgeAt a.e (nq p p.length).1) := fun zs h1 h2 => class_list hq h1 h2
  have dp := rts_nodup p p.length
  rw [np, nqq]
  unfold quo
  generalize (nq p p.length).1 = P at *
  generalize (nq q q.length).1 = Q at *
  generalize rts p p.length = Rp at *
  generalize rts q q.length = Rq at *
  have alp : ∀ j, j < p.length → nodeAt a.n j = nodeAt a.n (p.getD j 0).toNat := fun j hj => okP_at op hj
  have ceq : ∀ u v, u < p.length → v < p.length → p.getD u 0 = p.getD v 0 → P.getD u 0 = P.getD v 0 := fun u v hu hv h => class_eq dp sp hu hv h
  have alq : ∀ j, j < q.length → edgeAt a.e P j = edgeAt a.e P (q.getD j 0).toNat := by
    intro j hj
    have h := okQ_at oq hj
    have hqj := hq j hj
    have j1 : j < a.e.length := by omega
    have j2 : (q.getD j 0).toNat < a.e.length := by omega
    rw [getD_at j1, getD_at j2] at h
    simp only [sameE, Bool.and_eq_true, beq_iff_eq] at h
    obtain ⟨h1, h2, h3⟩ := h
    have x1 := hR _ (List.getElem_mem j1)
    have x2 := hR _ (List.getElem_mem j2)
    unfold edgeAt
    rw [getD_at j1, getD_at j2, h1, ceq _ _ (by omega) (by omega) h2, ceq _ _ (by omega) (by omega) h3]
  simp (dsimp := false) (maxDischargeDepth := 16) only [go_sem, ↓reduceIte, reduceCtorEq, Nat.reduceEqDiff, Nat.reduceAdd, Nat.reduceMul, Nat.reduceSub, Nat.reduceLT, Nat.reduceLeDiff, Nat.reducePow, Int.reduceLT, Int.reduceLE, Int.reduceNeg, Int.reduceToNat, Int.toNat_natCast, bi_zero, be_zero]
  refine ⟨⟨by omega, by omega, by omega⟩, ⟨by omega, by omega, by omega⟩, ?_⟩
  refine loopK_intro (fun (i : Nat) s => i ≤ p.length ∧ s.t 3 = .box (3, 0, 0) 0 ∧ s.b (3, 0, 0) = some ⟨gcs a, false⟩ ∧ s.t 6 = .box (6, 0, 0) 0 ∧ (∃ z1 z2 z3 z4, s.b (6, 0, 0) = some ⟨[z1, z2, z3, z4], false⟩) ∧ s.t 7 = lv P ∧ s.t 10 = lv Q ∧
    s.t 13 = .box (13, 0, 0) 0 ∧ s.b (13, 0, 0) = some ⟨[.sl (31, 0, 0) Rp.length 1, .sl (33, 0, 0) Rq.length 3, lv P, lv Q], false⟩ ∧ s.b (33, 0, 0) = some ⟨be (List.replicate Rq.length (0, 0, 0)), false⟩ ∧ s.t 40 = lv a.n ∧ s.t 41 = iv a.n.length ∧ s.t 42 = iv i ∧
    ∃ zs : List Int, s.b (31, 0, 0) = some ⟨bi zs, false⟩ ∧ zs.length = Rp.length ∧ ∀ j, j < i → zs[(P.getD j 0).toNat]? = some (nodeAt a.n j)) (fun i => p.length - i) ?_ ?_
  · exact ⟨0, by omega, rfl, rfl, rfl, ⟨_, _, _, _, rfl⟩, rfl, rfl, rfl, rfl, rfl, rfl, rfl, rfl, _, rfl, by simp, fun j hj => by omega⟩
  rintro i s ⟨hi, t3, b3, t6, ⟨z1, z2, z3, z4, b6⟩, t7, t10, t13, b13, b33, t40, t41, t42, zs, b31, hz, hall⟩
  simp (dsimp := false) (maxDischargeDepth := 16) only [go_sem, ↓reduceIte, reduceCtorEq, Nat.reduceEqDiff, Nat.reduceAdd, Nat.reduceMul, Nat.reduceSub, Nat.reduceLT, Nat.reduceLeDiff, Nat.reducePow, Int.reduceLT, Int.reduceLE, Int.reduceNeg, Int.reduceToNat, t3, b3, t6, b6, t7, t10, t13, b13, b33, t40, t41, t42, b31]
  refine condK_dec (fun h6 => ?_) (fun h6 => ?_)
  · have h7 : i < P.length := by omega
    have hs := sp i (by omega)
    have hlt := (List.getElem?_eq_some_iff.1 hs.2).1
    have r0 := hs.1
    have hall2 := class_set sp alp hz (show i < p.length by omega) hall
    rw [getD_at h7] at hlt r0 hall2
    have hna : nodeAt a.n i = a.n[i] := getD_at h6
    rw [hna] at hall2
    have hzl : P[i].toNat < zs.length := by omega
    simp (dsimp := false) (maxDischargeDepth := 16) only [go_sem, ↓reduceIte, reduceCtorEq, Nat.reduceEqDiff, Nat.reduceAdd, Nat.reduceMul, Nat.reduceSub, Nat.reduceLT, Nat.reduceLeDiff, Nat.reducePow, Int.reduceLT, Int.reduceLE, Int.reduceNeg, Int.reduceToNat, t3, b3, t6, b6, t7, t10, t13, b13, b33, t40, t41, t42, b31, h6, h7, idx_nat, idx_slI, r0, hlt]
    refine ⟨by rw [bi_len]; omega, i + 1, by omega, by omega, ⟨_, _, _, _, rfl⟩, by rw [wrapN _ (by omega)], zs.set P[i].toNat a.n[i], by rw [Nat.mul_one, bi_set hzl], by simpa using hz, hall2⟩
  simp (dsimp := false) (maxDischargeDepth := 16) only [go_sem, ↓reduceIte, reduceCtorEq, Nat.reduceEqDiff, Nat.reduceAdd, Nat.reduceMul, Nat.reduceSub, Nat.reduceLT, Nat.reduceLeDiff, Nat.reducePow, Int.reduceLT, Int.reduceLE, Int.reduceNeg, Int.reduceToNat, t3, b3, t6, b6, t7, t10, t13, b13, b33, t40, t41, t42, b31, h6]
  have e1 : i = p.length := by omega
  subst e1
  have hzs := fp zs hz hall
  refine loopK_intro (fun (i : Nat) s => i ≤ q.length ∧ s.t 6 = .box (6, 0, 0) 0 ∧ s.b (6, 0, 0) = some ⟨[z1, z2, z3, z4], false⟩ ∧ s.t 7 = lv P ∧ s.t 10 = lv Q ∧
    s.t 13 = .box (13, 0, 0) 0 ∧ s.b (13, 0, 0) = some ⟨[.sl (31, 0, 0) Rp.length 1, .sl (33, 0, 0) Rq.length 3, lv P, lv Q], false⟩ ∧ s.b (31, 0, 0) = some ⟨bi zs, false⟩ ∧ s.t 58 = elv a.e ∧ s.t 59 = iv a.e.length ∧ s.t 60 = iv i ∧
    ∃ ys : List Ed, s.b (33, 0, 0) = some ⟨be ys, false⟩ ∧ ys.length = Rq.length ∧ ∀ j, j < i → ys[(Q.getD j 0).toNat]? = some (edgeAt a.e P j)) (fun i => q.length - i) ?_ ?_
  · exact ⟨0, by omega, t6, b6, t7, t10, t13, b13, b31, rfl, rfl, rfl, _, b33, by simp, fun j hj => by omega⟩
  clear t3 b3 t6 b6 t7 t10 t13 b13 b33 t40 t41 t42 b31 h6 hi hall
  rintro i s ⟨hi, t6, b6, t7, t10, t13, b13, b31, t58, t59, t60, ys, b33, hy, hall⟩
  simp (dsimp := false) (maxDischargeDepth := 16) only [go_sem, ↓reduceIte, reduceCtorEq, Nat.reduceEqDiff, Nat.reduceAdd, Nat.reduceMul, Nat.reduceSub, Nat.reduceLT, Nat.reduceLeDiff, Nat.reducePow, Int.reduceLT, Int.reduceLE, Int.reduceNeg, Int.reduceToNat, t6, b6, t7, t10, t13, b13, b31, t58, t59, t60, b33]
  refine condK_dec (fun h6 => ?_) (fun h6 => ?_)
  · have h7 : i < Q.length := by omega
    have hs := sq i (by omega)
    have hlt := (List.getElem?_eq_some_iff.1 hs.2).1
    have r0 := hs.1
    have hall2 := class_set sq alq hy (show i < q.length by omega) hall
    rw [getD_at h7] at hlt r0 hall2
    have hx := hR _ (List.getElem_mem h6)
    have r1 : a.e[i].2.1.toNat < P.length := by omega
    have r2 : a.e[i].2.2.toNat < P.length := by omega
    have r3 := hx.1
    have r4 := hx.2.2.1
    rw [edgeAt_at h6 r1 r2] at hall2
    have hyl : Q[i].toNat < ys.length := by omega
    simp (dsimp := false) (maxDischargeDepth := 16) only [go_sem, ↓reduceIte, reduceCtorEq, Nat.reduceEqDiff, Nat.reduceAdd, Nat.reduceMul, Nat.reduceSub, Nat.reduceLT, Nat.reduceLeDiff, Nat.reducePow, Int.reduceLT, Int.reduceLE, Int.reduceNeg, Int.reduceToNat, t6, b6, t7, t10, t13, b13, b31, t58, t59, t60, b33, h6, h7, idx_nat, idx_int, idx_slI, r0, r1, r2, r3, r4, hlt]
    exact ⟨by rw [be_len]; omega, i + 1, by omega, by omega, by rw [wrapN _ (by omega)], ys.set Q[i].toNat (a.e[i].1, P[a.e[i].2.1.toNat], P[a.e[i].2.2.toNat]), by rw [← be_set hyl], by simpa using hy, hall2⟩
  simp (dsimp := false) (maxDischargeDepth := 16) only [go_sem, ↓reduceIte, reduceCtorEq, Nat.reduceEqDiff, Nat.reduceAdd, Nat.reduceMul, Nat.reduceSub, Nat.reduceLT, Nat.reduceLeDiff, Nat.reducePow, Int.reduceLT, Int.reduceLE, Int.reduceNeg, Int.reduceToNat, t6, b6, t7, t10, t13, b13, b31, t58, t59, t60, b33, h6]
  have e1 : i = q.length := by omega
  subst e1
  have hys := fq ys hy hall
  rw [← hzs, ← hys]
  refine .one _ _ (.agg _ _ rfl fun i x r hx hr => ?_)
  match i, hx, hr with
  | 0, hx, hr =>
    simp only [List.getElem?_cons_zero, Option.some.injEq] at hx hr
    subst hx hr
    exact fin0S (b := false) (by simp (dsimp := false) (maxDischargeDepth := 16) only [go_sem, ↓reduceIte, reduceCtorEq, Nat.reduceEqDiff, Nat.reduceAdd, Nat.reduceMul, Nat.reduceSub, Nat.reduceLT, Nat.reduceLeDiff, Nat.reducePow, Int.reduceLT, Int.reduceLE, Int.reduceNeg, Int.reduceToNat, b31]) hz
  | 1, hx, hr =>
    simp only [List.getElem?_cons_zero, List.getElem?_cons_succ, Option.some.injEq] at hx hr
    subst hx hr
    exact fin0E (b := false) (by simp (dsimp := false) (maxDischargeDepth := 16) only [go_sem, ↓reduceIte, reduceCtorEq, Nat.reduceEqDiff, Nat.reduceAdd, Nat.reduceMul, Nat.reduceSub, Nat.reduceLT, Nat.reduceLeDiff, Nat.reducePow, Int.reduceLT, Int.reduceLE, Int.reduceNeg, Int.reduceToNat, b33]) hy
  | 2, hx, hr =>
    simp only [List.getElem?_cons_zero, List.getElem?_cons_succ, Option.some.injEq] at hx hr
    subst hx hr
    exact .inl ⟨rfl, rfl⟩
  | 3, hx, hr =>
    simp only [List.getElem?_cons_zero, List.getElem?_cons_succ, Option.some.injEq] at hx hr
    subst hx hr
    exact .inl ⟨rfl, rfl⟩
  | i + 4, hx, hr => simp at hx
end Go.Sy

/- Contracts: the reference's quotients. -/
set_option linter.unusedSimpArgs false
namespace Go.Sy
open Go Go.Proofs

def qlvT (l : List Qu) (tk : Tok) : AV := .list 4 (l.map qcs) tk
attribute [go_sem] qlvT
def okq (a : Gr) (nodes l : List Int) (n : Nat) : Bool := decide (n = l.length) || (decide (l.getD n 0 = (n : Int)) && sameE nodes (a.e.getD l.length (0, 0, 0)) (a.e.getD n (0, 0, 0)))
/-- What 'edges' appends: k edges are left. -/
def quE (a : Gr) (nodes : List Int) : Nat → List Int → List Qu → List Qu
  | 0, l, out => if out.length > 2000 then out else out ++ [quo a nodes l]
  | k + 1, l, out => if out.length > 2000 then out else
    (List.range (l.length + 1)).foldl (fun out (j : Nat) => if okq a nodes l j then quE a nodes k (l ++ [(j : Int)]) out else out) out
theorem quE_len (a : Gr) (nodes : List Int) : ∀ (k : Nat) (l : List Int) (out : List Qu), out.length ≤ 2001 → (quE a nodes k l out).length ≤ 2001
  | 0, l, out, h => by
    rw [quE]
    split
    · exact h
    · simp; omega
  | k + 1, l, out, h => by
    rw [quE]
    split
    · exact h
    · refine foldl_le (fun o x ho => ?_) _ _ h
      split
      · exact quE_len a nodes k _ _ ho
      · exact ho
def okn (a : Gr) (l : List Int) (n : Nat) : Bool := decide (n = l.length) || (decide (l.getD n 0 = (n : Int)) && decide (a.n.getD n 0 = a.n.getD l.length 0))
/-- What 'nodes' appends: k nodes are left. -/
def quN (a : Gr) : Nat → List Int → List Qu → List Qu
  | 0, l, out => if out.length > 2000 then out else quE a l a.e.length [] out
  | k + 1, l, out => if out.length > 2000 then out else
    (List.range (l.length + 1)).foldl (fun out (j : Nat) => if okn a l j then quN a k (l ++ [(j : Int)]) out else out) out
theorem quN_len (a : Gr) : ∀ (k : Nat) (l : List Int) (out : List Qu), out.length ≤ 2001 → (quN a k l out).length ≤ 2001
  | 0, l, out, h => by
    rw [quN]
    split
    · exact h
    · exact quE_len _ _ _ _ _ h
  | k + 1, l, out, h => by
    rw [quN]
    split
    · exact h
    · refine foldl_le (fun o x ho => ?_) _ _ h
      split
      · exact quN_len a k _ _ ho
      · exact ho
theorem isP_nil : isP [] := fun i h => by simp at h
theorem isP_ext {l : List Int} {n : Nat} (h : isP l) (hn : n ≤ l.length) (h1 : n = l.length ∨ l.getD n 0 = (n : Int)) : isP (l ++ [(n : Int)]) := by
  intro i hi
  simp at hi
  by_cases hil : i < l.length
  · have h2 := h i hil
    unfold pOK at h2 ⊢
    rw [getD_app_lt hil, getD_app_lt (show (l.getD i 0).toNat < l.length by omega)]
    exact h2
  · have : i = l.length := by omega
    subst this
    unfold pOK
    rw [getD_app_eq rfl, Int.toNat_natCast]
    refine ⟨by omega, by omega, ?_⟩
    rcases h1 with h1 | h1
    · rw [getD_app_eq h1.symm]
    · by_cases h2 : n = l.length
      · rw [getD_app_eq h2.symm]
      · rw [getD_app_lt (by omega), h1]
theorem okq_isP {a : Gr} {nodes l : List Int} {n : Nat} (h : isP l) (hn : n ≤ l.length) (h1 : okq a nodes l n = true) : isP (l ++ [(n : Int)]) := by
  refine isP_ext h hn ?_
  simp only [okq, Bool.or_eq_true, Bool.and_eq_true, decide_eq_true_eq] at h1
  exact h1.imp id And.left
theorem okq_at {a : Gr} {nodes l : List Int} {n : Nat} (h : n < l.length) (h2 : l.length < a.e.length) (h3 : n < a.e.length) (r1 : a.e[l.length].2.1.toNat < nodes.length) (r2 : a.e[l.length].2.2.toNat < nodes.length) (r3 : a.e[n].2.1.toNat < nodes.length) (r4 : a.e[n].2.2.toNat < nodes.length) :
    okq a nodes l n = (l[n] == (n : Int) && (a.e[l.length].1 == a.e[n].1 && (nodes[a.e[l.length].2.1.toNat] == nodes[a.e[n].2.1.toNat] && nodes[a.e[l.length].2.2.toNat] == nodes[a.e[n].2.2.toNat]))) := by
  rw [okq, decide_eq_false (by omega), Bool.false_or, getD_at h, getD_at h2, getD_at h3, sameE, getD_at r1, getD_at r2, getD_at r3, getD_at r4]
  rfl
set_option maxRecDepth 20000 in
set_option maxHeartbeats 4000000 in
theorem c122 (a : Gr) (nodes : List Int) (hp : isP nodes) (hpl : nodes.length = a.n.length) (hn : a.n.length ≤ 80) (he : a.e.length ≤ 80) (hR : ∀ x ∈ a.e, 0 ≤ x.2.1 ∧ x.2.1 < a.n.length ∧ 0 ≤ x.2.2 ∧ x.2.2 < a.n.length) :
    ∀ (k : Nat) (l : List Int) (out : List Qu), isP l → l.length + k = a.e.length → out.length ≤ 2001 →
      ECon Try.prog 122 [lv nodes, lv l] (gcs a) (qlvT out (.own (0, 0, 0))) .any (gcs a) (qlvT (quE a nodes k l out) (.own (0, 0, 0)))
  | 0, l, out, hl, hk, hout => by
    refine econT (X := []) (rs := []) Try.func122 (by kernel_rfl) rfl rfl (by kernel_rfl) ?_
    simp (dsimp := false) (maxDischargeDepth := 16) only [go_sem, ↓reduceIte, reduceCtorEq, Nat.reduceEqDiff, Nat.reduceAdd, Nat.reduceMul, Nat.reduceSub, Nat.reduceLT, Nat.reduceLeDiff, Nat.reducePow, Int.reduceLT, Int.reduceLE, Int.reduceNeg, Int.reduceToNat]
    refine condK_dec (fun h1 => ?_) (fun h1 => ?_)
    · simp (dsimp := false) (maxDischargeDepth := 16) only [go_sem, ↓reduceIte, reduceCtorEq, Nat.reduceEqDiff, Nat.reduceAdd, Nat.reduceMul, Nat.reduceSub, Nat.reduceLT, Nat.reduceLeDiff, Nat.reducePow, Int.reduceLT, Int.reduceLE, Int.reduceNeg, Int.reduceToNat, h1]
      refine ⟨.inl trivial, _, rfl, ?_, ?_⟩
      · simp (dsimp := false) (maxDischargeDepth := 16) only [go_sem, ↓reduceIte, reduceCtorEq, Nat.reduceEqDiff, Nat.reduceAdd, Nat.reduceMul, Nat.reduceSub, Nat.reduceLT, Nat.reduceLeDiff, Nat.reducePow, Int.reduceLT, Int.reduceLE, Int.reduceNeg, Int.reduceToNat]
      · simp (dsimp := false) (maxDischargeDepth := 16) only [go_sem, ↓reduceIte, reduceCtorEq, Nat.reduceEqDiff, Nat.reduceAdd, Nat.reduceMul, Nat.reduceSub, Nat.reduceLT, Nat.reduceLeDiff, Nat.reducePow, Int.reduceLT, Int.reduceLE, Int.reduceNeg, Int.reduceToNat]
        rw [quE, if_pos (by omega)]
    simp (dsimp := false) (maxDischargeDepth := 16) only [go_sem, ↓reduceIte, reduceCtorEq, Nat.reduceEqDiff, Nat.reduceAdd, Nat.reduceMul, Nat.reduceSub, Nat.reduceLT, Nat.reduceLeDiff, Nat.reducePow, Int.reduceLT, Int.reduceLE, Int.reduceNeg, Int.reduceToNat, h1]
    refine condK_intro (fun h2 => ?_) (fun h2 => ?_)
    · simp (dsimp := false) (maxDischargeDepth := 16) only [go_sem, ↓reduceIte, reduceCtorEq, Nat.reduceEqDiff, Nat.reduceAdd, Nat.reduceMul, Nat.reduceSub, Nat.reduceLT, Nat.reduceLeDiff, Nat.reducePow, Int.reduceLT, Int.reduceLE, Int.reduceNeg, Int.reduceToNat, h1, h2]
      refine callK_intro (c147 a nodes l hp hl hpl (by omega) hn he hR) ?_
      simp (dsimp := false) (maxDischargeDepth := 16) only [go_sem, ↓reduceIte, reduceCtorEq, Nat.reduceEqDiff, Nat.reduceAdd, Nat.reduceMul, Nat.reduceSub, Nat.reduceLT, Nat.reduceLeDiff, Nat.reducePow, Int.reduceLT, Int.reduceLE, Int.reduceNeg, Int.reduceToNat, h1, h2]
      refine ⟨⟨by omega, by omega⟩, .inl trivial, _, rfl, ?_, ?_⟩
      · simp (dsimp := false) (maxDischargeDepth := 16) only [go_sem, ↓reduceIte, reduceCtorEq, Nat.reduceEqDiff, Nat.reduceAdd, Nat.reduceMul, Nat.reduceSub, Nat.reduceLT, Nat.reduceLeDiff, Nat.reducePow, Int.reduceLT, Int.reduceLE, Int.reduceNeg, Int.reduceToNat]
      · simp (dsimp := false) (maxDischargeDepth := 16) only [go_sem, ↓reduceIte, reduceCtorEq, Nat.reduceEqDiff, Nat.reduceAdd, Nat.reduceMul, Nat.reduceSub, Nat.reduceLT, Nat.reduceLeDiff, Nat.reducePow, Int.reduceLT, Int.reduceLE, Int.reduceNeg, Int.reduceToNat]
        rw [quE, if_neg (by omega), List.map_append]
        rfl
    · exact absurd (beqF h2) (by simp; omega)
  | k + 1, l, out, hl, hk, hout => by
    have ih := c122 a nodes hp hpl hn he hR k
    refine econT (X := []) (rs := []) Try.func122 (by kernel_rfl) rfl rfl (by kernel_rfl) ?_
    simp (dsimp := false) (maxDischargeDepth := 16) only [go_sem, ↓reduceIte, reduceCtorEq, Nat.reduceEqDiff, Nat.reduceAdd, Nat.reduceMul, Nat.reduceSub, Nat.reduceLT, Nat.reduceLeDiff, Nat.reducePow, Int.reduceLT, Int.reduceLE, Int.reduceNeg, Int.reduceToNat]
    refine condK_dec (fun h1 => ?_) (fun h1 => ?_)
    · simp (dsimp := false) (maxDischargeDepth := 16) only [go_sem, ↓reduceIte, reduceCtorEq, Nat.reduceEqDiff, Nat.reduceAdd, Nat.reduceMul, Nat.reduceSub, Nat.reduceLT, Nat.reduceLeDiff, Nat.reducePow, Int.reduceLT, Int.reduceLE, Int.reduceNeg, Int.reduceToNat, h1]
      refine ⟨.inl trivial, _, rfl, ?_, ?_⟩
      · simp (dsimp := false) (maxDischargeDepth := 16) only [go_sem, ↓reduceIte, reduceCtorEq, Nat.reduceEqDiff, Nat.reduceAdd, Nat.reduceMul, Nat.reduceSub, Nat.reduceLT, Nat.reduceLeDiff, Nat.reducePow, Int.reduceLT, Int.reduceLE, Int.reduceNeg, Int.reduceToNat]
      · simp (dsimp := false) (maxDischargeDepth := 16) only [go_sem, ↓reduceIte, reduceCtorEq, Nat.reduceEqDiff, Nat.reduceAdd, Nat.reduceMul, Nat.reduceSub, Nat.reduceLT, Nat.reduceLeDiff, Nat.reducePow, Int.reduceLT, Int.reduceLE, Int.reduceNeg, Int.reduceToNat]
        rw [quE, if_pos (by omega)]
    simp (dsimp := false) (maxDischargeDepth := 16) only [go_sem, ↓reduceIte, reduceCtorEq, Nat.reduceEqDiff, Nat.reduceAdd, Nat.reduceMul, Nat.reduceSub, Nat.reduceLT, Nat.reduceLeDiff, Nat.reducePow, Int.reduceLT, Int.reduceLE, Int.reduceNeg, Int.reduceToNat, h1]
    refine condK_intro (fun h2 => ?_) (fun h2 => ?_)
    · have := beqT h2
      omega
    have h3 : l.length < a.e.length := by omega
    simp (dsimp := false) (maxDischargeDepth := 16) only [go_sem, ↓reduceIte, reduceCtorEq, Nat.reduceEqDiff, Nat.reduceAdd, Nat.reduceMul, Nat.reduceSub, Nat.reduceLT, Nat.reduceLeDiff, Nat.reducePow, Int.reduceLT, Int.reduceLE, Int.reduceNeg, Int.reduceToNat, h1, h2, idx_nat, h3]
    let st : List Qu → Nat → List Qu := fun out j => if okq a nodes l j then quE a nodes k (l ++ [(j : Int)]) out else out
    have hsp : quE a nodes (k + 1) l out = (List.range (l.length + 1)).foldl st out := by rw [quE, if_neg (by omega)]
    rw [hsp]
    obtain ⟨cur, q0, q1, q2⟩ : ∃ cur : Nat → List Qu, cur 0 = out ∧ (∀ j, cur (j + 1) = st (cur j) j) ∧ cur (l.length + 1) = (List.range (l.length + 1)).foldl st out := ⟨fun j => (List.range j).foldl st out, rfl, fun j => range_fold _ _ _, rfl⟩
    generalize (List.range (l.length + 1)).foldl st out = F at *
    refine loopK_intro (fun (j : Nat) s => j ≤ l.length + 1 ∧ s.t 0 = .box (0, 0, 0) 0 ∧ s.t 1 = lv nodes ∧ s.t 2 = lv l ∧ s.t 6 = iv l.length ∧ s.t 7 = .box (7, 0, 0) 0 ∧ s.b (7, 0, 0) = some ⟨ecs a.e[l.length], false⟩ ∧ s.t 8 = iv j ∧
      (cur j).length ≤ 2001 ∧ ∃ γ, s.b (0, 0, 0) = some ⟨gcs a ++ [qlvT (cur j) (.own (0, γ, 0))], false⟩ ∧ s.d (0, γ, 0) = false) (fun j => l.length + 1 - j) ?_ ?_
    · refine ⟨0, by omega, rfl, rfl, rfl, rfl, rfl, rfl, rfl, ?_, 0, ?_, ?_⟩
      · rw [q0]; exact hout
      · rw [q0]; rfl
      · simp (dsimp := false) (maxDischargeDepth := 16) only [go_sem, ↓reduceIte, reduceCtorEq, Nat.reduceEqDiff, Nat.reduceAdd, Nat.reduceMul, Nat.reduceSub, Nat.reduceLT, Nat.reduceLeDiff, Nat.reducePow, Int.reduceLT, Int.reduceLE, Int.reduceNeg, Int.reduceToNat]
    clear h1 h2
    rintro j s ⟨hj, t0, t1, t2, t6, t7, b7, t8, hc, γ, b0, d0⟩
    simp (dsimp := false) (maxDischargeDepth := 16) only [go_sem, ↓reduceIte, reduceCtorEq, Nat.reduceEqDiff, Nat.reduceAdd, Nat.reduceMul, Nat.reduceSub, Nat.reduceLT, Nat.reduceLeDiff, Nat.reducePow, Int.reduceLT, Int.reduceLE, Int.reduceNeg, Int.reduceToNat, t0, t1, t2, t6, t7, b7, t8, b0, d0]
    refine condK_dec (fun h6 => ?_) (fun h6 => ?_)
    rotate_left
    · simp (dsimp := false) (maxDischargeDepth := 16) only [go_sem, ↓reduceIte, reduceCtorEq, Nat.reduceEqDiff, Nat.reduceAdd, Nat.reduceMul, Nat.reduceSub, Nat.reduceLT, Nat.reduceLeDiff, Nat.reducePow, Int.reduceLT, Int.reduceLE, Int.reduceNeg, Int.reduceToNat, t0, t1, t2, t6, t7, b7, t8, b0, d0, h6]
      have hj1 : j = l.length + 1 := by omega
      subst hj1
      rw [q2]
      refine ⟨.inl trivial, _, rfl, ?_, rfl⟩
      simp (dsimp := false) (maxDischargeDepth := 16) only [go_sem, ↓reduceIte, reduceCtorEq, Nat.reduceEqDiff, Nat.reduceAdd, Nat.reduceMul, Nat.reduceSub, Nat.reduceLT, Nat.reduceLeDiff, Nat.reducePow, Int.reduceLT, Int.reduceLE, Int.reduceNeg, Int.reduceToNat, d0]
    have h7 : j < a.e.length := by omega
    simp (dsimp := false) (maxDischargeDepth := 16) only [go_sem, ↓reduceIte, reduceCtorEq, Nat.reduceEqDiff, Nat.reduceAdd, Nat.reduceMul, Nat.reduceSub, Nat.reduceLT, Nat.reduceLeDiff, Nat.reducePow, Int.reduceLT, Int.reduceLE, Int.reduceNeg, Int.reduceToNat, t0, t1, t2, t6, t7, b7, t8, b0, d0, h6, h7, idx_nat]
    have hyes : okq a nodes l j = true → cur (j + 1) = quE a nodes k (l ++ [(j : Int)]) (cur j) := fun h => by rw [q1]; exact if_pos h
    have hno : okq a nodes l j = false → cur (j + 1) = cur j := fun h => by rw [q1]; exact if_neg (by simp [h])
    have ih2 := fun (h : okq a nodes l j = true) => ih (l ++ [(j : Int)]) (cur j) (okq_isP hl h6 h) (by simp; omega) hc
    simp only [lv, lvT, iv, map1_app] at ih2
    refine condK_intro (fun g0 => ?_) (fun g0 => ?_)
    · have hok : okq a nodes l j = true := by have := beqT g0; rw [okq, decide_eq_true (by omega)]; rfl
      simp (dsimp := false) (maxDischargeDepth := 16) only [go_sem, ↓reduceIte, reduceCtorEq, Nat.reduceEqDiff, Nat.reduceAdd, Nat.reduceMul, Nat.reduceSub, Nat.reduceLT, Nat.reduceLeDiff, Nat.reducePow, Int.reduceLT, Int.reduceLE, Int.reduceNeg, Int.reduceToNat, t0, t1, t2, t6, t7, b7, t8, b0, d0, h6, g0]
      refine ⟨⟨by omega, by omega⟩, ⟨by omega, by omega⟩, ?_⟩
      refine ecallK_intro (pre := gcs a) (x := qlvT (cur j) (.own (0, γ, 0))) rfl ?_ (ih2 hok) ?_
      · simp (dsimp := false) (maxDischargeDepth := 16) only [go_sem, ↓reduceIte, reduceCtorEq, Nat.reduceEqDiff, Nat.reduceAdd, Nat.reduceMul, Nat.reduceSub, Nat.reduceLT, Nat.reduceLeDiff, Nat.reducePow, Int.reduceLT, Int.reduceLE, Int.reduceNeg, Int.reduceToNat, d0]
      · simp (dsimp := false) (maxDischargeDepth := 16) only [go_sem, ↓reduceIte, reduceCtorEq, Nat.reduceEqDiff, Nat.reduceAdd, Nat.reduceMul, Nat.reduceSub, Nat.reduceLT, Nat.reduceLeDiff, Nat.reducePow, Int.reduceLT, Int.reduceLE, Int.reduceNeg, Int.reduceToNat, t0, t1, t2, t6, t7, b7, t8, b0, d0, h6]
        have hst := hyes hok
        refine ⟨j + 1, by omega, by omega, by rw [wrapN _ (by omega)], ?_, s.g 0, ?_, ?_⟩
        · rw [hst]; exact quE_len _ _ _ _ _ hc
        · rw [hst]
        · simp
    have g0' := beqF g0
    have h8 : j < l.length := by omega
    have x1 := hR _ (List.getElem_mem h3)
    have x2 := hR _ (List.getElem_mem h7)
    have r1 : a.e[l.length].2.1.toNat < nodes.length := by omega
    have r2 : a.e[l.length].2.2.toNat < nodes.length := by omega
    have r3 : a.e[j].2.1.toNat < nodes.length := by omega
    have r4 : a.e[j].2.2.toNat < nodes.length := by omega
    have r5 := x1.1
    have r6 := x1.2.2.1
    have r7 := x2.1
    have r8 := x2.2.2.1
    have hat := okq_at h8 h3 h7 r1 r2 r3 r4
    simp (dsimp := false) (maxDischargeDepth := 16) only [go_sem, ↓reduceIte, reduceCtorEq, Nat.reduceEqDiff, Nat.reduceAdd, Nat.reduceMul, Nat.reduceSub, Nat.reduceLT, Nat.reduceLeDiff, Nat.reducePow, Int.reduceLT, Int.reduceLE, Int.reduceNeg, Int.reduceToNat, t0, t1, t2, t6, t7, b7, t8, b0, d0, h6, g0, h8, idx_nat]
    refine condK_intro (fun g1 => ?_) (fun g1 => ?_)
    rotate_left
    · simp (dsimp := false) (maxDischargeDepth := 16) only [go_sem, ↓reduceIte, reduceCtorEq, Nat.reduceEqDiff, Nat.reduceAdd, Nat.reduceMul, Nat.reduceSub, Nat.reduceLT, Nat.reduceLeDiff, Nat.reducePow, Int.reduceLT, Int.reduceLE, Int.reduceNeg, Int.reduceToNat, t0, t1, t2, t6, t7, b7, t8, b0, d0, h6, g0, g1]
      have hst := hno (by rw [hat, g1]; rfl)
      exact ⟨j + 1, by omega, by omega, by rw [wrapN _ (by omega)], by rw [hst]; exact hc, γ, by rw [hst], d0⟩
    simp (dsimp := false) (maxDischargeDepth := 16) only [go_sem, ↓reduceIte, reduceCtorEq, Nat.reduceEqDiff, Nat.reduceAdd, Nat.reduceMul, Nat.reduceSub, Nat.reduceLT, Nat.reduceLeDiff, Nat.reducePow, Int.reduceLT, Int.reduceLE, Int.reduceNeg, Int.reduceToNat, t0, t1, t2, t6, t7, b7, t8, b0, d0, h6, g0, g1]
    refine condK_intro (fun g2 => ?_) (fun g2 => ?_)
    rotate_left
    · simp (dsimp := false) (maxDischargeDepth := 16) only [go_sem, ↓reduceIte, reduceCtorEq, Nat.reduceEqDiff, Nat.reduceAdd, Nat.reduceMul, Nat.reduceSub, Nat.reduceLT, Nat.reduceLeDiff, Nat.reducePow, Int.reduceLT, Int.reduceLE, Int.reduceNeg, Int.reduceToNat, t0, t1, t2, t6, t7, b7, t8, b0, d0, h6, g0, g1, g2]
      have hst := hno (by rw [hat, g1, g2]; rfl)
      exact ⟨j + 1, by omega, by omega, by rw [wrapN _ (by omega)], by rw [hst]; exact hc, γ, by rw [hst], d0⟩
    simp (dsimp := false) (maxDischargeDepth := 16) only [go_sem, ↓reduceIte, reduceCtorEq, Nat.reduceEqDiff, Nat.reduceAdd, Nat.reduceMul, Nat.reduceSub, Nat.reduceLT, Nat.reduceLeDiff, Nat.reducePow, Int.reduceLT, Int.reduceLE, Int.reduceNeg, Int.reduceToNat, t0, t1, t2, t6, t7, b7, t8, b0, d0, h6, g0, g1, g2, idx_int, r1, r2, r3, r4, r5, r6, r7, r8]
    refine condK_intro (fun g3 => ?_) (fun g3 => ?_)
    rotate_left
    · simp (dsimp := false) (maxDischargeDepth := 16) only [go_sem, ↓reduceIte, reduceCtorEq, Nat.reduceEqDiff, Nat.reduceAdd, Nat.reduceMul, Nat.reduceSub, Nat.reduceLT, Nat.reduceLeDiff, Nat.reducePow, Int.reduceLT, Int.reduceLE, Int.reduceNeg, Int.reduceToNat, t0, t1, t2, t6, t7, b7, t8, b0, d0, h6, g0, g1, g2, g3]
      have hst := hno (by rw [hat, g1, g2, g3]; rfl)
      exact ⟨j + 1, by omega, by omega, by rw [wrapN _ (by omega)], by rw [hst]; exact hc, γ, by rw [hst], d0⟩
    simp (dsimp := false) (maxDischargeDepth := 16) only [go_sem, ↓reduceIte, reduceCtorEq, Nat.reduceEqDiff, Nat.reduceAdd, Nat.reduceMul, Nat.reduceSub, Nat.reduceLT, Nat.reduceLeDiff, Nat.reducePow, Int.reduceLT, Int.reduceLE, Int.reduceNeg, Int.reduceToNat, t0, t1, t2, t6, t7, b7, t8, b0, d0, h6, g0, g1, g2, g3, idx_int, r1, r2, r3, r4, r5, r6, r7, r8]
    refine condK_intro (fun g4 => ?_) (fun g4 => ?_)
    rotate_left
    · simp (dsimp := false) (maxDischargeDepth := 16) only [go_sem, ↓reduceIte, reduceCtorEq, Nat.reduceEqDiff, Nat.reduceAdd, Nat.reduceMul, Nat.reduceSub, Nat.reduceLT, Nat.reduceLeDiff, Nat.reducePow, Int.reduceLT, Int.reduceLE, Int.reduceNeg, Int.reduceToNat, t0, t1, t2, t6, t7, b7, t8, b0, d0, h6, g0, g1, g2, g3, g4]
      have hst := hno (by rw [hat, g1, g2, g3, g4]; rfl)
      exact ⟨j + 1, by omega, by omega, by rw [wrapN _ (by omega)], by rw [hst]; exact hc, γ, by rw [hst], d0⟩
    have hok : okq a nodes l j = true := by rw [hat, g1, g2, g3, g4]; rfl
    simp (dsimp := false) (maxDischargeDepth := 16) only [go_sem, ↓reduceIte, reduceCtorEq, Nat.reduceEqDiff, Nat.reduceAdd, Nat.reduceMul, Nat.reduceSub, Nat.reduceLT, Nat.reduceLeDiff, Nat.reducePow, Int.reduceLT, Int.reduceLE, Int.reduceNeg, Int.reduceToNat, t0, t1, t2, t6, t7, b7, t8, b0, d0, h6, g0, g1, g2, g3, g4]
    refine ⟨⟨by omega, by omega⟩, ⟨by omega, by omega⟩, ?_⟩
    refine ecallK_intro (pre := gcs a) (x := qlvT (cur j) (.own (0, γ, 0))) rfl ?_ (ih2 hok) ?_
    · simp (dsimp := false) (maxDischargeDepth := 16) only [go_sem, ↓reduceIte, reduceCtorEq, Nat.reduceEqDiff, Nat.reduceAdd, Nat.reduceMul, Nat.reduceSub, Nat.reduceLT, Nat.reduceLeDiff, Nat.reducePow, Int.reduceLT, Int.reduceLE, Int.reduceNeg, Int.reduceToNat, d0]
    · simp (dsimp := false) (maxDischargeDepth := 16) only [go_sem, ↓reduceIte, reduceCtorEq, Nat.reduceEqDiff, Nat.reduceAdd, Nat.reduceMul, Nat.reduceSub, Nat.reduceLT, Nat.reduceLeDiff, Nat.reducePow, Int.reduceLT, Int.reduceLE, Int.reduceNeg, Int.reduceToNat, t0, t1, t2, t6, t7, b7, t8, b0, d0, h6]
      have hst := hyes hok
      refine ⟨j + 1, by omega, by omega, by rw [wrapN _ (by omega)], ?_, s.g 0, ?_, ?_⟩
      · rw [hst]; exact quE_len _ _ _ _ _ hc
      · rw [hst]
      · simp
theorem okn_isP {a : Gr} {l : List Int} {n : Nat} (h : isP l) (hn : n ≤ l.length) (h1 : okn a l n = true) : isP (l ++ [(n : Int)]) := by
  refine isP_ext h hn ?_
  simp only [okn, Bool.or_eq_true, Bool.and_eq_true, decide_eq_true_eq] at h1
  exact h1.imp id And.left
theorem okn_at {a : Gr} {l : List Int} {n : Nat} (h : n < l.length) (h2 : l.length < a.n.length) (h3 : n < a.n.length) : okn a l n = (l[n] == (n : Int) && a.n[n] == a.n[l.length]) := by
  rw [okn, decide_eq_false (by omega), Bool.false_or, getD_at h, getD_at h2, getD_at h3]
  rfl
set_option maxRecDepth 20000 in
set_option maxHeartbeats 4000000 in
theorem c69 (a : Gr) (hn : a.n.length ≤ 80) (he : a.e.length ≤ 80) (hR : ∀ x ∈ a.e, 0 ≤ x.2.1 ∧ x.2.1 < a.n.length ∧ 0 ≤ x.2.2 ∧ x.2.2 < a.n.length) :
    ∀ (k : Nat) (l : List Int) (out : List Qu), isP l → l.length + k = a.n.length → out.length ≤ 2001 →
      ECon Try.prog 69 [lv l] (gcs a) (qlvT out (.own (0, 0, 0))) .any (gcs a) (qlvT (quN a k l out) (.own (0, 0, 0)))
  | 0, l, out, hl, hk, hout => by
    refine econT (X := []) (rs := []) Try.func69 (by kernel_rfl) rfl rfl (by kernel_rfl) ?_
    simp (dsimp := false) (maxDischargeDepth := 16) only [go_sem, ↓reduceIte, reduceCtorEq, Nat.reduceEqDiff, Nat.reduceAdd, Nat.reduceMul, Nat.reduceSub, Nat.reduceLT, Nat.reduceLeDiff, Nat.reducePow, Int.reduceLT, Int.reduceLE, Int.reduceNeg, Int.reduceToNat]
    refine condK_dec (fun h1 => ?_) (fun h1 => ?_)
    · simp (dsimp := false) (maxDischargeDepth := 16) only [go_sem, ↓reduceIte, reduceCtorEq, Nat.reduceEqDiff, Nat.reduceAdd, Nat.reduceMul, Nat.reduceSub, Nat.reduceLT, Nat.reduceLeDiff, Nat.reducePow, Int.reduceLT, Int.reduceLE, Int.reduceNeg, Int.reduceToNat, h1]
      refine ⟨.inl trivial, _, rfl, ?_, ?_⟩
      · simp (dsimp := false) (maxDischargeDepth := 16) only [go_sem, ↓reduceIte, reduceCtorEq, Nat.reduceEqDiff, Nat.reduceAdd, Nat.reduceMul, Nat.reduceSub, Nat.reduceLT, Nat.reduceLeDiff, Nat.reducePow, Int.reduceLT, Int.reduceLE, Int.reduceNeg, Int.reduceToNat]
      · simp (dsimp := false) (maxDischargeDepth := 16) only [go_sem, ↓reduceIte, reduceCtorEq, Nat.reduceEqDiff, Nat.reduceAdd, Nat.reduceMul, Nat.reduceSub, Nat.reduceLT, Nat.reduceLeDiff, Nat.reducePow, Int.reduceLT, Int.reduceLE, Int.reduceNeg, Int.reduceToNat]
        rw [quN, if_pos (by omega)]
    simp (dsimp := false) (maxDischargeDepth := 16) only [go_sem, ↓reduceIte, reduceCtorEq, Nat.reduceEqDiff, Nat.reduceAdd, Nat.reduceMul, Nat.reduceSub, Nat.reduceLT, Nat.reduceLeDiff, Nat.reducePow, Int.reduceLT, Int.reduceLE, Int.reduceNeg, Int.reduceToNat, h1]
    refine condK_intro (fun h2 => ?_) (fun h2 => ?_)
    · simp (dsimp := false) (maxDischargeDepth := 16) only [go_sem, ↓reduceIte, reduceCtorEq, Nat.reduceEqDiff, Nat.reduceAdd, Nat.reduceMul, Nat.reduceSub, Nat.reduceLT, Nat.reduceLeDiff, Nat.reducePow, Int.reduceLT, Int.reduceLE, Int.reduceNeg, Int.reduceToNat, h1, h2]
      have ic := c122 a l hl (by omega) hn he hR a.e.length [] out isP_nil (by simp) hout
      simp only [lv, lvT, iv, List.map_nil] at ic
      refine ecallK_intro (pre := gcs a) (x := qlvT out (.own (0, 0, 0))) rfl ?_ ic ?_
      · simp (dsimp := false) (maxDischargeDepth := 16) only [go_sem, ↓reduceIte, reduceCtorEq, Nat.reduceEqDiff, Nat.reduceAdd, Nat.reduceMul, Nat.reduceSub, Nat.reduceLT, Nat.reduceLeDiff, Nat.reducePow, Int.reduceLT, Int.reduceLE, Int.reduceNeg, Int.reduceToNat]
      · simp (dsimp := false) (maxDischargeDepth := 16) only [go_sem, ↓reduceIte, reduceCtorEq, Nat.reduceEqDiff, Nat.reduceAdd, Nat.reduceMul, Nat.reduceSub, Nat.reduceLT, Nat.reduceLeDiff, Nat.reducePow, Int.reduceLT, Int.reduceLE, Int.reduceNeg, Int.reduceToNat, h1, h2]
        refine ⟨.inl trivial, _, rfl, ?_, ?_⟩
        · simp (dsimp := false) (maxDischargeDepth := 16) only [go_sem, ↓reduceIte, reduceCtorEq, Nat.reduceEqDiff, Nat.reduceAdd, Nat.reduceMul, Nat.reduceSub, Nat.reduceLT, Nat.reduceLeDiff, Nat.reducePow, Int.reduceLT, Int.reduceLE, Int.reduceNeg, Int.reduceToNat]
        · simp (dsimp := false) (maxDischargeDepth := 16) only [go_sem, ↓reduceIte, reduceCtorEq, Nat.reduceEqDiff, Nat.reduceAdd, Nat.reduceMul, Nat.reduceSub, Nat.reduceLT, Nat.reduceLeDiff, Nat.reducePow, Int.reduceLT, Int.reduceLE, Int.reduceNeg, Int.reduceToNat]
          rw [quN, if_neg (by omega)]
    · exact absurd (beqF h2) (by simp; omega)
  | k + 1, l, out, hl, hk, hout => by
    have ih := c69 a hn he hR k
    refine econT (X := []) (rs := []) Try.func69 (by kernel_rfl) rfl rfl (by kernel_rfl) ?_
    simp (dsimp := false) (maxDischargeDepth := 16) only [go_sem, ↓reduceIte, reduceCtorEq, Nat.reduceEqDiff, Nat.reduceAdd, Nat.reduceMul, Nat.reduceSub, Nat.reduceLT, Nat.reduceLeDiff, Nat.reducePow, Int.reduceLT, Int.reduceLE, Int.reduceNeg, Int.reduceToNat]
    refine condK_dec (fun h1 => ?_) (fun h1 => ?_)
    · simp (dsimp := false) (maxDischargeDepth := 16) only [go_sem, ↓reduceIte, reduceCtorEq, Nat.reduceEqDiff, Nat.reduceAdd, Nat.reduceMul, Nat.reduceSub, Nat.reduceLT, Nat.reduceLeDiff, Nat.reducePow, Int.reduceLT, Int.reduceLE, Int.reduceNeg, Int.reduceToNat, h1]
      refine ⟨.inl trivial, _, rfl, ?_, ?_⟩
      · simp (dsimp := false) (maxDischargeDepth := 16) only [go_sem, ↓reduceIte, reduceCtorEq, Nat.reduceEqDiff, Nat.reduceAdd, Nat.reduceMul, Nat.reduceSub, Nat.reduceLT, Nat.reduceLeDiff, Nat.reducePow, Int.reduceLT, Int.reduceLE, Int.reduceNeg, Int.reduceToNat]
      · simp (dsimp := false) (maxDischargeDepth := 16) only [go_sem, ↓reduceIte, reduceCtorEq, Nat.reduceEqDiff, Nat.reduceAdd, Nat.reduceMul, Nat.reduceSub, Nat.reduceLT, Nat.reduceLeDiff, Nat.reducePow, Int.reduceLT, Int.reduceLE, Int.reduceNeg, Int.reduceToNat]
        rw [quN, if_pos (by omega)]
    simp (dsimp := false) (maxDischargeDepth := 16) only [go_sem, ↓reduceIte, reduceCtorEq, Nat.reduceEqDiff, Nat.reduceAdd, Nat.reduceMul, Nat.reduceSub, Nat.reduceLT, Nat.reduceLeDiff, Nat.reducePow, Int.reduceLT, Int.reduceLE, Int.reduceNeg, Int.reduceToNat, h1]
    refine condK_intro (fun h2 => ?_) (fun h2 => ?_)
    · have := beqT h2
      omega
    have h3 : l.length < a.n.length := by omega
    simp (dsimp := false) (maxDischargeDepth := 16) only [go_sem, ↓reduceIte, reduceCtorEq, Nat.reduceEqDiff, Nat.reduceAdd, Nat.reduceMul, Nat.reduceSub, Nat.reduceLT, Nat.reduceLeDiff, Nat.reducePow, Int.reduceLT, Int.reduceLE, Int.reduceNeg, Int.reduceToNat, h1, h2]
    let st : List Qu → Nat → List Qu := fun out j => if okn a l j then quN a k (l ++ [(j : Int)]) out else out
    have hsp : quN a (k + 1) l out = (List.range (l.length + 1)).foldl st out := by rw [quN, if_neg (by omega)]
    rw [hsp]
    obtain ⟨cur, q0, q1, q2⟩ : ∃ cur : Nat → List Qu, cur 0 = out ∧ (∀ j, cur (j + 1) = st (cur j) j) ∧ cur (l.length + 1) = (List.range (l.length + 1)).foldl st out := ⟨fun j => (List.range j).foldl st out, rfl, fun j => range_fold _ _ _, rfl⟩
    generalize (List.range (l.length + 1)).foldl st out = F at *
    refine loopK_intro (fun (j : Nat) s => j ≤ l.length + 1 ∧ s.t 0 = .box (0, 0, 0) 0 ∧ s.t 1 = lv l ∧ s.t 4 = iv l.length ∧ s.t 5 = iv j ∧
      (cur j).length ≤ 2001 ∧ ∃ γ, s.b (0, 0, 0) = some ⟨gcs a ++ [qlvT (cur j) (.own (0, γ, 0))], false⟩ ∧ s.d (0, γ, 0) = false) (fun j => l.length + 1 - j) ?_ ?_
    · refine ⟨0, by omega, rfl, rfl, rfl, rfl, ?_, 0, ?_, ?_⟩
      · rw [q0]; exact hout
      · rw [q0]; rfl
      · simp (dsimp := false) (maxDischargeDepth := 16) only [go_sem, ↓reduceIte, reduceCtorEq, Nat.reduceEqDiff, Nat.reduceAdd, Nat.reduceMul, Nat.reduceSub, Nat.reduceLT, Nat.reduceLeDiff, Nat.reducePow, Int.reduceLT, Int.reduceLE, Int.reduceNeg, Int.reduceToNat]
    clear h1 h2
    rintro j s ⟨hj, t0, t1, t4, t5, hc, γ, b0, d0⟩
    simp (dsimp := false) (maxDischargeDepth := 16) only [go_sem, ↓reduceIte, reduceCtorEq, Nat.reduceEqDiff, Nat.reduceAdd, Nat.reduceMul, Nat.reduceSub, Nat.reduceLT, Nat.reduceLeDiff, Nat.reducePow, Int.reduceLT, Int.reduceLE, Int.reduceNeg, Int.reduceToNat, t0, t1, t4, t5, b0, d0]
    refine condK_dec (fun h6 => ?_) (fun h6 => ?_)
    rotate_left
    · simp (dsimp := false) (maxDischargeDepth := 16) only [go_sem, ↓reduceIte, reduceCtorEq, Nat.reduceEqDiff, Nat.reduceAdd, Nat.reduceMul, Nat.reduceSub, Nat.reduceLT, Nat.reduceLeDiff, Nat.reducePow, Int.reduceLT, Int.reduceLE, Int.reduceNeg, Int.reduceToNat, t0, t1, t4, t5, b0, d0, h6]
      have hj1 : j = l.length + 1 := by omega
      subst hj1
      rw [q2]
      refine ⟨.inl trivial, _, rfl, ?_, rfl⟩
      simp (dsimp := false) (maxDischargeDepth := 16) only [go_sem, ↓reduceIte, reduceCtorEq, Nat.reduceEqDiff, Nat.reduceAdd, Nat.reduceMul, Nat.reduceSub, Nat.reduceLT, Nat.reduceLeDiff, Nat.reducePow, Int.reduceLT, Int.reduceLE, Int.reduceNeg, Int.reduceToNat, d0]
    have h7 : j < a.n.length := by omega
    simp (dsimp := false) (maxDischargeDepth := 16) only [go_sem, ↓reduceIte, reduceCtorEq, Nat.reduceEqDiff, Nat.reduceAdd, Nat.reduceMul, Nat.reduceSub, Nat.reduceLT, Nat.reduceLeDiff, Nat.reducePow, Int.reduceLT, Int.reduceLE, Int.reduceNeg, Int.reduceToNat, t0, t1, t4, t5, b0, d0, h6, h7, h3, idx_nat]
    have hyes : okn a l j = true → cur (j + 1) = quN a k (l ++ [(j : Int)]) (cur j) := fun h => by rw [q1]; exact if_pos h
    have hno : okn a l j = false → cur (j + 1) = cur j := fun h => by rw [q1]; exact if_neg (by simp [h])
    have ih2 := fun (h : okn a l j = true) => ih (l ++ [(j : Int)]) (cur j) (okn_isP hl h6 h) (by simp; omega) hc
    simp only [lv, lvT, iv, map1_app] at ih2
    refine condK_intro (fun g0 => ?_) (fun g0 => ?_)
    · have hok : okn a l j = true := by have := beqT g0; rw [okn, decide_eq_true (by omega)]; rfl
      simp (dsimp := false) (maxDischargeDepth := 16) only [go_sem, ↓reduceIte, reduceCtorEq, Nat.reduceEqDiff, Nat.reduceAdd, Nat.reduceMul, Nat.reduceSub, Nat.reduceLT, Nat.reduceLeDiff, Nat.reducePow, Int.reduceLT, Int.reduceLE, Int.reduceNeg, Int.reduceToNat, t0, t1, t4, t5, b0, d0, h6, g0]
      refine ⟨⟨by omega, by omega⟩, ⟨by omega, by omega⟩, ?_⟩
      refine ecallK_intro (pre := gcs a) (x := qlvT (cur j) (.own (0, γ, 0))) rfl ?_ (ih2 hok) ?_
      · simp (dsimp := false) (maxDischargeDepth := 16) only [go_sem, ↓reduceIte, reduceCtorEq, Nat.reduceEqDiff, Nat.reduceAdd, Nat.reduceMul, Nat.reduceSub, Nat.reduceLT, Nat.reduceLeDiff, Nat.reducePow, Int.reduceLT, Int.reduceLE, Int.reduceNeg, Int.reduceToNat, d0]
      · simp (dsimp := false) (maxDischargeDepth := 16) only [go_sem, ↓reduceIte, reduceCtorEq, Nat.reduceEqDiff, Nat.reduceAdd, Nat.reduceMul, Nat.reduceSub, Nat.reduceLT, Nat.reduceLeDiff, Nat.reducePow, Int.reduceLT, Int.reduceLE, Int.reduceNeg, Int.reduceToNat, t0, t1, t4, t5, b0, d0, h6]
        have hst := hyes hok
        refine ⟨j + 1, by omega, by omega, by rw [wrapN _ (by omega)], ?_, s.g 0, ?_, ?_⟩
        · rw [hst]; exact quN_len _ _ _ _ hc
        · rw [hst]
        · simp
    have g0' := beqF g0
    have h8 : j < l.length := by omega
    have hat := okn_at h8 h3 h7
    simp (dsimp := false) (maxDischargeDepth := 16) only [go_sem, ↓reduceIte, reduceCtorEq, Nat.reduceEqDiff, Nat.reduceAdd, Nat.reduceMul, Nat.reduceSub, Nat.reduceLT, Nat.reduceLeDiff, Nat.reducePow, Int.reduceLT, Int.reduceLE, Int.reduceNeg, Int.reduceToNat, t0, t1, t4, t5, b0, d0, h6, g0, h8, h7, h3, idx_nat]
    refine condK_intro (fun g1 => ?_) (fun g1 => ?_)
    rotate_left
    · simp (dsimp := false) (maxDischargeDepth := 16) only [go_sem, ↓reduceIte, reduceCtorEq, Nat.reduceEqDiff, Nat.reduceAdd, Nat.reduceMul, Nat.reduceSub, Nat.reduceLT, Nat.reduceLeDiff, Nat.reducePow, Int.reduceLT, Int.reduceLE, Int.reduceNeg, Int.reduceToNat, t0, t1, t4, t5, b0, d0, h6, g0, g1]
      have hst := hno (by rw [hat, g1]; rfl)
      exact ⟨j + 1, by omega, by omega, by rw [wrapN _ (by omega)], by rw [hst]; exact hc, γ, by rw [hst], d0⟩
    simp (dsimp := false) (maxDischargeDepth := 16) only [go_sem, ↓reduceIte, reduceCtorEq, Nat.reduceEqDiff, Nat.reduceAdd, Nat.reduceMul, Nat.reduceSub, Nat.reduceLT, Nat.reduceLeDiff, Nat.reducePow, Int.reduceLT, Int.reduceLE, Int.reduceNeg, Int.reduceToNat, t0, t1, t4, t5, b0, d0, h6, g0, g1, h7, h3, idx_nat]
    refine condK_intro (fun g2 => ?_) (fun g2 => ?_)
    rotate_left
    · simp (dsimp := false) (maxDischargeDepth := 16) only [go_sem, ↓reduceIte, reduceCtorEq, Nat.reduceEqDiff, Nat.reduceAdd, Nat.reduceMul, Nat.reduceSub, Nat.reduceLT, Nat.reduceLeDiff, Nat.reducePow, Int.reduceLT, Int.reduceLE, Int.reduceNeg, Int.reduceToNat, t0, t1, t4, t5, b0, d0, h6, g0, g1, g2]
      have hst := hno (by rw [hat, g1, g2]; rfl)
      exact ⟨j + 1, by omega, by omega, by rw [wrapN _ (by omega)], by rw [hst]; exact hc, γ, by rw [hst], d0⟩
    have hok : okn a l j = true := by rw [hat, g1, g2]; rfl
    simp (dsimp := false) (maxDischargeDepth := 16) only [go_sem, ↓reduceIte, reduceCtorEq, Nat.reduceEqDiff, Nat.reduceAdd, Nat.reduceMul, Nat.reduceSub, Nat.reduceLT, Nat.reduceLeDiff, Nat.reducePow, Int.reduceLT, Int.reduceLE, Int.reduceNeg, Int.reduceToNat, t0, t1, t4, t5, b0, d0, h6, g0, g1, g2]
    refine ⟨⟨by omega, by omega⟩, ⟨by omega, by omega⟩, ?_⟩
    refine ecallK_intro (pre := gcs a) (x := qlvT (cur j) (.own (0, γ, 0))) rfl ?_ (ih2 hok) ?_
    · simp (dsimp := false) (maxDischargeDepth := 16) only [go_sem, ↓reduceIte, reduceCtorEq, Nat.reduceEqDiff, Nat.reduceAdd, Nat.reduceMul, Nat.reduceSub, Nat.reduceLT, Nat.reduceLeDiff, Nat.reducePow, Int.reduceLT, Int.reduceLE, Int.reduceNeg, Int.reduceToNat, d0]
    · simp (dsimp := false) (maxDischargeDepth := 16) only [go_sem, ↓reduceIte, reduceCtorEq, Nat.reduceEqDiff, Nat.reduceAdd, Nat.reduceMul, Nat.reduceSub, Nat.reduceLT, Nat.reduceLeDiff, Nat.reducePow, Int.reduceLT, Int.reduceLE, Int.reduceNeg, Int.reduceToNat, t0, t1, t4, t5, b0, d0, h6]
      have hst := hyes hok
      refine ⟨j + 1, by omega, by omega, by rw [wrapN _ (by omega)], ?_, s.g 0, ?_, ?_⟩
      · rw [hst]; exact quN_len _ _ _ _ hc
      · rw [hst]
      · simp
/-- The quotients and the error. -/
def quS (a : Gr) : List Qu × Int := if gErr a ≠ 0 then ([], gErr a) else if 6 < a.n.length ∨ 6 < a.e.length then ([], 3) else if 2000 < (quN a a.n.length [] []).length then ([], 3) else (quN a a.n.length [] [], 0)
theorem c24 (a : Gr) : Con Try.prog 24 [gv a] 0 (.tup [qlv (quS a).1, iv (quS a).2]) := by
  refine conT (X := []) (rs := [.tmp 2, .tmp 3]) Try.func24 (by kernel_rfl) rfl rfl (by kernel_rfl) ?_
  simp (dsimp := false) (maxDischargeDepth := 16) only [go_sem, ↓reduceIte, reduceCtorEq, Nat.reduceEqDiff, Nat.reduceAdd, Nat.reduceMul, Nat.reduceSub, Nat.reduceLT, Nat.reduceLeDiff, Nat.reducePow, Int.reduceLT, Int.reduceLE, Int.reduceNeg, Int.reduceToNat]
  refine callK_intro (c60 a) ?_
  simp (dsimp := false) (maxDischargeDepth := 16) only [go_sem, ↓reduceIte, reduceCtorEq, Nat.reduceEqDiff, Nat.reduceAdd, Nat.reduceMul, Nat.reduceSub, Nat.reduceLT, Nat.reduceLeDiff, Nat.reducePow, Int.reduceLT, Int.reduceLE, Int.reduceNeg, Int.reduceToNat]
  refine condK_intro (fun h1 => ?_) (fun h1 => ?_)
  · simp (dsimp := false) (maxDischargeDepth := 16) only [go_sem, ↓reduceIte, reduceCtorEq, Nat.reduceEqDiff, Nat.reduceAdd, Nat.reduceMul, Nat.reduceSub, Nat.reduceLT, Nat.reduceLeDiff, Nat.reducePow, Int.reduceLT, Int.reduceLE, Int.reduceNeg, Int.reduceToNat, h1]
    have h : quS a = ([], gErr a) := if_pos (ineq h1)
    rw [h]
    exact finK ⟨rfl, rfl⟩
  have g1 := ieq h1
  obtain ⟨⟨p1, p2⟩, p3⟩ := gErr_small g1
  have hbig : ∀ o, (6 < a.n.length ∨ 6 < a.e.length) → o = quS a → o = ([], 3) := fun o h ho => by rw [ho, quS, if_neg (by simp [g1]), if_pos h]
  simp (dsimp := false) (maxDischargeDepth := 16) only [go_sem, ↓reduceIte, reduceCtorEq, Nat.reduceEqDiff, Nat.reduceAdd, Nat.reduceMul, Nat.reduceSub, Nat.reduceLT, Nat.reduceLeDiff, Nat.reducePow, Int.reduceLT, Int.reduceLE, Int.reduceNeg, Int.reduceToNat, h1]
  refine condK_dec (fun h3 => ?_) (fun h3 => ?_)
  · simp (dsimp := false) (maxDischargeDepth := 16) only [go_sem, ↓reduceIte, reduceCtorEq, Nat.reduceEqDiff, Nat.reduceAdd, Nat.reduceMul, Nat.reduceSub, Nat.reduceLT, Nat.reduceLeDiff, Nat.reducePow, Int.reduceLT, Int.reduceLE, Int.reduceNeg, Int.reduceToNat, h1, h3]
    rw [hbig _ (by omega) rfl]
    exact finK ⟨rfl, rfl⟩
  simp (dsimp := false) (maxDischargeDepth := 16) only [go_sem, ↓reduceIte, reduceCtorEq, Nat.reduceEqDiff, Nat.reduceAdd, Nat.reduceMul, Nat.reduceSub, Nat.reduceLT, Nat.reduceLeDiff, Nat.reducePow, Int.reduceLT, Int.reduceLE, Int.reduceNeg, Int.reduceToNat, h1, h3]
  refine condK_dec (fun h4 => ?_) (fun h4 => ?_)
  · simp (dsimp := false) (maxDischargeDepth := 16) only [go_sem, ↓reduceIte, reduceCtorEq, Nat.reduceEqDiff, Nat.reduceAdd, Nat.reduceMul, Nat.reduceSub, Nat.reduceLT, Nat.reduceLeDiff, Nat.reducePow, Int.reduceLT, Int.reduceLE, Int.reduceNeg, Int.reduceToNat, h1, h3, h4]
    rw [hbig _ (by omega) rfl]
    exact finK ⟨rfl, rfl⟩
  simp (dsimp := false) (maxDischargeDepth := 16) only [go_sem, ↓reduceIte, reduceCtorEq, Nat.reduceEqDiff, Nat.reduceAdd, Nat.reduceMul, Nat.reduceSub, Nat.reduceLT, Nat.reduceLeDiff, Nat.reducePow, Int.reduceLT, Int.reduceLE, Int.reduceNeg, Int.reduceToNat, h1, h3, h4]
  have ic := c69 a (by omega) (by omega) (fun x hx => (p3.2 x hx).2) a.n.length [] [] isP_nil (by simp) (by simp)
  simp only [lv, lvT, iv, List.map_nil] at ic
  refine ecallK_intro (pre := gcs a) (x := qlvT [] .nil) rfl ?_ ic ?_
  · simp (dsimp := false) (maxDischargeDepth := 16) only [go_sem, ↓reduceIte, reduceCtorEq, Nat.reduceEqDiff, Nat.reduceAdd, Nat.reduceMul, Nat.reduceSub, Nat.reduceLT, Nat.reduceLeDiff, Nat.reducePow, Int.reduceLT, Int.reduceLE, Int.reduceNeg, Int.reduceToNat]
  have hl := quN_len a a.n.length [] [] (by simp)
  generalize hO : quN a a.n.length [] [] = O at *
  simp (dsimp := false) (maxDischargeDepth := 16) only [go_sem, ↓reduceIte, reduceCtorEq, Nat.reduceEqDiff, Nat.reduceAdd, Nat.reduceMul, Nat.reduceSub, Nat.reduceLT, Nat.reduceLeDiff, Nat.reducePow, Int.reduceLT, Int.reduceLE, Int.reduceNeg, Int.reduceToNat, h1, h3, h4]
  refine condK_dec (fun h5 => ?_) (fun h5 => ?_)
  · simp (dsimp := false) (maxDischargeDepth := 16) only [go_sem, ↓reduceIte, reduceCtorEq, Nat.reduceEqDiff, Nat.reduceAdd, Nat.reduceMul, Nat.reduceSub, Nat.reduceLT, Nat.reduceLeDiff, Nat.reducePow, Int.reduceLT, Int.reduceLE, Int.reduceNeg, Int.reduceToNat, h1, h3, h4, h5]
    have h : quS a = ([], 3) := by rw [quS, if_neg (by simp [g1]), if_neg (by omega), hO, if_pos (by omega)]
    rw [h]
    exact finK ⟨rfl, rfl⟩
  · simp (dsimp := false) (maxDischargeDepth := 16) only [go_sem, ↓reduceIte, reduceCtorEq, Nat.reduceEqDiff, Nat.reduceAdd, Nat.reduceMul, Nat.reduceSub, Nat.reduceLT, Nat.reduceLeDiff, Nat.reducePow, Int.reduceLT, Int.reduceLE, Int.reduceNeg, Int.reduceToNat, h1, h3, h4, h5]
    have h : quS a = (O, 0) := by rw [quS, if_neg (by simp [g1]), if_neg (by omega), hO, if_neg (by omega)]
    rw [h]
    exact finK ⟨rfl, rfl⟩
end Go.Sy

/- Contracts: factor.Quotients; equality of lists of quotients. -/
set_option linter.unusedSimpArgs false
namespace Go.Sy
open Go Go.Proofs

theorem tokOK_fbox {s : St} (k : Key) (l : List AV) (tk : Tok) : tokOK (s.fbox k l) tk = tokOK s tk := by cases tk <;> rfl
attribute [go_sem] tokOK_fbox
theorem c25 (x y : List Qu) : Con Try.prog 25 [qlv x, qlv y] 0 (bv (decide (x = y))) := by
  refine Con.assume (enters_of Try.func25 (by kernel_rfl) rfl) fun hb => ?_
  have hlen : (x.length : Int) ≤ 9223372036854775807 := by
    have := (hb _ (List.mem_cons_self ..)).1
    simpa using this
  refine conT (X := []) (rs := [.tmp 4]) Try.func25 (by kernel_rfl) rfl rfl (by kernel_rfl) ?_
  simp (dsimp := false) (maxDischargeDepth := 16) only [go_sem, ↓reduceIte, reduceCtorEq, Nat.reduceEqDiff, Nat.reduceAdd, Nat.reduceMul, Nat.reduceSub, Nat.reduceLT, Nat.reduceLeDiff, Nat.reducePow, Int.reduceLT, Int.reduceLE, Int.reduceNeg, Int.reduceToNat]
  refine condK_intro (fun h1 => ?_) (fun h1 => ?_)
  · simp (dsimp := false) (maxDischargeDepth := 16) only [go_sem, ↓reduceIte, reduceCtorEq, Nat.reduceEqDiff, Nat.reduceAdd, Nat.reduceMul, Nat.reduceSub, Nat.reduceLT, Nat.reduceLeDiff, Nat.reducePow, Int.reduceLT, Int.reduceLE, Int.reduceNeg, Int.reduceToNat, h1]
    exact finF' (fun h => by simp [h] at h1)
  have h1' : x.length = y.length := by have : (x.length : Int) = y.length := by simpa using h1
                                       omega
  simp (dsimp := false) (maxDischargeDepth := 16) only [go_sem, ↓reduceIte, reduceCtorEq, Nat.reduceEqDiff, Nat.reduceAdd, Nat.reduceMul, Nat.reduceSub, Nat.reduceLT, Nat.reduceLeDiff, Nat.reducePow, Int.reduceLT, Int.reduceLE, Int.reduceNeg, Int.reduceToNat, h1]
  refine loopK_intro (fun (i : Nat) s => i ≤ x.length ∧ s.t 0 = qlv x ∧ s.t 1 = qlv y ∧ s.t 5 = iv i ∧ ∀ j, j < i → x[j]? = y[j]?) (fun i => x.length - i) ⟨0, by omega, rfl, rfl, rfl, fun j hj => by omega⟩ ?_
  rintro i s ⟨hi, h0, h1, h5, hn⟩
  simp (dsimp := false) (maxDischargeDepth := 16) only [go_sem, ↓reduceIte, reduceCtorEq, Nat.reduceEqDiff, Nat.reduceAdd, Nat.reduceMul, Nat.reduceSub, Nat.reduceLT, Nat.reduceLeDiff, Nat.reducePow, Int.reduceLT, Int.reduceLE, Int.reduceNeg, Int.reduceToNat, h0, h1, h5]
  refine condK_dec (fun h6 => ?_) (fun h6 => ?_)
  · have h7 : i < y.length := by omega
    have no : x[i] ≠ y[i] → x ≠ y := fun h e => h (by subst e; rfl)
    simp (dsimp := false) (maxDischargeDepth := 16) only [go_sem, ↓reduceIte, reduceCtorEq, Nat.reduceEqDiff, Nat.reduceAdd, Nat.reduceMul, Nat.reduceSub, Nat.reduceLT, Nat.reduceLeDiff, Nat.reducePow, Int.reduceLT, Int.reduceLE, Int.reduceNeg, Int.reduceToNat, h0, h1, h5, h6, h7, idx_nat]
    refine callK_intro (c47 _ _) ?_
    simp (dsimp := false) (maxDischargeDepth := 16) only [go_sem, ↓reduceIte, reduceCtorEq, Nat.reduceEqDiff, Nat.reduceAdd, Nat.reduceMul, Nat.reduceSub, Nat.reduceLT, Nat.reduceLeDiff, Nat.reducePow, Int.reduceLT, Int.reduceLE, Int.reduceNeg, Int.reduceToNat, h0, h1, h5, h6, h7]
    refine condK_intro (fun h8 => ?_) (fun h8 => ?_)
    · simp (dsimp := false) (maxDischargeDepth := 16) only [go_sem, ↓reduceIte, reduceCtorEq, Nat.reduceEqDiff, Nat.reduceAdd, Nat.reduceMul, Nat.reduceSub, Nat.reduceLT, Nat.reduceLeDiff, Nat.reducePow, Int.reduceLT, Int.reduceLE, Int.reduceNeg, Int.reduceToNat, h0, h1, h5, h6, h7, h8]
      exact finF' (no fun h => ndec h8 (by rw [h]))
    simp (dsimp := false) (maxDischargeDepth := 16) only [go_sem, ↓reduceIte, reduceCtorEq, Nat.reduceEqDiff, Nat.reduceAdd, Nat.reduceMul, Nat.reduceSub, Nat.reduceLT, Nat.reduceLeDiff, Nat.reducePow, Int.reduceLT, Int.reduceLE, Int.reduceNeg, Int.reduceToNat, h0, h1, h5, h6, h7, h8, idx_nat]
    refine callK_intro (c35 _ _) ?_
    simp (dsimp := false) (maxDischargeDepth := 16) only [go_sem, ↓reduceIte, reduceCtorEq, Nat.reduceEqDiff, Nat.reduceAdd, Nat.reduceMul, Nat.reduceSub, Nat.reduceLT, Nat.reduceLeDiff, Nat.reducePow, Int.reduceLT, Int.reduceLE, Int.reduceNeg, Int.reduceToNat, h0, h1, h5, h6, h7, h8]
    refine condK_intro (fun h9 => ?_) (fun h9 => ?_)
    · simp (dsimp := false) (maxDischargeDepth := 16) only [go_sem, ↓reduceIte, reduceCtorEq, Nat.reduceEqDiff, Nat.reduceAdd, Nat.reduceMul, Nat.reduceSub, Nat.reduceLT, Nat.reduceLeDiff, Nat.reducePow, Int.reduceLT, Int.reduceLE, Int.reduceNeg, Int.reduceToNat, h0, h1, h5, h6, h7, h8, h9]
      exact finF' (no fun h => ndec h9 (by rw [h]))
    · simp (dsimp := false) (maxDischargeDepth := 16) only [go_sem, ↓reduceIte, reduceCtorEq, Nat.reduceEqDiff, Nat.reduceAdd, Nat.reduceMul, Nat.reduceSub, Nat.reduceLT, Nat.reduceLeDiff, Nat.reducePow, Int.reduceLT, Int.reduceLE, Int.reduceNeg, Int.reduceToNat, h0, h1, h5, h6, h7, h8, h9]
      refine ⟨i + 1, by omega, by omega, by rw [wrapN _ (by omega)], fun j hj => ?_⟩
      by_cases hji : j = i
      · subst hji
        rw [List.getElem?_eq_getElem h6, List.getElem?_eq_getElem h7]
        have e1 := ydec h8
        have e2 := ydec h9
        generalize x[j] = u at *
        generalize y[j] = v at *
        cases u; cases v
        simp_all
      · exact hn j (by omega)
  · simp (dsimp := false) (maxDischargeDepth := 16) only [go_sem, ↓reduceIte, reduceCtorEq, Nat.reduceEqDiff, Nat.reduceAdd, Nat.reduceMul, Nat.reduceSub, Nat.reduceLT, Nat.reduceLeDiff, Nat.reducePow, Int.reduceLT, Int.reduceLE, Int.reduceNeg, Int.reduceToNat, h0, h1, h5, h6]
    refine finT (List.ext_getElem? fun j => ?_)
    by_cases hj : j < i
    · exact hn j hj
    · rw [List.getElem?_eq_none (by omega), List.getElem?_eq_none (by omega)]
theorem ext_mem2 {p q : List Int} {i j : Nat} (h : q ∈ ext p i j) : ∃ x : Nat, x < j ∧ (x = i ∨ p.getD x 0 = (x : Int)) ∧ q = p ++ [(x : Int)] := by
  unfold ext at h
  obtain ⟨x, hx, rfl⟩ := List.mem_map.1 h
  obtain ⟨h1, h2⟩ := List.mem_filter.1 hx
  exact ⟨x, List.mem_range.1 h1, by simpa using h2, rfl⟩
theorem allP_isP : ∀ (i : Nat) (p : List Int), p ∈ allP i → isP p
  | 0, p, h => by simp [allP] at h; subst h; exact isP_nil
  | i + 1, p, h => by
    unfold allP at h
    obtain ⟨q, hq, h⟩ := List.mem_flatMap.1 h
    obtain ⟨x, hx, h1, rfl⟩ := ext_mem2 h
    have hl := allP_mem i q hq
    exact isP_ext (allP_isP i q hq) (by omega) (by rw [hl]; exact h1)
def quF (a : Gr) (p : List Int) : List Qu := if okP a p = true then ((allP a.e.length).filter (okQ a p)).map (quo a p) else []
def quL (a : Gr) : List Qu := (allP a.n.length).flatMap (quF a)
def quP (a : Gr) : List Qu × Int := if gErr a ≠ 0 then ([], gErr a) else if 6 < a.n.length ∨ 6 < a.e.length then ([], 3) else if 2000 < (quL a).length then ([], 3) else (quL a, 0)
theorem flat_split {α β : Type} (f : α → List β) {l : List α} {m : Nat} (h : m < l.length) : l.flatMap f = (l.take m).flatMap f ++ (f l[m] ++ (l.drop (m + 1)).flatMap f) := by
  conv => lhs; rw [← List.take_append_drop m l, List.flatMap_append, List.drop_eq_getElem_cons h, List.flatMap_cons]
theorem filter_yes {α : Type} {f : α → Bool} {l : List α} {m : Nat} (h : m < l.length) (h1 : f l[m] = true) : (l.take (m + 1)).filter f = (l.take m).filter f ++ [l[m]] := by
  rw [List.take_add_one, List.getElem?_eq_getElem h, List.filter_append]
  simp [h1]
theorem filter_no {α : Type} {f : α → Bool} {l : List α} {m : Nat} (h : m < l.length) (h1 : f l[m] = false) : (l.take (m + 1)).filter f = (l.take m).filter f := by
  rw [List.take_add_one, List.getElem?_eq_getElem h, List.filter_append]
  simp [h1]
theorem take_filter_len {α : Type} (f : α → Bool) (l : List α) (m : Nat) : ((l.take m).filter f).length ≤ (l.filter f).length :=
  ((List.take_sublist m l).filter f).length_le
set_option maxRecDepth 20000 in
set_option maxHeartbeats 4000000 in
theorem c23 (a : Gr) : Con Try.prog 23 [gv a] 0 (.tup [qlv (quP a).1, iv (quP a).2]) := by
  refine conT (X := [(12, [1], []), (13, [1, 11], [])]) (rs := [.tmp 2, .tmp 3]) Try.func23 (by kernel_rfl) rfl rfl (by kernel_rfl) ?_
  simp (dsimp := false) (maxDischargeDepth := 16) only [go_sem, ↓reduceIte, reduceCtorEq, Nat.reduceEqDiff, Nat.reduceAdd, Nat.reduceMul, Nat.reduceSub, Nat.reduceLT, Nat.reduceLeDiff, Nat.reducePow, Int.reduceLT, Int.reduceLE, Int.reduceNeg, Int.reduceToNat]
  refine callK_intro (c61 a) ?_
  simp (dsimp := false) (maxDischargeDepth := 16) only [go_sem, ↓reduceIte, reduceCtorEq, Nat.reduceEqDiff, Nat.reduceAdd, Nat.reduceMul, Nat.reduceSub, Nat.reduceLT, Nat.reduceLeDiff, Nat.reducePow, Int.reduceLT, Int.reduceLE, Int.reduceNeg, Int.reduceToNat]
  refine condK_intro (fun h1 => ?_) (fun h1 => ?_)
  · simp (dsimp := false) (maxDischargeDepth := 16) only [go_sem, ↓reduceIte, reduceCtorEq, Nat.reduceEqDiff, Nat.reduceAdd, Nat.reduceMul, Nat.reduceSub, Nat.reduceLT, Nat.reduceLeDiff, Nat.reducePow, Int.reduceLT, Int.reduceLE, Int.reduceNeg, Int.reduceToNat, h1]
    have h : quP a = ([], gErr a) := if_pos (ineq h1)
    rw [h]
    exact finK ⟨rfl, rfl⟩
  have g1 := ieq h1
  obtain ⟨⟨p1, p2⟩, p3⟩ := gErr_small g1
  have hR : ∀ x ∈ a.e, 0 ≤ x.2.1 ∧ x.2.1 < a.n.length ∧ 0 ≤ x.2.2 ∧ x.2.2 < a.n.length := fun x hx => (p3.2 x hx).2
  have hbig : ∀ o, (6 < a.n.length ∨ 6 < a.e.length) → o = quP a → o = ([], 3) := fun o h ho => by rw [ho, quP, if_neg (by simp [g1]), if_pos h]
  simp (dsimp := false) (maxDischargeDepth := 16) only [go_sem, ↓reduceIte, reduceCtorEq, Nat.reduceEqDiff, Nat.reduceAdd, Nat.reduceMul, Nat.reduceSub, Nat.reduceLT, Nat.reduceLeDiff, Nat.reducePow, Int.reduceLT, Int.reduceLE, Int.reduceNeg, Int.reduceToNat, h1]
  refine condK_dec (fun h3 => ?_) (fun h3 => ?_)
  · simp (dsimp := false) (maxDischargeDepth := 16) only [go_sem, ↓reduceIte, reduceCtorEq, Nat.reduceEqDiff, Nat.reduceAdd, Nat.reduceMul, Nat.reduceSub, Nat.reduceLT, Nat.reduceLeDiff, Nat.reducePow, Int.reduceLT, Int.reduceLE, Int.reduceNeg, Int.reduceToNat, h1, h3]
    rw [hbig _ (by omega) rfl]
    exact finK ⟨rfl, rfl⟩
  simp (dsimp := false) (maxDischargeDepth := 16) only [go_sem, ↓reduceIte, reduceCtorEq, Nat.reduceEqDiff, Nat.reduceAdd, Nat.reduceMul, Nat.reduceSub, Nat.reduceLT, Nat.reduceLeDiff, Nat.reducePow, Int.reduceLT, Int.reduceLE, Int.reduceNeg, Int.reduceToNat, h1, h3]
  refine condK_dec (fun h4 => ?_) (fun h4 => ?_)
  · simp (dsimp := false) (maxDischargeDepth := 16) only [go_sem, ↓reduceIte, reduceCtorEq, Nat.reduceEqDiff, Nat.reduceAdd, Nat.reduceMul, Nat.reduceSub, Nat.reduceLT, Nat.reduceLeDiff, Nat.reducePow, Int.reduceLT, Int.reduceLE, Int.reduceNeg, Int.reduceToNat, h1, h3, h4]
    rw [hbig _ (by omega) rfl]
    exact finK ⟨rfl, rfl⟩
  have hsm : ¬ (6 < a.n.length ∨ 6 < a.e.length) := by omega
  simp (dsimp := false) (maxDischargeDepth := 16) only [go_sem, ↓reduceIte, reduceCtorEq, Nat.reduceEqDiff, Nat.reduceAdd, Nat.reduceMul, Nat.reduceSub, Nat.reduceLT, Nat.reduceLeDiff, Nat.reducePow, Int.reduceLT, Int.reduceLE, Int.reduceNeg, Int.reduceToNat, h1, h3, h4]
  refine callK_intro (c64 a.n.length (by omega)) ?_
  simp (dsimp := false) (maxDischargeDepth := 16) only [go_sem, ↓reduceIte, reduceCtorEq, Nat.reduceEqDiff, Nat.reduceAdd, Nat.reduceMul, Nat.reduceSub, Nat.reduceLT, Nat.reduceLeDiff, Nat.reducePow, Int.reduceLT, Int.reduceLE, Int.reduceNeg, Int.reduceToNat, h1, h3, h4]
  refine callK_intro (c64 a.e.length (by omega)) ?_
  simp (dsimp := false) (maxDischargeDepth := 16) only [go_sem, ↓reduceIte, reduceCtorEq, Nat.reduceEqDiff, Nat.reduceAdd, Nat.reduceMul, Nat.reduceSub, Nat.reduceLT, Nat.reduceLeDiff, Nat.reducePow, Int.reduceLT, Int.reduceLE, Int.reduceNeg, Int.reduceToNat, h1, h3, h4]
  have lN := allP_len a.n.length (by omega)
  have lE := allP_len a.e.length (by omega)
  have e1 : 8 ^ a.n.length ≤ 8 ^ 7 := Nat.pow_le_pow_right (by decide) (by omega)
  have e2 : 8 ^ a.e.length ≤ 8 ^ 7 := Nat.pow_le_pow_right (by decide) (by omega)
  refine loopK_intro (fun (i : Nat) s => i ≤ (allP a.n.length).length ∧ s.t 1 = .box (1, 0, 0) 0 ∧ (∃ z, s.b (1, 0, 0) = some ⟨gcs a, z⟩) ∧ s.t 7 = llv (allP a.e.length) ∧ s.t 44 = llv (allP a.n.length) ∧ s.t 45 = iv (allP a.n.length).length ∧ s.t 46 = iv i ∧
    (((allP a.n.length).take i).flatMap (quF a)).length ≤ 2000 ∧ ∃ tk, s.t 9 = qlvT (((allP a.n.length).take i).flatMap (quF a)) tk ∧ tokOK s tk = true) (fun i => (allP a.n.length).length - i) ?_ ?_
  · exact ⟨0, by omega, rfl, ⟨_, rfl⟩, rfl, rfl, rfl, rfl, by simp, .nil, rfl, rfl⟩
  clear h1 h3 h4
  rintro i s ⟨hi, t1, ⟨z, b1⟩, t7, t44, t45, t46, hc, tk, t9, htk⟩
  simp (dsimp := false) (maxDischargeDepth := 16) only [go_sem, ↓reduceIte, reduceCtorEq, Nat.reduceEqDiff, Nat.reduceAdd, Nat.reduceMul, Nat.reduceSub, Nat.reduceLT, Nat.reduceLeDiff, Nat.reducePow, Int.reduceLT, Int.reduceLE, Int.reduceNeg, Int.reduceToNat, t1, b1, t7, t44, t45, t46, t9]
  refine condK_dec (fun h6 => ?_) (fun h6 => ?_)
  rotate_left
  · simp (dsimp := false) (maxDischargeDepth := 16) only [go_sem, ↓reduceIte, reduceCtorEq, Nat.reduceEqDiff, Nat.reduceAdd, Nat.reduceMul, Nat.reduceSub, Nat.reduceLT, Nat.reduceLeDiff, Nat.reducePow, Int.reduceLT, Int.reduceLE, Int.reduceNeg, Int.reduceToNat, t1, b1, t7, t44, t45, t46, t9, h6]
    have : i = (allP a.n.length).length := by omega
    subst this
    rw [List.take_length] at *
    have h : quP a = (quL a, 0) := by rw [quP, if_neg (by simp [g1]), if_neg hsm, if_neg (by unfold quL; omega)]
    rw [h]
    exact finK ⟨rfl, rfl⟩
  have hpl := allP_mem _ _ (List.getElem_mem h6)
  have hpP := allP_isP _ _ (List.getElem_mem h6)
  have hnext := take_flat (f := quF a) h6
  have hsplit : quL a = _ := flat_split (quF a) h6
  simp (dsimp := false) (maxDischargeDepth := 16) only [go_sem, ↓reduceIte, reduceCtorEq, Nat.reduceEqDiff, Nat.reduceAdd, Nat.reduceMul, Nat.reduceSub, Nat.reduceLT, Nat.reduceLeDiff, Nat.reducePow, Int.reduceLT, Int.reduceLE, Int.reduceNeg, Int.reduceToNat, t1, b1, t7, t44, t45, t46, t9, h6, idx_nat]
  generalize ((allP a.n.length).take i).flatMap (quF a) = cur at *
  generalize (allP a.n.length)[i] = p at *
  have q66 := c65 p 66 [.ptr (gcs a)] (fun i k => a.n.getD i 0 == a.n.getD k.toNat 0) (fun i h => by
    have h1 := hpP i h
    have h2 : i < a.n.length := by omega
    rw [pOK, getD_at h] at h1
    have h3 : p[i].toNat < a.n.length := by omega
    show Con Try.prog 66 _ 0 (bv (a.n.getD i 0 == a.n.getD p[i].toNat 0))
    rw [getD_at h2, getD_at h3]
    exact c66 a i p[i] h2 h1.1 h3)
  refine callK_intro q66 ?_
  simp (dsimp := false) (maxDischargeDepth := 16) only [go_sem, ↓reduceIte, reduceCtorEq, Nat.reduceEqDiff, Nat.reduceAdd, Nat.reduceMul, Nat.reduceSub, Nat.reduceLT, Nat.reduceLeDiff, Nat.reducePow, Int.reduceLT, Int.reduceLE, Int.reduceNeg, Int.reduceToNat, t1, b1, t7, t44, t45, t46, t9, h6]
  refine condK_intro (fun h8 => ?_) (fun h8 => ?_)
  · have hok : okP a p = false := by unfold okP; simpa only [Bool.not_eq_true'] using h8
    have hF : quF a p = [] := by rw [quF, if_neg (by simp [hok])]
    simp (dsimp := false) (maxDischargeDepth := 16) only [go_sem, ↓reduceIte, reduceCtorEq, Nat.reduceEqDiff, Nat.reduceAdd, Nat.reduceMul, Nat.reduceSub, Nat.reduceLT, Nat.reduceLeDiff, Nat.reducePow, Int.reduceLT, Int.reduceLE, Int.reduceNeg, Int.reduceToNat, t1, b1, t7, t44, t45, t46, t9, h6, h8]
    rw [hF, List.append_nil] at hnext
    exact ⟨i + 1, by omega, by omega, ⟨_, rfl⟩, by rw [wrapN _ (by omega)], by rw [hnext]; exact hc, tk, by rw [hnext], by simp (dsimp := false) (maxDischargeDepth := 16) only [go_sem, ↓reduceIte, reduceCtorEq, Nat.reduceEqDiff, Nat.reduceAdd, Nat.reduceMul, Nat.reduceSub, Nat.reduceLT, Nat.reduceLeDiff, Nat.reducePow, Int.reduceLT, Int.reduceLE, Int.reduceNeg, Int.reduceToNat, htk]⟩
  have hok : okP a p = true := by unfold okP; simpa only [Bool.not_eq_false'] using h8
  have hF : quF a p = ((allP a.e.length).filter (okQ a p)).map (quo a p) := by rw [quF, if_pos hok]
  rw [hF] at hnext hsplit
  simp (dsimp := false) (maxDischargeDepth := 16) only [go_sem, ↓reduceIte, reduceCtorEq, Nat.reduceEqDiff, Nat.reduceAdd, Nat.reduceMul, Nat.reduceSub, Nat.reduceLT, Nat.reduceLeDiff, Nat.reducePow, Int.reduceLT, Int.reduceLE, Int.reduceNeg, Int.reduceToNat, t1, b1, t7, t44, t45, t46, t9, h6, h8]
  have hEp : ∀ q ∈ allP a.e.length, q.length = a.e.length ∧ isP q := fun q hq => ⟨allP_mem _ _ hq, allP_isP _ _ hq⟩
  have tfl := take_filter_len (okQ a p) (allP a.e.length)
  have fy := fun m (h : m < (allP a.e.length).length) => filter_yes (f := okQ a p) h
  have fn := fun m (h : m < (allP a.e.length).length) => filter_no (f := okQ a p) h
  have ftl : ((allP a.e.length).take (allP a.e.length).length) = allP a.e.length := List.take_length
  have hcell : s.g 11 = s.g 11 := rfl
  refine loopK_intro (fun (j : Nat) s' => j ≤ (allP a.e.length).length ∧ s'.t 1 = .box (1, 0, 0) 0 ∧ s'.b (1, 0, 0) = some ⟨gcs a, true⟩ ∧ s'.t 7 = llv (allP a.e.length) ∧ s'.t 44 = llv (allP a.n.length) ∧ s'.t 45 = iv (allP a.n.length).length ∧ s'.t 46 = iv i ∧
    s'.t 11 = .box (11, s.g 11, 0) 0 ∧ s'.b (11, s.g 11, 0) = some ⟨[lv p], true⟩ ∧ s'.t 12 = .clo 67 [.ptr (gcs a), .ptr [lv p]] ∧ s'.t 55 = llv (allP a.e.length) ∧ s'.t 56 = iv (allP a.e.length).length ∧ s'.t 57 = iv j ∧
    (cur ++ (((allP a.e.length).take j).filter (okQ a p)).map (quo a p)).length ≤ 2000 ∧ ∃ tk, s'.t 9 = qlvT (cur ++ (((allP a.e.length).take j).filter (okQ a p)).map (quo a p)) tk ∧ tokOK s' tk = true) (fun j => (allP a.e.length).length - j) ?_ ?_
  · refine ⟨0, by omega, t1, ?_, t7, t44, t45, t46, rfl, ?_, rfl, rfl, rfl, rfl, by simpa using hc, tk, ?_, ?_⟩
    · simp (dsimp := false) (maxDischargeDepth := 16) only [go_sem, ↓reduceIte, reduceCtorEq, Nat.reduceEqDiff, Nat.reduceAdd, Nat.reduceMul, Nat.reduceSub, Nat.reduceLT, Nat.reduceLeDiff, Nat.reducePow, Int.reduceLT, Int.reduceLE, Int.reduceNeg, Int.reduceToNat, b1]
    · simp (dsimp := false) (maxDischargeDepth := 16) only [go_sem, ↓reduceIte, reduceCtorEq, Nat.reduceEqDiff, Nat.reduceAdd, Nat.reduceMul, Nat.reduceSub, Nat.reduceLT, Nat.reduceLeDiff, Nat.reducePow, Int.reduceLT, Int.reduceLE, Int.reduceNeg, Int.reduceToNat, b1]
    · rw [List.take_zero, List.filter_nil, List.map_nil, List.append_nil]; exact t9
    · simp (dsimp := false) (maxDischargeDepth := 16) only [go_sem, ↓reduceIte, reduceCtorEq, Nat.reduceEqDiff, Nat.reduceAdd, Nat.reduceMul, Nat.reduceSub, Nat.reduceLT, Nat.reduceLeDiff, Nat.reducePow, Int.reduceLT, Int.reduceLE, Int.reduceNeg, Int.reduceToNat, htk]
  generalize s.g 11 = γ at *
  have hlt := h6
  clear t1 b1 t7 t44 t45 t46 t9 htk h6 hcell
  rintro j s ⟨hj, t1, b1, t7, t44, t45, t46, t11, b11, t12, t55, t56, t57, hc2, tk, t9, htk⟩
  simp (dsimp := false) (maxDischargeDepth := 16) only [go_sem, ↓reduceIte, reduceCtorEq, Nat.reduceEqDiff, Nat.reduceAdd, Nat.reduceMul, Nat.reduceSub, Nat.reduceLT, Nat.reduceLeDiff, Nat.reducePow, Int.reduceLT, Int.reduceLE, Int.reduceNeg, Int.reduceToNat, t1, b1, t7, t44, t45, t46, t11, b11, t12, t55, t56, t57, t9]
  refine condK_dec (fun h6 => ?_) (fun h6 => ?_)
  rotate_left
  · simp (dsimp := false) (maxDischargeDepth := 16) only [go_sem, ↓reduceIte, reduceCtorEq, Nat.reduceEqDiff, Nat.reduceAdd, Nat.reduceMul, Nat.reduceSub, Nat.reduceLT, Nat.reduceLeDiff, Nat.reducePow, Int.reduceLT, Int.reduceLE, Int.reduceNeg, Int.reduceToNat, t1, b1, t7, t44, t45, t46, t11, b11, t12, t55, t56, t57, t9, h6]
    have : j = (allP a.e.length).length := by omega
    subst this
    rw [ftl] at *
    exact ⟨i + 1, by omega, by omega, ⟨_, rfl⟩, by rw [wrapN _ (by omega)], by rw [hnext]; exact hc2, tk, by rw [hnext], by simp (dsimp := false) (maxDischargeDepth := 16) only [go_sem, ↓reduceIte, reduceCtorEq, Nat.reduceEqDiff, Nat.reduceAdd, Nat.reduceMul, Nat.reduceSub, Nat.reduceLT, Nat.reduceLeDiff, Nat.reducePow, Int.reduceLT, Int.reduceLE, Int.reduceNeg, Int.reduceToNat, htk]⟩
  have hqE := hEp _ (List.getElem_mem h6)
  have fy1 := fy j h6
  have fn1 := fn j h6
  have tfl1 := tfl (j + 1)
  simp (dsimp := false) (maxDischargeDepth := 16) only [go_sem, ↓reduceIte, reduceCtorEq, Nat.reduceEqDiff, Nat.reduceAdd, Nat.reduceMul, Nat.reduceSub, Nat.reduceLT, Nat.reduceLeDiff, Nat.reducePow, Int.reduceLT, Int.reduceLE, Int.reduceNeg, Int.reduceToNat, t1, b1, t7, t44, t45, t46, t11, b11, t12, t55, t56, t57, t9, h6, idx_nat]
  generalize ((allP a.e.length).take j).filter (okQ a p) = D at *
  generalize (allP a.e.length)[j] = q at *
  obtain ⟨hql, hqP⟩ := hqE
  have q67 := c65 q 67 [.ptr (gcs a), .ptr [lv p]] (fun i k => sameE p (a.e.getD i (0, 0, 0)) (a.e.getD k.toNat (0, 0, 0))) (fun i h => by
    have h1 := hqP i h
    have h2 : i < a.e.length := by omega
    rw [pOK, getD_at h] at h1
    have h3 : q[i].toNat < a.e.length := by omega
    show Con Try.prog 67 _ 0 (bv (sameE p (a.e.getD i (0, 0, 0)) (a.e.getD q[i].toNat (0, 0, 0))))
    rw [getD_at h2, getD_at h3]
    exact c67 a p i q[i] h2 h1.1 h3 (by rw [hpl]; exact hR))
  refine callK_intro q67 ?_
  simp (dsimp := false) (maxDischargeDepth := 16) only [go_sem, ↓reduceIte, reduceCtorEq, Nat.reduceEqDiff, Nat.reduceAdd, Nat.reduceMul, Nat.reduceSub, Nat.reduceLT, Nat.reduceLeDiff, Nat.reducePow, Int.reduceLT, Int.reduceLE, Int.reduceNeg, Int.reduceToNat, t1, b1, t7, t44, t45, t46, t11, b11, t12, t55, t56, t57, t9, h6]
  refine condK_intro (fun h9 => ?_) (fun h9 => ?_)
  · have hoq : okQ a p q = false := by unfold okQ; simpa only [Bool.not_eq_true'] using h9
    simp (dsimp := false) (maxDischargeDepth := 16) only [go_sem, ↓reduceIte, reduceCtorEq, Nat.reduceEqDiff, Nat.reduceAdd, Nat.reduceMul, Nat.reduceSub, Nat.reduceLT, Nat.reduceLeDiff, Nat.reducePow, Int.reduceLT, Int.reduceLE, Int.reduceNeg, Int.reduceToNat, t1, b1, t7, t44, t45, t46, t11, b11, t12, t55, t56, t57, t9, h6, h9]
    have e3 := fn1 hoq
    exact ⟨j + 1, by omega, by omega, by rw [wrapN _ (by omega)], by rw [e3]; exact hc2, tk, by rw [e3], by simp (dsimp := false) (maxDischargeDepth := 16) only [go_sem, ↓reduceIte, reduceCtorEq, Nat.reduceEqDiff, Nat.reduceAdd, Nat.reduceMul, Nat.reduceSub, Nat.reduceLT, Nat.reduceLeDiff, Nat.reducePow, Int.reduceLT, Int.reduceLE, Int.reduceNeg, Int.reduceToNat, htk]⟩
  have hoq : okQ a p q = true := by unfold okQ; simpa only [Bool.not_eq_false'] using h9
  have e3 := fy1 hoq
  simp (dsimp := false) (maxDischargeDepth := 16) only [go_sem, ↓reduceIte, reduceCtorEq, Nat.reduceEqDiff, Nat.reduceAdd, Nat.reduceMul, Nat.reduceSub, Nat.reduceLT, Nat.reduceLeDiff, Nat.reducePow, Int.reduceLT, Int.reduceLE, Int.reduceNeg, Int.reduceToNat, t1, b1, t7, t44, t45, t46, t11, b11, t12, t55, t56, t57, t9, h6, h9]
  refine condK_intro (fun h10 => ?_) (fun h10 => ?_)
  · simp (dsimp := false) (maxDischargeDepth := 16) only [go_sem, ↓reduceIte, reduceCtorEq, Nat.reduceEqDiff, Nat.reduceAdd, Nat.reduceMul, Nat.reduceSub, Nat.reduceLT, Nat.reduceLeDiff, Nat.reducePow, Int.reduceLT, Int.reduceLE, Int.reduceNeg, Int.reduceToNat, t1, b1, t7, t44, t45, t46, t11, b11, t12, t55, t56, t57, t9, h6, h9, h10]
    have h : quP a = ([], 3) := by
      rw [quP, if_neg (by simp [g1]), if_neg hsm, if_pos]
      have h11 := beqT h10
      rw [e3] at tfl1
      rw [hsplit]
      simp only [List.length_append, List.length_map, List.length_cons, List.length_nil] at h11 tfl1 ⊢
      omega
    rw [h]
    exact finK ⟨rfl, rfl⟩
  simp (dsimp := false) (maxDischargeDepth := 16) only [go_sem, ↓reduceIte, reduceCtorEq, Nat.reduceEqDiff, Nat.reduceAdd, Nat.reduceMul, Nat.reduceSub, Nat.reduceLT, Nat.reduceLeDiff, Nat.reducePow, Int.reduceLT, Int.reduceLE, Int.reduceNeg, Int.reduceToNat, t1, b1, t7, t44, t45, t46, t11, b11, t12, t55, t56, t57, t9, h6, h9, h10]
  refine callK_intro (c68 a p q hpP hqP hpl hql (by omega) (by omega) hR hok hoq) ?_
  simp (dsimp := false) (maxDischargeDepth := 16) only [go_sem, ↓reduceIte, reduceCtorEq, Nat.reduceEqDiff, Nat.reduceAdd, Nat.reduceMul, Nat.reduceSub, Nat.reduceLT, Nat.reduceLeDiff, Nat.reducePow, Int.reduceLT, Int.reduceLE, Int.reduceNeg, Int.reduceToNat, t1, b1, t7, t44, t45, t46, t11, b11, t12, t55, t56, t57, t9, h6, h9, h10, htk]
  have h11 := beqF h10
  refine ⟨⟨by omega, by omega⟩, j + 1, by omega, by omega, by rw [wrapN _ (by omega)], ?_, .own (74, s.g 74, 0), ?_, ?_⟩
  · rw [e3, List.map_append, ← List.append_assoc, List.length_append]
    simp only [List.map_cons, List.map_nil, List.length_cons, List.length_nil]
    omega
  · rw [e3]
    simp only [List.map_append, List.map_cons, List.map_nil, List.append_assoc]
    rfl
  · simp (dsimp := false) (maxDischargeDepth := 16) only [go_sem, ↓reduceIte, reduceCtorEq, Nat.reduceEqDiff, Nat.reduceAdd, Nat.reduceMul, Nat.reduceSub, Nat.reduceLT, Nat.reduceLeDiff, Nat.reducePow, Int.reduceLT, Int.reduceLE, Int.reduceNeg, Int.reduceToNat, htk]
end Go.Sy

/- Contracts: the examples of the chapter. -/
set_option linter.unusedSimpArgs false
namespace Go.Sy
open Go Go.Proofs

theorem awQ : quP ⟨[4, 4], []⟩ = ([⟨⟨[4], []⟩, ⟨[0, 0], []⟩⟩, ⟨⟨[4, 4], []⟩, ⟨[0, 1], []⟩⟩], 0) := by kernel_rfl
theorem awA1 : (ovS ⟨[4], []⟩ ⟨[4], []⟩).2 = 0 := by kernel_rfl
theorem awA2 : (ovS ⟨[4], []⟩ ⟨[4], []⟩).1.length = 2 := by kernel_rfl
theorem awB1 : (ovS ⟨[4, 4], [(1, 0, 1)]⟩ ⟨[4, 4], [(1, 0, 1)]⟩).2 = 0 := by kernel_rfl
theorem awB2 : (ovS ⟨[4, 4], [(1, 0, 1)]⟩ ⟨[4, 4], [(1, 0, 1)]⟩).1.length = 8 := by kernel_rfl
theorem c16 : Con Try.prog 16 [] 0 (bv true) := by
  refine conT (X := []) (rs := [.tmp 0]) Try.func16 (by kernel_rfl) rfl rfl (by kernel_rfl) ?_
  simp (dsimp := false) (maxDischargeDepth := 16) only [go_sem, ↓reduceIte, reduceCtorEq, Nat.reduceEqDiff, Nat.reduceAdd, Nat.reduceMul, Nat.reduceSub, Nat.reduceLT, Nat.reduceLeDiff, Nat.reducePow, Int.reduceLT, Int.reduceLE, Int.reduceNeg, Int.reduceToNat]
  refine callK_intro (c18 ⟨[4], []⟩ ⟨[4], []⟩) ?_
  simp (dsimp := false) (maxDischargeDepth := 16) only [go_sem, ↓reduceIte, reduceCtorEq, Nat.reduceEqDiff, Nat.reduceAdd, Nat.reduceMul, Nat.reduceSub, Nat.reduceLT, Nat.reduceLeDiff, Nat.reducePow, Int.reduceLT, Int.reduceLE, Int.reduceNeg, Int.reduceToNat]
  refine callK_intro (c18 ⟨[4, 4], [(1, 0, 1)]⟩ ⟨[4, 4], [(1, 0, 1)]⟩) ?_
  simp (dsimp := false) (maxDischargeDepth := 16) only [go_sem, ↓reduceIte, reduceCtorEq, Nat.reduceEqDiff, Nat.reduceAdd, Nat.reduceMul, Nat.reduceSub, Nat.reduceLT, Nat.reduceLeDiff, Nat.reducePow, Int.reduceLT, Int.reduceLE, Int.reduceNeg, Int.reduceToNat]
  refine callK_intro (c23 ⟨[4, 4], []⟩) ?_
  rw [awQ]
  simp (dsimp := false) (maxDischargeDepth := 16) only [go_sem, ↓reduceIte, reduceCtorEq, Nat.reduceEqDiff, Nat.reduceAdd, Nat.reduceMul, Nat.reduceSub, Nat.reduceLT, Nat.reduceLeDiff, Nat.reducePow, Int.reduceLT, Int.reduceLE, Int.reduceNeg, Int.reduceToNat, awA1, awB1, awA2, awB2]
  refine condK_intro (fun h1 => ?_) (fun h1 => absurd h1 (by decide))
  simp (dsimp := false) (maxDischargeDepth := 16) only [go_sem, ↓reduceIte, reduceCtorEq, Nat.reduceEqDiff, Nat.reduceAdd, Nat.reduceMul, Nat.reduceSub, Nat.reduceLT, Nat.reduceLeDiff, Nat.reducePow, Int.reduceLT, Int.reduceLE, Int.reduceNeg, Int.reduceToNat, awA1, awB1, awA2, awB2, h1]
  refine condK_intro (fun h2 => ?_) (fun h2 => absurd h2 (by decide))
  simp (dsimp := false) (maxDischargeDepth := 16) only [go_sem, ↓reduceIte, reduceCtorEq, Nat.reduceEqDiff, Nat.reduceAdd, Nat.reduceMul, Nat.reduceSub, Nat.reduceLT, Nat.reduceLeDiff, Nat.reducePow, Int.reduceLT, Int.reduceLE, Int.reduceNeg, Int.reduceToNat, awA1, awB1, awA2, awB2, h1, h2]
  refine condK_intro (fun h3 => ?_) (fun h3 => absurd h3 (by decide))
  simp (dsimp := false) (maxDischargeDepth := 16) only [go_sem, ↓reduceIte, reduceCtorEq, Nat.reduceEqDiff, Nat.reduceAdd, Nat.reduceMul, Nat.reduceSub, Nat.reduceLT, Nat.reduceLeDiff, Nat.reducePow, Int.reduceLT, Int.reduceLE, Int.reduceNeg, Int.reduceToNat, awA1, awB1, awA2, awB2, h1, h2, h3, idx_int, List.getElem_cons_zero]
  exact finB (by decide)
theorem c3 (a b : Gr) : Con Try.prog 3 [gv a, gv b] 0 (bv true) := by
  refine conT (X := []) (rs := [.tmp 4]) Try.func3 (by kernel_rfl) rfl rfl (by kernel_rfl) ?_
  simp (dsimp := false) (maxDischargeDepth := 16) only [go_sem, ↓reduceIte, reduceCtorEq, Nat.reduceEqDiff, Nat.reduceAdd, Nat.reduceMul, Nat.reduceSub, Nat.reduceLT, Nat.reduceLeDiff, Nat.reducePow, Int.reduceLT, Int.reduceLE, Int.reduceNeg, Int.reduceToNat]
  refine callK_intro c16 ?_
  simp (dsimp := false) (maxDischargeDepth := 16) only [go_sem, ↓reduceIte, reduceCtorEq, Nat.reduceEqDiff, Nat.reduceAdd, Nat.reduceMul, Nat.reduceSub, Nat.reduceLT, Nat.reduceLeDiff, Nat.reducePow, Int.reduceLT, Int.reduceLE, Int.reduceNeg, Int.reduceToNat]
  refine callK_intro (c17 a 4 4) ?_
  simp (dsimp := false) (maxDischargeDepth := 16) only [go_sem, ↓reduceIte, reduceCtorEq, Nat.reduceEqDiff, Nat.reduceAdd, Nat.reduceMul, Nat.reduceSub, Nat.reduceLT, Nat.reduceLeDiff, Nat.reducePow, Int.reduceLT, Int.reduceLE, Int.reduceNeg, Int.reduceToNat]
  refine condK_intro (fun h1 => ?_) (fun h1 => ?_)
  · simp (dsimp := false) (maxDischargeDepth := 16) only [go_sem, ↓reduceIte, reduceCtorEq, Nat.reduceEqDiff, Nat.reduceAdd, Nat.reduceMul, Nat.reduceSub, Nat.reduceLT, Nat.reduceLeDiff, Nat.reducePow, Int.reduceLT, Int.reduceLE, Int.reduceNeg, Int.reduceToNat, h1]
    refine callK_intro c16 ?_
    simp (dsimp := false) (maxDischargeDepth := 16) only [go_sem, ↓reduceIte, reduceCtorEq, Nat.reduceEqDiff, Nat.reduceAdd, Nat.reduceMul, Nat.reduceSub, Nat.reduceLT, Nat.reduceLeDiff, Nat.reducePow, Int.reduceLT, Int.reduceLE, Int.reduceNeg, Int.reduceToNat, h1]
    exact finB rfl
  simp (dsimp := false) (maxDischargeDepth := 16) only [go_sem, ↓reduceIte, reduceCtorEq, Nat.reduceEqDiff, Nat.reduceAdd, Nat.reduceMul, Nat.reduceSub, Nat.reduceLT, Nat.reduceLeDiff, Nat.reducePow, Int.reduceLT, Int.reduceLE, Int.reduceNeg, Int.reduceToNat, h1]
  have g1 := ydec h1
  refine callK_intro (c17 b 4 4) ?_
  simp (dsimp := false) (maxDischargeDepth := 16) only [go_sem, ↓reduceIte, reduceCtorEq, Nat.reduceEqDiff, Nat.reduceAdd, Nat.reduceMul, Nat.reduceSub, Nat.reduceLT, Nat.reduceLeDiff, Nat.reducePow, Int.reduceLT, Int.reduceLE, Int.reduceNeg, Int.reduceToNat, h1]
  refine condK_intro (fun h2 => ?_) (fun h2 => ?_)
  · simp (dsimp := false) (maxDischargeDepth := 16) only [go_sem, ↓reduceIte, reduceCtorEq, Nat.reduceEqDiff, Nat.reduceAdd, Nat.reduceMul, Nat.reduceSub, Nat.reduceLT, Nat.reduceLeDiff, Nat.reducePow, Int.reduceLT, Int.reduceLE, Int.reduceNeg, Int.reduceToNat, h1, h2]
    refine callK_intro c16 ?_
    simp (dsimp := false) (maxDischargeDepth := 16) only [go_sem, ↓reduceIte, reduceCtorEq, Nat.reduceEqDiff, Nat.reduceAdd, Nat.reduceMul, Nat.reduceSub, Nat.reduceLT, Nat.reduceLeDiff, Nat.reducePow, Int.reduceLT, Int.reduceLE, Int.reduceNeg, Int.reduceToNat, h1, h2]
    exact finB rfl
  simp (dsimp := false) (maxDischargeDepth := 16) only [go_sem, ↓reduceIte, reduceCtorEq, Nat.reduceEqDiff, Nat.reduceAdd, Nat.reduceMul, Nat.reduceSub, Nat.reduceLT, Nat.reduceLeDiff, Nat.reducePow, Int.reduceLT, Int.reduceLE, Int.reduceNeg, Int.reduceToNat, h1, h2]
  have g2 := ydec h2
  refine callK_intro (c19 a (by omega) (by omega)) ?_
  simp (dsimp := false) (maxDischargeDepth := 16) only [go_sem, ↓reduceIte, reduceCtorEq, Nat.reduceEqDiff, Nat.reduceAdd, Nat.reduceMul, Nat.reduceSub, Nat.reduceLT, Nat.reduceLeDiff, Nat.reducePow, Int.reduceLT, Int.reduceLE, Int.reduceNeg, Int.reduceToNat, h1, h2, gvo]
  refine callK_intro (c19 b (by omega) (by omega)) ?_
  simp (dsimp := false) (maxDischargeDepth := 16) only [go_sem, ↓reduceIte, reduceCtorEq, Nat.reduceEqDiff, Nat.reduceAdd, Nat.reduceMul, Nat.reduceSub, Nat.reduceLT, Nat.reduceLeDiff, Nat.reducePow, Int.reduceLT, Int.reduceLE, Int.reduceNeg, Int.reduceToNat, h1, h2, gvo]
  refine callK_intro (c18 a b) ?_
  simp (dsimp := false) (maxDischargeDepth := 16) only [go_sem, ↓reduceIte, reduceCtorEq, Nat.reduceEqDiff, Nat.reduceAdd, Nat.reduceMul, Nat.reduceSub, Nat.reduceLT, Nat.reduceLeDiff, Nat.reducePow, Int.reduceLT, Int.reduceLE, Int.reduceNeg, Int.reduceToNat, h1, h2]
  refine callK_intro (c20 a b) ?_
  simp (dsimp := false) (maxDischargeDepth := 16) only [go_sem, ↓reduceIte, reduceCtorEq, Nat.reduceEqDiff, Nat.reduceAdd, Nat.reduceMul, Nat.reduceSub, Nat.reduceLT, Nat.reduceLeDiff, Nat.reducePow, Int.reduceLT, Int.reduceLE, Int.reduceNeg, Int.reduceToNat, h1, h2]
  refine condK_intro (fun h3 => ?_) (fun h3 => ?_)
  · simp (dsimp := false) (maxDischargeDepth := 16) only [go_sem, ↓reduceIte, reduceCtorEq, Nat.reduceEqDiff, Nat.reduceAdd, Nat.reduceMul, Nat.reduceSub, Nat.reduceLT, Nat.reduceLeDiff, Nat.reducePow, Int.reduceLT, Int.reduceLE, Int.reduceNeg, Int.reduceToNat, h1, h2, h3]
    refine callK_intro (c21 _ _) ?_
    simp (dsimp := false) (maxDischargeDepth := 16) only [go_sem, ↓reduceIte, reduceCtorEq, Nat.reduceEqDiff, Nat.reduceAdd, Nat.reduceMul, Nat.reduceSub, Nat.reduceLT, Nat.reduceLeDiff, Nat.reducePow, Int.reduceLT, Int.reduceLE, Int.reduceNeg, Int.reduceToNat, h1, h2, h3]
    exact finB rfl
  · simp at h3
end Go.Sy

/- FactorJointly: the law's contract. -/
set_option linter.unusedSimpArgs false
namespace Go.Sy
open Go Go.Proofs

theorem bin_eqP {P : Program} {t : TypeId} (hu : P.underlying t = some .bool) (a b : Bool) : binAV P .eql t (.v (.bool a)) (.v (.bool b)) = some (.v (.bool (a == b))) := by
  show (match P.underlying t, BinOp.eql with | some .bool, .eql => some (AV.v (.bool (a == b))) | some .bool, .neq => some (AV.v (.bool (a != b))) | _, _ => none) = _
  rw [hu]
theorem bin_neP {P : Program} {t : TypeId} (hu : P.underlying t = some .bool) (a b : Bool) : binAV P .neq t (.v (.bool a)) (.v (.bool b)) = some (.v (.bool (a != b))) := by
  show (match P.underlying t, BinOp.neq with | some .bool, .eql => some (AV.v (.bool (a == b))) | some .bool, .neq => some (AV.v (.bool (a != b))) | _, _ => none) = _
  rw [hu]
theorem bin_eqb (a b : Bool) : binAV Try.prog .eql 4 (.v (.bool a)) (.v (.bool b)) = some (.v (.bool (a == b))) := bin_eqP (by kernel_rfl) a b
theorem bin_neb (a b : Bool) : binAV Try.prog .neq 4 (.v (.bool a)) (.v (.bool b)) = some (.v (.bool (a != b))) := bin_neP (by kernel_rfl) a b
attribute [go_sem] bin_eqb bin_neb
theorem c5 (a b : Gr) (o : Ov) : Con Try.prog 5 [gv a, gv b, ov o] 0 (bv true) := by
  refine conT (X := []) (rs := [.tmp 6]) Try.func5 (by kernel_rfl) rfl rfl (by kernel_rfl) ?_
  simp (dsimp := false) (maxDischargeDepth := 16) only [go_sem, ↓reduceIte, reduceCtorEq, Nat.reduceEqDiff, Nat.reduceAdd, Nat.reduceMul, Nat.reduceSub, Nat.reduceLT, Nat.reduceLeDiff, Nat.reducePow, Int.reduceLT, Int.reduceLE, Int.reduceNeg, Int.reduceToNat]
  refine callK_intro c16 ?_
  simp (dsimp := false) (maxDischargeDepth := 16) only [go_sem, ↓reduceIte, reduceCtorEq, Nat.reduceEqDiff, Nat.reduceAdd, Nat.reduceMul, Nat.reduceSub, Nat.reduceLT, Nat.reduceLeDiff, Nat.reducePow, Int.reduceLT, Int.reduceLE, Int.reduceNeg, Int.reduceToNat]
  refine callK_intro (c22 a) ?_
  simp (dsimp := false) (maxDischargeDepth := 16) only [go_sem, ↓reduceIte, reduceCtorEq, Nat.reduceEqDiff, Nat.reduceAdd, Nat.reduceMul, Nat.reduceSub, Nat.reduceLT, Nat.reduceLeDiff, Nat.reducePow, Int.reduceLT, Int.reduceLE, Int.reduceNeg, Int.reduceToNat]
  refine condK_intro (fun h1 => ?_) (fun h1 => ?_)
  · simp (dsimp := false) (maxDischargeDepth := 16) only [go_sem, ↓reduceIte, reduceCtorEq, Nat.reduceEqDiff, Nat.reduceAdd, Nat.reduceMul, Nat.reduceSub, Nat.reduceLT, Nat.reduceLeDiff, Nat.reducePow, Int.reduceLT, Int.reduceLE, Int.reduceNeg, Int.reduceToNat, h1]
    refine callK_intro c16 ?_
    simp (dsimp := false) (maxDischargeDepth := 16) only [go_sem, ↓reduceIte, reduceCtorEq, Nat.reduceEqDiff, Nat.reduceAdd, Nat.reduceMul, Nat.reduceSub, Nat.reduceLT, Nat.reduceLeDiff, Nat.reducePow, Int.reduceLT, Int.reduceLE, Int.reduceNeg, Int.reduceToNat, h1]
    exact finB rfl
  simp (dsimp := false) (maxDischargeDepth := 16) only [go_sem, ↓reduceIte, reduceCtorEq, Nat.reduceEqDiff, Nat.reduceAdd, Nat.reduceMul, Nat.reduceSub, Nat.reduceLT, Nat.reduceLeDiff, Nat.reducePow, Int.reduceLT, Int.reduceLE, Int.reduceNeg, Int.reduceToNat, h1]
  refine callK_intro (c22 b) ?_
  simp (dsimp := false) (maxDischargeDepth := 16) only [go_sem, ↓reduceIte, reduceCtorEq, Nat.reduceEqDiff, Nat.reduceAdd, Nat.reduceMul, Nat.reduceSub, Nat.reduceLT, Nat.reduceLeDiff, Nat.reducePow, Int.reduceLT, Int.reduceLE, Int.reduceNeg, Int.reduceToNat, h1]
  refine condK_intro (fun h2 => ?_) (fun h2 => ?_)
  · simp (dsimp := false) (maxDischargeDepth := 16) only [go_sem, ↓reduceIte, reduceCtorEq, Nat.reduceEqDiff, Nat.reduceAdd, Nat.reduceMul, Nat.reduceSub, Nat.reduceLT, Nat.reduceLeDiff, Nat.reducePow, Int.reduceLT, Int.reduceLE, Int.reduceNeg, Int.reduceToNat, h1, h2]
    refine callK_intro c16 ?_
    simp (dsimp := false) (maxDischargeDepth := 16) only [go_sem, ↓reduceIte, reduceCtorEq, Nat.reduceEqDiff, Nat.reduceAdd, Nat.reduceMul, Nat.reduceSub, Nat.reduceLT, Nat.reduceLeDiff, Nat.reducePow, Int.reduceLT, Int.reduceLE, Int.reduceNeg, Int.reduceToNat, h1, h2]
    exact finB rfl
  simp (dsimp := false) (maxDischargeDepth := 16) only [go_sem, ↓reduceIte, reduceCtorEq, Nat.reduceEqDiff, Nat.reduceAdd, Nat.reduceMul, Nat.reduceSub, Nat.reduceLT, Nat.reduceLeDiff, Nat.reducePow, Int.reduceLT, Int.reduceLE, Int.reduceNeg, Int.reduceToNat, h1, h2]
  refine callK_intro (c22 o.g) ?_
  simp (dsimp := false) (maxDischargeDepth := 16) only [go_sem, ↓reduceIte, reduceCtorEq, Nat.reduceEqDiff, Nat.reduceAdd, Nat.reduceMul, Nat.reduceSub, Nat.reduceLT, Nat.reduceLeDiff, Nat.reducePow, Int.reduceLT, Int.reduceLE, Int.reduceNeg, Int.reduceToNat, h1, h2]
  refine condK_intro (fun h3 => ?_) (fun h3 => ?_)
  · simp (dsimp := false) (maxDischargeDepth := 16) only [go_sem, ↓reduceIte, reduceCtorEq, Nat.reduceEqDiff, Nat.reduceAdd, Nat.reduceMul, Nat.reduceSub, Nat.reduceLT, Nat.reduceLeDiff, Nat.reducePow, Int.reduceLT, Int.reduceLE, Int.reduceNeg, Int.reduceToNat, h1, h2, h3]
    refine callK_intro c16 ?_
    simp (dsimp := false) (maxDischargeDepth := 16) only [go_sem, ↓reduceIte, reduceCtorEq, Nat.reduceEqDiff, Nat.reduceAdd, Nat.reduceMul, Nat.reduceSub, Nat.reduceLT, Nat.reduceLeDiff, Nat.reducePow, Int.reduceLT, Int.reduceLE, Int.reduceNeg, Int.reduceToNat, h1, h2, h3]
    exact finB rfl
  simp (dsimp := false) (maxDischargeDepth := 16) only [go_sem, ↓reduceIte, reduceCtorEq, Nat.reduceEqDiff, Nat.reduceAdd, Nat.reduceMul, Nat.reduceSub, Nat.reduceLT, Nat.reduceLeDiff, Nat.reducePow, Int.reduceLT, Int.reduceLE, Int.reduceNeg, Int.reduceToNat, h1, h2, h3]
  refine callK_intro (c26 o.l 200) ?_
  simp (dsimp := false) (maxDischargeDepth := 16) only [go_sem, ↓reduceIte, reduceCtorEq, Nat.reduceEqDiff, Nat.reduceAdd, Nat.reduceMul, Nat.reduceSub, Nat.reduceLT, Nat.reduceLeDiff, Nat.reducePow, Int.reduceLT, Int.reduceLE, Int.reduceNeg, Int.reduceToNat, h1, h2, h3]
  refine condK_intro (fun h4 => ?_) (fun h4 => ?_)
  · simp (dsimp := false) (maxDischargeDepth := 16) only [go_sem, ↓reduceIte, reduceCtorEq, Nat.reduceEqDiff, Nat.reduceAdd, Nat.reduceMul, Nat.reduceSub, Nat.reduceLT, Nat.reduceLeDiff, Nat.reducePow, Int.reduceLT, Int.reduceLE, Int.reduceNeg, Int.reduceToNat, h1, h2, h3, h4]
    refine callK_intro c16 ?_
    simp (dsimp := false) (maxDischargeDepth := 16) only [go_sem, ↓reduceIte, reduceCtorEq, Nat.reduceEqDiff, Nat.reduceAdd, Nat.reduceMul, Nat.reduceSub, Nat.reduceLT, Nat.reduceLeDiff, Nat.reducePow, Int.reduceLT, Int.reduceLE, Int.reduceNeg, Int.reduceToNat, h1, h2, h3, h4]
    exact finB rfl
  simp (dsimp := false) (maxDischargeDepth := 16) only [go_sem, ↓reduceIte, reduceCtorEq, Nat.reduceEqDiff, Nat.reduceAdd, Nat.reduceMul, Nat.reduceSub, Nat.reduceLT, Nat.reduceLeDiff, Nat.reducePow, Int.reduceLT, Int.reduceLE, Int.reduceNeg, Int.reduceToNat, h1, h2, h3, h4]
  refine callK_intro (c26 o.r 200) ?_
  simp (dsimp := false) (maxDischargeDepth := 16) only [go_sem, ↓reduceIte, reduceCtorEq, Nat.reduceEqDiff, Nat.reduceAdd, Nat.reduceMul, Nat.reduceSub, Nat.reduceLT, Nat.reduceLeDiff, Nat.reducePow, Int.reduceLT, Int.reduceLE, Int.reduceNeg, Int.reduceToNat, h1, h2, h3, h4]
  refine condK_intro (fun h5 => ?_) (fun h5 => ?_)
  · simp (dsimp := false) (maxDischargeDepth := 16) only [go_sem, ↓reduceIte, reduceCtorEq, Nat.reduceEqDiff, Nat.reduceAdd, Nat.reduceMul, Nat.reduceSub, Nat.reduceLT, Nat.reduceLeDiff, Nat.reducePow, Int.reduceLT, Int.reduceLE, Int.reduceNeg, Int.reduceToNat, h1, h2, h3, h4, h5]
    refine callK_intro c16 ?_
    simp (dsimp := false) (maxDischargeDepth := 16) only [go_sem, ↓reduceIte, reduceCtorEq, Nat.reduceEqDiff, Nat.reduceAdd, Nat.reduceMul, Nat.reduceSub, Nat.reduceLT, Nat.reduceLeDiff, Nat.reducePow, Int.reduceLT, Int.reduceLE, Int.reduceNeg, Int.reduceToNat, h1, h2, h3, h4, h5]
    exact finB rfl
  simp (dsimp := false) (maxDischargeDepth := 16) only [go_sem, ↓reduceIte, reduceCtorEq, Nat.reduceEqDiff, Nat.reduceAdd, Nat.reduceMul, Nat.reduceSub, Nat.reduceLT, Nat.reduceLeDiff, Nat.reducePow, Int.reduceLT, Int.reduceLE, Int.reduceNeg, Int.reduceToNat, h1, h2, h3, h4, h5]
  refine callK_intro (c27 a b o.g o.l o.r) ?_
  simp (dsimp := false) (maxDischargeDepth := 16) only [go_sem, ↓reduceIte, reduceCtorEq, Nat.reduceEqDiff, Nat.reduceAdd, Nat.reduceMul, Nat.reduceSub, Nat.reduceLT, Nat.reduceLeDiff, Nat.reducePow, Int.reduceLT, Int.reduceLE, Int.reduceNeg, Int.reduceToNat, h1, h2, h3, h4, h5]
  refine callK_intro (c28 a b o.g o.l o.r) ?_
  simp (dsimp := false) (maxDischargeDepth := 16) only [go_sem, ↓reduceIte, reduceCtorEq, Nat.reduceEqDiff, Nat.reduceAdd, Nat.reduceMul, Nat.reduceSub, Nat.reduceLT, Nat.reduceLeDiff, Nat.reducePow, Int.reduceLT, Int.reduceLE, Int.reduceNeg, Int.reduceToNat, h1, h2, h3, h4, h5]
  exact finB (by simp)
end Go.Sy

/- Plain law: both ways to list quotients come to the same list. -/
namespace Go.Sy
open Go Go.Proofs

theorem flat_congr {α β : Type} {f g : α → List β} : ∀ {l : List α}, (∀ x ∈ l, f x = g x) → l.flatMap f = l.flatMap g
  | [], _ => rfl
  | x :: l, h => by rw [List.flatMap_cons, List.flatMap_cons, h x (by simp), flat_congr fun y hy => h y (by simp [hy])]
/-- All lists that go on from one, depth first. -/
def dfs {β : Type} (d : List Int → Nat → Bool) (g : List Int → List β) : Nat → List Int → List β
  | 0, l => g l
  | k + 1, l => (List.range (l.length + 1)).flatMap fun j => if decide (j = l.length) || (decide (l.getD j 0 = (j : Int)) && d l j) then dfs d g k (l ++ [(j : Int)]) else []
def afrom : Nat → List Int → List (List Int)
  | 0, l => [l]
  | k + 1, l => (ext l l.length (l.length + 1)).flatMap (afrom k)
theorem allP_afrom : ∀ (k i : Nat), allP (i + k) = (allP i).flatMap (afrom k)
  | 0, i => by
    have : afrom 0 = fun l => [l] := by funext l; rfl
    rw [this, Nat.add_zero]
    simp
  | k + 1, i => by
    have h := allP_afrom k (i + 1)
    rw [show i + (k + 1) = i + 1 + k by omega, h, allP, List.flatMap_assoc]
    refine flat_congr fun p hp => ?_
    rw [afrom, allP_mem i p hp]
theorem allP_all (n : Nat) : allP n = afrom n [] := by
  have := allP_afrom n 0
  rw [Nat.zero_add] at this
  rw [this]
  simp [allP]
theorem afrom_pre : ∀ (k : Nat) (l q : List Int), q ∈ afrom k l → ∃ t, q = l ++ t
  | 0, l, q, h => by
    simp [afrom] at h
    exact ⟨[], by simp [h]⟩
  | k + 1, l, q, h => by
    unfold afrom at h
    obtain ⟨r, hr, h⟩ := List.mem_flatMap.1 h
    obtain ⟨x, _, _, rfl⟩ := ext_mem2 hr
    obtain ⟨t, rfl⟩ := afrom_pre k _ q h
    exact ⟨_, List.append_assoc ..⟩
theorem ext_flat {β : Type} (l : List Int) (n m : Nat) (f : List Int → List β) : (ext l n m).flatMap f = (List.range m).flatMap fun (j : Nat) => if decide (j = n) || decide (l.getD j 0 = (j : Int)) then f (l ++ [(j : Int)]) else [] := by
  unfold ext
  generalize List.range m = R
  induction R with
  | nil => rfl
  | cons x R ih =>
    rw [List.flatMap_cons, ← ih, List.filter_cons]
    split
    · rfl
    · rfl
theorem dfs_all {β : Type} {d : List Int → Nat → Bool} {g : List Int → List β} {ok : List Int → Bool} (h1 : ∀ l (j : Nat), j ≤ l.length → ok (l ++ [(j : Int)]) = (ok l && d l j)) (h2 : ∀ l, d l l.length = true) (h3 : ∀ l t, ok (l ++ t) = true → ok l = true) :
    ∀ (k : Nat) (l : List Int), ok l = true → dfs d g k l = (afrom k l).flatMap fun p => if ok p = true then g p else []
  | 0, l, h => by
    simp [dfs, afrom, h]
  | k + 1, l, h => by
    rw [dfs, afrom, ext_flat, List.flatMap_assoc]
    refine flat_congr fun j hj => ?_
    have hj := List.mem_range.1 hj
    by_cases c : (decide (j = l.length) || decide (l.getD j 0 = (j : Int))) = true
    · rw [if_pos c]
      by_cases hd : d l j = true
      · have e : (decide (j = l.length) || (decide (l.getD j 0 = (j : Int)) && d l j)) = true := by rw [hd, Bool.and_true]; exact c
        rw [if_pos e]
        exact dfs_all h1 h2 h3 k _ (by rw [h1 l j (by omega), h, hd]; rfl)
      · have hne : j ≠ l.length := fun e => hd (e ▸ h2 l)
        have e : ¬ (decide (j = l.length) || (decide (l.getD j 0 = (j : Int)) && d l j)) = true := by simp [hne, hd]
        rw [if_neg e]
        symm
        rw [List.flatMap_eq_nil_iff]
        intro p hp
        obtain ⟨t, rfl⟩ := afrom_pre k _ p hp
        rw [if_neg]
        intro hh
        have := h3 _ _ hh
        rw [h1 l j (by omega)] at this
        simp [hd] at this
    · have e : ¬ (decide (j = l.length) || (decide (l.getD j 0 = (j : Int)) && d l j)) = true := by
        intro e
        apply c
        simp only [Bool.or_eq_true, Bool.and_eq_true] at e ⊢
        exact e.imp id And.left
      rw [if_neg c, if_neg e]
      rfl
theorem take_cap {α : Type} (a b : List α) (n : Nat) : (a.take n ++ b).take n = (a ++ b).take n := by
  rw [List.take_append, List.take_append, List.take_take, Nat.min_self, List.length_take]
  congr 2
  omega
theorem fold_cap {α β : Type} {f : List α → β → List α} {g : β → List α} {n : Nat} (h : ∀ j o, o.length ≤ n → f o j = (o ++ g j).take n) : ∀ (l : List β) (o : List α), o.length ≤ n → l.foldl f o = (o ++ l.flatMap g).take n
  | [], o, ho => by simp [List.take_of_length_le ho]
  | x :: l, o, ho => by
    rw [List.foldl_cons, h x o ho, fold_cap h l _ (by simp; omega), List.flatMap_cons, take_cap, List.append_assoc]
theorem take_full' {α : Type} {o : List α} {n : Nat} (h : n ≤ o.length) (ho : o.length ≤ n) (r : List α) : o = (o ++ r).take n := by
  rw [List.take_append_of_le_length h, List.take_of_length_le ho]
theorem quE_cap (a : Gr) (nodes : List Int) : ∀ (k : Nat) (l : List Int) (out : List Qu), out.length ≤ 2001 →
    quE a nodes k l out = (out ++ dfs (fun l j => sameE nodes (a.e.getD l.length (0, 0, 0)) (a.e.getD j (0, 0, 0))) (fun l => [quo a nodes l]) k l).take 2001
  | 0, l, out, h => by
    rw [quE, dfs]
    split
    · exact take_full' (by omega) h _
    · rw [List.take_of_length_le (by simp; omega)]
  | k + 1, l, out, h => by
    rw [quE, dfs]
    split
    · exact take_full' (by omega) h _
    · refine fold_cap (fun j o ho => ?_) _ _ h
      show (if okq a nodes l j = true then _ else _) = _
      by_cases c : okq a nodes l j = true
      · have c' : (decide (j = l.length) || (decide (l.getD j 0 = (j : Int)) && sameE nodes (a.e.getD l.length (0, 0, 0)) (a.e.getD j (0, 0, 0)))) = true := c
        rw [if_pos c, if_pos c']
        exact quE_cap a nodes k _ _ ho
      · have c' : ¬ (decide (j = l.length) || (decide (l.getD j 0 = (j : Int)) && sameE nodes (a.e.getD l.length (0, 0, 0)) (a.e.getD j (0, 0, 0)))) = true := c
        rw [if_neg c, if_neg c', List.append_nil, List.take_of_length_le ho]
theorem quN_cap (a : Gr) : ∀ (k : Nat) (l : List Int) (out : List Qu), out.length ≤ 2001 →
    quN a k l out = (out ++ dfs (fun l j => decide (a.n.getD j 0 = a.n.getD l.length 0)) (fun p => dfs (fun l j => sameE p (a.e.getD l.length (0, 0, 0)) (a.e.getD j (0, 0, 0))) (fun l => [quo a p l]) a.e.length []) k l).take 2001
  | 0, l, out, h => by
    rw [quN, dfs]
    split
    · exact take_full' (by omega) h _
    · exact quE_cap a l _ _ _ h
  | k + 1, l, out, h => by
    rw [quN, dfs]
    split
    · exact take_full' (by omega) h _
    · refine fold_cap (fun j o ho => ?_) _ _ h
      show (if okn a l j = true then _ else _) = _
      by_cases c : okn a l j = true
      · have c' : (decide (j = l.length) || (decide (l.getD j 0 = (j : Int)) && decide (a.n.getD j 0 = a.n.getD l.length 0))) = true := c
        rw [if_pos c, if_pos c']
        exact quN_cap a k _ _ ho
      · have c' : ¬ (decide (j = l.length) || (decide (l.getD j 0 = (j : Int)) && decide (a.n.getD j 0 = a.n.getD l.length 0))) = true := c
        rw [if_neg c, if_neg c', List.append_nil, List.take_of_length_le ho]
theorem all_range_congr {n : Nat} {f g : Nat → Bool} (h : ∀ i, i < n → f i = g i) : (List.range n).all f = (List.range n).all g := by
  rw [Bool.eq_iff_iff, List.all_eq_true, List.all_eq_true]
  exact ⟨fun hh i hi => by rw [← h i (List.mem_range.1 hi)]; exact hh i hi, fun hh i hi => by rw [h i (List.mem_range.1 hi)]; exact hh i hi⟩
theorem getD_pre {l t : List Int} {i : Nat} (h : i < l.length) : (l ++ t).getD i 0 = l.getD i 0 := by
  rw [getD_at (by simp; omega), getD_at h, List.getElem_append_left h]
theorem all_ext (c : Nat → Int → Bool) (l : List Int) (j : Int) : ((List.range (l ++ [j]).length).all fun i => c i ((l ++ [j]).getD i 0)) = (((List.range l.length).all fun i => c i (l.getD i 0)) && c l.length j) := by
  rw [List.length_append, List.length_cons, List.length_nil, Nat.zero_add, List.range_succ, List.all_append]
  congr 1
  · exact all_range_congr fun i hi => by rw [getD_pre hi]
  · simp
theorem all_pre (c : Nat → Int → Bool) (l t : List Int) (h : ((List.range (l ++ t).length).all fun i => c i ((l ++ t).getD i 0)) = true) : ((List.range l.length).all fun i => c i (l.getD i 0)) = true := by
  rw [List.all_eq_true] at h ⊢
  intro i hi
  have hi' := List.mem_range.1 hi
  have := h i (List.mem_range.2 (by simp; omega))
  rwa [getD_pre hi'] at this
theorem sameE_refl (p : List Int) (x : Ed) : sameE p x x = true := by simp [sameE]
theorem flat_filter {α β : Type} (f : α → Bool) (g : α → β) (l : List α) : (l.flatMap fun p => if f p = true then [g p] else []) = (l.filter f).map g := by
  induction l with
  | nil => rfl
  | cons x l ih =>
    rw [List.flatMap_cons, ih, List.filter_cons]
    split
    · rfl
    · rfl
theorem genE_eq (a : Gr) (p : List Int) : dfs (fun l j => sameE p (a.e.getD l.length (0, 0, 0)) (a.e.getD j (0, 0, 0))) (fun l => [quo a p l]) a.e.length [] = ((allP a.e.length).filter (okQ a p)).map (quo a p) := by
  rw [dfs_all (ok := okQ a p) (fun l j hj => ?_) (fun l => sameE_refl _ _) (fun l t h => ?_) a.e.length [] rfl, ← allP_all, flat_filter]
  · exact all_ext (fun i k => sameE p (a.e.getD i (0, 0, 0)) (a.e.getD k.toNat (0, 0, 0))) l j
  · exact all_pre (fun i k => sameE p (a.e.getD i (0, 0, 0)) (a.e.getD k.toNat (0, 0, 0))) l t h
theorem genN_eq (a : Gr) : dfs (fun l j => decide (a.n.getD j 0 = a.n.getD l.length 0)) (fun p => dfs (fun l j => sameE p (a.e.getD l.length (0, 0, 0)) (a.e.getD j (0, 0, 0))) (fun l => [quo a p l]) a.e.length []) a.n.length [] = quL a := by
  rw [dfs_all (ok := okP a) (fun l j hj => ?_) (fun l => by simp) (fun l t h => ?_) a.n.length [] rfl, ← allP_all]
  · unfold quL quF
    refine flat_congr fun p hp => ?_
    rw [genE_eq]
  · have := all_ext (fun i k => a.n.getD i 0 == a.n.getD k.toNat 0) l j
    rw [okP, this]
    congr 1
    rw [Int.toNat_natCast, Bool.eq_iff_iff]
    simp only [beq_iff_eq, decide_eq_true_eq]
    exact eq_comm
  · exact all_pre (fun i k => a.n.getD i 0 == a.n.getD k.toNat 0) l t h
theorem quP_quS (a : Gr) : quP a = quS a := by
  unfold quP quS
  split
  · rfl
  split
  · rfl
  rw [quN_cap a _ _ _ (by simp), genN_eq, List.nil_append]
  by_cases h : 2000 < (quL a).length
  · rw [if_pos h, if_pos (by rw [List.length_take]; omega)]
  · rw [if_neg h, if_neg (by rw [List.length_take]; omega), List.take_of_length_le (by omega)]
end Go.Sy

/- Plain law: the overlaps are the pairs of matchings; as many for b and a. -/
namespace Go.Sy
open Go Go.Proofs

/-- All lists that go on from one by numbers from -1 to below m. -/
def genL (ok : List Int → Int → Bool) (m : Nat) : Nat → List Int → List (List Int)
  | 0, l => [l]
  | k + 1, l => (List.range (m + 1)).flatMap fun (j : Nat) => if ok l ((j : Int) - 1) then genL ok m k (l ++ [(j : Int) - 1]) else []
def oN (a b : Gr) (l : List Int) (n : Int) : Bool := okN a (b.n.getD l.length 0) l n
def oE (a b : Gr) (nodes l : List Int) (n : Int) : Bool := okE a nodes l (b.e.getD l.length (0, 0, 0)) n
theorem ovE_cap (a b : Gr) (nodes : List Int) : ∀ (k : Nat) (l : List Int) (out : List Ov), out.length ≤ 2001 →
    ovE a b nodes k l out = (out ++ (genL (oE a b nodes) a.e.length k l).map (glue a b nodes)).take 2001
  | 0, l, out, h => by
    rw [ovE, genL]
    split
    · exact take_full' (by omega) h _
    · rw [List.take_of_length_le (by simp; omega)]
      rfl
  | k + 1, l, out, h => by
    rw [ovE, genL, List.map_flatMap]
    split
    · exact take_full' (by omega) h _
    · refine fold_cap (fun j o ho => ?_) _ _ h
      by_cases c : oE a b nodes l ((j : Int) - 1) = true
      · have c' : okE a nodes l (b.e.getD l.length (0, 0, 0)) ((j : Int) - 1) = true := c
        rw [if_pos c, if_pos c']
        exact ovE_cap a b nodes k _ _ ho
      · have c' : ¬ okE a nodes l (b.e.getD l.length (0, 0, 0)) ((j : Int) - 1) = true := c
        rw [if_neg c, if_neg c', List.map_nil, List.append_nil, List.take_of_length_le ho]
def ovF (a b : Gr) (nodes : List Int) : List Ov := (genL (oE a b nodes) a.e.length b.e.length []).map (glue a b nodes)
theorem ovN_cap (a b : Gr) : ∀ (k : Nat) (l : List Int) (out : List Ov), out.length ≤ 2001 →
    ovN a b k l out = (out ++ (genL (oN a b) a.n.length k l).flatMap (ovF a b)).take 2001
  | 0, l, out, h => by
    rw [ovN, genL]
    split
    · exact take_full' (by omega) h _
    · rw [ovE_cap a b l _ _ _ h]
      simp [ovF]
  | k + 1, l, out, h => by
    rw [ovN, genL, List.flatMap_assoc]
    split
    · exact take_full' (by omega) h _
    · refine fold_cap (fun j o ho => ?_) _ _ h
      by_cases c : oN a b l ((j : Int) - 1) = true
      · have c' : okN a (b.n.getD l.length 0) l ((j : Int) - 1) = true := c
        rw [if_pos c, if_pos c']
        exact ovN_cap a b k _ _ ho
      · have c' : ¬ okN a (b.n.getD l.length 0) l ((j : Int) - 1) = true := c
        rw [if_neg c, if_neg c', List.flatMap_nil, List.append_nil, List.take_of_length_le ho]
theorem genL_mem {ok : List Int → Int → Bool} {m : Nat} : ∀ (k : Nat) (l q : List Int), q ∈ genL ok m k l ↔ ∃ t : List Int, q = l ++ t ∧ t.length = k ∧ ∀ i (h : i < t.length), -1 ≤ t[i] ∧ t[i] < m ∧ ok (l ++ t.take i) t[i] = true
  | 0, l, q => by
    rw [genL, List.mem_singleton]
    constructor
    · rintro rfl
      exact ⟨[], by simp, rfl, fun i h => by simp at h⟩
    · rintro ⟨t, rfl, h, _⟩
      simp [List.eq_nil_of_length_eq_zero h]
  | k + 1, l, q => by
    rw [genL, List.mem_flatMap]
    constructor
    · rintro ⟨j, hj, h⟩
      have hj := List.mem_range.1 hj
      split at h
      · rename_i c
        obtain ⟨t, rfl, h1, h2⟩ := (genL_mem k _ q).1 h
        refine ⟨((j : Int) - 1) :: t, by simp, by simp [h1], fun i hi => ?_⟩
        cases i with
        | zero => exact ⟨by simp; omega, by simp; omega, by simpa using c⟩
        | succ i =>
          have := h2 i (by simpa using hi)
          refine ⟨by simpa using this.1, by simpa using this.2.1, ?_⟩
          have h3 := this.2.2
          simpa using h3
      · simp at h
    · rintro ⟨t, rfl, h1, h2⟩
      cases t with
      | nil => simp at h1
      | cons x t =>
        have h0 := h2 0 (by simp)
        simp only [List.getElem_cons_zero, List.take_zero, List.append_nil] at h0
        refine ⟨(x + 1).toNat, List.mem_range.2 (by omega), ?_⟩
        have hx : (((x + 1).toNat : Nat) : Int) - 1 = x := by omega
        rw [hx, if_pos h0.2.2]
        refine (genL_mem k _ _).2 ⟨t, by simp, by simpa using h1, fun i hi => ?_⟩
        have := h2 (i + 1) (by simpa using hi)
        simpa using this
theorem genL_nodup {ok : List Int → Int → Bool} {m : Nat} : ∀ (k : Nat) (l : List Int), (genL ok m k l).Nodup
  | 0, l => by simp [genL]
  | k + 1, l => by
    rw [genL, List.nodup_iff_pairwise_ne, List.pairwise_flatMap]
    constructor
    · intro j _
      split
      · exact List.nodup_iff_pairwise_ne.1 (genL_nodup k _)
      · exact List.Pairwise.nil
    · refine List.Pairwise.imp ?_ (List.nodup_iff_pairwise_ne.1 (List.nodup_range (n := m + 1)))
      intro j j' hne x hx y hy e
      subst e
      split at hx
      · split at hy
        · obtain ⟨t, h1, _⟩ := (genL_mem k _ _).1 hx
          obtain ⟨t', h2, _⟩ := (genL_mem k _ _).1 hy
          rw [h1, List.append_assoc, List.append_assoc] at h2
          have := List.append_cancel_left h2
          simp at this
          omega
        · simp at hy
      · simp at hx
/-- A partial injection from the numbers below n to those below m, along a relation; -1: nowhere. -/
structure PI (n m : Nat) (R : Nat → Nat → Prop) (q : List Int) : Prop where
  len : q.length = n
  val : ∀ i, i < n → q.getD i 0 = -1 ∨ ∃ k : Nat, k < m ∧ q.getD i 0 = (k : Int) ∧ R i k
  inj : ∀ i j, i < j → j < n → q.getD i 0 = q.getD j 0 → q.getD i 0 = -1
theorem mem_take {l : List Int} {i : Nat} {x : Int} (hi : i ≤ l.length) : x ∈ l.take i ↔ ∃ j, j < i ∧ l.getD j 0 = x := by
  rw [List.mem_take_iff_getElem]
  constructor
  · rintro ⟨j, hj, rfl⟩
    have : j < l.length := by omega
    exact ⟨j, by omega, getD_at this⟩
  · rintro ⟨j, hj, rfl⟩
    have : j < l.length := by omega
    exact ⟨j, by omega, (getD_at this).symm⟩
theorem genL_PI {R : Nat → Nat → Prop} {ok : List Int → Int → Bool} {n m : Nat} (hok : ∀ l x, ok l x = true ↔ x < 0 ∨ (x ∉ l ∧ R l.length x.toNat)) (q : List Int) : q ∈ genL ok m n [] ↔ PI n m R q := by
  rw [genL_mem]
  constructor
  · rintro ⟨t, h, h1, h2⟩
    rw [List.nil_append] at h
    subst h
    have each : ∀ i, i < n → q.getD i 0 = -1 ∨ ((∃ k : Nat, k < m ∧ q.getD i 0 = (k : Int) ∧ R i k) ∧ q.getD i 0 ∉ q.take i) := by
      intro i hi
      have hi' : i < q.length := by omega
      obtain ⟨a1, a2, a3⟩ := h2 i hi'
      rw [getD_at hi']
      rw [List.nil_append, hok] at a3
      rcases a3 with a3 | ⟨a3, a4⟩
      · exact .inl (by omega)
      · rw [List.length_take, Nat.min_eq_left (by omega)] at a4
        by_cases hneg : q[i] < 0
        · exact .inl (by omega)
        · exact .inr ⟨⟨q[i].toNat, by omega, by omega, a4⟩, a3⟩
    refine ⟨h1, fun i hi => (each i hi).imp id And.left, fun i j hij hj he => ?_⟩
    rcases each j hj with h3 | ⟨_, h3⟩
    · omega
    · exact absurd ((mem_take (by omega)).2 ⟨i, hij, he⟩) h3
  · rintro ⟨h1, h2, h3⟩
    refine ⟨q, rfl, h1, fun i hi => ?_⟩
    have h4 := h2 i (by omega)
    rw [getD_at hi] at h4
    rw [List.nil_append, hok]
    rcases h4 with h4 | ⟨k, hk, h4, h5⟩
    · exact ⟨by omega, by omega, .inl (by omega)⟩
    · refine ⟨by omega, by omega, .inr ⟨fun hm => ?_, ?_⟩⟩
      · obtain ⟨j, hj, he⟩ := (mem_take (by omega)).1 hm
        have := h3 j i hj (by omega) (by rw [he, getD_at hi])
        omega
      · rw [List.length_take, Nat.min_eq_left (by omega), h4]
        simpa using h5
def relN (a b : Gr) (i k : Nat) : Prop := a.n.getD k 0 = b.n.getD i 0
def relE (a b : Gr) (nodes : List Int) (i k : Nat) : Prop := a.e.getD k (0, 0, 0) = ((b.e.getD i (0, 0, 0)).1, nodes.getD (b.e.getD i (0, 0, 0)).2.1.toNat 0, nodes.getD (b.e.getD i (0, 0, 0)).2.2.toNat 0)
theorem memN (a b : Gr) (q : List Int) : q ∈ genL (oN a b) a.n.length b.n.length [] ↔ PI b.n.length a.n.length (relN a b) q :=
  genL_PI (fun l x => by simp [oN, okN, relN]) q
theorem memE (a b : Gr) (nodes q : List Int) : q ∈ genL (oE a b nodes) a.e.length b.e.length [] ↔ PI b.e.length a.e.length (relE a b nodes) q :=
  genL_PI (fun l x => by simp [oE, okE, relE]) q
/-! ### Turned round -/
theorem idxP_cases {α : Type} (p : α → Bool) : ∀ (l : List α), (idxP p l = -1 ∧ ∀ x ∈ l, p x = false) ∨ ∃ (k : Nat) (h : k < l.length), idxP p l = (k : Int) ∧ p l[k] = true
  | [] => .inl ⟨rfl, by simp⟩
  | x :: l => by
    by_cases hx : p x = true
    · exact .inr ⟨0, by simp, by simp [idxP, hx], by simpa using hx⟩
    · rcases idxP_cases p l with ⟨h1, h2⟩ | ⟨k, hk, h1, h2⟩
      · refine .inl ⟨by simp [idxP, hx, h1], ?_⟩
        intro y hy
        rcases List.mem_cons.1 hy with rfl | hy
        · simpa using hx
        · exact h2 y hy
      · refine .inr ⟨k + 1, by simp; omega, ?_, by simpa using h2⟩
        simp only [idxP, hx, Bool.false_eq_true, if_false, h1]
        rw [if_neg (by omega)]
        rfl
/-- A partial injection turned round. -/
def inv (m : Nat) (q : List Int) : List Int := (List.range m).map fun (i : Nat) => idxP (fun x => x == (i : Int)) q
theorem inv_at {m i : Nat} {q : List Int} (h : i < m) : (inv m q).getD i 0 = idxP (fun x => x == (i : Int)) q := by
  rw [inv, getD_at (by simpa using h)]
  simp
theorem inv_iff {n m : Nat} {R : Nat → Nat → Prop} {q : List Int} (hq : PI n m R q) {i k : Nat} (hi : i < m) (hk : k < n) : (inv m q).getD i 0 = (k : Int) ↔ q.getD k 0 = (i : Int) := by
  rw [inv_at hi]
  have hl := hq.len
  constructor
  · intro h
    rcases idxP_cases (fun x => x == (i : Int)) q with ⟨h1, _⟩ | ⟨k', hk', h1, h2⟩
    · omega
    · have : k' = k := by omega
      subst this
      rw [getD_at hk']
      simpa using h2
  · intro h
    have hkl : k < q.length := by omega
    rcases idxP_cases (fun x => x == (i : Int)) q with ⟨_, h2⟩ | ⟨k', hk', h1, h2⟩
    · have := h2 q[k] (List.getElem_mem hkl)
      rw [getD_at hkl] at h
      simp [h] at this
    · rw [h1]
      have e : q.getD k' 0 = (i : Int) := by rw [getD_at hk']; simpa using h2
      rcases Nat.lt_trichotomy k' k with hlt | heq | hgt
      · have := hq.inj k' k hlt hk (e.trans h.symm)
        omega
      · rw [heq]
      · have := hq.inj k k' hgt (by omega) (h.trans e.symm)
        omega
theorem inv_val {n m : Nat} {R : Nat → Nat → Prop} {q : List Int} (hq : PI n m R q) {i : Nat} (hi : i < m) : ((inv m q).getD i 0 = -1 ∧ ∀ k, k < n → q.getD k 0 ≠ (i : Int)) ∨ ∃ k : Nat, k < n ∧ (inv m q).getD i 0 = (k : Int) ∧ q.getD k 0 = (i : Int) := by
  rw [inv_at hi]
  have hl := hq.len
  rcases idxP_cases (fun x => x == (i : Int)) q with ⟨h1, h2⟩ | ⟨k, hk, h1, h2⟩
  · refine .inl ⟨h1, fun k hk e => ?_⟩
    have hkl : k < q.length := by omega
    have := h2 q[k] (List.getElem_mem hkl)
    rw [getD_at hkl] at e
    simp [e] at this
  · exact .inr ⟨k, by omega, h1, by rw [getD_at hk]; simpa using h2⟩
theorem PI_inv {n m : Nat} {R R' : Nat → Nat → Prop} {q : List Int} (hq : PI n m R q) (hR : ∀ i k, i < m → k < n → q.getD k 0 = (i : Int) → R k i → R' i k) : PI m n R' (inv m q) := by
  refine ⟨by simp [inv], fun i hi => ?_, fun i j hij hj he => ?_⟩
  · rcases inv_val hq hi with ⟨h1, _⟩ | ⟨k, hk, h1, h2⟩
    · exact .inl h1
    · refine .inr ⟨k, hk, h1, hR i k hi hk h2 ?_⟩
      rcases hq.val k hk with h3 | ⟨k', _, h3, h4⟩
      · omega
      · have : k' = i := by omega
        rwa [this] at h4
  · rcases inv_val hq (show i < m by omega) with ⟨h1, _⟩ | ⟨k, hk, h1, h2⟩
    · exact h1
    · rw [h1] at he
      have := (inv_iff hq hj hk).1 he.symm
      omega
theorem inv_inv {n m : Nat} {R : Nat → Nat → Prop} {q : List Int} (hq : PI n m R q) : inv n (inv m q) = q := by
  have hq' : PI m n (fun _ _ => True) (inv m q) := PI_inv hq fun _ _ _ _ _ _ => trivial
  have hl := hq.len
  have hlen : (inv n (inv m q)).length = n := by simp [inv]
  refine List.ext_getElem (by omega) fun i h1 h2 => ?_
  have e1 : (inv n (inv m q)).getD i 0 = (inv n (inv m q))[i] := getD_at h1
  have e2 : q.getD i 0 = q[i] := getD_at h2
  rw [← e1, ← e2]
  have hi : i < n := by omega
  rcases hq.val i hi with h3 | ⟨k, hk, h3, _⟩
  · rw [h3]
    rcases inv_val hq' hi with ⟨h4, _⟩ | ⟨k, hk, h4, h5⟩
    · exact h4
    · have := (inv_iff hq hk hi).1 h5
      omega
  · rw [h3]
    exact (inv_iff hq' hi hk).2 ((inv_iff hq hk hi).2 h3)
theorem length_le_inj {α β : Type} [DecidableEq β] (f : α → β) : ∀ (l : List α) (l' : List β), l.Nodup → (∀ x ∈ l, f x ∈ l') → (∀ x ∈ l, ∀ y ∈ l, f x = f y → x = y) → l.length ≤ l'.length
  | [], _, _, _, _ => by simp
  | x :: l, l', h1, h2, h3 => by
    have hx := h2 x (by simp)
    have hlen := List.length_erase_of_mem hx
    have hpos : 0 < l'.length := List.length_pos_of_mem hx
    have hnd := List.nodup_cons.1 h1
    have := length_le_inj f l (l'.erase (f x)) hnd.2 (fun y hy => by
      refine (List.mem_erase_of_ne fun e => ?_).2 (h2 y (by simp [hy]))
      have := h3 y (by simp [hy]) x (by simp) e
      exact hnd.1 (this ▸ hy)) (fun y hy z hz => h3 y (by simp [hy]) z (by simp [hz]))
    rw [List.length_cons]
    omega
/-! ### Pairs of matchings -/
def ovP (a b : Gr) : List (List Int × List Int) := (genL (oN a b) a.n.length b.n.length []).flatMap fun nodes => (genL (oE a b nodes) a.e.length b.e.length []).map fun edges => (nodes, edges)
def isM (a b : Gr) (p : List Int × List Int) : Prop := PI b.n.length a.n.length (relN a b) p.1 ∧ PI b.e.length a.e.length (relE a b p.1) p.2
theorem memP (a b : Gr) (p : List Int × List Int) : p ∈ ovP a b ↔ isM a b p := by
  unfold ovP isM
  rw [List.mem_flatMap]
  constructor
  · rintro ⟨nodes, h1, h2⟩
    obtain ⟨edges, h3, rfl⟩ := List.mem_map.1 h2
    exact ⟨(memN a b _).1 h1, (memE a b _ _).1 h3⟩
  · rintro ⟨h1, h2⟩
    exact ⟨p.1, (memN a b _).2 h1, List.mem_map.2 ⟨p.2, (memE a b _ _).2 h2, rfl⟩⟩
theorem ovP_nodup (a b : Gr) : (ovP a b).Nodup := by
  unfold ovP
  rw [List.nodup_iff_pairwise_ne, List.pairwise_flatMap]
  constructor
  · intro nodes _
    rw [List.pairwise_map]
    exact List.Pairwise.imp (fun h e => h (Prod.mk.inj e).2) (List.nodup_iff_pairwise_ne.1 (genL_nodup _ _))
  · refine List.Pairwise.imp ?_ (List.nodup_iff_pairwise_ne.1 (genL_nodup _ _))
    intro n1 n2 hne x hx y hy e
    obtain ⟨_, _, rfl⟩ := List.mem_map.1 hx
    obtain ⟨_, _, rfl⟩ := List.mem_map.1 hy
    exact hne (Prod.mk.inj e).1
theorem ovN_pairs (a b : Gr) : (genL (oN a b) a.n.length b.n.length []).flatMap (ovF a b) = (ovP a b).map fun p => glue a b p.1 p.2 := by
  unfold ovP ovF
  rw [List.map_flatMap]
  refine flat_congr fun nodes _ => ?_
  rw [List.map_map]
  rfl
theorem isM_inv {a b : Gr} (ha : gErr a = 0) (hb : gErr b = 0) {p : List Int × List Int} (h : isM a b p) : isM b a (inv a.n.length p.1, inv a.e.length p.2) := by
  obtain ⟨h1, h2⟩ := h
  obtain ⟨_, _, va⟩ := gErr_small ha
  obtain ⟨_, _, vb⟩ := gErr_small hb
  refine ⟨PI_inv h1 fun i k _ _ _ hr => hr.symm, PI_inv h2 fun i k hi hk _ hr => ?_⟩
  unfold relE at hr ⊢
  have xa := va _ (List.getElem_mem hi)
  have xb := vb _ (List.getElem_mem hk)
  rw [getD_at hi, getD_at hk] at hr ⊢
  have e1 : a.e[i].1 = b.e[k].1 := by rw [hr]
  have e2 : p.1.getD b.e[k].2.1.toNat 0 = (a.e[i].2.1.toNat : Int) := by have := xa.2.1; rw [hr] at this ⊢; simp at this ⊢; omega
  have e3 : p.1.getD b.e[k].2.2.toNat 0 = (a.e[i].2.2.toNat : Int) := by have := xa.2.2.2.1; rw [hr] at this ⊢; simp at this ⊢; omega
  have b1 := xb.2
  have a1 := xa.2
  have f1 := (inv_iff h1 (show a.e[i].2.1.toNat < a.n.length by omega) (show b.e[k].2.1.toNat < b.n.length by omega)).2 e2
  have f2 := (inv_iff h1 (show a.e[i].2.2.toNat < a.n.length by omega) (show b.e[k].2.2.toNat < b.n.length by omega)).2 e3
  show b.e[k] = (a.e[i].1, (inv a.n.length p.1).getD a.e[i].2.1.toNat 0, (inv a.n.length p.1).getD a.e[i].2.2.toNat 0)
  rw [f1, f2, e1]
  refine Prod.ext rfl (Prod.ext ?_ ?_)
  · exact (Int.toNat_of_nonneg b1.1).symm
  · exact (Int.toNat_of_nonneg b1.2.2.1).symm
theorem ovP_le {a b : Gr} (ha : gErr a = 0) (hb : gErr b = 0) : (ovP a b).length ≤ (ovP b a).length := by
  refine length_le_inj (fun p => (inv a.n.length p.1, inv a.e.length p.2)) _ _ (ovP_nodup a b) (fun p hp => (memP b a _).2 (isM_inv ha hb ((memP a b p).1 hp))) fun p hp q hq he => ?_
  obtain ⟨p1, p2⟩ := (memP a b p).1 hp
  obtain ⟨q1, q2⟩ := (memP a b q).1 hq
  obtain ⟨e1, e2⟩ := Prod.mk.inj he
  refine Prod.ext ?_ ?_
  · rw [← inv_inv p1, ← inv_inv q1, e1]
  · rw [← inv_inv p2, ← inv_inv q2, e2]
theorem ovP_len {a b : Gr} (ha : gErr a = 0) (hb : gErr b = 0) : (ovP a b).length = (ovP b a).length := Nat.le_antisymm (ovP_le ha hb) (ovP_le hb ha)
/-- The overlaps of valid graphs that are small together. -/
theorem ovS_eq {a b : Gr} (ha : gErr a = 0) (hb : gErr b = 0) (hs : a.n.length + b.n.length ≤ 40 ∧ a.e.length + b.e.length ≤ 80) :
    ovS a b = if 2000 < (ovP a b).length then ([], 3) else ((ovP a b).map (fun p => glue a b p.1 p.2), 0) := by
  rw [ovS, if_neg (by simp [ha]), if_neg (by simp [hb]), if_neg (by omega), ovN_cap a b _ _ _ (by simp), List.nil_append, ovN_pairs]
  by_cases h : 2000 < (ovP a b).length
  · rw [if_pos h, if_pos (by rw [List.length_take, List.length_map]; omega)]
  · rw [if_neg h, if_neg (by rw [List.length_take, List.length_map]; omega), List.take_of_length_le (by rw [List.length_map]; omega)]
end Go.Sy

/- Plain law: what the overlap by a pair of matchings is. -/
namespace Go.Sy
open Go Go.Proofs

def gG {α : Type} (a : List α) (f : Nat → α) (q : List Int) : Nat → List α × List Int
  | 0 => (a, [])
  | i + 1 => if q.getD i 0 < 0 then ((gG a f q i).1 ++ [f i], (gG a f q i).2 ++ [((gG a f q i).1.length : Int)]) else ((gG a f q i).1, (gG a f q i).2 ++ [q.getD i 0])
theorem gN_gG (a bn q : List Int) (i : Nat) : gN a bn q i = gG a (fun j => bn.getD j 0) q i := by
  induction i with
  | zero => rfl
  | succ i ih => rw [gN, gG, ih]
def edF (be : List Ed) (R : List Int) (j : Nat) : Ed := ((be.getD j (0, 0, 0)).1, R.getD (be.getD j (0, 0, 0)).2.1.toNat 0, R.getD (be.getD j (0, 0, 0)).2.2.toNat 0)
theorem gE_gG (a be : List Ed) (R q : List Int) (i : Nat) : gE a be R q i = gG a (edF be R) q i := by
  induction i with
  | zero => rfl
  | succ i ih => rw [gE, gG, ih]; rfl
structure GS {α : Type} (a : List α) (f : Nat → α) (q : List Int) (i : Nat) (L : List α) (R : List Int) : Prop where
  len : R.length = i
  pre : ∃ t, L = a ++ t
  val : ∀ j, j < i → 0 ≤ R.getD j 0 ∧ (R.getD j 0).toNat < L.length
  old : ∀ j, j < i → ¬ q.getD j 0 < 0 → R.getD j 0 = q.getD j 0
  new : ∀ j, j < i → q.getD j 0 < 0 → (a.length : Int) ≤ R.getD j 0 ∧ L[(R.getD j 0).toNat]? = some (f j)
  lt : ∀ j k, j < k → k < i → q.getD j 0 < 0 → q.getD k 0 < 0 → R.getD j 0 < R.getD k 0
  cov : ∀ c : Nat, a.length ≤ c → c < L.length → ∃ j, j < i ∧ q.getD j 0 < 0 ∧ R.getD j 0 = (c : Int)
  up : L.length ≤ a.length + i
theorem gG_spec {α : Type} {a : List α} {f : Nat → α} {q : List Int} {n : Nat} (hq : ∀ j, j < n → q.getD j 0 < 0 ∨ (0 ≤ q.getD j 0 ∧ (q.getD j 0).toNat < a.length)) : ∀ i, i ≤ n → GS a f q i (gG a f q i).1 (gG a f q i).2
  | 0, _ => ⟨rfl, ⟨[], by simp [gG]⟩, fun j h => by omega, fun j h => by omega, fun j h => by omega, fun j k _ h => by omega, fun c h1 h2 => by simp [gG] at h2; omega, by simp [gG]⟩
  | i + 1, hi => by
    obtain ⟨h1, ⟨t, h2⟩, h3, h4, h5, h6, h7, h8⟩ := gG_spec (f := f) hq i (by omega)
    rw [gG]
    generalize (gG a f q i).1 = L at *
    generalize (gG a f q i).2 = R at *
    have gl : ∀ (x : Int) (j : Nat), j < i → (R ++ [x]).getD j 0 = R.getD j 0 := fun x j hj => getD_app_lt (by omega)
    have ge : ∀ (x : Int), (R ++ [x]).getD i 0 = x := fun x => getD_app_eq h1
    have la : a.length ≤ L.length := by rw [h2]; simp
    split
    · rename_i hneg
      refine ⟨by simp [h1], ⟨t ++ [f i], by rw [h2]; simp⟩, fun j hj => ?_, fun j hj hn => ?_, fun j hj hn => ?_, fun j k hjk hk hn hm => ?_, fun c hc1 hc2 => ?_, by simp; omega⟩
      · by_cases hji : j = i
        · simp only [hji, ge]
          refine ⟨by omega, by simp⟩
        · simp only [gl _ j (by omega)]
          have := h3 j (by omega)
          have l1 : (L ++ [f i]).length = L.length + 1 := by simp
          exact ⟨this.1, by rw [l1]; omega⟩
      · have hji : j ≠ i := fun e => hn (e ▸ hneg)
        simp only [gl _ j (by omega)]
        exact h4 j (by omega) hn
      · by_cases hji : j = i
        · simp only [hji, ge]
          refine ⟨by omega, by simp⟩
        · simp only [gl _ j (by omega)]
          have := h5 j (by omega) hn
          refine ⟨this.1, ?_⟩
          rw [List.getElem?_append_left (List.getElem?_eq_some_iff.1 this.2).1]
          exact this.2
      · by_cases hki : k = i
        · simp only [hki, ge, gl _ j (by omega)]
          have := h3 j (by omega)
          omega
        · simp only [gl _ k (by omega), gl _ j (by omega)]
          exact h6 j k hjk (by omega) hn hm
      · by_cases hcl : c < L.length
        · obtain ⟨j, j1, j2, j3⟩ := h7 c hc1 hcl
          exact ⟨j, by omega, j2, by rw [gl _ j j1]; exact j3⟩
        · simp at hc2
          exact ⟨i, by omega, hneg, by rw [ge]; omega⟩
    · rename_i hneg
      have hqi := (hq i (by omega)).resolve_left hneg
      refine ⟨by simp [h1], ⟨t, h2⟩, fun j hj => ?_, fun j hj hn => ?_, fun j hj hn => ?_, fun j k hjk hk hn hm => ?_, fun c hc1 hc2 => ?_, by show L.length ≤ _; omega⟩
      · by_cases hji : j = i
        · simp only [hji, ge]
          exact ⟨hqi.1, by omega⟩
        · simp only [gl _ j (by omega)]
          exact h3 j (by omega)
      · by_cases hji : j = i
        · simp only [hji, ge]
        · simp only [gl _ j (by omega)]
          exact h4 j (by omega) hn
      · have hji : j ≠ i := fun e => hneg (e ▸ hn)
        simp only [gl _ j (by omega)]
        exact h5 j (by omega) hn
      · have hki : k ≠ i := fun e => hneg (e ▸ hm)
        simp only [gl _ k (by omega), gl _ j (by omega)]
        exact h6 j k hjk (by omega) hn hm
      · obtain ⟨j, j1, j2, j3⟩ := h7 c hc1 hc2
        exact ⟨j, by omega, j2, by rw [gl _ j j1]; exact j3⟩
theorem GS.mem {α : Type} {a : List α} {f : Nat → α} {q : List Int} {i : Nat} {L : List α} {R : List Int} (h : GS a f q i L R) {x : α} (hx : x ∈ L) : x ∈ a ∨ ∃ j, j < i ∧ q.getD j 0 < 0 ∧ x = f j := by
  obtain ⟨c, hc, rfl⟩ := List.mem_iff_getElem.1 hx
  obtain ⟨t, ht⟩ := h.pre
  by_cases hca : c < a.length
  · left
    subst ht
    rw [List.getElem_append_left hca]
    exact List.getElem_mem hca
  · right
    obtain ⟨j, j1, j2, j3⟩ := h.cov c (by omega) hc
    have := (h.new j j1 j2).2
    rw [j3, Int.toNat_natCast, List.getElem?_eq_getElem hc] at this
    exact ⟨j, j1, j2, Option.some.inj this⟩
theorem GS.old_at {α : Type} {a : List α} {f : Nat → α} {q : List Int} {i : Nat} {L : List α} {R : List Int} (h : GS a f q i L R) {c : Nat} (hc : c < a.length) (d : α) : L.getD c d = a.getD c d := by
  obtain ⟨t, ht⟩ := h.pre
  rw [ht, getD_at (by simp; omega), getD_at hc, List.getElem_append_left hc]
theorem GS.len_le {α : Type} {a : List α} {f : Nat → α} {q : List Int} {i : Nat} {L : List α} {R : List Int} (h : GS a f q i L R) : a.length ≤ L.length := by
  obtain ⟨t, ht⟩ := h.pre
  rw [ht]
  simp
theorem PI.ok {n m : Nat} {R : Nat → Nat → Prop} {q : List Int} (h : PI n m R q) : ∀ j, j < n → q.getD j 0 < 0 ∨ (0 ≤ q.getD j 0 ∧ (q.getD j 0).toNat < m) := by
  intro j hj
  rcases h.val j hj with h1 | ⟨k, hk, h1, _⟩
  · exact .inl (by omega)
  · exact .inr ⟨by omega, by omega⟩
theorem PI.rel {n m : Nat} {R : Nat → Nat → Prop} {q : List Int} (h : PI n m R q) {j : Nat} (hj : j < n) (h0 : ¬ q.getD j 0 < 0) : R j (q.getD j 0).toNat := by
  rcases h.val j hj with h1 | ⟨k, hk, h1, h2⟩
  · omega
  · rw [h1]; exact h2
theorem GS.dist {α : Type} {a : List α} {f : Nat → α} {q : List Int} {n : Nat} {L : List α} {R : List Int} {Q : Nat → Nat → Prop} (h : GS a f q n L R) (hq : PI n a.length Q q) : dist R = true := by
  refine dist_yes fun i hi k hk he => ?_
  rw [h.len] at hi
  have hkn : k < n := by omega
  by_cases h1 : q.getD i 0 < 0
  · have a1 := (h.new i hi h1).1
    by_cases h2 : q.getD k 0 < 0
    · have := h.lt k i hk hi h2 h1
      omega
    · rw [h.old k hkn h2] at he
      have := (hq.ok k hkn).resolve_left h2
      omega
  · rw [h.old i hi h1] at he
    have b1 := (hq.ok i hi).resolve_left h1
    by_cases h2 : q.getD k 0 < 0
    · have := (h.new k hkn h2).1
      omega
    · rw [h.old k hkn h2] at he
      have := hq.inj k i hk hi he.symm
      omega
theorem rng_at {n i : Nat} (h : i < n) : (rng n).getD i 0 = (i : Int) := by
  rw [rng, getD_at (by simpa using h)]
  simp
theorem rng_len (n : Nat) : (rng n).length = n := by simp [rng]
theorem dist_rng (n : Nat) : dist (rng n) = true := by
  refine dist_yes fun i hi k hk he => ?_
  rw [rng_len] at hi
  rw [rng_at hi, rng_at (by omega)] at he
  omega
theorem contains_at {l : List Int} {j : Nat} {x : Int} (h : j < l.length) (e : l.getD j 0 = x) : l.contains x = true := by
  rw [List.contains_iff_mem, ← e, getD_at h]
  exact List.getElem_mem h
theorem GS.cover {α : Type} {a : List α} {f : Nat → α} {q : List Int} {n : Nat} {L : List α} {R : List Int} (h : GS a f q n L R) : Go.Sy.cov L.length (rng a.length) R = true := by
  refine cov_yes fun c hc => ?_
  by_cases hca : c < a.length
  · rw [contains_at (l := rng a.length) (j := c) (by rw [rng_len]; exact hca) (rng_at hca)]
    rfl
  · obtain ⟨j, j1, _, j3⟩ := h.cov c (by omega) hc
    rw [contains_at (l := R) (j := j) (by rw [h.len]; exact j1) j3, Bool.or_true]
/-- What overlap a pair of matchings gives. -/
structure GlueOK (a b : Gr) (p : List Int × List Int) : Prop where
  n : GS a.n (fun j => b.n.getD j 0) p.1 b.n.length (glue a b p.1 p.2).g.n (glue a b p.1 p.2).r.n
  e : GS a.e (edF b.e (glue a b p.1 p.2).r.n) p.2 b.e.length (glue a b p.1 p.2).g.e (glue a b p.1 p.2).r.e
theorem glue_ok {a b : Gr} {p : List Int × List Int} (h : isM a b p) : GlueOK a b p := by
  obtain ⟨h1, h2⟩ := h
  constructor
  · show GS _ _ _ _ (gN a.n b.n p.1 p.1.length).1 (gN a.n b.n p.1 p.1.length).2
    rw [h1.len, gN_gG]
    exact gG_spec h1.ok _ (Nat.le_refl _)
  · show GS _ (edF b.e (gN a.n b.n p.1 p.1.length).2) _ _ (gE a.e b.e (gN a.n b.n p.1 p.1.length).2 p.2 p.2.length).1 (gE a.e b.e (gN a.n b.n p.1 p.1.length).2 p.2 p.2.length).2
    rw [h2.len, gE_gG]
    exact gG_spec h2.ok _ (Nat.le_refl _)
theorem edOK_mono {n m : Nat} {x : Ed} (h : edOK n x) (hnm : n ≤ m) : edOK m x := by
  unfold edOK at h ⊢
  omega
theorem glue_small {a b : Gr} {p : List Int × List Int} (hs : a.n.length + b.n.length ≤ 40 ∧ a.e.length + b.e.length ≤ 80) (h : isM a b p) : (glue a b p.1 p.2).g.n.length ≤ 40 ∧ (glue a b p.1 p.2).g.e.length ≤ 80 := by
  have hg := glue_ok h
  have un := hg.n.up
  have ue := hg.e.up
  omega
theorem glue_valid {a b : Gr} {p : List Int × List Int} (ha : gErr a = 0) (hb : gErr b = 0) (hs : (glue a b p.1 p.2).g.n.length ≤ 40 ∧ (glue a b p.1 p.2).g.e.length ≤ 80) (h : isM a b p) : gErr (glue a b p.1 p.2).g = 0 := by
  obtain ⟨_, va1, va2⟩ := gErr_small ha
  obtain ⟨_, vb1, vb2⟩ := gErr_small hb
  have hg := glue_ok h
  have un := hg.n.up
  have ue := hg.e.up
  have ll := hg.n.len_le
  rw [gErr, if_pos (by omega), if_pos]
  refine ⟨fun t ht => ?_, fun x hx => ?_⟩
  · rcases hg.n.mem ht with h1 | ⟨j, j1, _, rfl⟩
    · exact va1 t h1
    · show 0 ≤ b.n.getD j 0 ∧ b.n.getD j 0 ≤ 99
      rw [getD_at j1]
      exact vb1 _ (List.getElem_mem j1)
  · rcases hg.e.mem hx with h1 | ⟨j, j1, _, rfl⟩
    · exact edOK_mono (va2 x h1) ll
    · have hv := vb2 _ (List.getElem_mem j1)
      have v1 := hg.n.val b.e[j].2.1.toNat (by have := hv.2; omega)
      have v2 := hg.n.val b.e[j].2.2.toNat (by have := hv.2; omega)
      unfold edF edOK
      rw [getD_at j1]
      refine ⟨hv.1, v1.1, ?_, v2.1, ?_⟩
      · show (glue a b p.1 p.2).r.n.getD b.e[j].2.1.toNat 0 < _
        omega
      · show (glue a b p.1 p.2).r.n.getD b.e[j].2.2.toNat 0 < _
        omega
theorem mErr_zero {a b : Gr} {m : Mo} (ha : gErr a = 0) (hb : gErr b = 0) (h1 : m.n.length = a.n.length) (h2 : m.e.length = a.e.length) (h3 : ∀ i, i < a.n.length → nodeErr a b m i = 0) (h4 : ∀ i, i < a.e.length → edgeErr a b m i = 0) : mErr a b m = 0 := by
  rw [mErr, if_neg (by simp [ha]), if_neg (by simp [hb]), if_neg (by omega), firstErr_zero h3, if_neg (by simp), firstErr_zero h4]
theorem glue_left {a b : Gr} {p : List Int × List Int} (ha : gErr a = 0) (hb : gErr b = 0) (hs : (glue a b p.1 p.2).g.n.length ≤ 40 ∧ (glue a b p.1 p.2).g.e.length ≤ 80) (h : isM a b p) : mErr a (glue a b p.1 p.2).g (glue a b p.1 p.2).l = 0 := by
  obtain ⟨_, va1, va2⟩ := gErr_small ha
  have hg := glue_ok h
  have ln := hg.n.len_le
  have le := hg.e.len_le
  refine mErr_zero ha (glue_valid ha hb hs h) (rng_len _) (rng_len _) (fun i hi => ?_) (fun i hi => ?_)
  · have e : (glue a b p.1 p.2).l.n.getD i 0 = (i : Int) := rng_at hi
    rw [nodeErr, e, if_neg (by omega), Int.toNat_natCast, hg.n.old_at hi, if_neg (by simp)]
  · have e : (glue a b p.1 p.2).l.e.getD i 0 = (i : Int) := rng_at hi
    have hv := (va2 _ (List.getElem_mem hi)).2
    have e1 : (glue a b p.1 p.2).l.n.getD a.e[i].2.1.toNat 0 = a.e[i].2.1 := by
      have : (glue a b p.1 p.2).l.n.getD a.e[i].2.1.toNat 0 = (a.e[i].2.1.toNat : Int) := rng_at (by omega)
      omega
    have e2 : (glue a b p.1 p.2).l.n.getD a.e[i].2.2.toNat 0 = a.e[i].2.2 := by
      have : (glue a b p.1 p.2).l.n.getD a.e[i].2.2.toNat 0 = (a.e[i].2.2.toNat : Int) := rng_at (by omega)
      omega
    rw [edgeErr, e, if_neg (by omega), Int.toNat_natCast, hg.e.old_at hi, if_neg (by simp), getD_at hi, e1, e2, if_neg (by simp)]
theorem glue_right {a b : Gr} {p : List Int × List Int} (ha : gErr a = 0) (hb : gErr b = 0) (hs : (glue a b p.1 p.2).g.n.length ≤ 40 ∧ (glue a b p.1 p.2).g.e.length ≤ 80) (h : isM a b p) : mErr b (glue a b p.1 p.2).g (glue a b p.1 p.2).r = 0 := by
  obtain ⟨_, va1, va2⟩ := gErr_small ha
  obtain ⟨_, vb1, vb2⟩ := gErr_small hb
  have hg := glue_ok h
  refine mErr_zero hb (glue_valid ha hb hs h) hg.n.len hg.e.len (fun i hi => ?_) (fun i hi => ?_)
  · have v := hg.n.val i hi
    rw [nodeErr, if_neg (by omega), if_neg]
    simp only [ne_eq, Decidable.not_not]
    by_cases h0 : p.1.getD i 0 < 0
    · have := (hg.n.new i hi h0).2
      rw [List.getD_eq_getElem?_getD, this]
      rfl
    · have h1 := (h.1.ok i hi).resolve_left h0
      rw [hg.n.old i hi h0, hg.n.old_at h1.2]
      exact h.1.rel hi h0
  · have v := hg.e.val i hi
    have hv := (vb2 _ (List.getElem_mem hi)).2
    rw [edgeErr, if_neg (by omega)]
    by_cases h0 : p.2.getD i 0 < 0
    · have := (hg.e.new i hi h0).2
      rw [List.getD_eq_getElem?_getD (l := (glue a b p.1 p.2).g.e), this]
      simp [edF]
    · have h1 := (h.2.ok i hi).resolve_left h0
      have hr : a.e.getD (p.2.getD i 0).toNat (0, 0, 0) = _ := h.2.rel hi h0
      have hm := va2 _ (List.getElem_mem h1.2)
      rw [← getD_at h1.2 (d := (0, 0, 0))] at hm
      rw [hr] at hm
      rw [hg.e.old i hi h0, hg.e.old_at h1.2, hr]
      rw [getD_at hi] at hm ⊢
      have hm1 : 0 ≤ p.1.getD b.e[i].2.1.toNat 0 := hm.2.1
      have hm2 : 0 ≤ p.1.getD b.e[i].2.2.toNat 0 := hm.2.2.2.1
      rw [hg.n.old b.e[i].2.1.toNat (by omega) (by omega), hg.n.old b.e[i].2.2.toNat (by omega) (by omega)]
      simp
theorem glue_inj {a b : Gr} {p q : List Int × List Int} (hp : isM a b p) (hq : isM a b q) (h : glue a b p.1 p.2 = glue a b q.1 q.2) : p = q := by
  have gp := glue_ok hp
  have gq := glue_ok hq
  have rec1 : ∀ {n m : Nat} {Q Q' : Nat → Nat → Prop} {α : Type} {a : List α} {f f' : Nat → α} {x y : List Int} {L L' : List α} {R : List Int}, GS a f x n L R → GS a f' y n L' R → PI n a.length Q x → PI n a.length Q' y → x = y := by
    intro n m Q Q' α a f f' x y L L' R g1 g2 p1 p2
    refine List.ext_getElem (by rw [p1.len, p2.len]) fun i h1 h2 => ?_
    rw [← getD_at h1 (d := 0), ← getD_at h2 (d := 0)]
    have hi : i < n := by rw [← p1.len]; exact h1
    have neg : ∀ {Q : Nat → Nat → Prop} {z : List Int}, PI n a.length Q z → z.getD i 0 < 0 → z.getD i 0 = -1 := fun hz h0 => by
      rcases hz.val i hi with h3 | ⟨k, _, h3, _⟩
      · exact h3
      · omega
    by_cases c1 : x.getD i 0 < 0
    · have e1 := (g1.new i hi c1).1
      by_cases c2 : y.getD i 0 < 0
      · rw [neg p1 c1, neg p2 c2]
      · have := (p2.ok i hi).resolve_left c2
        rw [g2.old i hi c2] at e1
        omega
    · by_cases c2 : y.getD i 0 < 0
      · have e2 := (g2.new i hi c2).1
        have := (p1.ok i hi).resolve_left c1
        rw [g1.old i hi c1] at e2
        omega
      · rw [← g1.old i hi c1, ← g2.old i hi c2]
  have hr : (glue a b p.1 p.2).r = (glue a b q.1 q.2).r := by rw [h]
  have g1 := gp.n
  have g2 := gq.n
  have g3 := gp.e
  have g4 := gq.e
  rw [hr] at g1 g3
  exact Prod.ext (rec1 (m := 0) g1 g2 hp.1 hq.1) (rec1 (m := 0) g3 g4 hp.2 hq.2)
theorem glue_all {a b : Gr} {p : List Int × List Int} (ha : gErr a = 0) (hb : gErr b = 0) (hs : (glue a b p.1 p.2).g.n.length ≤ 40 ∧ (glue a b p.1 p.2).g.e.length ≤ 80) (h : isM a b p) :
    injR a (glue a b p.1 p.2).g (glue a b p.1 p.2).l = true ∧ injR b (glue a b p.1 p.2).g (glue a b p.1 p.2).r = true ∧ jnt a b (glue a b p.1 p.2).g (glue a b p.1 p.2).l (glue a b p.1 p.2).r = true := by
  have hg := glue_ok h
  have m1 := glue_left ha hb hs h
  have m2 := glue_right ha hb hs h
  have d1 : dist (glue a b p.1 p.2).l.n = true := dist_rng _
  have d2 : dist (glue a b p.1 p.2).l.e = true := dist_rng _
  have d3 := hg.n.dist h.1
  have d4 := hg.e.dist h.2
  have c1 : cov (glue a b p.1 p.2).g.n.length (glue a b p.1 p.2).l.n (glue a b p.1 p.2).r.n = true := hg.n.cover
  have c2 : cov (glue a b p.1 p.2).g.e.length (glue a b p.1 p.2).l.e (glue a b p.1 p.2).r.e = true := hg.e.cover
  unfold injR jnt
  rw [m1, m2, d1, d2, d3, d4, c1, c2]
  exact ⟨rfl, rfl, rfl⟩
/-! ### The first -/
theorem genL_head {ok : List Int → Int → Bool} {m : Nat} (hok : ∀ l, ok l (-1) = true) : ∀ (k : Nat) (l : List Int), (genL ok m k l).head? = some (l ++ List.replicate k (-1))
  | 0, l => by simp [genL]
  | k + 1, l => by
    rw [genL, List.range_succ_eq_map, List.flatMap_cons]
    have e : (((0 : Nat) : Int) - 1) = -1 := rfl
    rw [e, if_pos (hok l), List.head?_append, genL_head hok k]
    simp [List.replicate_succ]
theorem flat_head {α β : Type} {f : α → List β} {l : List α} {x : α} {y : β} (h1 : l.head? = some x) (h2 : (f x).head? = some y) : (l.flatMap f).head? = some y := by
  cases l with
  | nil => simp at h1
  | cons z l =>
    simp at h1
    subst h1
    rw [List.flatMap_cons, List.head?_append, h2]
    rfl
theorem ovP_head (a b : Gr) : (ovP a b).head? = some (List.replicate b.n.length (-1), List.replicate b.e.length (-1)) := by
  refine flat_head (x := List.replicate b.n.length (-1)) ?_ ?_
  · have := genL_head (ok := oN a b) (m := a.n.length) (fun l => by simp [oN, okN]) b.n.length []
    simpa using this
  · rw [List.head?_map]
    have := genL_head (ok := oE a b (List.replicate b.n.length (-1))) (m := a.e.length) (fun l => by simp [oE, okE]) b.e.length []
    rw [this]
    simp
theorem gN_neg_len (a bn : List Int) (n : Nat) : ∀ i, i ≤ n → (gN a bn (List.replicate n (-1)) i).1.length = a.length + i
  | 0, _ => rfl
  | i + 1, hi => by
    have : (List.replicate n (-1 : Int)).getD i 0 = -1 := by rw [getD_at (by simp; omega)]; simp
    rw [gN, this, if_pos (by decide)]
    simp [gN_neg_len a bn n i (by omega)]
    omega
theorem glue_first (a b : Gr) (es : List Int) : (glue a b (List.replicate b.n.length (-1)) es).g.n.length = a.n.length + b.n.length := by
  show (gN a.n b.n (List.replicate b.n.length (-1)) (List.replicate b.n.length (-1 : Int)).length).1.length = _
  rw [List.length_replicate]
  exact gN_neg_len _ _ _ _ (Nat.le_refl _)
end Go.Sy
