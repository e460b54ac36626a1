/- Contracts: graphs out of drafts; injective morphisms. -/
import Derived.Test.YtkhheblmgbiniaaMG3
import Derived.Test.YtkhheblmgbiniaaMG2
import Derived.Lib.SlicesCompact
import Derived.Lib.RowBridge
import Derived.Shelf.Sort.Plain
import Derived.Shelf.Bits.Mul64
import Derived.Shelf.Slices.Turned
import Derived.Ground.Names2Prog
import Derived.Shelf.Slices.Clone
import Derived.Shelf.Slices.CompactI
import Derived.Shelf.Slices.In.SortNone
import Derived.Test.YtkhheblmgbiniaaProg
import Derived.WalkKit
import Derived.Below
import Derived.Lib.OwnBridge
import Derived.Sort.Grow
import Derived.Sort.OwnSortedInts
import Derived.WideShapes
import Derived.Deep.RegionLaw
import Derived.Laws.CopyOwn
import Derived.Deep.OwnRows
set_option linter.unusedSimpArgs false
namespace Go.Sy
open Go Go.Proofs

structure Dr where
  n : List Int
  e : List Ed
def u8 (x : Int) : AV := .v (.int .u8 x)
def tcs (x : Ed) : List AV := [u8 x.1, u8 x.2.1, u8 x.2.2]
def dcs (d : Dr) : List AV := [.list 1 (d.n.map fun x => [u8 x]) .no, .list 3 (d.e.map tcs) .no]
def dv (d : Dr) : AV := .agg (dcs d)
attribute [go_sem] u8 tcs dcs dv
/-- What a draft holds are bytes. -/
def drOK (d : Dr) : Prop := (∀ x ∈ d.n, 0 ≤ x ∧ x ≤ 255) ∧ ∀ x ∈ d.e, (0 ≤ x.1 ∧ x.1 ≤ 255) ∧ (0 ≤ x.2.1 ∧ x.2.1 ≤ 255) ∧ 0 ≤ x.2.2 ∧ x.2.2 ≤ 255
theorem idx_arrP {P : Program} {t e : TypeId} {m : Nat} (hu : P.underlying t = some (.array m e)) (hi : (P.info? e).isSome = true) (hc : P.cellsOf e = 1) (l : List AV) (k : IntKind) (n : Int) :
    idxAV P t (.ptr l) (.v (.int k n)) = if 0 ≤ n ∧ n < m then some (.ptr (l.drop n.toNat)) else none := by
  show (match P.underlying t with
    | some (.array m e) => if (P.info? e).isSome ∧ 0 ≤ n ∧ n < m then some (AV.ptr (l.drop (n.toNat * P.cellsOf e))) else none
    | _ => none) = _
  rw [hu]
  simp only [hi, hc, Nat.mul_one, true_and]
theorem idx_arr (l : List AV) (k : IntKind) (n : Int) : idxAV Try.prog 127 (.ptr l) (.v (.int k n)) = if 0 ≤ n ∧ n < (3 : Int) then some (.ptr (l.drop n.toNat)) else none := idx_arrP (e := 5) (by kernel_rfl) (by kernel_rfl) (by kernel_rfl) l k n
/-- Are no two numbers equal? -/
def dist (l : List Int) : Bool := (List.range l.length).all fun i => (List.range i).all fun k => decide (l.getD i 0 ≠ l.getD k 0)
theorem dist_yes {l : List Int} (h : ∀ i, i < l.length → ∀ k, k < i → l.getD i 0 ≠ l.getD k 0) : dist l = true := by
  rw [dist, List.all_eq_true]
  intro i hi
  rw [List.all_eq_true]
  intro k hk
  exact decide_eq_true (h i (List.mem_range.1 hi) k (List.mem_range.1 hk))
def injR (a b : Gr) (m : Mo) : Bool := mErr a b m == 0 && (dist m.n && dist m.e)
def mkE (n : Int) (x : Ed) : Ed := (x.1.tmod 2, x.2.1.tmod n, x.2.2.tmod n)
/-- The graph of a draft. -/
def made (d : Dr) : Gr := ⟨(d.n.take 8).map (·.tmod 3), if d.n = [] then [] else (d.e.take 10).map (mkE (d.n.take 8).length)⟩
theorem take_stop {α : Type} {l : List α} {i n : Nat} (h : ¬ (i < l.length ∧ i < n)) (h1 : i ≤ l.length) (h2 : i ≤ n) : l.take i = l.take n := by
  by_cases hi : i = n
  · rw [hi]
  · rw [List.take_of_length_le (by omega), List.take_of_length_le (by omega)]
theorem take_map {α β : Type} {f : α → β} {l : List α} {i : Nat} (h : i < l.length) : (l.take (i + 1)).map f = (l.take i).map f ++ [f l[i]] := by
  rw [List.take_add_one, List.getElem?_eq_getElem h, List.map_append]
  rfl
theorem tmod_byte {x n : Int} (h0 : 0 ≤ x) (hn : 0 < n) : 0 ≤ x.tmod n ∧ x.tmod n < n := by
  rw [Int.tmod_eq_emod_of_nonneg h0]
  exact ⟨Int.emod_nonneg _ (by omega), Int.emod_lt_of_pos _ hn⟩
theorem wrap_byte {x : Int} (h0 : 0 ≤ x ∧ x ≤ 255) : IntKind.i64.wrap x = x := wrap_i64 _ (by omega) (by omega)
set_option maxHeartbeats 1000000 in
theorem c30 (d : Dr) (hd : drOK d) : Con Try.prog 30 [dv d] 0 (gv (made d)) := by
  refine Con.assume (enters_of Try.func30 (by kernel_rfl) rfl) fun hb => ?_
  refine conT (X := []) (rs := [.cell 2 25]) Try.func30 (by kernel_rfl) rfl rfl (by kernel_rfl) ?_
  simp (dsimp := false) (maxDischargeDepth := 16) only [go_sem, ↓reduceIte, reduceCtorEq, Nat.reduceEqDiff, Nat.reduceAdd, Nat.reduceMul, Nat.reduceSub, Nat.reduceLT, Nat.reduceLeDiff, Nat.reducePow, Int.reduceLT, Int.reduceLE, Int.reduceNeg, Int.reduceToNat]
  refine loopK_intro (fun (i : Nat) s => i ≤ d.n.length ∧ i ≤ 8 ∧ s.t 1 = .box (1, 0, 0) 0 ∧ s.b (1, 0, 0) = some ⟨dcs d, false⟩ ∧ s.t 2 = .box (2, 0, 0) 0 ∧ (∃ z1 z2, s.b (2, 0, 0) = some ⟨[z1, z2], false⟩) ∧ s.t 3 = .box (3, 0, 0) 0 ∧ s.t 4 = iv i ∧
    ∃ tk, s.b (3, 0, 0) = some ⟨[lvT ((d.n.take i).map (·.tmod 3)) tk, .list 3 [] .nil], false⟩ ∧ tokOK s tk = true) (fun i => 8 - i) ?_ ?_
  · exact ⟨0, by omega, by omega, rfl, rfl, rfl, ⟨_, _, rfl⟩, rfl, rfl, .nil, rfl, rfl⟩
  rintro i s ⟨hi, hi8, t1, b1, t2, ⟨z1, z2, b2⟩, t3, t4, tk, b3, htk⟩
  simp (dsimp := false) (maxDischargeDepth := 16) only [go_sem, ↓reduceIte, reduceCtorEq, Nat.reduceEqDiff, Nat.reduceAdd, Nat.reduceMul, Nat.reduceSub, Nat.reduceLT, Nat.reduceLeDiff, Nat.reducePow, Int.reduceLT, Int.reduceLE, Int.reduceNeg, Int.reduceToNat, t1, b1, t2, b2, t3, t4, b3]
  have stop : ¬ (i < d.n.length ∧ i < 8) → (d.n.take i).map (·.tmod 3) = (made d).n := fun h => by rw [take_stop h hi hi8]; rfl
  have hnl : (made d).n.length ≤ 8 := by simp [made]; omega
  have hnn : (made d).n.length = 0 ↔ d.n = [] := by
    simp only [made, List.length_map, List.length_take]
    constructor
    · intro h
      exact List.eq_nil_of_length_eq_zero (by omega)
    · intro h
      simp [h]
  have hnt : ((d.n.take 8).length : Int) = ((made d).n.length : Int) := by simp [made]
  have hme : (made d).e = if d.n = [] then [] else (d.e.take 10).map (mkE (made d).n.length) := by rw [← hnt]; rfl
  refine condK_dec (fun h6 => ?_) (fun h6 => ?_)
  · simp (dsimp := false) (maxDischargeDepth := 16) only [go_sem, ↓reduceIte, reduceCtorEq, Nat.reduceEqDiff, Nat.reduceAdd, Nat.reduceMul, Nat.reduceSub, Nat.reduceLT, Nat.reduceLeDiff, Nat.reducePow, Int.reduceLT, Int.reduceLE, Int.reduceNeg, Int.reduceToNat, t1, b1, t2, b2, t3, t4, b3, h6]
    refine condK_dec (fun h7 => ?_) (fun h7 => ?_)
    · have hx := hd.1 _ (List.getElem_mem h6)
      have tb := tmod_byte (n := 3) hx.1 (by decide)
      have hw : IntKind.i64.wrap (d.n[i].tmod 3) = d.n[i].tmod 3 := wrap_i64 _ (by omega) (by omega)
      simp (dsimp := false) (maxDischargeDepth := 16) only [go_sem, ↓reduceIte, reduceCtorEq, Nat.reduceEqDiff, Nat.reduceAdd, Nat.reduceMul, Nat.reduceSub, Nat.reduceLT, Nat.reduceLeDiff, Nat.reducePow, Int.reduceLT, Int.reduceLE, Int.reduceNeg, Int.reduceToNat, t1, b1, t2, b2, t3, t4, b3, h6, h7, idx_nat, hw, htk, Int.reduceEq]
      refine ⟨⟨by simp; omega, by simp; omega⟩, i + 1, by omega, by omega, by omega, ⟨_, _, rfl⟩, by rw [wrapN _ (by omega)], .own (28, s.g 28, 0), ?_, ?_⟩
      · rw [take_map h6]
        simp only [map1_app]
      · simp (dsimp := false) (maxDischargeDepth := 16) only [go_sem, ↓reduceIte, reduceCtorEq, Nat.reduceEqDiff, Nat.reduceAdd, Nat.reduceMul, Nat.reduceSub, Nat.reduceLT, Nat.reduceLeDiff, Nat.reducePow, Int.reduceLT, Int.reduceLE, Int.reduceNeg, Int.reduceToNat]
    · simp (dsimp := false) (maxDischargeDepth := 16) only [go_sem, ↓reduceIte, reduceCtorEq, Nat.reduceEqDiff, Nat.reduceAdd, Nat.reduceMul, Nat.reduceSub, Nat.reduceLT, Nat.reduceLeDiff, Nat.reducePow, Int.reduceLT, Int.reduceLE, Int.reduceNeg, Int.reduceToNat, t1, b1, t2, b2, t3, t4, b3, h6, h7]
      have hstop := stop (by omega)
      rw [hstop] at b3
      have hlen2 : (d.n.take i).length = (made d).n.length := by rw [← hstop, List.length_map]
      generalize hG : (made d).n = G at *
      refine loopK_intro (fun (i : Nat) s => i ≤ d.e.length ∧ i ≤ 10 ∧ (G = [] → i = 0) ∧ s.t 1 = .box (1, 0, 0) 0 ∧ s.b (1, 0, 0) = some ⟨dcs d, false⟩ ∧ s.t 2 = .box (2, 0, 0) 0 ∧ s.b (2, 0, 0) = some ⟨[z1, z2], false⟩ ∧ s.t 3 = .box (3, 0, 0) 0 ∧
        s.t 5 = iv G.length ∧ s.t 6 = iv i ∧ ∃ tk2, s.b (3, 0, 0) = some ⟨[lvT G tk, elT' ((d.e.take i).map (mkE G.length)) tk2], false⟩ ∧ tokOK s tk2 = true) (fun i => 10 - i) ?_ ?_
      · exact ⟨0, by omega, by omega, fun _ => rfl, t1, b1, t2, b2, t3, by simp (dsimp := false) (maxDischargeDepth := 16) only [go_sem, ↓reduceIte, reduceCtorEq, Nat.reduceEqDiff, Nat.reduceAdd, Nat.reduceMul, Nat.reduceSub, Nat.reduceLT, Nat.reduceLeDiff, Nat.reducePow, Int.reduceLT, Int.reduceLE, Int.reduceNeg, Int.reduceToNat, hlen2], rfl, .nil, b3, rfl⟩
      clear t1 b1 t2 b2 t3 t4 b3 htk
      rintro i s ⟨hi, hi10, hG0, t1, b1, t2, b2, t3, t5, t6, tk2, b3, htk⟩
      simp (dsimp := false) (maxDischargeDepth := 16) only [go_sem, ↓reduceIte, reduceCtorEq, Nat.reduceEqDiff, Nat.reduceAdd, Nat.reduceMul, Nat.reduceSub, Nat.reduceLT, Nat.reduceLeDiff, Nat.reducePow, Int.reduceLT, Int.reduceLE, Int.reduceNeg, Int.reduceToNat, t1, b1, t2, b2, t3, t5, t6, b3]
      have endE : (d.e.take i).map (mkE G.length) = (made d).e → made d = ⟨G, (d.e.take i).map (mkE G.length)⟩ := fun h => by rw [h, ← hG]
      refine condK_dec (fun h6 => ?_) (fun h6 => ?_)
      rotate_left
      · have hm := endE (by
          rw [hme]
          split
          · rename_i h0; rw [hG0 (by have := hnn.2 h0; exact List.eq_nil_of_length_eq_zero this)]; rfl
          · rw [take_stop (n := 10) (by omega) hi hi10])
        simp (dsimp := false) (maxDischargeDepth := 16) only [go_sem, ↓reduceIte, reduceCtorEq, Nat.reduceEqDiff, Nat.reduceAdd, Nat.reduceMul, Nat.reduceSub, Nat.reduceLT, Nat.reduceLeDiff, Nat.reducePow, Int.reduceLT, Int.reduceLE, Int.reduceNeg, Int.reduceToNat, t1, b1, t2, b2, t3, t5, t6, b3, h6]
        rw [hm]
        exact finK ⟨rfl, rfl⟩
      simp (dsimp := false) (maxDischargeDepth := 16) only [go_sem, ↓reduceIte, reduceCtorEq, Nat.reduceEqDiff, Nat.reduceAdd, Nat.reduceMul, Nat.reduceSub, Nat.reduceLT, Nat.reduceLeDiff, Nat.reducePow, Int.reduceLT, Int.reduceLE, Int.reduceNeg, Int.reduceToNat, t1, b1, t2, b2, t3, t5, t6, b3, h6]
      refine condK_dec (fun h7 => ?_) (fun h7 => ?_)
      rotate_left
      · have hm := endE (by
          rw [hme]
          split
          · rename_i h0; rw [hG0 (by have := hnn.2 h0; exact List.eq_nil_of_length_eq_zero this)]; rfl
          · rw [take_stop (n := 10) (by omega) hi hi10])
        simp (dsimp := false) (maxDischargeDepth := 16) only [go_sem, ↓reduceIte, reduceCtorEq, Nat.reduceEqDiff, Nat.reduceAdd, Nat.reduceMul, Nat.reduceSub, Nat.reduceLT, Nat.reduceLeDiff, Nat.reducePow, Int.reduceLT, Int.reduceLE, Int.reduceNeg, Int.reduceToNat, t1, b1, t2, b2, t3, t5, t6, b3, h6, h7]
        rw [hm]
        exact finK ⟨rfl, rfl⟩
      simp (dsimp := false) (maxDischargeDepth := 16) only [go_sem, ↓reduceIte, reduceCtorEq, Nat.reduceEqDiff, Nat.reduceAdd, Nat.reduceMul, Nat.reduceSub, Nat.reduceLT, Nat.reduceLeDiff, Nat.reducePow, Int.reduceLT, Int.reduceLE, Int.reduceNeg, Int.reduceToNat, t1, b1, t2, b2, t3, t5, t6, b3, h6, h7]
      refine condK_dec (fun h8 => ?_) (fun h8 => ?_)
      rotate_left
      · have hg : G = [] := List.eq_nil_of_length_eq_zero (by omega)
        have hm := endE (by
          rw [hme, if_pos (hnn.1 (by rw [hg]; rfl)), hG0 hg]
          rfl)
        simp (dsimp := false) (maxDischargeDepth := 16) only [go_sem, ↓reduceIte, reduceCtorEq, Nat.reduceEqDiff, Nat.reduceAdd, Nat.reduceMul, Nat.reduceSub, Nat.reduceLT, Nat.reduceLeDiff, Nat.reducePow, Int.reduceLT, Int.reduceLE, Int.reduceNeg, Int.reduceToNat, t1, b1, t2, b2, t3, t5, t6, b3, h6, h7, h8]
        rw [hm]
        exact finK ⟨rfl, rfl⟩
      have hx := hd.2 _ (List.getElem_mem h6)
      have x1 := tmod_byte (n := 2) hx.1.1 (by decide)
      have x2 := tmod_byte (n := (G.length : Int)) hx.2.1.1 h8
      have x3 := tmod_byte (n := (G.length : Int)) hx.2.2.1 h8
      have w1 : IntKind.i64.wrap (d.e[i].1.tmod 2) = d.e[i].1.tmod 2 := wrap_i64 _ (by omega) (by omega)
      have w2 := wrap_byte hx.2.1
      have w3 := wrap_byte hx.2.2
      have htl : (d.e.take i).length ≤ i := by rw [List.length_take]; omega
      have hne : ((G.length : Int) = 0) = False := propext ⟨fun h => by omega, False.elim⟩
      simp (dsimp := false) (maxDischargeDepth := 16) only [go_sem, ↓reduceIte, reduceCtorEq, Nat.reduceEqDiff, Nat.reduceAdd, Nat.reduceMul, Nat.reduceSub, Nat.reduceLT, Nat.reduceLeDiff, Nat.reducePow, Int.reduceLT, Int.reduceLE, Int.reduceNeg, Int.reduceToNat, t1, b1, t2, b2, t3, t5, t6, b3, h6, h7, h8, idx_nat, idx_arr, w1, w2, w3, hne, htk, Int.reduceEq]
      refine ⟨⟨by omega, by omega⟩, i + 1, by omega, by omega, by omega, fun h => by rw [h] at h8; simp at h8, by rw [wrapN _ (by omega)], .own (78, s.g 78, 0), ?_, ?_⟩
      · rw [take_map h6]
        simp only [map3_app]
        rfl
      · simp (dsimp := false) (maxDischargeDepth := 16) only [go_sem, ↓reduceIte, reduceCtorEq, Nat.reduceEqDiff, Nat.reduceAdd, Nat.reduceMul, Nat.reduceSub, Nat.reduceLT, Nat.reduceLeDiff, Nat.reducePow, Int.reduceLT, Int.reduceLE, Int.reduceNeg, Int.reduceToNat]
  · simp (dsimp := false) (maxDischargeDepth := 16) only [go_sem, ↓reduceIte, reduceCtorEq, Nat.reduceEqDiff, Nat.reduceAdd, Nat.reduceMul, Nat.reduceSub, Nat.reduceLT, Nat.reduceLeDiff, Nat.reducePow, Int.reduceLT, Int.reduceLE, Int.reduceNeg, Int.reduceToNat, t1, b1, t2, b2, t3, t4, b3, h6]
    have hstop := stop (by omega)
    rw [hstop] at b3
    have hlen2 : (d.n.take i).length = (made d).n.length := by rw [← hstop, List.length_map]
    generalize hG : (made d).n = G at *
    refine loopK_intro (fun (i : Nat) s => i ≤ d.e.length ∧ i ≤ 10 ∧ (G = [] → i = 0) ∧ s.t 1 = .box (1, 0, 0) 0 ∧ s.b (1, 0, 0) = some ⟨dcs d, false⟩ ∧ s.t 2 = .box (2, 0, 0) 0 ∧ s.b (2, 0, 0) = some ⟨[z1, z2], false⟩ ∧ s.t 3 = .box (3, 0, 0) 0 ∧
      s.t 5 = iv G.length ∧ s.t 6 = iv i ∧ ∃ tk2, s.b (3, 0, 0) = some ⟨[lvT G tk, elT' ((d.e.take i).map (mkE G.length)) tk2], false⟩ ∧ tokOK s tk2 = true) (fun i => 10 - i) ?_ ?_
    · exact ⟨0, by omega, by omega, fun _ => rfl, t1, b1, t2, b2, t3, by simp (dsimp := false) (maxDischargeDepth := 16) only [go_sem, ↓reduceIte, reduceCtorEq, Nat.reduceEqDiff, Nat.reduceAdd, Nat.reduceMul, Nat.reduceSub, Nat.reduceLT, Nat.reduceLeDiff, Nat.reducePow, Int.reduceLT, Int.reduceLE, Int.reduceNeg, Int.reduceToNat, hlen2], rfl, .nil, b3, rfl⟩
    clear t1 b1 t2 b2 t3 t4 b3 htk
    rintro i s ⟨hi, hi10, hG0, t1, b1, t2, b2, t3, t5, t6, tk2, b3, htk⟩
    simp (dsimp := false) (maxDischargeDepth := 16) only [go_sem, ↓reduceIte, reduceCtorEq, Nat.reduceEqDiff, Nat.reduceAdd, Nat.reduceMul, Nat.reduceSub, Nat.reduceLT, Nat.reduceLeDiff, Nat.reducePow, Int.reduceLT, Int.reduceLE, Int.reduceNeg, Int.reduceToNat, t1, b1, t2, b2, t3, t5, t6, b3]
    have endE : (d.e.take i).map (mkE G.length) = (made d).e → made d = ⟨G, (d.e.take i).map (mkE G.length)⟩ := fun h => by rw [h, ← hG]
    refine condK_dec (fun h6 => ?_) (fun h6 => ?_)
    rotate_left
    · have hm := endE (by
        rw [hme]
        split
        · rename_i h0; rw [hG0 (by have := hnn.2 h0; exact List.eq_nil_of_length_eq_zero this)]; rfl
        · rw [take_stop (n := 10) (by omega) hi hi10])
      simp (dsimp := false) (maxDischargeDepth := 16) only [go_sem, ↓reduceIte, reduceCtorEq, Nat.reduceEqDiff, Nat.reduceAdd, Nat.reduceMul, Nat.reduceSub, Nat.reduceLT, Nat.reduceLeDiff, Nat.reducePow, Int.reduceLT, Int.reduceLE, Int.reduceNeg, Int.reduceToNat, t1, b1, t2, b2, t3, t5, t6, b3, h6]
      rw [hm]
      exact finK ⟨rfl, rfl⟩
    simp (dsimp := false) (maxDischargeDepth := 16) only [go_sem, ↓reduceIte, reduceCtorEq, Nat.reduceEqDiff, Nat.reduceAdd, Nat.reduceMul, Nat.reduceSub, Nat.reduceLT, Nat.reduceLeDiff, Nat.reducePow, Int.reduceLT, Int.reduceLE, Int.reduceNeg, Int.reduceToNat, t1, b1, t2, b2, t3, t5, t6, b3, h6]
    refine condK_dec (fun h7 => ?_) (fun h7 => ?_)
    rotate_left
    · have hm := endE (by
        rw [hme]
        split
        · rename_i h0; rw [hG0 (by have := hnn.2 h0; exact List.eq_nil_of_length_eq_zero this)]; rfl
        · rw [take_stop (n := 10) (by omega) hi hi10])
      simp (dsimp := false) (maxDischargeDepth := 16) only [go_sem, ↓reduceIte, reduceCtorEq, Nat.reduceEqDiff, Nat.reduceAdd, Nat.reduceMul, Nat.reduceSub, Nat.reduceLT, Nat.reduceLeDiff, Nat.reducePow, Int.reduceLT, Int.reduceLE, Int.reduceNeg, Int.reduceToNat, t1, b1, t2, b2, t3, t5, t6, b3, h6, h7]
      rw [hm]
      exact finK ⟨rfl, rfl⟩
    simp (dsimp := false) (maxDischargeDepth := 16) only [go_sem, ↓reduceIte, reduceCtorEq, Nat.reduceEqDiff, Nat.reduceAdd, Nat.reduceMul, Nat.reduceSub, Nat.reduceLT, Nat.reduceLeDiff, Nat.reducePow, Int.reduceLT, Int.reduceLE, Int.reduceNeg, Int.reduceToNat, t1, b1, t2, b2, t3, t5, t6, b3, h6, h7]
    refine condK_dec (fun h8 => ?_) (fun h8 => ?_)
    rotate_left
    · have hg : G = [] := List.eq_nil_of_length_eq_zero (by omega)
      have hm := endE (by
        rw [hme, if_pos (hnn.1 (by rw [hg]; rfl)), hG0 hg]
        rfl)
      simp (dsimp := false) (maxDischargeDepth := 16) only [go_sem, ↓reduceIte, reduceCtorEq, Nat.reduceEqDiff, Nat.reduceAdd, Nat.reduceMul, Nat.reduceSub, Nat.reduceLT, Nat.reduceLeDiff, Nat.reducePow, Int.reduceLT, Int.reduceLE, Int.reduceNeg, Int.reduceToNat, t1, b1, t2, b2, t3, t5, t6, b3, h6, h7, h8]
      rw [hm]
      exact finK ⟨rfl, rfl⟩
    have hx := hd.2 _ (List.getElem_mem h6)
    have x1 := tmod_byte (n := 2) hx.1.1 (by decide)
    have x2 := tmod_byte (n := (G.length : Int)) hx.2.1.1 h8
    have x3 := tmod_byte (n := (G.length : Int)) hx.2.2.1 h8
    have w1 : IntKind.i64.wrap (d.e[i].1.tmod 2) = d.e[i].1.tmod 2 := wrap_i64 _ (by omega) (by omega)
    have w2 := wrap_byte hx.2.1
    have w3 := wrap_byte hx.2.2
    have htl : (d.e.take i).length ≤ i := by rw [List.length_take]; omega
    have hne : ((G.length : Int) = 0) = False := propext ⟨fun h => by omega, False.elim⟩
    simp (dsimp := false) (maxDischargeDepth := 16) only [go_sem, ↓reduceIte, reduceCtorEq, Nat.reduceEqDiff, Nat.reduceAdd, Nat.reduceMul, Nat.reduceSub, Nat.reduceLT, Nat.reduceLeDiff, Nat.reducePow, Int.reduceLT, Int.reduceLE, Int.reduceNeg, Int.reduceToNat, t1, b1, t2, b2, t3, t5, t6, b3, h6, h7, h8, idx_nat, idx_arr, w1, w2, w3, hne, htk, Int.reduceEq]
    refine ⟨⟨by omega, by omega⟩, i + 1, by omega, by omega, by omega, fun h => by rw [h] at h8; simp at h8, by rw [wrapN _ (by omega)], .own (78, s.g 78, 0), ?_, ?_⟩
    · rw [take_map h6]
      simp only [map3_app]
      rfl
    · simp (dsimp := false) (maxDischargeDepth := 16) only [go_sem, ↓reduceIte, reduceCtorEq, Nat.reduceEqDiff, Nat.reduceAdd, Nat.reduceMul, Nat.reduceSub, Nat.reduceLT, Nat.reduceLeDiff, Nat.reducePow, Int.reduceLT, Int.reduceLE, Int.reduceNeg, Int.reduceToNat]
end Go.Sy

/- Types of arguments: drafts. -/
namespace Go.Sy
open Go Go.Proofs Go.RowKit Go.Proofs.Ytkhheblmgbiniaa

theorem mapM_map' {α β γ : Type} (f : α → β) (g : β → Option γ) : ∀ l : List α, (l.map f).mapM g = l.mapM fun x => g (f x)
  | [] => rfl
  | x :: l => by rw [List.map_cons, List.mapM_cons, List.mapM_cons, mapM_map' f g l]
def arrF (e : TypeId) (sz i : Nat) : Field := { (default : Field) with type := e, offset := i * sz }
theorem opens_array {P : Program} {t e : TypeId} {n sz N : Nat} {Ss : List (Nat × (List AV → Prop))} (hu : P.underlying t = some (.array n e)) (hc : P.cellsOf e = sz) (hn : P.cellsOf t = N) (h : OpensL P N ((List.range n).map (arrF e sz)) 0 Ss) : Opens P t (ShapeL Ss) := by
  subst hn
  refine ⟨fun {H} enc W sp held fuel cs d hd => ?_⟩
  cases fuel with
  | zero => cases hd
  | succ fuel =>
    unfold DataW.trod at hd
    simp only [hu] at hd
    split at hd
    case isFalse => cases hd
    rename_i hcs
    obtain ⟨r, h1, _⟩ := Option.map_eq_some_iff.1 hd
    have h2 : ((List.range n).map (arrF e sz)).mapM (fun f => DataW.trod enc P W 0 sp held fuel f.type ((cs.drop f.offset).take (P.cellsOf f.type))) = some r := by
      rw [mapM_map']
      simp only [arrF]
      rw [← h1, hc]
    obtain ⟨x, q1, q2, q3, q4⟩ := opensL hcs _ _ _ _ h h2
    exact ⟨x, q1, hcs, by simpa using q2, by simpa using q3, by simpa using q4⟩
def byte (n : Int) : Prop := 0 ≤ n ∧ n ≤ 255
theorem opensU8 : Opens Try.prog 5 (fun x => ∃ n : Int, byte n ∧ x = [u8 n]) := (opens_int (k := .u8) (by kernel_rfl) (by kernel_rfl)).mono fun x ⟨n, hw, h⟩ => by
  refine ⟨n, ?_, h⟩
  have h1 : IntKind.u8.min = 0 := by decide
  have h2 : IntKind.u8.max = 255 := by decide
  simp [Lit.wf] at hw
  unfold byte
  omega
theorem opensTri : Opens Try.prog 127 (fun x => ∃ e : Ed, (byte e.1 ∧ byte e.2.1 ∧ byte e.2.2) ∧ x = tcs e) := (opens_array (n := 3) (e := 5) (sz := 1) (N := 3) (Ss := [(1, _), (1, _), (1, _)]) (by kernel_rfl) (by kernel_rfl) (by kernel_rfl) ⟨rfl, by kernel_rfl, opensU8, rfl, by kernel_rfl, opensU8, rfl, by kernel_rfl, opensU8, rfl⟩).mono fun x h => by
  obtain ⟨_, _, ⟨a, ha, rfl⟩, ⟨_, _, ⟨b, hb, rfl⟩, ⟨_, _, ⟨c, hc, rfl⟩, rfl, rfl⟩, rfl⟩, rfl⟩ := h
  exact ⟨(a, b, c), ⟨ha, hb, hc⟩, rfl⟩
theorem listOfP {β : Type} {f : β → List AV} {p : β → Prop} {xs : List (List AV)} (h : ∀ y ∈ xs, ∃ b, p b ∧ y = f b) : ∃ l : List β, (∀ b ∈ l, p b) ∧ xs = l.map f := by
  induction xs with
  | nil => exact ⟨[], by simp, rfl⟩
  | cons x xs ih =>
    obtain ⟨b, hb, rfl⟩ := h x (by simp)
    obtain ⟨l, hl, rfl⟩ := ih (fun y hy => h y (by simp [hy]))
    refine ⟨b :: l, fun y hy => ?_, rfl⟩
    rcases List.mem_cons.1 hy with rfl | hy
    · exact hb
    · exact hl y hy
theorem opensBytes : Opens Try.prog 47 (fun x => ∃ l : List Int, (∀ n ∈ l, byte n) ∧ x = [.list 1 (l.map fun n => [u8 n]) .no]) := (opens_slice (e := 5) (sz := 1) (by kernel_rfl) (by kernel_rfl) (by kernel_rfl) (by decide) opensU8).mono fun x ⟨xs, h, hx⟩ => by
  obtain ⟨l, hl, rfl⟩ := listOfP (f := fun n => [u8 n]) (fun y hy => (h y hy).1)
  exact ⟨l, hl, hx⟩
theorem opensTris : Opens Try.prog 48 (fun x => ∃ l : List Ed, (∀ e ∈ l, byte e.1 ∧ byte e.2.1 ∧ byte e.2.2) ∧ x = [.list 3 (l.map tcs) .no]) := (opens_slice (e := 127) (sz := 3) (by kernel_rfl) (by kernel_rfl) (by kernel_rfl) (by decide) opensTri).mono fun x ⟨xs, h, hx⟩ => by
  obtain ⟨l, hl, rfl⟩ := listOfP (f := tcs) (fun y hy => (h y hy).1)
  exact ⟨l, hl, hx⟩
structure DrP where
  d : Dr
  ok : drOK d
theorem opensDraft : Opens Try.prog 50 (fun x => ∃ d : DrP, x = dcs d.d) := (opens_struct (n := 2) (Ss := [(1, _), (1, _)]) Try.underlying50 (by kernel_rfl) ⟨rfl, by kernel_rfl, opensBytes, rfl, by kernel_rfl, opensTris, rfl⟩).mono fun x h => by
  obtain ⟨_, _, ⟨a, ha, rfl⟩, ⟨_, _, ⟨b, hb, rfl⟩, rfl, rfl⟩, rfl⟩ := h
  exact ⟨⟨⟨a, b⟩, ⟨ha, hb⟩⟩, rfl⟩
end Go.Sy

/- Contracts: partitions. -/
set_option linter.unusedSimpArgs false
namespace Go.Sy
open Go Go.Proofs

abbrev pOK (p : List Int) (i : Nat) : Prop := 0 ≤ p.getD i 0 ∧ p.getD i 0 ≤ i ∧ p.getD (p.getD i 0).toNat 0 = p.getD i 0
abbrev isP (p : List Int) : Prop := ∀ i, i < p.length → pOK p i
theorem c161 (p : List Int) : Con Try.prog 161 [lv p] 0 (bv (decide (isP p))) := by
  refine Con.assume (enters_of Try.func161 (by kernel_rfl) rfl) fun hb => ?_
  have hlen := bnd_lv (hb _ (List.mem_cons_self ..))
  refine conT (X := []) (rs := [.tmp 2]) Try.func161 (by kernel_rfl) rfl rfl (by kernel_rfl) ?_
  simp (dsimp := false) (maxDischargeDepth := 16) only [go_sem, ↓reduceIte, reduceCtorEq, Nat.reduceEqDiff, Nat.reduceAdd, Nat.reduceMul, Nat.reduceSub, Nat.reduceLT, Nat.reduceLeDiff, Nat.reducePow, Int.reduceLT, Int.reduceLE, Int.reduceNeg, Int.reduceToNat]
  refine loopK_intro (fun (i : Nat) s => i ≤ p.length ∧ s.t 0 = lv p ∧ s.t 5 = lv p ∧ s.t 6 = iv p.length ∧ s.t 7 = iv i ∧ ∀ j, j < i → pOK p j) (fun i => p.length - i) ⟨0, by omega, rfl, rfl, rfl, rfl, fun j hj => by omega⟩ ?_
  rintro i s ⟨hi, t0, t5, t6, t7, hn⟩
  simp (dsimp := false) (maxDischargeDepth := 16) only [go_sem, ↓reduceIte, reduceCtorEq, Nat.reduceEqDiff, Nat.reduceAdd, Nat.reduceMul, Nat.reduceSub, Nat.reduceLT, Nat.reduceLeDiff, Nat.reducePow, Int.reduceLT, Int.reduceLE, Int.reduceNeg, Int.reduceToNat, t0, t5, t6, t7]
  refine condK_dec (fun h6 => ?_) (fun h6 => ?_)
  · have e0 : p.getD i 0 = p[i] := getD_at h6
    have no : ¬ pOK p i → ¬ isP p := fun h h2 => h (h2 i h6)
    simp (dsimp := false) (maxDischargeDepth := 16) only [go_sem, ↓reduceIte, reduceCtorEq, Nat.reduceEqDiff, Nat.reduceAdd, Nat.reduceMul, Nat.reduceSub, Nat.reduceLT, Nat.reduceLeDiff, Nat.reducePow, Int.reduceLT, Int.reduceLE, Int.reduceNeg, Int.reduceToNat, t0, t5, t6, t7, h6, idx_nat]
    refine condK_dec (fun h8 => ?_) (fun h8 => ?_)
    · simp (dsimp := false) (maxDischargeDepth := 16) only [go_sem, ↓reduceIte, reduceCtorEq, Nat.reduceEqDiff, Nat.reduceAdd, Nat.reduceMul, Nat.reduceSub, Nat.reduceLT, Nat.reduceLeDiff, Nat.reducePow, Int.reduceLT, Int.reduceLE, Int.reduceNeg, Int.reduceToNat, t0, t5, t6, t7, h6, h8]
      exact finF' (no fun h => by have := h.1; omega)
    simp (dsimp := false) (maxDischargeDepth := 16) only [go_sem, ↓reduceIte, reduceCtorEq, Nat.reduceEqDiff, Nat.reduceAdd, Nat.reduceMul, Nat.reduceSub, Nat.reduceLT, Nat.reduceLeDiff, Nat.reducePow, Int.reduceLT, Int.reduceLE, Int.reduceNeg, Int.reduceToNat, t0, t5, t6, t7, h6, h8]
    refine condK_dec (fun h9 => ?_) (fun h9 => ?_)
    · simp (dsimp := false) (maxDischargeDepth := 16) only [go_sem, ↓reduceIte, reduceCtorEq, Nat.reduceEqDiff, Nat.reduceAdd, Nat.reduceMul, Nat.reduceSub, Nat.reduceLT, Nat.reduceLeDiff, Nat.reducePow, Int.reduceLT, Int.reduceLE, Int.reduceNeg, Int.reduceToNat, t0, t5, t6, t7, h6, h8, h9]
      exact finF' (no fun h => by have := h.2.1; omega)
    have r1 : 0 ≤ p[i] := by omega
    have r2 : p[i].toNat < p.length := by omega
    simp (dsimp := false) (maxDischargeDepth := 16) only [go_sem, ↓reduceIte, reduceCtorEq, Nat.reduceEqDiff, Nat.reduceAdd, Nat.reduceMul, Nat.reduceSub, Nat.reduceLT, Nat.reduceLeDiff, Nat.reducePow, Int.reduceLT, Int.reduceLE, Int.reduceNeg, Int.reduceToNat, t0, t5, t6, t7, h6, h8, h9, idx_int, r1, r2]
    refine condK_intro (fun h10 => ?_) (fun h10 => ?_)
    · simp (dsimp := false) (maxDischargeDepth := 16) only [go_sem, ↓reduceIte, reduceCtorEq, Nat.reduceEqDiff, Nat.reduceAdd, Nat.reduceMul, Nat.reduceSub, Nat.reduceLT, Nat.reduceLeDiff, Nat.reducePow, Int.reduceLT, Int.reduceLE, Int.reduceNeg, Int.reduceToNat, t0, t5, t6, t7, h6, h8, h9, h10]
      exact finF' (no fun h => by have h3 := h.2.2; rw [e0, getD_at r2] at h3; exact ineq h10 h3)
    · simp (dsimp := false) (maxDischargeDepth := 16) only [go_sem, ↓reduceIte, reduceCtorEq, Nat.reduceEqDiff, Nat.reduceAdd, Nat.reduceMul, Nat.reduceSub, Nat.reduceLT, Nat.reduceLeDiff, Nat.reducePow, Int.reduceLT, Int.reduceLE, Int.reduceNeg, Int.reduceToNat, t0, t5, t6, t7, h6, h8, h9, h10]
      refine ⟨i + 1, by omega, by omega, by rw [wrapN _ (by omega)], fun j hj => ?_⟩
      by_cases hji : j = i
      · subst hji
        refine ⟨by omega, by omega, ?_⟩
        rw [e0, getD_at r2]
        exact ieq h10
      · exact hn j (by omega)
  · simp (dsimp := false) (maxDischargeDepth := 16) only [go_sem, ↓reduceIte, reduceCtorEq, Nat.reduceEqDiff, Nat.reduceAdd, Nat.reduceMul, Nat.reduceSub, Nat.reduceLT, Nat.reduceLeDiff, Nat.reducePow, Int.reduceLT, Int.reduceLE, Int.reduceNeg, Int.reduceToNat, t0, t5, t6, t7, h6]
    refine finT ?_
    intro j hj
    exact hn j (by omega)
theorem c146 (p : List Int) : Con Try.prog 146 [lv p] 0 (iv (if p.length ≤ 80 then (if isP p then 0 else 1) else 3)) := by
  refine conT (X := []) (rs := [.tmp 2]) Try.func146 (by kernel_rfl) rfl rfl (by kernel_rfl) ?_
  simp (dsimp := false) (maxDischargeDepth := 16) only [go_sem, ↓reduceIte, reduceCtorEq, Nat.reduceEqDiff, Nat.reduceAdd, Nat.reduceMul, Nat.reduceSub, Nat.reduceLT, Nat.reduceLeDiff, Nat.reducePow, Int.reduceLT, Int.reduceLE, Int.reduceNeg, Int.reduceToNat]
  refine condK_dec (fun h1 => ?_) (fun h1 => ?_)
  · simp (dsimp := false) (maxDischargeDepth := 16) only [go_sem, ↓reduceIte, reduceCtorEq, Nat.reduceEqDiff, Nat.reduceAdd, Nat.reduceMul, Nat.reduceSub, Nat.reduceLT, Nat.reduceLeDiff, Nat.reducePow, Int.reduceLT, Int.reduceLE, Int.reduceNeg, Int.reduceToNat, h1]
    exact finI (if_neg (by omega))
  simp (dsimp := false) (maxDischargeDepth := 16) only [go_sem, ↓reduceIte, reduceCtorEq, Nat.reduceEqDiff, Nat.reduceAdd, Nat.reduceMul, Nat.reduceSub, Nat.reduceLT, Nat.reduceLeDiff, Nat.reducePow, Int.reduceLT, Int.reduceLE, Int.reduceNeg, Int.reduceToNat, h1]
  refine callK_intro (c161 p) ?_
  simp (dsimp := false) (maxDischargeDepth := 16) only [go_sem, ↓reduceIte, reduceCtorEq, Nat.reduceEqDiff, Nat.reduceAdd, Nat.reduceMul, Nat.reduceSub, Nat.reduceLT, Nat.reduceLeDiff, Nat.reducePow, Int.reduceLT, Int.reduceLE, Int.reduceNeg, Int.reduceToNat, h1]
  refine condK_intro (fun h2 => ?_) (fun h2 => ?_)
  · simp (dsimp := false) (maxDischargeDepth := 16) only [go_sem, ↓reduceIte, reduceCtorEq, Nat.reduceEqDiff, Nat.reduceAdd, Nat.reduceMul, Nat.reduceSub, Nat.reduceLT, Nat.reduceLeDiff, Nat.reducePow, Int.reduceLT, Int.reduceLE, Int.reduceNeg, Int.reduceToNat, h1, h2]
    exact finI (by rw [if_pos (by omega), if_neg (ndec h2)])
  · simp (dsimp := false) (maxDischargeDepth := 16) only [go_sem, ↓reduceIte, reduceCtorEq, Nat.reduceEqDiff, Nat.reduceAdd, Nat.reduceMul, Nat.reduceSub, Nat.reduceLT, Nat.reduceLeDiff, Nat.reducePow, Int.reduceLT, Int.reduceLE, Int.reduceNeg, Int.reduceToNat, h1, h2]
    exact finI (by rw [if_pos (by omega), if_pos (ydec h2)])
/-- The numbers of the classes of the first elements, and how many classes these have. -/
def nq (p : List Int) : Nat → List Int × Int
  | 0 => ([], 0)
  | i + 1 => if p.getD i 0 = i then ((nq p i).1 ++ [(nq p i).2], (nq p i).2 + 1) else ((nq p i).1 ++ [(nq p i).1.getD (p.getD i 0).toNat 0], (nq p i).2)
theorem nq_len (p : List Int) (i : Nat) : (nq p i).1.length = i := by
  induction i with
  | zero => rfl
  | succ i ih => unfold nq; split <;> simp [ih]
theorem nq_bound (p : List Int) (i : Nat) : 0 ≤ (nq p i).2 ∧ (nq p i).2 ≤ i := by
  induction i with
  | zero => simp [nq]
  | succ i ih => unfold nq; split <;> simp <;> omega
theorem nq_root {p : List Int} {i : Nat} (h : i < p.length) (h1 : p[i] = i) : nq p (i + 1) = ((nq p i).1 ++ [(nq p i).2], (nq p i).2 + 1) := by rw [nq, getD_at h, if_pos h1]
theorem nq_kid {p : List Int} {i : Nat} (h : i < p.length) (h1 : p[i] ≠ i) (h2 : p[i].toNat < (nq p i).1.length) : nq p (i + 1) = ((nq p i).1 ++ [(nq p i).1[p[i].toNat]], (nq p i).2) := by
  rw [nq, getD_at h, if_neg h1, getD_at h2]
theorem c121 (p : List Int) (hl : p.length ≤ 80) (hp : isP p) : Con Try.prog 121 [lv p] 0 (.tup [lv (nq p p.length).1, iv (nq p p.length).2, iv 0]) := by
  refine conT (X := []) (rs := [.tmp 2, .tmp 3, .tmp 4]) Try.func121 (by kernel_rfl) rfl rfl (by kernel_rfl) ?_
  simp (dsimp := false) (maxDischargeDepth := 16) only [go_sem, ↓reduceIte, reduceCtorEq, Nat.reduceEqDiff, Nat.reduceAdd, Nat.reduceMul, Nat.reduceSub, Nat.reduceLT, Nat.reduceLeDiff, Nat.reducePow, Int.reduceLT, Int.reduceLE, Int.reduceNeg, Int.reduceToNat]
  refine callK_intro (c146 p) ?_
  have e0 : (if p.length ≤ 80 then (if isP p then 0 else 1) else 3 : Int) = 0 := by rw [if_pos hl, if_pos hp]
  rw [e0]
  simp (dsimp := false) (maxDischargeDepth := 16) only [go_sem, ↓reduceIte, reduceCtorEq, Nat.reduceEqDiff, Nat.reduceAdd, Nat.reduceMul, Nat.reduceSub, Nat.reduceLT, Nat.reduceLeDiff, Nat.reducePow, Int.reduceLT, Int.reduceLE, Int.reduceNeg, Int.reduceToNat]
  refine condK_intro (fun h1 => absurd h1 (by decide)) (fun h1 => ?_)
  simp (dsimp := false) (maxDischargeDepth := 16) only [go_sem, ↓reduceIte, reduceCtorEq, Nat.reduceEqDiff, Nat.reduceAdd, Nat.reduceMul, Nat.reduceSub, Nat.reduceLT, Nat.reduceLeDiff, Nat.reducePow, Int.reduceLT, Int.reduceLE, Int.reduceNeg, Int.reduceToNat, h1]
  refine loopK_intro (fun (i : Nat) s => i ≤ p.length ∧ s.t 15 = lv p ∧ s.t 16 = iv p.length ∧ s.t 17 = iv i ∧ s.t 7 = iv (nq p i).2 ∧ ∃ tk, s.t 6 = lvT (nq p i).1 tk ∧ tokOK s tk = true) (fun i => p.length - i)
    ?_ ?_
  · exact ⟨0, by omega, rfl, rfl, rfl, rfl, .nil, rfl, rfl⟩
  rintro i s ⟨hi, t15, t16, t17, t7, tk, t6, htk⟩
  have hnl := nq_len p i
  have hnb := nq_bound p i
  simp (dsimp := false) (maxDischargeDepth := 16) only [go_sem, ↓reduceIte, reduceCtorEq, Nat.reduceEqDiff, Nat.reduceAdd, Nat.reduceMul, Nat.reduceSub, Nat.reduceLT, Nat.reduceLeDiff, Nat.reducePow, Int.reduceLT, Int.reduceLE, Int.reduceNeg, Int.reduceToNat, t15, t16, t17, t7, t6]
  refine condK_dec (fun h6 => ?_) (fun h6 => ?_)
  · simp (dsimp := false) (maxDischargeDepth := 16) only [go_sem, ↓reduceIte, reduceCtorEq, Nat.reduceEqDiff, Nat.reduceAdd, Nat.reduceMul, Nat.reduceSub, Nat.reduceLT, Nat.reduceLeDiff, Nat.reducePow, Int.reduceLT, Int.reduceLE, Int.reduceNeg, Int.reduceToNat, t15, t16, t17, t7, t6, h6, idx_nat]
    refine condK_intro (fun h8 => ?_) (fun h8 => ?_)
    · simp (dsimp := false) (maxDischargeDepth := 16) only [go_sem, ↓reduceIte, reduceCtorEq, Nat.reduceEqDiff, Nat.reduceAdd, Nat.reduceMul, Nat.reduceSub, Nat.reduceLT, Nat.reduceLeDiff, Nat.reducePow, Int.reduceLT, Int.reduceLE, Int.reduceNeg, Int.reduceToNat, t15, t16, t17, t7, t6, h6, h8, htk]
      refine ⟨⟨by omega, by omega⟩, i + 1, by omega, by omega, by rw [wrapN _ (by omega)], ?_, .own (28, s.g 28, 0), ?_, ?_⟩
      · rw [nq_root h6 (beqT h8), wrap_i64 _ (by omega) (by omega)]
      · rw [nq_root h6 (beqT h8)]
        simp only [map1_app]
      · simp (dsimp := false) (maxDischargeDepth := 16) only [go_sem, ↓reduceIte, reduceCtorEq, Nat.reduceEqDiff, Nat.reduceAdd, Nat.reduceMul, Nat.reduceSub, Nat.reduceLT, Nat.reduceLeDiff, Nat.reducePow, Int.reduceLT, Int.reduceLE, Int.reduceNeg, Int.reduceToNat]
    · have h9 := hp i h6
      rw [pOK, getD_at h6] at h9
      have h10 : p[i].toNat < (nq p i).1.length := by
        have := beqF h8
        rw [hnl]
        omega
      simp (dsimp := false) (maxDischargeDepth := 16) only [go_sem, ↓reduceIte, reduceCtorEq, Nat.reduceEqDiff, Nat.reduceAdd, Nat.reduceMul, Nat.reduceSub, Nat.reduceLT, Nat.reduceLeDiff, Nat.reducePow, Int.reduceLT, Int.reduceLE, Int.reduceNeg, Int.reduceToNat, t15, t16, t17, t7, t6, h6, h8, htk, idx_int, h9.1, h10]
      refine ⟨⟨by omega, by omega⟩, i + 1, by omega, by omega, by rw [wrapN _ (by omega)], ?_, .own (37, s.g 37, 0), ?_, ?_⟩
      · rw [nq_kid h6 (beqF h8) h10]
      · rw [nq_kid h6 (beqF h8) h10]
        simp only [map1_app]
      · simp (dsimp := false) (maxDischargeDepth := 16) only [go_sem, ↓reduceIte, reduceCtorEq, Nat.reduceEqDiff, Nat.reduceAdd, Nat.reduceMul, Nat.reduceSub, Nat.reduceLT, Nat.reduceLeDiff, Nat.reducePow, Int.reduceLT, Int.reduceLE, Int.reduceNeg, Int.reduceToNat]
  · simp (dsimp := false) (maxDischargeDepth := 16) only [go_sem, ↓reduceIte, reduceCtorEq, Nat.reduceEqDiff, Nat.reduceAdd, Nat.reduceMul, Nat.reduceSub, Nat.reduceLT, Nat.reduceLeDiff, Nat.reducePow, Int.reduceLT, Int.reduceLE, Int.reduceNeg, Int.reduceToNat, t15, t16, t17, t7, t6, h6]
    have : i = p.length := by omega
    subst this
    exact finK ⟨rfl, rfl⟩
end Go.Sy

/- Contracts: all partitions; what is alike. -/
set_option linter.unusedSimpArgs false
namespace Go.Sy
open Go Go.Proofs

def llvT (l : List (List Int)) (tk : Tok) : AV := .list 1 (l.map fun p => [lv p]) tk
def llv (l : List (List Int)) : AV := llvT l .no
attribute [go_sem] llvT llv
/-- The partitions of one more element than p has, with classes from 0 to below j. -/
def ext (p : List Int) (i j : Nat) : List (List Int) := ((List.range j).filter fun (x : Nat) => decide (x = i) || decide (p.getD x 0 = (x : Int))).map fun (x : Nat) => p ++ [(x : Int)]
def allP : Nat → List (List Int)
  | 0 => [[]]
  | i + 1 => (allP i).flatMap fun p => ext p i (i + 1)
theorem ext_yes {p : List Int} {i j : Nat} (h : j = i ∨ p.getD j 0 = (j : Int)) : ext p i (j + 1) = ext p i j ++ [p ++ [(j : Int)]] := by
  unfold ext
  rw [List.range_succ, List.filter_append, List.map_append]
  congr 1
  simp only [List.filter_cons, List.filter_nil]
  rw [if_pos (by simpa using h)]
  rfl
theorem ext_no {p : List Int} {i j : Nat} (h : ¬ (j = i ∨ p.getD j 0 = (j : Int))) : ext p i (j + 1) = ext p i j := by
  unfold ext
  rw [List.range_succ, List.filter_append, List.map_append]
  simp only [List.filter_cons, List.filter_nil]
  rw [if_neg (by simpa using h)]
  simp
theorem ext_len (p : List Int) (i j : Nat) : (ext p i j).length ≤ j := by
  unfold ext
  rw [List.length_map]
  exact Nat.le_trans (List.length_filter_le _ _) (by simp)
theorem ext_mem {p : List Int} {i j : Nat} {q : List Int} (h : q ∈ ext p i j) : q.length = p.length + 1 := by
  unfold ext at h
  obtain ⟨x, _, rfl⟩ := List.mem_map.1 h
  simp
theorem allP_mem : ∀ (i : Nat) (p : List Int), p ∈ allP i → p.length = i
  | 0, p, h => by simp [allP] at h; simp [h]
  | i + 1, p, h => by
    unfold allP at h
    obtain ⟨q, hq, h⟩ := List.mem_flatMap.1 h
    rw [ext_mem h, allP_mem i q hq]
theorem flat_len {α β : Type} {f : α → List β} {k : Nat} (h : ∀ x, (f x).length ≤ k) : ∀ l : List α, (l.flatMap f).length ≤ l.length * k
  | [] => by simp
  | x :: l => by
    rw [List.flatMap_cons, List.length_append, List.length_cons, Nat.add_mul]
    have := h x
    have := flat_len h l
    omega
theorem allP_len : ∀ i, i ≤ 7 → (allP i).length ≤ 8 ^ i
  | 0, _ => by simp [allP]
  | i + 1, hi => by
    unfold allP
    have h := flat_len (f := fun p => ext p i (i + 1)) (k := 8) (fun p => Nat.le_trans (ext_len _ _ _) (by omega)) (allP i)
    have := allP_len i (by omega)
    rw [Nat.pow_succ]
    exact Nat.le_trans h (Nat.mul_le_mul_right _ this)
theorem take_flat {α β : Type} {f : α → List β} {l : List α} {m : Nat} (h : m < l.length) : (l.take (m + 1)).flatMap f = (l.take m).flatMap f ++ f l[m] := by
  rw [List.take_add_one, List.getElem?_eq_getElem h, List.flatMap_append]
  simp
theorem mapL_app (l : List (List Int)) (x : List Int) : (l ++ [x]).map (fun p => [AV.list 1 (p.map fun n => [AV.v (.int .i64 n)]) .no]) = l.map (fun p => [AV.list 1 (p.map fun n => [AV.v (.int .i64 n)]) .no]) ++ [[AV.list 1 (x.map fun n => [AV.v (.int .i64 n)]) .no]] := by simp
set_option maxHeartbeats 1000000 in
theorem c64 (n : Nat) (hn : n ≤ 7) : Con Try.prog 64 [iv n] 0 (.tup [llv (allP n), iv 0]) := by
  refine conT (X := []) (rs := [.tmp 2, .tmp 3]) Try.func64 (by kernel_rfl) rfl rfl (by kernel_rfl) ?_
  simp (dsimp := false) (maxDischargeDepth := 16) only [go_sem, ↓reduceIte, reduceCtorEq, Nat.reduceEqDiff, Nat.reduceAdd, Nat.reduceMul, Nat.reduceSub, Nat.reduceLT, Nat.reduceLeDiff, Nat.reducePow, Int.reduceLT, Int.reduceLE, Int.reduceNeg, Int.reduceToNat]
  refine condK_dec (fun h1 => ?_) (fun h1 => ?_)
  · omega
  simp (dsimp := false) (maxDischargeDepth := 16) only [go_sem, ↓reduceIte, reduceCtorEq, Nat.reduceEqDiff, Nat.reduceAdd, Nat.reduceMul, Nat.reduceSub, Nat.reduceLT, Nat.reduceLeDiff, Nat.reducePow, Int.reduceLT, Int.reduceLE, Int.reduceNeg, Int.reduceToNat, h1]
  refine condK_dec (fun h2 => ?_) (fun h2 => ?_)
  · omega
  simp (dsimp := false) (maxDischargeDepth := 16) only [go_sem, ↓reduceIte, reduceCtorEq, Nat.reduceEqDiff, Nat.reduceAdd, Nat.reduceMul, Nat.reduceSub, Nat.reduceLT, Nat.reduceLeDiff, Nat.reducePow, Int.reduceLT, Int.reduceLE, Int.reduceNeg, Int.reduceToNat, h1, h2]
  refine loopK_intro (fun (i : Nat) s => i ≤ n ∧ s.t 15 = iv n ∧ s.t 16 = iv i ∧ ∃ tk, s.t 4 = llvT (allP i) tk) (fun i => n - i) ?_ ?_
  · exact ⟨0, by omega, rfl, rfl, _, rfl⟩
  clear h1 h2
  rintro i s ⟨hi, t15, t16, tk, t4⟩
  simp (dsimp := false) (maxDischargeDepth := 16) only [go_sem, ↓reduceIte, reduceCtorEq, Nat.reduceEqDiff, Nat.reduceAdd, Nat.reduceMul, Nat.reduceSub, Nat.reduceLT, Nat.reduceLeDiff, Nat.reducePow, Int.reduceLT, Int.reduceLE, Int.reduceNeg, Int.reduceToNat, t15, t16, t4]
  refine condK_dec (fun h6 => ?_) (fun h6 => ?_)
  rotate_left
  · simp (dsimp := false) (maxDischargeDepth := 16) only [go_sem, ↓reduceIte, reduceCtorEq, Nat.reduceEqDiff, Nat.reduceAdd, Nat.reduceMul, Nat.reduceSub, Nat.reduceLT, Nat.reduceLeDiff, Nat.reducePow, Int.reduceLT, Int.reduceLE, Int.reduceNeg, Int.reduceToNat, t15, t16, t4, h6]
    have : i = n := by omega
    subst this
    exact finK ⟨rfl, rfl⟩
  simp (dsimp := false) (maxDischargeDepth := 16) only [go_sem, ↓reduceIte, reduceCtorEq, Nat.reduceEqDiff, Nat.reduceAdd, Nat.reduceMul, Nat.reduceSub, Nat.reduceLT, Nat.reduceLeDiff, Nat.reducePow, Int.reduceLT, Int.reduceLE, Int.reduceNeg, Int.reduceToNat, t15, t16, t4, h6]
  have hal := allP_len i (by omega)
  have h8 : 8 ^ i ≤ 8 ^ 7 := Nat.pow_le_pow_right (by decide) (by omega)
  refine loopK_intro (fun (m : Nat) s => m ≤ (allP i).length ∧ s.t 15 = iv n ∧ s.t 16 = iv i ∧ s.t 5 = iv i ∧ (∃ tk, s.t 19 = llvT (allP i) tk) ∧ s.t 20 = iv (allP i).length ∧ s.t 21 = iv m ∧
    ∃ tk, s.t 6 = llvT (((allP i).take m).flatMap fun p => ext p i (i + 1)) tk ∧ tokOK s tk = true ∧ tkIn [(48, 0)] tk = true) (fun m => (allP i).length - m) ?_ ?_
  · exact ⟨0, by omega, t15, t16, rfl, ⟨_, rfl⟩, rfl, rfl, .nil, rfl, rfl, rfl⟩
  have hlt : i < n := h6
  clear t15 t16 t4 tk h6
  rintro m s ⟨hm, t15, t16, t5, ⟨tk0, t19⟩, t20, t21, tk, t6, htk, hin⟩
  simp (dsimp := false) (maxDischargeDepth := 16) only [go_sem, ↓reduceIte, reduceCtorEq, Nat.reduceEqDiff, Nat.reduceAdd, Nat.reduceMul, Nat.reduceSub, Nat.reduceLT, Nat.reduceLeDiff, Nat.reducePow, Int.reduceLT, Int.reduceLE, Int.reduceNeg, Int.reduceToNat, t15, t16, t5, t19, t20, t21, t6]
  refine condK_dec (fun h6 => ?_) (fun h6 => ?_)
  rotate_left
  · simp (dsimp := false) (maxDischargeDepth := 16) only [go_sem, ↓reduceIte, reduceCtorEq, Nat.reduceEqDiff, Nat.reduceAdd, Nat.reduceMul, Nat.reduceSub, Nat.reduceLT, Nat.reduceLeDiff, Nat.reducePow, Int.reduceLT, Int.reduceLE, Int.reduceNeg, Int.reduceToNat, t15, t16, t5, t19, t20, t21, t6, h6]
    have : m = (allP i).length := by omega
    subst this
    refine ⟨i + 1, by omega, by omega, by rw [wrapN _ (by omega)], tk, ?_⟩
    rw [List.take_length]
    rfl
  have w1 : IntKind.i64.wrap ((i : Int) + 1) = (i : Int) + 1 := wrap_i64 _ (by omega) (by omega)
  have hpl := allP_mem i _ (List.getElem_mem h6)
  simp (dsimp := false) (maxDischargeDepth := 16) only [go_sem, ↓reduceIte, reduceCtorEq, Nat.reduceEqDiff, Nat.reduceAdd, Nat.reduceMul, Nat.reduceSub, Nat.reduceLT, Nat.reduceLeDiff, Nat.reducePow, Int.reduceLT, Int.reduceLE, Int.reduceNeg, Int.reduceToNat, t15, t16, t5, t19, t20, t21, t6, h6, idx_nat, w1]
  refine loopK_intro (fun (j : Nat) s => j ≤ i + 1 ∧ s.t 15 = iv n ∧ s.t 16 = iv i ∧ s.t 5 = iv i ∧ (∃ tk, s.t 19 = llvT (allP i) tk) ∧ s.t 20 = iv (allP i).length ∧ s.t 21 = iv m ∧ s.t 8 = lv (allP i)[m] ∧ s.t 26 = iv (i + 1) ∧ s.t 27 = iv j ∧
    ∃ tk, s.t 6 = llvT ((((allP i).take m).flatMap fun p => ext p i (i + 1)) ++ ext (allP i)[m] i j) tk ∧ tokOK s tk = true ∧ tkIn [(48, 0)] tk = true) (fun j => i + 1 - j) ?_ ?_
  · refine ⟨0, by omega, t15, t16, t5, ⟨_, t19⟩, t20, t21, rfl, rfl, rfl, tk, ?_, ?_, hin⟩
    · have : ext (allP i)[m] i 0 = [] := rfl
      rw [this, List.append_nil]
      exact t6
    · simp (dsimp := false) (maxDischargeDepth := 16) only [go_sem, ↓reduceIte, reduceCtorEq, Nat.reduceEqDiff, Nat.reduceAdd, Nat.reduceMul, Nat.reduceSub, Nat.reduceLT, Nat.reduceLeDiff, Nat.reducePow, Int.reduceLT, Int.reduceLE, Int.reduceNeg, Int.reduceToNat, htk]
  clear t15 t16 t5 t19 t20 t21 t6 htk hin tk tk0
  have hcur := flat_len (f := fun p => ext p i (i + 1)) (k := i + 1) (fun p => ext_len _ _ _) ((allP i).take m)
  have hcur2 : ((allP i).take m).length * (i + 1) ≤ 8 ^ 7 * 8 := Nat.mul_le_mul (by rw [List.length_take]; omega) (by omega)
  have hnext : ((allP i).take (m + 1)).flatMap (fun p => ext p i (i + 1)) = (((allP i).take m).flatMap fun p => ext p i (i + 1)) ++ ext (allP i)[m] i (i + 1) := take_flat h6
  generalize ((allP i).take m).flatMap (fun p => ext p i (i + 1)) = cur at *
  generalize (allP i)[m] = p at *
  rintro j s ⟨hj, t15, t16, t5, ⟨tk0, t19⟩, t20, t21, t8, t26, t27, tk, t6, htk, hin⟩
  have hex := ext_len p i j
  have hsum : (cur ++ ext p i j).length ≤ 100000000 := by rw [List.length_append]; omega
  simp (dsimp := false) (maxDischargeDepth := 16) only [go_sem, ↓reduceIte, reduceCtorEq, Nat.reduceEqDiff, Nat.reduceAdd, Nat.reduceMul, Nat.reduceSub, Nat.reduceLT, Nat.reduceLeDiff, Nat.reducePow, Int.reduceLT, Int.reduceLE, Int.reduceNeg, Int.reduceToNat, t15, t16, t5, t19, t20, t21, t8, t26, t27, t6]
  refine condK_dec (fun h7 => ?_) (fun h7 => ?_)
  rotate_left
  · simp (dsimp := false) (maxDischargeDepth := 16) only [go_sem, ↓reduceIte, reduceCtorEq, Nat.reduceEqDiff, Nat.reduceAdd, Nat.reduceMul, Nat.reduceSub, Nat.reduceLT, Nat.reduceLeDiff, Nat.reducePow, Int.reduceLT, Int.reduceLE, Int.reduceNeg, Int.reduceToNat, t15, t16, t5, t19, t20, t21, t8, t26, t27, t6, h7]
    have : j = i + 1 := by omega
    subst this
    exact ⟨m + 1, by omega, by omega, ⟨tk0, rfl⟩, by rw [wrapN _ (by omega)], tk, by rw [hnext], by simp (dsimp := false) (maxDischargeDepth := 16) only [go_sem, ↓reduceIte, reduceCtorEq, Nat.reduceEqDiff, Nat.reduceAdd, Nat.reduceMul, Nat.reduceSub, Nat.reduceLT, Nat.reduceLeDiff, Nat.reducePow, Int.reduceLT, Int.reduceLE, Int.reduceNeg, Int.reduceToNat, htk], hin⟩
  have kk : ∀ (s : St) (d n : Nat) (x : AV) (γ : Nat), tokOK s tk = true → tokOK (s.ntok d n x (some (43, γ, 0))) tk = true := fun s d n x γ h => tk_kill (t1 := .own (43, γ, 0)) (l1 := [(43, 0)]) rfl hin rfl h
  have w2 : IntKind.i64.wrap ((j : Int) + 1) = ((j + 1 : Nat) : Int) := wrapN _ (by omega)
  simp (dsimp := false) (maxDischargeDepth := 16) only [go_sem, ↓reduceIte, reduceCtorEq, Nat.reduceEqDiff, Nat.reduceAdd, Nat.reduceMul, Nat.reduceSub, Nat.reduceLT, Nat.reduceLeDiff, Nat.reducePow, Int.reduceLT, Int.reduceLE, Int.reduceNeg, Int.reduceToNat, t15, t16, t5, t19, t20, t21, t8, t26, t27, t6, h7]
  refine condK_intro (fun h9 => ?_) (fun h9 => ?_)
  · have e9 := beqT h9
    simp (dsimp := false) (maxDischargeDepth := 16) only [go_sem, ↓reduceIte, reduceCtorEq, Nat.reduceEqDiff, Nat.reduceAdd, Nat.reduceMul, Nat.reduceSub, Nat.reduceLT, Nat.reduceLeDiff, Nat.reducePow, Int.reduceLT, Int.reduceLE, Int.reduceNeg, Int.reduceToNat, t15, t16, t5, t19, t20, t21, t8, t26, t27, t6, h7, h9]
    refine callK_intro (c78 p (by omega)) ?_
    simp (dsimp := false) (maxDischargeDepth := 16) only [go_sem, ↓reduceIte, reduceCtorEq, Nat.reduceEqDiff, Nat.reduceAdd, Nat.reduceMul, Nat.reduceSub, Nat.reduceLT, Nat.reduceLeDiff, Nat.reducePow, Int.reduceLT, Int.reduceLE, Int.reduceNeg, Int.reduceToNat, t15, t16, t5, t19, t20, t21, t8, t26, t27, t6, h7, h9, htk, kk]
    refine ⟨⟨by omega, by omega⟩, ⟨by omega, by omega⟩, j + 1, by omega, by omega, ⟨tk0, rfl⟩, by rw [w2], .own (48, s.g 48, 0), ?_, ?_, rfl⟩
    · rw [ext_yes (.inl (by omega)), ← List.append_assoc]
      simp only [mapL_app, map1_app]
    · simp (dsimp := false) (maxDischargeDepth := 16) only [go_sem, ↓reduceIte, reduceCtorEq, Nat.reduceEqDiff, Nat.reduceAdd, Nat.reduceMul, Nat.reduceSub, Nat.reduceLT, Nat.reduceLeDiff, Nat.reducePow, Int.reduceLT, Int.reduceLE, Int.reduceNeg, Int.reduceToNat, htk, kk]
  · have e9 := beqF h9
    have h10 : j < p.length := by omega
    simp (dsimp := false) (maxDischargeDepth := 16) only [go_sem, ↓reduceIte, reduceCtorEq, Nat.reduceEqDiff, Nat.reduceAdd, Nat.reduceMul, Nat.reduceSub, Nat.reduceLT, Nat.reduceLeDiff, Nat.reducePow, Int.reduceLT, Int.reduceLE, Int.reduceNeg, Int.reduceToNat, t15, t16, t5, t19, t20, t21, t8, t26, t27, t6, h7, h9, idx_nat, h10]
    refine condK_intro (fun h11 => ?_) (fun h11 => ?_)
    · simp (dsimp := false) (maxDischargeDepth := 16) only [go_sem, ↓reduceIte, reduceCtorEq, Nat.reduceEqDiff, Nat.reduceAdd, Nat.reduceMul, Nat.reduceSub, Nat.reduceLT, Nat.reduceLeDiff, Nat.reducePow, Int.reduceLT, Int.reduceLE, Int.reduceNeg, Int.reduceToNat, t15, t16, t5, t19, t20, t21, t8, t26, t27, t6, h7, h9, h11]
      refine callK_intro (c78 p (by omega)) ?_
      simp (dsimp := false) (maxDischargeDepth := 16) only [go_sem, ↓reduceIte, reduceCtorEq, Nat.reduceEqDiff, Nat.reduceAdd, Nat.reduceMul, Nat.reduceSub, Nat.reduceLT, Nat.reduceLeDiff, Nat.reducePow, Int.reduceLT, Int.reduceLE, Int.reduceNeg, Int.reduceToNat, t15, t16, t5, t19, t20, t21, t8, t26, t27, t6, h7, h9, h11, htk, kk]
      refine ⟨⟨by omega, by omega⟩, ⟨by omega, by omega⟩, j + 1, by omega, by omega, ⟨tk0, rfl⟩, by rw [w2], .own (48, s.g 48, 0), ?_, ?_, rfl⟩
      · rw [ext_yes (.inr (by rw [getD_at h10]; exact beqT h11)), ← List.append_assoc]
        simp only [mapL_app, map1_app]
      · simp (dsimp := false) (maxDischargeDepth := 16) only [go_sem, ↓reduceIte, reduceCtorEq, Nat.reduceEqDiff, Nat.reduceAdd, Nat.reduceMul, Nat.reduceSub, Nat.reduceLT, Nat.reduceLeDiff, Nat.reducePow, Int.reduceLT, Int.reduceLE, Int.reduceNeg, Int.reduceToNat, htk, kk]
    · simp (dsimp := false) (maxDischargeDepth := 16) only [go_sem, ↓reduceIte, reduceCtorEq, Nat.reduceEqDiff, Nat.reduceAdd, Nat.reduceMul, Nat.reduceSub, Nat.reduceLT, Nat.reduceLeDiff, Nat.reducePow, Int.reduceLT, Int.reduceLE, Int.reduceNeg, Int.reduceToNat, t15, t16, t5, t19, t20, t21, t8, t26, t27, t6, h7, h9, h11]
      refine ⟨j + 1, by omega, by omega, ⟨tk0, rfl⟩, by rw [w2], tk, ?_, ?_, hin⟩
      · rw [ext_no (by rw [getD_at h10]; have := beqF h11; omega)]
      · simp (dsimp := false) (maxDischargeDepth := 16) only [go_sem, ↓reduceIte, reduceCtorEq, Nat.reduceEqDiff, Nat.reduceAdd, Nat.reduceMul, Nat.reduceSub, Nat.reduceLT, Nat.reduceLeDiff, Nat.reducePow, Int.reduceLT, Int.reduceLE, Int.reduceNeg, Int.reduceToNat, htk]
/-- Are all elements like the first of their classes? -/
theorem c65 (p : List Int) (f : FuncId) (caps : List AV) (q : Nat → Int → Bool) (hq : ∀ i (h : i < p.length), Con Try.prog f (iv i :: iv p[i] :: caps) 0 (bv (q i p[i]))) :
    Con Try.prog 65 [lv p, .clo f caps] 0 (bv ((List.range p.length).all fun i => q i (p.getD i 0))) := by
  refine Con.assume (enters_of Try.func65 (by kernel_rfl) rfl) fun hb => ?_
  have hlen := bnd_lv (hb _ (List.mem_cons_self ..))
  refine conT (X := []) (rs := [.tmp 4]) Try.func65 (by kernel_rfl) rfl rfl (by kernel_rfl) ?_
  simp (dsimp := false) (maxDischargeDepth := 16) only [go_sem, ↓reduceIte, reduceCtorEq, Nat.reduceEqDiff, Nat.reduceAdd, Nat.reduceMul, Nat.reduceSub, Nat.reduceLT, Nat.reduceLeDiff, Nat.reducePow, Int.reduceLT, Int.reduceLE, Int.reduceNeg, Int.reduceToNat]
  refine loopK_intro (fun (i : Nat) s => i ≤ p.length ∧ s.t 1 = .clo f caps ∧ s.t 7 = lv p ∧ s.t 8 = iv p.length ∧ s.t 9 = iv i ∧ ∀ j, j < i → q j (p.getD j 0) = true) (fun i => p.length - i) ⟨0, by omega, rfl, rfl, rfl, rfl, fun j hj => by omega⟩ ?_
  rintro i s ⟨hi, t1, t7, t8, t9, hn⟩
  simp (dsimp := false) (maxDischargeDepth := 16) only [go_sem, ↓reduceIte, reduceCtorEq, Nat.reduceEqDiff, Nat.reduceAdd, Nat.reduceMul, Nat.reduceSub, Nat.reduceLT, Nat.reduceLeDiff, Nat.reducePow, Int.reduceLT, Int.reduceLE, Int.reduceNeg, Int.reduceToNat, t1, t7, t8, t9]
  refine condK_dec (fun h6 => ?_) (fun h6 => ?_)
  · simp (dsimp := false) (maxDischargeDepth := 16) only [go_sem, ↓reduceIte, reduceCtorEq, Nat.reduceEqDiff, Nat.reduceAdd, Nat.reduceMul, Nat.reduceSub, Nat.reduceLT, Nat.reduceLeDiff, Nat.reducePow, Int.reduceLT, Int.reduceLE, Int.reduceNeg, Int.reduceToNat, t1, t7, t8, t9, h6, idx_nat]
    refine callK_intro (hq i h6) ?_
    simp (dsimp := false) (maxDischargeDepth := 16) only [go_sem, ↓reduceIte, reduceCtorEq, Nat.reduceEqDiff, Nat.reduceAdd, Nat.reduceMul, Nat.reduceSub, Nat.reduceLT, Nat.reduceLeDiff, Nat.reducePow, Int.reduceLT, Int.reduceLE, Int.reduceNeg, Int.reduceToNat, t1, t7, t8, t9, h6]
    refine condK_intro (fun h8 => ?_) (fun h8 => ?_)
    · simp (dsimp := false) (maxDischargeDepth := 16) only [go_sem, ↓reduceIte, reduceCtorEq, Nat.reduceEqDiff, Nat.reduceAdd, Nat.reduceMul, Nat.reduceSub, Nat.reduceLT, Nat.reduceLeDiff, Nat.reducePow, Int.reduceLT, Int.reduceLE, Int.reduceNeg, Int.reduceToNat, t1, t7, t8, t9, h6, h8]
      refine finB ?_
      rw [← Bool.not_eq_true, List.all_eq_true]
      intro hall
      have := hall i (List.mem_range.2 h6)
      rw [getD_at h6] at this
      simp [this] at h8
    · simp (dsimp := false) (maxDischargeDepth := 16) only [go_sem, ↓reduceIte, reduceCtorEq, Nat.reduceEqDiff, Nat.reduceAdd, Nat.reduceMul, Nat.reduceSub, Nat.reduceLT, Nat.reduceLeDiff, Nat.reducePow, Int.reduceLT, Int.reduceLE, Int.reduceNeg, Int.reduceToNat, t1, t7, t8, t9, h6, h8]
      refine ⟨i + 1, by omega, by omega, by rw [wrapN _ (by omega)], fun j hj => ?_⟩
      by_cases hji : j = i
      · subst hji
        rw [getD_at h6]
        simpa using h8
      · exact hn j (by omega)
  · simp (dsimp := false) (maxDischargeDepth := 16) only [go_sem, ↓reduceIte, reduceCtorEq, Nat.reduceEqDiff, Nat.reduceAdd, Nat.reduceMul, Nat.reduceSub, Nat.reduceLT, Nat.reduceLeDiff, Nat.reducePow, Int.reduceLT, Int.reduceLE, Int.reduceNeg, Int.reduceToNat, t1, t7, t8, t9, h6]
    refine finB ?_
    rw [List.all_eq_true]
    intro j hj
    have := List.mem_range.1 hj
    exact hn j (by omega)
theorem c66 (a : Gr) (i : Nat) (k : Int) (h : i < a.n.length) (h1 : 0 ≤ k) (h2 : k.toNat < a.n.length) : Con Try.prog 66 [iv i, iv k, .ptr (gcs a)] 0 (bv (a.n[i] == a.n[k.toNat])) := by
  refine conT (X := []) (rs := [.tmp 5]) Try.func66 (by kernel_rfl) rfl rfl (by kernel_rfl) ?_
  simp (dsimp := false) (maxDischargeDepth := 16) only [go_sem, ↓reduceIte, reduceCtorEq, Nat.reduceEqDiff, Nat.reduceAdd, Nat.reduceMul, Nat.reduceSub, Nat.reduceLT, Nat.reduceLeDiff, Nat.reducePow, Int.reduceLT, Int.reduceLE, Int.reduceNeg, Int.reduceToNat, idx_nat, idx_int, h, h1, h2]
  exact finB rfl
/-- Are two edges of one type, between the same classes of nodes? -/
def sameE (p : List Int) (x y : Ed) : Bool := x.1 == y.1 && (p.getD x.2.1.toNat 0 == p.getD y.2.1.toNat 0 && p.getD x.2.2.toNat 0 == p.getD y.2.2.toNat 0)
theorem c67 (a : Gr) (p : List Int) (i : Nat) (k : Int) (h : i < a.e.length) (h1 : 0 ≤ k) (h2 : k.toNat < a.e.length) (hp : ∀ x ∈ a.e, 0 ≤ x.2.1 ∧ x.2.1 < p.length ∧ 0 ≤ x.2.2 ∧ x.2.2 < p.length) :
    Con Try.prog 67 [iv i, iv k, .ptr (gcs a), .ptr [lv p]] 0 (bv (sameE p a.e[i] a.e[k.toNat])) := by
  have p1 := hp _ (List.getElem_mem h)
  have p2 := hp _ (List.getElem_mem h2)
  have r1 : a.e[i].2.1.toNat < p.length := by omega
  have r2 : a.e[i].2.2.toNat < p.length := by omega
  have r3 : a.e[k.toNat].2.1.toNat < p.length := by omega
  have r4 : a.e[k.toNat].2.2.toNat < p.length := by omega
  have q1 := p1.1
  have q2 := p1.2.2.1
  have q3 := p2.1
  have q4 := p2.2.2.1
  rw [sameE, getD_at r1, getD_at r2, getD_at r3, getD_at r4]
  refine conT (X := [(1, [], [(7, [14, 17], [])])]) (rs := [.tmp 6]) Try.func67 (by kernel_rfl) rfl rfl (by kernel_rfl) ?_
  simp (dsimp := false) (maxDischargeDepth := 16) only [go_sem, ↓reduceIte, reduceCtorEq, Nat.reduceEqDiff, Nat.reduceAdd, Nat.reduceMul, Nat.reduceSub, Nat.reduceLT, Nat.reduceLeDiff, Nat.reducePow, Int.reduceLT, Int.reduceLE, Int.reduceNeg, Int.reduceToNat, idx_nat, idx_int, h, h1, h2]
  refine condK_intro (fun g1 => ?_) (fun g1 => ?_)
  rotate_left
  · rw [g1]
    simp (dsimp := false) (maxDischargeDepth := 16) only [go_sem, ↓reduceIte, reduceCtorEq, Nat.reduceEqDiff, Nat.reduceAdd, Nat.reduceMul, Nat.reduceSub, Nat.reduceLT, Nat.reduceLeDiff, Nat.reducePow, Int.reduceLT, Int.reduceLE, Int.reduceNeg, Int.reduceToNat, g1]
    exact finB rfl
  rw [g1]
  simp (dsimp := false) (maxDischargeDepth := 16) only [go_sem, ↓reduceIte, reduceCtorEq, Nat.reduceEqDiff, Nat.reduceAdd, Nat.reduceMul, Nat.reduceSub, Nat.reduceLT, Nat.reduceLeDiff, Nat.reducePow, Int.reduceLT, Int.reduceLE, Int.reduceNeg, Int.reduceToNat, g1, idx_int, q1, q2, q3, q4, r1, r2, r3, r4]
  refine condK_intro (fun g2 => ?_) (fun g2 => ?_)
  rotate_left
  · rw [g2]
    simp (dsimp := false) (maxDischargeDepth := 16) only [go_sem, ↓reduceIte, reduceCtorEq, Nat.reduceEqDiff, Nat.reduceAdd, Nat.reduceMul, Nat.reduceSub, Nat.reduceLT, Nat.reduceLeDiff, Nat.reducePow, Int.reduceLT, Int.reduceLE, Int.reduceNeg, Int.reduceToNat, g1, g2]
    exact finB rfl
  rw [g2]
  simp (dsimp := false) (maxDischargeDepth := 16) only [go_sem, ↓reduceIte, reduceCtorEq, Nat.reduceEqDiff, Nat.reduceAdd, Nat.reduceMul, Nat.reduceSub, Nat.reduceLT, Nat.reduceLeDiff, Nat.reducePow, Int.reduceLT, Int.reduceLE, Int.reduceNeg, Int.reduceToNat, g1, g2, idx_int, q1, q2, q3, q4, r1, r2, r3, r4]
  exact finB rfl
end Go.Sy

/- Contracts: the reference's quotient by partitions. -/
set_option linter.unusedSimpArgs false
namespace Go.Sy
open Go Go.Proofs

/-- The least elements of the classes of the first i. -/
def rts (p : List Int) (i : Nat) : List Nat := (List.range i).filter fun (x : Nat) => decide (p.getD x 0 = (x : Int))
theorem rts_yes {p : List Int} {i : Nat} (h : p.getD i 0 = (i : Int)) : rts p (i + 1) = rts p i ++ [i] := by
  unfold rts
  rw [List.range_succ, List.filter_append]
  simp only [List.filter_cons, List.filter_nil]
  rw [if_pos (by simpa using h)]
theorem rts_no {p : List Int} {i : Nat} (h : p.getD i 0 ≠ (i : Int)) : rts p (i + 1) = rts p i := by
  unfold rts
  rw [List.range_succ, List.filter_append]
  simp only [List.filter_cons, List.filter_nil]
  rw [if_neg (by simpa using h), List.append_nil]
theorem rts_len (p : List Int) (i : Nat) : (rts p i).length ≤ i := by
  unfold rts
  exact Nat.le_trans (List.length_filter_le _ _) (by simp)
def nodeAt (l : List Int) (x : Nat) : Int := l.getD x 0
def edgeAt (l : List Ed) (P : List Int) (x : Nat) : Ed := ((l.getD x (0, 0, 0)).1, P.getD (l.getD x (0, 0, 0)).2.1.toNat 0, P.getD (l.getD x (0, 0, 0)).2.2.toNat 0)
/-- The quotient by partitions of the nodes and of the edges. -/
def quo (a : Gr) (p q : List Int) : Qu :=
  ⟨⟨(rts p p.length).map (nodeAt a.n), (rts q q.length).map (edgeAt a.e (nq p p.length).1)⟩, ⟨(nq p p.length).1, (nq q q.length).1⟩⟩
theorem edgeAt_at {l : List Ed} {P : List Int} {i : Nat} (h : i < l.length) (r1 : l[i].2.1.toNat < P.length) (r2 : l[i].2.2.toNat < P.length) : edgeAt l P i = (l[i].1, P[l[i].2.1.toNat], P[l[i].2.2.toNat]) := by
  rw [edgeAt, getD_at h, getD_at r1, getD_at r2]
end Go.Sy

/- Contracts: the program's quotient by partitions. -/
set_option linter.unusedSimpArgs false
namespace Go.Sy
open Go Go.Proofs

theorem getD_app_lt {l : List Int} {x : Int} {j : Nat} (h : j < l.length) : (l ++ [x]).getD j 0 = l.getD j 0 := by
  rw [getD_at (by simp; omega), getD_at h, List.getElem_append_left h]
theorem getD_app_eq {l : List Int} {x : Int} {j : Nat} (h : l.length = j) : (l ++ [x]).getD j 0 = x := by
  subst h
  simp
/-- The number of an element's class is the place of the class's least element. -/
theorem nq_spec {p : List Int} (hp : isP p) : ∀ i, i ≤ p.length → (nq p i).2 = ((rts p i).length : Int) ∧ ∀ j, j < i → 0 ≤ (nq p i).1.getD j 0 ∧ (rts p i)[((nq p i).1.getD j 0).toNat]? = some (p.getD j 0).toNat
  | 0, _ => ⟨rfl, fun j hj => by omega⟩
  | i + 1, hi => by
    obtain ⟨h1, h2⟩ := nq_spec hp i (by omega)
    have hl := nq_len p i
    have h3 := hp i (by omega)
    by_cases h4 : p.getD i 0 = (i : Int)
    · rw [nq, if_pos h4, rts_yes h4]
      refine ⟨by simp [h1], fun j hj => ?_⟩
      by_cases hji : j = i
      · subst hji
        simp only [getD_app_eq hl, h1]
        refine ⟨by omega, ?_⟩
        rw [h4]
        simp
      · have := h2 j (by omega)
        simp only [getD_app_lt (show j < (nq p i).1.length by omega)]
        refine ⟨this.1, ?_⟩
        rw [List.getElem?_append_left (List.getElem?_eq_some_iff.1 this.2).1]
        exact this.2
    · rw [nq, if_neg h4, rts_no h4]
      refine ⟨h1, fun j hj => ?_⟩
      by_cases hji : j = i
      · subst hji
        simp only [getD_app_eq hl]
        have hk : (p.getD j 0).toNat < j := by have := h3.1; have := h3.2.1; omega
        have := h2 _ hk
        rw [h3.2.2] at this
        exact this
      · have := h2 j (by omega)
        simp only [getD_app_lt (show j < (nq p i).1.length by omega)]
        exact this
theorem rts_nodup (p : List Int) (i : Nat) : (rts p i).Nodup := (List.filter_sublist).nodup List.nodup_range
def be (zs : List Ed) : List AV := (zs.map ecs).flatten
theorem be_len (zs : List Ed) : (be zs).length = 3 * zs.length := by
  induction zs with
  | nil => rfl
  | cons z zs ih => simp [be, ecs] at ih ⊢; omega
theorem be_zero (n : Nat) : (List.replicate n [AV.v (.int .i64 0), AV.v (.int .i64 0), AV.v (.int .i64 0)]).flatten = be (List.replicate n (0, 0, 0)) := by
  unfold be
  rw [List.map_replicate]
  rfl
theorem be_app (x y : List Ed) : be (x ++ y) = be x ++ be y := by simp [be]
theorem be_set {zs : List Ed} {i : Nat} {x : Ed} (h : i < zs.length) : (be zs).take (i * 3) ++ [AV.v (.int .i64 x.1), AV.v (.int .i64 x.2.1), AV.v (.int .i64 x.2.2)] ++ (be zs).drop (i * 3 + 3) = be (zs.set i x) := by
  have e : zs = zs.take i ++ [zs[i]] ++ zs.drop (i + 1) := by
    rw [List.append_assoc, List.singleton_append, ← List.drop_eq_getElem_cons h, List.take_append_drop]
  have e1 : (be (zs.take i)).length = i * 3 := by rw [be_len, List.length_take]; omega
  have e2 : (be (zs.take i ++ [zs[i]])).length = i * 3 + 3 := by rw [be_len]; simp; omega
  have t1 : (be zs).take (i * 3) = be (zs.take i) := by
    rw [← e1]
    conv => lhs; rw [show be zs = be (zs.take i) ++ be ([zs[i]] ++ zs.drop (i + 1)) by rw [← be_app, ← List.append_assoc, ← e]]
    rw [List.take_left]
  have t2 : (be zs).drop (i * 3 + 3) = be (zs.drop (i + 1)) := by
    rw [← e2]
    conv => lhs; rw [show be zs = be (zs.take i ++ [zs[i]]) ++ be (zs.drop (i + 1)) by rw [← be_app, ← e]]
    rw [List.drop_left]
  rw [t1, t2, List.set_eq_take_append_cons_drop, if_pos h, be_app, List.append_assoc]
  rfl
theorem fin0S {s : St} {k : Key} {n : Nat} {zs : List Int} {b : Bool} (hb : s.b k = some ⟨bi zs, b⟩) (hn : zs.length = n) : fin0 s (.sl k n 1) (lv zs) := by
  refine .inr ⟨k, n, 1, zs.map fun n => [iv n], _, rfl, rfl, hb, bi_flat zs, by simpa using hn, ?_, ?_⟩
  · intro y hy
    obtain ⟨z, _, rfl⟩ := List.mem_map.1 hy
    rfl
  · intro x hx
    obtain ⟨z, _, rfl⟩ := List.mem_map.1 hx
    rfl
theorem fin0E {s : St} {k : Key} {n : Nat} {zs : List Ed} {b : Bool} (hb : s.b k = some ⟨be zs, b⟩) (hn : zs.length = n) : fin0 s (.sl k n 3) (elv zs) := by
  refine .inr ⟨k, n, 3, zs.map ecs, _, rfl, rfl, hb, rfl, by simpa using hn, ?_, ?_⟩
  · intro y hy
    obtain ⟨z, _, rfl⟩ := List.mem_map.1 hy
    rfl
  · intro x hx
    obtain ⟨y, hy, hx⟩ := List.mem_flatten.1 hx
    obtain ⟨z, _, rfl⟩ := List.mem_map.1 hy
    simp [ecs, iv] at hx
    rcases hx with rfl | rfl | rfl <;> rfl
/-- What is alike: the nodes of one class; the edges of one class. -/
def okP (a : Gr) (p : List Int) : Bool := (List.range p.length).all fun i => a.n.getD i 0 == a.n.getD (p.getD i 0).toNat 0
def okQ (a : Gr) (p q : List Int) : Bool := (List.range q.length).all fun i => sameE p (a.e.getD i (0, 0, 0)) (a.e.getD (q.getD i 0).toNat (0, 0, 0))
/-- A list that holds at the number of each element's class what the element is is the list of the least elements. -/
theorem class_list {α : Type} {p : List Int} (hp : isP p) {f : Nat → α} {zs : List α} (hz : zs.length = (rts p p.length).length) (hall : ∀ j, j < p.length → zs[((nq p p.length).1.getD j 0).toNat]? = some (f j)) : zs = (rts p p.length).map f := by
  refine List.ext_getElem? fun c => ?_
  by_cases hc : c < (rts p p.length).length
  · have hr : (rts p p.length)[c] ∈ rts p p.length := List.getElem_mem hc
    have hr2 := List.mem_filter.1 hr
    have hlt := List.mem_range.1 hr2.1
    have hroot : p.getD (rts p p.length)[c] 0 = ((rts p p.length)[c] : Int) := by simpa using hr2.2
    obtain ⟨_, h2⟩ := nq_spec hp p.length (Nat.le_refl _)
    have h3 := (h2 _ hlt).2
    rw [hroot, Int.toNat_natCast] at h3
    have h4 : ((nq p p.length).1.getD (rts p p.length)[c] 0).toNat = c := by
      have hlt2 := (List.getElem?_eq_some_iff.1 h3).1
      refine (List.getElem?_inj hlt2 (rts_nodup p p.length)).1 ?_
      rw [h3, List.getElem?_eq_getElem hc]
    have h5 := hall _ hlt
    rw [h4] at h5
    rw [h5, List.getElem?_map, List.getElem?_eq_getElem hc]
    rfl
  · rw [List.getElem?_eq_none (by omega), List.getElem?_eq_none (by simp; omega)]
end Go.Sy

/- Contracts: the program's quotient by partitions. -/
set_option linter.unusedSimpArgs false
namespace Go.Sy
open Go Go.Proofs

theorem class_set {α : Type} {p P : List Int} {R : List Nat} {n : Nat} (hspec : ∀ j, j < n → 0 ≤ P.getD j 0 ∧ R[(P.getD j 0).toNat]? = some (p.getD j 0).toNat) {f : Nat → α} (hal : ∀ j, j < n → f j = f (p.getD j 0).toNat)
    {zs : List α} (hz : zs.length = R.length) {i : Nat} (hi : i < n) (hall : ∀ j, j < i → zs[(P.getD j 0).toNat]? = some (f j)) : ∀ j, j < i + 1 → (zs.set (P.getD i 0).toNat (f i))[(P.getD j 0).toNat]? = some (f j) := by
  intro j hj
  rw [List.getElem?_set]
  have hi2 := (hspec i hi).2
  have hlt := (List.getElem?_eq_some_iff.1 hi2).1
  split
  · rename_i e
    rw [if_pos (by omega)]
    have hj2 := (hspec j (by omega)).2
    rw [← e, hi2] at hj2
    rw [hal i hi, hal j (by omega), Option.some.inj hj2]
  · rename_i e
    refine hall j ?_
    rcases Nat.lt_or_ge j i with h | h
    · exact h
    · exact absurd (by rw [show j = i by omega]) e
theorem class_eq {p P : List Int} {R : List Nat} (hR : R.Nodup) {n : Nat} (hspec : ∀ j, j < n → 0 ≤ P.getD j 0 ∧ R[(P.getD j 0).toNat]? = some (p.getD j 0).toNat) {u v : Nat} (hu : u < n) (hv : v < n) (h : p.getD u 0 = p.getD v 0) : P.getD u 0 = P.getD v 0 := by
  have h1 := hspec u hu
  have h2 := hspec v hv
  rw [h] at h1
  have : (P.getD u 0).toNat = (P.getD v 0).toNat := (List.getElem?_inj (List.getElem?_eq_some_iff.1 h1.2).1 hR).1 (h1.2.trans h2.2.symm)
  omega
theorem okP_at {a : Gr} {p : List Int} (h : okP a p = true) {j : Nat} (hj : j < p.length) : a.n.getD j 0 = a.n.getD (p.getD j 0).toNat 0 := by
  have := List.all_eq_true.1 h j (List.mem_range.2 hj)
  simpa using this
theorem okQ_at {a : Gr} {p q : List Int} (h : okQ a p q = true) {j : Nat} (hj : j < q.length) : sameE p (a.e.getD j (0, 0, 0)) (a.e.getD (q.getD j 0).toNat (0, 0, 0)) = true :=
  List.all_eq_true.1 h j (List.mem_range.2 hj)
set_option maxHeartbeats 1000000 in
theorem c68 (a : Gr) (p q : List Int) (hp : isP p) (hq : isP q) (hpl : p.length = a.n.length) (hql : q.length = a.e.length) (hn : a.n.length ≤ 80) (he : a.e.length ≤ 80)
    (hR : ∀ x ∈ a.e, 0 ≤ x.2.1 ∧ x.2.1 < a.n.length ∧ 0 ≤ x.2.2 ∧ x.2.2 < a.n.length) (op : okP a p = true) (oq : okQ a p q = true) : Con Try.prog 68 [gv a, lv p, lv q] 0 (qv (quo a p q)) := by
  refine conT (X := []) (rs := [.cell 6 92]) Try.func68 (by kernel_rfl) rfl rfl (by kernel_rfl) ?_
  simp (dsimp := false) (maxDischargeDepth := 16) only [go_sem, ↓reduceIte, reduceCtorEq, Nat.reduceEqDiff, Nat.reduceAdd, Nat.reduceMul, Nat.reduceSub, Nat.reduceLT, Nat.reduceLeDiff, Nat.reducePow, Int.reduceLT, Int.reduceLE, Int.reduceNeg, Int.reduceToNat]
  refine callK_intro (c121 p (by omega) hp) ?_
  simp (dsimp := false) (maxDischargeDepth := 16) only [go_sem, ↓reduceIte, reduceCtorEq, Nat.reduceEqDiff, Nat.reduceAdd, Nat.reduceMul, Nat.reduceSub, Nat.reduceLT, Nat.reduceLeDiff, Nat.reducePow, Int.reduceLT, Int.reduceLE, Int.reduceNeg, Int.reduceToNat]
  refine callK_intro (c121 q (by omega) hq) ?_
  obtain ⟨np, sp⟩ := nq_spec hp p.length (Nat.le_refl _)
  obtain ⟨nqq, sq⟩ := nq_spec hq q.length (Nat.le_refl _)
  have lp := nq_len p p.length
  have lq := nq_len q q.length
  have rp := rts_len p p.length
  have rq := rts_len q q.length
  have fp : ∀ zs : List Int, zs.length = (rts p p.length).length → (∀ j, j < p.length → zs[((nq p p.length).1.getD j 0).toNat]? = some (nodeAt a.n j)) → zs = (rts p p.length).map (nodeAt a.n) := fun zs h1 h2 => class_list hp h1 h2
  have fq : ∀ zs : List Ed, zs.length = (rts q q.length).length → (∀ j, j < q.length → zs[((nq q q.length).1.getD j 0).toNat]? = some (edgeAt a.e (nq p p.length).1 j)) → zs = (rts q q.length).map (edgeAt a.e (nq p p.length).1) := fun zs h1 h2 => class_list hq h1 h2
  have dp := rts_nodup p p.length
  rw [np, nqq]
  unfold quo
  generalize (nq p p.length).1 = P at *
  generalize (nq q q.length).1 = Q at *
  generalize rts p p.length = Rp at *
  generalize rts q q.length = Rq at *
  have alp : ∀ j, j < p.length → nodeAt a.n j = nodeAt a.n (p.getD j 0).toNat := fun j hj => okP_at op hj
  have ceq : ∀ u v, u < p.length → v < p.length → p.getD u 0 = p.getD v 0 → P.getD u 0 = P.getD v 0 := fun u v hu hv h => class_eq dp sp hu hv h
  have alq : ∀ j, j < q.length → edgeAt a.e P j = edgeAt a.e P (q.getD j 0).toNat := by
    intro j hj
    have h := okQ_at oq hj
    have hqj := hq j hj
    have j1 : j < a.e.length := by omega
    have j2 : (q.getD j 0).toNat < a.e.length := by omega
    rw [getD_at j1, getD_at j2] at h
    simp only [sameE, Bool.and_eq_true, beq_iff_eq] at h
    obtain ⟨h1, h2, h3⟩ := h
    have x1 := hR _ (List.getElem_mem j1)
    have x2 := hR _ (List.getElem_mem j2)
    unfold edgeAt
    rw [getD_at j1, getD_at j2, h1, ceq _ _ (by omega) (by omega) h2, ceq _ _ (by omega) (by omega) h3]
  simp (dsimp := false) (maxDischargeDepth := 16) only [go_sem, ↓reduceIte, reduceCtorEq, Nat.reduceEqDiff, Nat.reduceAdd, Nat.reduceMul, Nat.reduceSub, Nat.reduceLT, Nat.reduceLeDiff, Nat.reducePow, Int.reduceLT, Int.reduceLE, Int.reduceNeg, Int.reduceToNat, Int.toNat_natCast, bi_zero, be_zero]
  refine ⟨⟨by omega, by omega, by omega⟩, ⟨by omega, by omega, by omega⟩, ?_⟩
  refine loopK_intro (fun (i : Nat) s => i ≤ p.length ∧ s.t 3 = .box (3, 0, 0) 0 ∧ s.b (3, 0, 0) = some ⟨gcs a, false⟩ ∧ s.t 6 = .box (6, 0, 0) 0 ∧ (∃ z1 z2 z3 z4, s.b (6, 0, 0) = some ⟨[z1, z2, z3, z4], false⟩) ∧ s.t 7 = lv P ∧ s.t 10 = lv Q ∧
    s.t 13 = .box (13, 0, 0) 0 ∧ s.b (13, 0, 0) = some ⟨[.sl (31, 0, 0) Rp.length 1, .sl (33, 0, 0) Rq.length 3, lv P, lv Q], false⟩ ∧ s.b (33, 0, 0) = some ⟨be (List.replicate Rq.length (0, 0, 0)), false⟩ ∧ s.t 40 = lv a.n ∧ s.t 41 = iv a.n.length ∧ s.t 42 = iv i ∧
    ∃ zs : List Int, s.b (31, 0, 0) = some ⟨bi zs, false⟩ ∧ zs.length = Rp.length ∧ ∀ j, j < i → zs[(P.getD j 0).toNat]? = some (nodeAt a.n j)) (fun i => p.length - i) ?_ ?_
  · exact ⟨0, by omega, rfl, rfl, rfl, ⟨_, _, _, _, rfl⟩, rfl, rfl, rfl, rfl, rfl, rfl, rfl, rfl, _, rfl, by simp, fun j hj => by omega⟩
  rintro i s ⟨hi, t3, b3, t6, ⟨z1, z2, z3, z4, b6⟩, t7, t10, t13, b13, b33, t40, t41, t42, zs, b31, hz, hall⟩
  simp (dsimp := false) (maxDischargeDepth := 16) only [go_sem, ↓reduceIte, reduceCtorEq, Nat.reduceEqDiff, Nat.reduceAdd, Nat.reduceMul, Nat.reduceSub, Nat.reduceLT, Nat.reduceLeDiff, Nat.reducePow, Int.reduceLT, Int.reduceLE, Int.reduceNeg, Int.reduceToNat, t3, b3, t6, b6, t7, t10, t13, b13, b33, t40, t41, t42, b31]
  refine condK_dec (fun h6 => ?_) (fun h6 => ?_)
  · have h7 : i < P.length := by omega
    have hs := sp i (by omega)
    have hlt := (List.getElem?_eq_some_iff.1 hs.2).1
    have r0 := hs.1
    have hall2 := class_set sp alp hz (show i < p.length by omega) hall
    rw [getD_at h7] at hlt r0 hall2
    have hna : nodeAt a.n i = a.n[i] := getD_at h6
    rw [hna] at hall2
    have hzl : P[i].toNat < zs.length := by omega
    simp (dsimp := false) (maxDischargeDepth := 16) only [go_sem, ↓reduceIte, reduceCtorEq, Nat.reduceEqDiff, Nat.reduceAdd, Nat.reduceMul, Nat.reduceSub, Nat.reduceLT, Nat.reduceLeDiff, Nat.reducePow, Int.reduceLT, Int.reduceLE, Int.reduceNeg, Int.reduceToNat, t3, b3, t6, b6, t7, t10, t13, b13, b33, t40, t41, t42, b31, h6, h7, idx_nat, idx_slI, r0, hlt]
    refine ⟨by rw [bi_len]; omega, i + 1, by omega, by omega, ⟨_, _, _, _, rfl⟩, by rw [wrapN _ (by omega)], zs.set P[i].toNat a.n[i], by rw [Nat.mul_one, bi_set hzl], by simpa using hz, hall2⟩
  simp (dsimp := false) (maxDischargeDepth := 16) only [go_sem, ↓reduceIte, reduceCtorEq, Nat.reduceEqDiff, Nat.reduceAdd, Nat.reduceMul, Nat.reduceSub, Nat.reduceLT, Nat.reduceLeDiff, Nat.reducePow, Int.reduceLT, Int.reduceLE, Int.reduceNeg, Int.reduceToNat, t3, b3, t6, b6, t7, t10, t13, b13, b33, t40, t41, t42, b31, h6]
  have e1 : i = p.length := by omega
  subst e1
  have hzs := fp zs hz hall
  refine loopK_intro (fun (i : Nat) s => i ≤ q.length ∧ s.t 6 = .box (6, 0, 0) 0 ∧ s.b (6, 0, 0) = some ⟨[z1, z2, z3, z4], false⟩ ∧ s.t 7 = lv P ∧ s.t 10 = lv Q ∧
    s.t 13 = .box (13, 0, 0) 0 ∧ s.b (13, 0, 0) = some ⟨[.sl (31, 0, 0) Rp.length 1, .sl (33, 0, 0) Rq.length 3, lv P, lv Q], false⟩ ∧ s.b (31, 0, 0) = some ⟨bi zs, false⟩ ∧ s.t 58 = elv a.e ∧ s.t 59 = iv a.e.length ∧ s.t 60 = iv i ∧
    ∃ ys : List Ed, s.b (33, 0, 0) = some ⟨be ys, false⟩ ∧ ys.length = Rq.length ∧ ∀ j, j < i → ys[(Q.getD j 0).toNat]? = some (edgeAt a.e P j)) (fun i => q.length - i) ?_ ?_
  · exact ⟨0, by omega, t6, b6, t7, t10, t13, b13, b31, rfl, rfl, rfl, _, b33, by simp, fun j hj => by omega⟩
  clear t3 b3 t6 b6 t7 t10 t13 b13 b33 t40 t41 t42 b31 h6 hi hall
  rintro i s ⟨hi, t6, b6, t7, t10, t13, b13, b31, t58, t59, t60, ys, b33, hy, hall⟩
  simp (dsimp := false) (maxDischargeDepth := 16) only [go_sem, ↓reduceIte, reduceCtorEq, Nat.reduceEqDiff, Nat.reduceAdd, Nat.reduceMul, Nat.reduceSub, Nat.reduceLT, Nat.reduceLeDiff, Nat.reducePow, Int.reduceLT, Int.reduceLE, Int.reduceNeg, Int.reduceToNat, t6, b6, t7, t10, t13, b13, b31, t58, t59, t60, b33]
  refine condK_dec (fun h6 => ?_) (fun h6 => ?_)
  · have h7 : i < Q.length := by omega
    have hs := sq i (by omega)
    have hlt := (List.getElem?_eq_some_iff.1 hs.2).1
    have r0 := hs.1
    have hall2 := class_set sq alq hy (show i < q.length by omega) hall
    rw [getD_at h7] at hlt r0 hall2
    have hx := hR _ (List.getElem_mem h6)
    have r1 : a.e[i].2.1.toNat < P.length := by omega
    have r2 : a.e[i].2.2.toNat < P.length := by omega
    have r3 := hx.1
    have r4 := hx.2.2.1
    rw [edgeAt_at h6 r1 r2] at hall2
    have hyl : Q[i].toNat < ys.length := by omega
    simp (dsimp := false) (maxDischargeDepth := 16) only [go_sem, ↓reduceIte, reduceCtorEq, Nat.reduceEqDiff, Nat.reduceAdd, Nat.reduceMul, Nat.reduceSub, Nat.reduceLT, Nat.reduceLeDiff, Nat.reducePow, Int.reduceLT, Int.reduceLE, Int.reduceNeg, Int.reduceToNat, t6, b6, t7, t10, t13, b13, b31, t58, t59, t60, b33, h6, h7, idx_nat, idx_int, idx_slI, r0, r1, r2, r3, r4, hlt]
    exact ⟨by rw [be_len]; omega, i + 1, by omega, by omega, by rw [wrapN _ (by omega)], ys.set Q[i].toNat (a.e[i].1, P[a.e[i].2.1.toNat], P[a.e[i].2.2.toNat]), by rw [← be_set hyl], by simpa using hy, hall2⟩
  simp (dsimp := false) (maxDischargeDepth := 16) only [go_sem, ↓reduceIte, reduceCtorEq, Nat.reduceEqDiff, Nat.reduceAdd, Nat.reduceMul, Nat.reduceSub, Nat.reduceLT, Nat.reduceLeDiff, Nat.reducePow, Int.reduceLT, Int.reduceLE, Int.reduceNeg, Int.reduceToNat, t6, b6, t7, t10, t13, b13, b31, t58, t59, t60, b33, h6]
  have e1 : i = q.length := by omega
  subst e1
  have hys := fq ys hy hall
  rw [← hzs, ← hys]
  refine .one _ _ (.agg _ _ rfl fun i x r hx hr => ?_)
  match i, hx, hr with
  | 0, hx, hr =>
    simp only [List.getElem?_cons_zero, Option.some.injEq] at hx hr
    subst hx hr
    exact fin0S (b := false) (by simp (dsimp := false) (maxDischargeDepth := 16) only [go_sem, ↓reduceIte, reduceCtorEq, Nat.reduceEqDiff, Nat.reduceAdd, Nat.reduceMul, Nat.reduceSub, Nat.reduceLT, Nat.reduceLeDiff, Nat.reducePow, Int.reduceLT, Int.reduceLE, Int.reduceNeg, Int.reduceToNat, b31]) hz
  | 1, hx, hr =>
    simp only [List.getElem?_cons_zero, List.getElem?_cons_succ, Option.some.injEq] at hx hr
    subst hx hr
    exact fin0E (b := false) (by simp (dsimp := false) (maxDischargeDepth := 16) only [go_sem, ↓reduceIte, reduceCtorEq, Nat.reduceEqDiff, Nat.reduceAdd, Nat.reduceMul, Nat.reduceSub, Nat.reduceLT, Nat.reduceLeDiff, Nat.reducePow, Int.reduceLT, Int.reduceLE, Int.reduceNeg, Int.reduceToNat, b33]) hy
  | 2, hx, hr =>
    simp only [List.getElem?_cons_zero, List.getElem?_cons_succ, Option.some.injEq] at hx hr
    subst hx hr
    exact .inl ⟨rfl, rfl⟩
  | 3, hx, hr =>
    simp only [List.getElem?_cons_zero, List.getElem?_cons_succ, Option.some.injEq] at hx hr
    subst hx hr
    exact .inl ⟨rfl, rfl⟩
  | i + 4, hx, hr => simp at hx
end Go.Sy

/- Contracts: the reference's quotients. -/
set_option linter.unusedSimpArgs false
namespace Go.Sy
open Go Go.Proofs

def qlvT (l : List Qu) (tk : Tok) : AV := .list 4 (l.map qcs) tk
attribute [go_sem] qlvT
theorem isP_nil : isP [] := fun i h => by simp at h
theorem isP_ext {l : List Int} {n : Nat} (h : isP l) (hn : n ≤ l.length) (h1 : n = l.length ∨ l.getD n 0 = (n : Int)) : isP (l ++ [(n : Int)]) := by
  intro i hi
  simp at hi
  by_cases hil : i < l.length
  · have h2 := h i hil
    unfold pOK at h2 ⊢
    rw [getD_app_lt hil, getD_app_lt (show (l.getD i 0).toNat < l.length by omega)]
    exact h2
  · have : i = l.length := by omega
    subst this
    unfold pOK
    rw [getD_app_eq rfl, Int.toNat_natCast]
    refine ⟨by omega, by omega, ?_⟩
    rcases h1 with h1 | h1
    · rw [getD_app_eq h1.symm]
    · by_cases h2 : n = l.length
      · rw [getD_app_eq h2.symm]
      · rw [getD_app_lt (by omega), h1]
end Go.Sy

/- Contracts: factor.Quotients; equality of lists of quotients. -/
set_option linter.unusedSimpArgs false
namespace Go.Sy
open Go Go.Proofs

theorem tokOK_fbox {s : St} (k : Key) (l : List AV) (tk : Tok) : tokOK (s.fbox k l) tk = tokOK s tk := by cases tk <;> rfl
attribute [go_sem] tokOK_fbox
theorem ext_mem2 {p q : List Int} {i j : Nat} (h : q ∈ ext p i j) : ∃ x : Nat, x < j ∧ (x = i ∨ p.getD x 0 = (x : Int)) ∧ q = p ++ [(x : Int)] := by
  unfold ext at h
  obtain ⟨x, hx, rfl⟩ := List.mem_map.1 h
  obtain ⟨h1, h2⟩ := List.mem_filter.1 hx
  exact ⟨x, List.mem_range.1 h1, by simpa using h2, rfl⟩
theorem allP_isP : ∀ (i : Nat) (p : List Int), p ∈ allP i → isP p
  | 0, p, h => by simp [allP] at h; subst h; exact isP_nil
  | i + 1, p, h => by
    unfold allP at h
    obtain ⟨q, hq, h⟩ := List.mem_flatMap.1 h
    obtain ⟨x, hx, h1, rfl⟩ := ext_mem2 h
    have hl := allP_mem i q hq
    exact isP_ext (allP_isP i q hq) (by omega) (by rw [hl]; exact h1)
def quF (a : Gr) (p : List Int) : List Qu := if okP a p = true then ((allP a.e.length).filter (okQ a p)).map (quo a p) else []
def quL (a : Gr) : List Qu := (allP a.n.length).flatMap (quF a)
def quP (a : Gr) : List Qu × Int := if gErr a ≠ 0 then ([], gErr a) else if 6 < a.n.length ∨ 6 < a.e.length then ([], 3) else if 2000 < (quL a).length then ([], 3) else (quL a, 0)
theorem flat_split {α β : Type} (f : α → List β) {l : List α} {m : Nat} (h : m < l.length) : l.flatMap f = (l.take m).flatMap f ++ (f l[m] ++ (l.drop (m + 1)).flatMap f) := by
  conv => lhs; rw [← List.take_append_drop m l, List.flatMap_append, List.drop_eq_getElem_cons h, List.flatMap_cons]
theorem filter_yes {α : Type} {f : α → Bool} {l : List α} {m : Nat} (h : m < l.length) (h1 : f l[m] = true) : (l.take (m + 1)).filter f = (l.take m).filter f ++ [l[m]] := by
  rw [List.take_add_one, List.getElem?_eq_getElem h, List.filter_append]
  simp [h1]
theorem filter_no {α : Type} {f : α → Bool} {l : List α} {m : Nat} (h : m < l.length) (h1 : f l[m] = false) : (l.take (m + 1)).filter f = (l.take m).filter f := by
  rw [List.take_add_one, List.getElem?_eq_getElem h, List.filter_append]
  simp [h1]
theorem take_filter_len {α : Type} (f : α → Bool) (l : List α) (m : Nat) : ((l.take m).filter f).length ≤ (l.filter f).length :=
  ((List.take_sublist m l).filter f).length_le
set_option maxRecDepth 20000 in
set_option maxHeartbeats 4000000 in
theorem c23 (a : Gr) : Con Try.prog 23 [gv a] 0 (.tup [qlv (quP a).1, iv (quP a).2]) := by
  refine conT (X := [(12, [1], []), (13, [1, 11], [])]) (rs := [.tmp 2, .tmp 3]) Try.func23 (by kernel_rfl) rfl rfl (by kernel_rfl) ?_
  simp (dsimp := false) (maxDischargeDepth := 16) only [go_sem, ↓reduceIte, reduceCtorEq, Nat.reduceEqDiff, Nat.reduceAdd, Nat.reduceMul, Nat.reduceSub, Nat.reduceLT, Nat.reduceLeDiff, Nat.reducePow, Int.reduceLT, Int.reduceLE, Int.reduceNeg, Int.reduceToNat]
  refine callK_intro (c61 a) ?_
  simp (dsimp := false) (maxDischargeDepth := 16) only [go_sem, ↓reduceIte, reduceCtorEq, Nat.reduceEqDiff, Nat.reduceAdd, Nat.reduceMul, Nat.reduceSub, Nat.reduceLT, Nat.reduceLeDiff, Nat.reducePow, Int.reduceLT, Int.reduceLE, Int.reduceNeg, Int.reduceToNat]
  refine condK_intro (fun h1 => ?_) (fun h1 => ?_)
  · simp (dsimp := false) (maxDischargeDepth := 16) only [go_sem, ↓reduceIte, reduceCtorEq, Nat.reduceEqDiff, Nat.reduceAdd, Nat.reduceMul, Nat.reduceSub, Nat.reduceLT, Nat.reduceLeDiff, Nat.reducePow, Int.reduceLT, Int.reduceLE, Int.reduceNeg, Int.reduceToNat, h1]
    have h : quP a = ([], gErr a) := if_pos (ineq h1)
    rw [h]
    exact finK ⟨rfl, rfl⟩
  have g1 := ieq h1
  obtain ⟨⟨p1, p2⟩, p3⟩ := gErr_small g1
  have hR : ∀ x ∈ a.e, 0 ≤ x.2.1 ∧ x.2.1 < a.n.length ∧ 0 ≤ x.2.2 ∧ x.2.2 < a.n.length := fun x hx => (p3.2 x hx).2
  have hbig : ∀ o, (6 < a.n.length ∨ 6 < a.e.length) → o = quP a → o = ([], 3) := fun o h ho => by rw [ho, quP, if_neg (by simp [g1]), if_pos h]
  simp (dsimp := false) (maxDischargeDepth := 16) only [go_sem, ↓reduceIte, reduceCtorEq, Nat.reduceEqDiff, Nat.reduceAdd, Nat.reduceMul, Nat.reduceSub, Nat.reduceLT, Nat.reduceLeDiff, Nat.reducePow, Int.reduceLT, Int.reduceLE, Int.reduceNeg, Int.reduceToNat, h1]
  refine condK_dec (fun h3 => ?_) (fun h3 => ?_)
  · simp (dsimp := false) (maxDischargeDepth := 16) only [go_sem, ↓reduceIte, reduceCtorEq, Nat.reduceEqDiff, Nat.reduceAdd, Nat.reduceMul, Nat.reduceSub, Nat.reduceLT, Nat.reduceLeDiff, Nat.reducePow, Int.reduceLT, Int.reduceLE, Int.reduceNeg, Int.reduceToNat, h1, h3]
    rw [hbig _ (by omega) rfl]
    exact finK ⟨rfl, rfl⟩
  simp (dsimp := false) (maxDischargeDepth := 16) only [go_sem, ↓reduceIte, reduceCtorEq, Nat.reduceEqDiff, Nat.reduceAdd, Nat.reduceMul, Nat.reduceSub, Nat.reduceLT, Nat.reduceLeDiff, Nat.reducePow, Int.reduceLT, Int.reduceLE, Int.reduceNeg, Int.reduceToNat, h1, h3]
  refine condK_dec (fun h4 => ?_) (fun h4 => ?_)
  · simp (dsimp := false) (maxDischargeDepth := 16) only [go_sem, ↓reduceIte, reduceCtorEq, Nat.reduceEqDiff, Nat.reduceAdd, Nat.reduceMul, Nat.reduceSub, Nat.reduceLT, Nat.reduceLeDiff, Nat.reducePow, Int.reduceLT, Int.reduceLE, Int.reduceNeg, Int.reduceToNat, h1, h3, h4]
    rw [hbig _ (by omega) rfl]
    exact finK ⟨rfl, rfl⟩
  have hsm : ¬ (6 < a.n.length ∨ 6 < a.e.length) := by omega
  simp (dsimp := false) (maxDischargeDepth := 16) only [go_sem, ↓reduceIte, reduceCtorEq, Nat.reduceEqDiff, Nat.reduceAdd, Nat.reduceMul, Nat.reduceSub, Nat.reduceLT, Nat.reduceLeDiff, Nat.reducePow, Int.reduceLT, Int.reduceLE, Int.reduceNeg, Int.reduceToNat, h1, h3, h4]
  refine callK_intro (c64 a.n.length (by omega)) ?_
  simp (dsimp := false) (maxDischargeDepth := 16) only [go_sem, ↓reduceIte, reduceCtorEq, Nat.reduceEqDiff, Nat.reduceAdd, Nat.reduceMul, Nat.reduceSub, Nat.reduceLT, Nat.reduceLeDiff, Nat.reducePow, Int.reduceLT, Int.reduceLE, Int.reduceNeg, Int.reduceToNat, h1, h3, h4]
  refine callK_intro (c64 a.e.length (by omega)) ?_
  simp (dsimp := false) (maxDischargeDepth := 16) only [go_sem, ↓reduceIte, reduceCtorEq, Nat.reduceEqDiff, Nat.reduceAdd, Nat.reduceMul, Nat.reduceSub, Nat.reduceLT, Nat.reduceLeDiff, Nat.reducePow, Int.reduceLT, Int.reduceLE, Int.reduceNeg, Int.reduceToNat, h1, h3, h4]
  have lN := allP_len a.n.length (by omega)
  have lE := allP_len a.e.length (by omega)
  have e1 : 8 ^ a.n.length ≤ 8 ^ 7 := Nat.pow_le_pow_right (by decide) (by omega)
  have e2 : 8 ^ a.e.length ≤ 8 ^ 7 := Nat.pow_le_pow_right (by decide) (by omega)
  refine loopK_intro (fun (i : Nat) s => i ≤ (allP a.n.length).length ∧ s.t 1 = .box (1, 0, 0) 0 ∧ (∃ z, s.b (1, 0, 0) = some ⟨gcs a, z⟩) ∧ s.t 7 = llv (allP a.e.length) ∧ s.t 44 = llv (allP a.n.length) ∧ s.t 45 = iv (allP a.n.length).length ∧ s.t 46 = iv i ∧
    (((allP a.n.length).take i).flatMap (quF a)).length ≤ 2000 ∧ ∃ tk, s.t 9 = qlvT (((allP a.n.length).take i).flatMap (quF a)) tk ∧ tokOK s tk = true) (fun i => (allP a.n.length).length - i) ?_ ?_
  · exact ⟨0, by omega, rfl, ⟨_, rfl⟩, rfl, rfl, rfl, rfl, by simp, .nil, rfl, rfl⟩
  clear h1 h3 h4
  rintro i s ⟨hi, t1, ⟨z, b1⟩, t7, t44, t45, t46, hc, tk, t9, htk⟩
  simp (dsimp := false) (maxDischargeDepth := 16) only [go_sem, ↓reduceIte, reduceCtorEq, Nat.reduceEqDiff, Nat.reduceAdd, Nat.reduceMul, Nat.reduceSub, Nat.reduceLT, Nat.reduceLeDiff, Nat.reducePow, Int.reduceLT, Int.reduceLE, Int.reduceNeg, Int.reduceToNat, t1, b1, t7, t44, t45, t46, t9]
  refine condK_dec (fun h6 => ?_) (fun h6 => ?_)
  rotate_left
  · simp (dsimp := false) (maxDischargeDepth := 16) only [go_sem, ↓reduceIte, reduceCtorEq, Nat.reduceEqDiff, Nat.reduceAdd, Nat.reduceMul, Nat.reduceSub, Nat.reduceLT, Nat.reduceLeDiff, Nat.reducePow, Int.reduceLT, Int.reduceLE, Int.reduceNeg, Int.reduceToNat, t1, b1, t7, t44, t45, t46, t9, h6]
    have : i = (allP a.n.length).length := by omega
    subst this
    rw [List.take_length] at *
    have h : quP a = (quL a, 0) := by rw [quP, if_neg (by simp [g1]), if_neg hsm, if_neg (by unfold quL; omega)]
    rw [h]
    exact finK ⟨rfl, rfl⟩
  have hpl := allP_mem _ _ (List.getElem_mem h6)
  have hpP := allP_isP _ _ (List.getElem_mem h6)
  have hnext := take_flat (f := quF a) h6
  have hsplit : quL a = _ := flat_split (quF a) h6
  simp (dsimp := false) (maxDischargeDepth := 16) only [go_sem, ↓reduceIte, reduceCtorEq, Nat.reduceEqDiff, Nat.reduceAdd, Nat.reduceMul, Nat.reduceSub, Nat.reduceLT, Nat.reduceLeDiff, Nat.reducePow, Int.reduceLT, Int.reduceLE, Int.reduceNeg, Int.reduceToNat, t1, b1, t7, t44, t45, t46, t9, h6, idx_nat]
  generalize ((allP a.n.length).take i).flatMap (quF a) = cur at *
  generalize (allP a.n.length)[i] = p at *
  have q66 := c65 p 66 [.ptr (gcs a)] (fun i k => a.n.getD i 0 == a.n.getD k.toNat 0) (fun i h => by
    have h1 := hpP i h
    have h2 : i < a.n.length := by omega
    rw [pOK, getD_at h] at h1
    have h3 : p[i].toNat < a.n.length := by omega
    show Con Try.prog 66 _ 0 (bv (a.n.getD i 0 == a.n.getD p[i].toNat 0))
    rw [getD_at h2, getD_at h3]
    exact c66 a i p[i] h2 h1.1 h3)
  refine callK_intro q66 ?_
  simp (dsimp := false) (maxDischargeDepth := 16) only [go_sem, ↓reduceIte, reduceCtorEq, Nat.reduceEqDiff, Nat.reduceAdd, Nat.reduceMul, Nat.reduceSub, Nat.reduceLT, Nat.reduceLeDiff, Nat.reducePow, Int.reduceLT, Int.reduceLE, Int.reduceNeg, Int.reduceToNat, t1, b1, t7, t44, t45, t46, t9, h6]
  refine condK_intro (fun h8 => ?_) (fun h8 => ?_)
  · have hok : okP a p = false := by unfold okP; simpa only [Bool.not_eq_true'] using h8
    have hF : quF a p = [] := by rw [quF, if_neg (by simp [hok])]
    simp (dsimp := false) (maxDischargeDepth := 16) only [go_sem, ↓reduceIte, reduceCtorEq, Nat.reduceEqDiff, Nat.reduceAdd, Nat.reduceMul, Nat.reduceSub, Nat.reduceLT, Nat.reduceLeDiff, Nat.reducePow, Int.reduceLT, Int.reduceLE, Int.reduceNeg, Int.reduceToNat, t1, b1, t7, t44, t45, t46, t9, h6, h8]
    rw [hF, List.append_nil] at hnext
    exact ⟨i + 1, by omega, by omega, ⟨_, rfl⟩, by rw [wrapN _ (by omega)], by rw [hnext]; exact hc, tk, by rw [hnext], by simp (dsimp := false) (maxDischargeDepth := 16) only [go_sem, ↓reduceIte, reduceCtorEq, Nat.reduceEqDiff, Nat.reduceAdd, Nat.reduceMul, Nat.reduceSub, Nat.reduceLT, Nat.reduceLeDiff, Nat.reducePow, Int.reduceLT, Int.reduceLE, Int.reduceNeg, Int.reduceToNat, htk]⟩
  have hok : okP a p = true := by unfold okP; simpa only [Bool.not_eq_false'] using h8
  have hF : quF a p = ((allP a.e.length).filter (okQ a p)).map (quo a p) := by rw [quF, if_pos hok]
  rw [hF] at hnext hsplit
  simp (dsimp := false) (maxDischargeDepth := 16) only [go_sem, ↓reduceIte, reduceCtorEq, Nat.reduceEqDiff, Nat.reduceAdd, Nat.reduceMul, Nat.reduceSub, Nat.reduceLT, Nat.reduceLeDiff, Nat.reducePow, Int.reduceLT, Int.reduceLE, Int.reduceNeg, Int.reduceToNat, t1, b1, t7, t44, t45, t46, t9, h6, h8]
  have hEp : ∀ q ∈ allP a.e.length, q.length = a.e.length ∧ isP q := fun q hq => ⟨allP_mem _ _ hq, allP_isP _ _ hq⟩
  have tfl := take_filter_len (okQ a p) (allP a.e.length)
  have fy := fun m (h : m < (allP a.e.length).length) => filter_yes (f := okQ a p) h
  have fn := fun m (h : m < (allP a.e.length).length) => filter_no (f := okQ a p) h
  have ftl : ((allP a.e.length).take (allP a.e.length).length) = allP a.e.length := List.take_length
  have hcell : s.g 11 = s.g 11 := rfl
  refine loopK_intro (fun (j : Nat) s' => j ≤ (allP a.e.length).length ∧ s'.t 1 = .box (1, 0, 0) 0 ∧ s'.b (1, 0, 0) = some ⟨gcs a, true⟩ ∧ s'.t 7 = llv (allP a.e.length) ∧ s'.t 44 = llv (allP a.n.length) ∧ s'.t 45 = iv (allP a.n.length).length ∧ s'.t 46 = iv i ∧
    s'.t 11 = .box (11, s.g 11, 0) 0 ∧ s'.b (11, s.g 11, 0) = some ⟨[lv p], true⟩ ∧ s'.t 12 = .clo 67 [.ptr (gcs a), .ptr [lv p]] ∧ s'.t 55 = llv (allP a.e.length) ∧ s'.t 56 = iv (allP a.e.length).length ∧ s'.t 57 = iv j ∧
    (cur ++ (((allP a.e.length).take j).filter (okQ a p)).map (quo a p)).length ≤ 2000 ∧ ∃ tk, s'.t 9 = qlvT (cur ++ (((allP a.e.length).take j).filter (okQ a p)).map (quo a p)) tk ∧ tokOK s' tk = true) (fun j => (allP a.e.length).length - j) ?_ ?_
  · refine ⟨0, by omega, t1, ?_, t7, t44, t45, t46, rfl, ?_, rfl, rfl, rfl, rfl, by simpa using hc, tk, ?_, ?_⟩
    · simp (dsimp := false) (maxDischargeDepth := 16) only [go_sem, ↓reduceIte, reduceCtorEq, Nat.reduceEqDiff, Nat.reduceAdd, Nat.reduceMul, Nat.reduceSub, Nat.reduceLT, Nat.reduceLeDiff, Nat.reducePow, Int.reduceLT, Int.reduceLE, Int.reduceNeg, Int.reduceToNat, b1]
    · simp (dsimp := false) (maxDischargeDepth := 16) only [go_sem, ↓reduceIte, reduceCtorEq, Nat.reduceEqDiff, Nat.reduceAdd, Nat.reduceMul, Nat.reduceSub, Nat.reduceLT, Nat.reduceLeDiff, Nat.reducePow, Int.reduceLT, Int.reduceLE, Int.reduceNeg, Int.reduceToNat, b1]
    · rw [List.take_zero, List.filter_nil, List.map_nil, List.append_nil]; exact t9
    · simp (dsimp := false) (maxDischargeDepth := 16) only [go_sem, ↓reduceIte, reduceCtorEq, Nat.reduceEqDiff, Nat.reduceAdd, Nat.reduceMul, Nat.reduceSub, Nat.reduceLT, Nat.reduceLeDiff, Nat.reducePow, Int.reduceLT, Int.reduceLE, Int.reduceNeg, Int.reduceToNat, htk]
  generalize s.g 11 = γ at *
  have hlt := h6
  clear t1 b1 t7 t44 t45 t46 t9 htk h6 hcell
  rintro j s ⟨hj, t1, b1, t7, t44, t45, t46, t11, b11, t12, t55, t56, t57, hc2, tk, t9, htk⟩
  simp (dsimp := false) (maxDischargeDepth := 16) only [go_sem, ↓reduceIte, reduceCtorEq, Nat.reduceEqDiff, Nat.reduceAdd, Nat.reduceMul, Nat.reduceSub, Nat.reduceLT, Nat.reduceLeDiff, Nat.reducePow, Int.reduceLT, Int.reduceLE, Int.reduceNeg, Int.reduceToNat, t1, b1, t7, t44, t45, t46, t11, b11, t12, t55, t56, t57, t9]
  refine condK_dec (fun h6 => ?_) (fun h6 => ?_)
  rotate_left
  · simp (dsimp := false) (maxDischargeDepth := 16) only [go_sem, ↓reduceIte, reduceCtorEq, Nat.reduceEqDiff, Nat.reduceAdd, Nat.reduceMul, Nat.reduceSub, Nat.reduceLT, Nat.reduceLeDiff, Nat.reducePow, Int.reduceLT, Int.reduceLE, Int.reduceNeg, Int.reduceToNat, t1, b1, t7, t44, t45, t46, t11, b11, t12, t55, t56, t57, t9, h6]
    have : j = (allP a.e.length).length := by omega
    subst this
    rw [ftl] at *
    exact ⟨i + 1, by omega, by omega, ⟨_, rfl⟩, by rw [wrapN _ (by omega)], by rw [hnext]; exact hc2, tk, by rw [hnext], by simp (dsimp := false) (maxDischargeDepth := 16) only [go_sem, ↓reduceIte, reduceCtorEq, Nat.reduceEqDiff, Nat.reduceAdd, Nat.reduceMul, Nat.reduceSub, Nat.reduceLT, Nat.reduceLeDiff, Nat.reducePow, Int.reduceLT, Int.reduceLE, Int.reduceNeg, Int.reduceToNat, htk]⟩
  have hqE := hEp _ (List.getElem_mem h6)
  have fy1 := fy j h6
  have fn1 := fn j h6
  have tfl1 := tfl (j + 1)
  simp (dsimp := false) (maxDischargeDepth := 16) only [go_sem, ↓reduceIte, reduceCtorEq, Nat.reduceEqDiff, Nat.reduceAdd, Nat.reduceMul, Nat.reduceSub, Nat.reduceLT, Nat.reduceLeDiff, Nat.reducePow, Int.reduceLT, Int.reduceLE, Int.reduceNeg, Int.reduceToNat, t1, b1, t7, t44, t45, t46, t11, b11, t12, t55, t56, t57, t9, h6, idx_nat]
  generalize ((allP a.e.length).take j).filter (okQ a p) = D at *
  generalize (allP a.e.length)[j] = q at *
  obtain ⟨hql, hqP⟩ := hqE
  have q67 := c65 q 67 [.ptr (gcs a), .ptr [lv p]] (fun i k => sameE p (a.e.getD i (0, 0, 0)) (a.e.getD k.toNat (0, 0, 0))) (fun i h => by
    have h1 := hqP i h
    have h2 : i < a.e.length := by omega
    rw [pOK, getD_at h] at h1
    have h3 : q[i].toNat < a.e.length := by omega
    show Con Try.prog 67 _ 0 (bv (sameE p (a.e.getD i (0, 0, 0)) (a.e.getD q[i].toNat (0, 0, 0))))
    rw [getD_at h2, getD_at h3]
    exact c67 a p i q[i] h2 h1.1 h3 (by rw [hpl]; exact hR))
  refine callK_intro q67 ?_
  simp (dsimp := false) (maxDischargeDepth := 16) only [go_sem, ↓reduceIte, reduceCtorEq, Nat.reduceEqDiff, Nat.reduceAdd, Nat.reduceMul, Nat.reduceSub, Nat.reduceLT, Nat.reduceLeDiff, Nat.reducePow, Int.reduceLT, Int.reduceLE, Int.reduceNeg, Int.reduceToNat, t1, b1, t7, t44, t45, t46, t11, b11, t12, t55, t56, t57, t9, h6]
  refine condK_intro (fun h9 => ?_) (fun h9 => ?_)
  · have hoq : okQ a p q = false := by unfold okQ; simpa only [Bool.not_eq_true'] using h9
    simp (dsimp := false) (maxDischargeDepth := 16) only [go_sem, ↓reduceIte, reduceCtorEq, Nat.reduceEqDiff, Nat.reduceAdd, Nat.reduceMul, Nat.reduceSub, Nat.reduceLT, Nat.reduceLeDiff, Nat.reducePow, Int.reduceLT, Int.reduceLE, Int.reduceNeg, Int.reduceToNat, t1, b1, t7, t44, t45, t46, t11, b11, t12, t55, t56, t57, t9, h6, h9]
    have e3 := fn1 hoq
    exact ⟨j + 1, by omega, by omega, by rw [wrapN _ (by omega)], by rw [e3]; exact hc2, tk, by rw [e3], by simp (dsimp := false) (maxDischargeDepth := 16) only [go_sem, ↓reduceIte, reduceCtorEq, Nat.reduceEqDiff, Nat.reduceAdd, Nat.reduceMul, Nat.reduceSub, Nat.reduceLT, Nat.reduceLeDiff, Nat.reducePow, Int.reduceLT, Int.reduceLE, Int.reduceNeg, Int.reduceToNat, htk]⟩
  have hoq : okQ a p q = true := by unfold okQ; simpa only [Bool.not_eq_false'] using h9
  have e3 := fy1 hoq
  simp (dsimp := false) (maxDischargeDepth := 16) only [go_sem, ↓reduceIte, reduceCtorEq, Nat.reduceEqDiff, Nat.reduceAdd, Nat.reduceMul, Nat.reduceSub, Nat.reduceLT, Nat.reduceLeDiff, Nat.reducePow, Int.reduceLT, Int.reduceLE, Int.reduceNeg, Int.reduceToNat, t1, b1, t7, t44, t45, t46, t11, b11, t12, t55, t56, t57, t9, h6, h9]
  refine condK_intro (fun h10 => ?_) (fun h10 => ?_)
  · simp (dsimp := false) (maxDischargeDepth := 16) only [go_sem, ↓reduceIte, reduceCtorEq, Nat.reduceEqDiff, Nat.reduceAdd, Nat.reduceMul, Nat.reduceSub, Nat.reduceLT, Nat.reduceLeDiff, Nat.reducePow, Int.reduceLT, Int.reduceLE, Int.reduceNeg, Int.reduceToNat, t1, b1, t7, t44, t45, t46, t11, b11, t12, t55, t56, t57, t9, h6, h9, h10]
    have h : quP a = ([], 3) := by
      rw [quP, if_neg (by simp [g1]), if_neg hsm, if_pos]
      have h11 := beqT h10
      rw [e3] at tfl1
      rw [hsplit]
      simp only [List.length_append, List.length_map, List.length_cons, List.length_nil] at h11 tfl1 ⊢
      omega
    rw [h]
    exact finK ⟨rfl, rfl⟩
  simp (dsimp := false) (maxDischargeDepth := 16) only [go_sem, ↓reduceIte, reduceCtorEq, Nat.reduceEqDiff, Nat.reduceAdd, Nat.reduceMul, Nat.reduceSub, Nat.reduceLT, Nat.reduceLeDiff, Nat.reducePow, Int.reduceLT, Int.reduceLE, Int.reduceNeg, Int.reduceToNat, t1, b1, t7, t44, t45, t46, t11, b11, t12, t55, t56, t57, t9, h6, h9, h10]
  refine callK_intro (c68 a p q hpP hqP hpl hql (by omega) (by omega) hR hok hoq) ?_
  simp (dsimp := false) (maxDischargeDepth := 16) only [go_sem, ↓reduceIte, reduceCtorEq, Nat.reduceEqDiff, Nat.reduceAdd, Nat.reduceMul, Nat.reduceSub, Nat.reduceLT, Nat.reduceLeDiff, Nat.reducePow, Int.reduceLT, Int.reduceLE, Int.reduceNeg, Int.reduceToNat, t1, b1, t7, t44, t45, t46, t11, b11, t12, t55, t56, t57, t9, h6, h9, h10, htk]
  have h11 := beqF h10
  refine ⟨⟨by omega, by omega⟩, j + 1, by omega, by omega, by rw [wrapN _ (by omega)], ?_, .own (74, s.g 74, 0), ?_, ?_⟩
  · rw [e3, List.map_append, ← List.append_assoc, List.length_append]
    simp only [List.map_cons, List.map_nil, List.length_cons, List.length_nil]
    omega
  · rw [e3]
    simp only [List.map_append, List.map_cons, List.map_nil, List.append_assoc]
    rfl
  · simp (dsimp := false) (maxDischargeDepth := 16) only [go_sem, ↓reduceIte, reduceCtorEq, Nat.reduceEqDiff, Nat.reduceAdd, Nat.reduceMul, Nat.reduceSub, Nat.reduceLT, Nat.reduceLeDiff, Nat.reducePow, Int.reduceLT, Int.reduceLE, Int.reduceNeg, Int.reduceToNat, htk]
end Go.Sy

/- Contracts: the examples of the chapter. -/
set_option linter.unusedSimpArgs false
namespace Go.Sy
open Go Go.Proofs

theorem awQ : quP ⟨[4, 4], []⟩ = ([⟨⟨[4], []⟩, ⟨[0, 0], []⟩⟩, ⟨⟨[4, 4], []⟩, ⟨[0, 1], []⟩⟩], 0) := by kernel_rfl
theorem awA1 : (ovS ⟨[4], []⟩ ⟨[4], []⟩).2 = 0 := by kernel_rfl
theorem awA2 : (ovS ⟨[4], []⟩ ⟨[4], []⟩).1.length = 2 := by kernel_rfl
theorem awB1 : (ovS ⟨[4, 4], [(1, 0, 1)]⟩ ⟨[4, 4], [(1, 0, 1)]⟩).2 = 0 := by kernel_rfl
theorem awB2 : (ovS ⟨[4, 4], [(1, 0, 1)]⟩ ⟨[4, 4], [(1, 0, 1)]⟩).1.length = 8 := by kernel_rfl
theorem c16 : Con Try.prog 16 [] 0 (bv true) := by
  refine conT (X := []) (rs := [.tmp 0]) Try.func16 (by kernel_rfl) rfl rfl (by kernel_rfl) ?_
  simp (dsimp := false) (maxDischargeDepth := 16) only [go_sem, ↓reduceIte, reduceCtorEq, Nat.reduceEqDiff, Nat.reduceAdd, Nat.reduceMul, Nat.reduceSub, Nat.reduceLT, Nat.reduceLeDiff, Nat.reducePow, Int.reduceLT, Int.reduceLE, Int.reduceNeg, Int.reduceToNat]
  refine callK_intro (c18 ⟨[4], []⟩ ⟨[4], []⟩) ?_
  simp (dsimp := false) (maxDischargeDepth := 16) only [go_sem, ↓reduceIte, reduceCtorEq, Nat.reduceEqDiff, Nat.reduceAdd, Nat.reduceMul, Nat.reduceSub, Nat.reduceLT, Nat.reduceLeDiff, Nat.reducePow, Int.reduceLT, Int.reduceLE, Int.reduceNeg, Int.reduceToNat]
  refine callK_intro (c18 ⟨[4, 4], [(1, 0, 1)]⟩ ⟨[4, 4], [(1, 0, 1)]⟩) ?_
  simp (dsimp := false) (maxDischargeDepth := 16) only [go_sem, ↓reduceIte, reduceCtorEq, Nat.reduceEqDiff, Nat.reduceAdd, Nat.reduceMul, Nat.reduceSub, Nat.reduceLT, Nat.reduceLeDiff, Nat.reducePow, Int.reduceLT, Int.reduceLE, Int.reduceNeg, Int.reduceToNat]
  refine callK_intro (c23 ⟨[4, 4], []⟩) ?_
  rw [awQ]
  simp (dsimp := false) (maxDischargeDepth := 16) only [go_sem, ↓reduceIte, reduceCtorEq, Nat.reduceEqDiff, Nat.reduceAdd, Nat.reduceMul, Nat.reduceSub, Nat.reduceLT, Nat.reduceLeDiff, Nat.reducePow, Int.reduceLT, Int.reduceLE, Int.reduceNeg, Int.reduceToNat, awA1, awB1, awA2, awB2]
  refine condK_intro (fun h1 => ?_) (fun h1 => absurd h1 (by decide))
  simp (dsimp := false) (maxDischargeDepth := 16) only [go_sem, ↓reduceIte, reduceCtorEq, Nat.reduceEqDiff, Nat.reduceAdd, Nat.reduceMul, Nat.reduceSub, Nat.reduceLT, Nat.reduceLeDiff, Nat.reducePow, Int.reduceLT, Int.reduceLE, Int.reduceNeg, Int.reduceToNat, awA1, awB1, awA2, awB2, h1]
  refine condK_intro (fun h2 => ?_) (fun h2 => absurd h2 (by decide))
  simp (dsimp := false) (maxDischargeDepth := 16) only [go_sem, ↓reduceIte, reduceCtorEq, Nat.reduceEqDiff, Nat.reduceAdd, Nat.reduceMul, Nat.reduceSub, Nat.reduceLT, Nat.reduceLeDiff, Nat.reducePow, Int.reduceLT, Int.reduceLE, Int.reduceNeg, Int.reduceToNat, awA1, awB1, awA2, awB2, h1, h2]
  refine condK_intro (fun h3 => ?_) (fun h3 => absurd h3 (by decide))
  simp (dsimp := false) (maxDischargeDepth := 16) only [go_sem, ↓reduceIte, reduceCtorEq, Nat.reduceEqDiff, Nat.reduceAdd, Nat.reduceMul, Nat.reduceSub, Nat.reduceLT, Nat.reduceLeDiff, Nat.reducePow, Int.reduceLT, Int.reduceLE, Int.reduceNeg, Int.reduceToNat, awA1, awB1, awA2, awB2, h1, h2, h3, idx_int, List.getElem_cons_zero]
  exact finB (by decide)
theorem c3 (a b : Gr) : Con Try.prog 3 [gv a, gv b] 0 (bv true) := by
  refine conT (X := []) (rs := [.tmp 4]) Try.func3 (by kernel_rfl) rfl rfl (by kernel_rfl) ?_
  simp (dsimp := false) (maxDischargeDepth := 16) only [go_sem, ↓reduceIte, reduceCtorEq, Nat.reduceEqDiff, Nat.reduceAdd, Nat.reduceMul, Nat.reduceSub, Nat.reduceLT, Nat.reduceLeDiff, Nat.reducePow, Int.reduceLT, Int.reduceLE, Int.reduceNeg, Int.reduceToNat]
  refine callK_intro c16 ?_
  simp (dsimp := false) (maxDischargeDepth := 16) only [go_sem, ↓reduceIte, reduceCtorEq, Nat.reduceEqDiff, Nat.reduceAdd, Nat.reduceMul, Nat.reduceSub, Nat.reduceLT, Nat.reduceLeDiff, Nat.reducePow, Int.reduceLT, Int.reduceLE, Int.reduceNeg, Int.reduceToNat]
  refine callK_intro (c17 a 4 4) ?_
  simp (dsimp := false) (maxDischargeDepth := 16) only [go_sem, ↓reduceIte, reduceCtorEq, Nat.reduceEqDiff, Nat.reduceAdd, Nat.reduceMul, Nat.reduceSub, Nat.reduceLT, Nat.reduceLeDiff, Nat.reducePow, Int.reduceLT, Int.reduceLE, Int.reduceNeg, Int.reduceToNat]
  refine condK_intro (fun h1 => ?_) (fun h1 => ?_)
  · simp (dsimp := false) (maxDischargeDepth := 16) only [go_sem, ↓reduceIte, reduceCtorEq, Nat.reduceEqDiff, Nat.reduceAdd, Nat.reduceMul, Nat.reduceSub, Nat.reduceLT, Nat.reduceLeDiff, Nat.reducePow, Int.reduceLT, Int.reduceLE, Int.reduceNeg, Int.reduceToNat, h1]
    refine callK_intro c16 ?_
    simp (dsimp := false) (maxDischargeDepth := 16) only [go_sem, ↓reduceIte, reduceCtorEq, Nat.reduceEqDiff, Nat.reduceAdd, Nat.reduceMul, Nat.reduceSub, Nat.reduceLT, Nat.reduceLeDiff, Nat.reducePow, Int.reduceLT, Int.reduceLE, Int.reduceNeg, Int.reduceToNat, h1]
    exact finB rfl
  simp (dsimp := false) (maxDischargeDepth := 16) only [go_sem, ↓reduceIte, reduceCtorEq, Nat.reduceEqDiff, Nat.reduceAdd, Nat.reduceMul, Nat.reduceSub, Nat.reduceLT, Nat.reduceLeDiff, Nat.reducePow, Int.reduceLT, Int.reduceLE, Int.reduceNeg, Int.reduceToNat, h1]
  have g1 := ydec h1
  refine callK_intro (c17 b 4 4) ?_
  simp (dsimp := false) (maxDischargeDepth := 16) only [go_sem, ↓reduceIte, reduceCtorEq, Nat.reduceEqDiff, Nat.reduceAdd, Nat.reduceMul, Nat.reduceSub, Nat.reduceLT, Nat.reduceLeDiff, Nat.reducePow, Int.reduceLT, Int.reduceLE, Int.reduceNeg, Int.reduceToNat, h1]
  refine condK_intro (fun h2 => ?_) (fun h2 => ?_)
  · simp (dsimp := false) (maxDischargeDepth := 16) only [go_sem, ↓reduceIte, reduceCtorEq, Nat.reduceEqDiff, Nat.reduceAdd, Nat.reduceMul, Nat.reduceSub, Nat.reduceLT, Nat.reduceLeDiff, Nat.reducePow, Int.reduceLT, Int.reduceLE, Int.reduceNeg, Int.reduceToNat, h1, h2]
    refine callK_intro c16 ?_
    simp (dsimp := false) (maxDischargeDepth := 16) only [go_sem, ↓reduceIte, reduceCtorEq, Nat.reduceEqDiff, Nat.reduceAdd, Nat.reduceMul, Nat.reduceSub, Nat.reduceLT, Nat.reduceLeDiff, Nat.reducePow, Int.reduceLT, Int.reduceLE, Int.reduceNeg, Int.reduceToNat, h1, h2]
    exact finB rfl
  simp (dsimp := false) (maxDischargeDepth := 16) only [go_sem, ↓reduceIte, reduceCtorEq, Nat.reduceEqDiff, Nat.reduceAdd, Nat.reduceMul, Nat.reduceSub, Nat.reduceLT, Nat.reduceLeDiff, Nat.reducePow, Int.reduceLT, Int.reduceLE, Int.reduceNeg, Int.reduceToNat, h1, h2]
  have g2 := ydec h2
  refine callK_intro (c19 a (by omega) (by omega)) ?_
  simp (dsimp := false) (maxDischargeDepth := 16) only [go_sem, ↓reduceIte, reduceCtorEq, Nat.reduceEqDiff, Nat.reduceAdd, Nat.reduceMul, Nat.reduceSub, Nat.reduceLT, Nat.reduceLeDiff, Nat.reducePow, Int.reduceLT, Int.reduceLE, Int.reduceNeg, Int.reduceToNat, h1, h2, gvo]
  refine callK_intro (c19 b (by omega) (by omega)) ?_
  simp (dsimp := false) (maxDischargeDepth := 16) only [go_sem, ↓reduceIte, reduceCtorEq, Nat.reduceEqDiff, Nat.reduceAdd, Nat.reduceMul, Nat.reduceSub, Nat.reduceLT, Nat.reduceLeDiff, Nat.reducePow, Int.reduceLT, Int.reduceLE, Int.reduceNeg, Int.reduceToNat, h1, h2, gvo]
  refine callK_intro (c18 a b) ?_
  simp (dsimp := false) (maxDischargeDepth := 16) only [go_sem, ↓reduceIte, reduceCtorEq, Nat.reduceEqDiff, Nat.reduceAdd, Nat.reduceMul, Nat.reduceSub, Nat.reduceLT, Nat.reduceLeDiff, Nat.reducePow, Int.reduceLT, Int.reduceLE, Int.reduceNeg, Int.reduceToNat, h1, h2]
  refine callK_intro (c20 a b) ?_
  simp (dsimp := false) (maxDischargeDepth := 16) only [go_sem, ↓reduceIte, reduceCtorEq, Nat.reduceEqDiff, Nat.reduceAdd, Nat.reduceMul, Nat.reduceSub, Nat.reduceLT, Nat.reduceLeDiff, Nat.reducePow, Int.reduceLT, Int.reduceLE, Int.reduceNeg, Int.reduceToNat, h1, h2]
  refine condK_intro (fun h3 => ?_) (fun h3 => ?_)
  · simp (dsimp := false) (maxDischargeDepth := 16) only [go_sem, ↓reduceIte, reduceCtorEq, Nat.reduceEqDiff, Nat.reduceAdd, Nat.reduceMul, Nat.reduceSub, Nat.reduceLT, Nat.reduceLeDiff, Nat.reducePow, Int.reduceLT, Int.reduceLE, Int.reduceNeg, Int.reduceToNat, h1, h2, h3]
    refine callK_intro (c21 _ _) ?_
    simp (dsimp := false) (maxDischargeDepth := 16) only [go_sem, ↓reduceIte, reduceCtorEq, Nat.reduceEqDiff, Nat.reduceAdd, Nat.reduceMul, Nat.reduceSub, Nat.reduceLT, Nat.reduceLeDiff, Nat.reducePow, Int.reduceLT, Int.reduceLE, Int.reduceNeg, Int.reduceToNat, h1, h2, h3]
    exact finB rfl
  · simp at h3
end Go.Sy

/- FactorJointly: the law's contract. -/
set_option linter.unusedSimpArgs false
namespace Go.Sy
open Go Go.Proofs

theorem bin_eqP {P : Program} {t : TypeId} (hu : P.underlying t = some .bool) (a b : Bool) : binAV P .eql t (.v (.bool a)) (.v (.bool b)) = some (.v (.bool (a == b))) := by
  show (match P.underlying t, BinOp.eql with | some .bool, .eql => some (AV.v (.bool (a == b))) | some .bool, .neq => some (AV.v (.bool (a != b))) | _, _ => none) = _
  rw [hu]
theorem bin_neP {P : Program} {t : TypeId} (hu : P.underlying t = some .bool) (a b : Bool) : binAV P .neq t (.v (.bool a)) (.v (.bool b)) = some (.v (.bool (a != b))) := by
  show (match P.underlying t, BinOp.neq with | some .bool, .eql => some (AV.v (.bool (a == b))) | some .bool, .neq => some (AV.v (.bool (a != b))) | _, _ => none) = _
  rw [hu]
theorem bin_eqb (a b : Bool) : binAV Try.prog .eql 4 (.v (.bool a)) (.v (.bool b)) = some (.v (.bool (a == b))) := bin_eqP (by kernel_rfl) a b
theorem bin_neb (a b : Bool) : binAV Try.prog .neq 4 (.v (.bool a)) (.v (.bool b)) = some (.v (.bool (a != b))) := bin_neP (by kernel_rfl) a b
attribute [go_sem] bin_eqb bin_neb
theorem c5 (a b : Gr) (o : Ov) : Con Try.prog 5 [gv a, gv b, ov o] 0 (bv true) := by
  refine conT (X := []) (rs := [.tmp 6]) Try.func5 (by kernel_rfl) rfl rfl (by kernel_rfl) ?_
  simp (dsimp := false) (maxDischargeDepth := 16) only [go_sem, ↓reduceIte, reduceCtorEq, Nat.reduceEqDiff, Nat.reduceAdd, Nat.reduceMul, Nat.reduceSub, Nat.reduceLT, Nat.reduceLeDiff, Nat.reducePow, Int.reduceLT, Int.reduceLE, Int.reduceNeg, Int.reduceToNat]
  refine callK_intro c16 ?_
  simp (dsimp := false) (maxDischargeDepth := 16) only [go_sem, ↓reduceIte, reduceCtorEq, Nat.reduceEqDiff, Nat.reduceAdd, Nat.reduceMul, Nat.reduceSub, Nat.reduceLT, Nat.reduceLeDiff, Nat.reducePow, Int.reduceLT, Int.reduceLE, Int.reduceNeg, Int.reduceToNat]
  refine callK_intro (c22 a) ?_
  simp (dsimp := false) (maxDischargeDepth := 16) only [go_sem, ↓reduceIte, reduceCtorEq, Nat.reduceEqDiff, Nat.reduceAdd, Nat.reduceMul, Nat.reduceSub, Nat.reduceLT, Nat.reduceLeDiff, Nat.reducePow, Int.reduceLT, Int.reduceLE, Int.reduceNeg, Int.reduceToNat]
  refine condK_intro (fun h1 => ?_) (fun h1 => ?_)
  · simp (dsimp := false) (maxDischargeDepth := 16) only [go_sem, ↓reduceIte, reduceCtorEq, Nat.reduceEqDiff, Nat.reduceAdd, Nat.reduceMul, Nat.reduceSub, Nat.reduceLT, Nat.reduceLeDiff, Nat.reducePow, Int.reduceLT, Int.reduceLE, Int.reduceNeg, Int.reduceToNat, h1]
    refine callK_intro c16 ?_
    simp (dsimp := false) (maxDischargeDepth := 16) only [go_sem, ↓reduceIte, reduceCtorEq, Nat.reduceEqDiff, Nat.reduceAdd, Nat.reduceMul, Nat.reduceSub, Nat.reduceLT, Nat.reduceLeDiff, Nat.reducePow, Int.reduceLT, Int.reduceLE, Int.reduceNeg, Int.reduceToNat, h1]
    exact finB rfl
  simp (dsimp := false) (maxDischargeDepth := 16) only [go_sem, ↓reduceIte, reduceCtorEq, Nat.reduceEqDiff, Nat.reduceAdd, Nat.reduceMul, Nat.reduceSub, Nat.reduceLT, Nat.reduceLeDiff, Nat.reducePow, Int.reduceLT, Int.reduceLE, Int.reduceNeg, Int.reduceToNat, h1]
  refine callK_intro (c22 b) ?_
  simp (dsimp := false) (maxDischargeDepth := 16) only [go_sem, ↓reduceIte, reduceCtorEq, Nat.reduceEqDiff, Nat.reduceAdd, Nat.reduceMul, Nat.reduceSub, Nat.reduceLT, Nat.reduceLeDiff, Nat.reducePow, Int.reduceLT, Int.reduceLE, Int.reduceNeg, Int.reduceToNat, h1]
  refine condK_intro (fun h2 => ?_) (fun h2 => ?_)
  · simp (dsimp := false) (maxDischargeDepth := 16) only [go_sem, ↓reduceIte, reduceCtorEq, Nat.reduceEqDiff, Nat.reduceAdd, Nat.reduceMul, Nat.reduceSub, Nat.reduceLT, Nat.reduceLeDiff, Nat.reducePow, Int.reduceLT, Int.reduceLE, Int.reduceNeg, Int.reduceToNat, h1, h2]
    refine callK_intro c16 ?_
    simp (dsimp := false) (maxDischargeDepth := 16) only [go_sem, ↓reduceIte, reduceCtorEq, Nat.reduceEqDiff, Nat.reduceAdd, Nat.reduceMul, Nat.reduceSub, Nat.reduceLT, Nat.reduceLeDiff, Nat.reducePow, Int.reduceLT, Int.reduceLE, Int.reduceNeg, Int.reduceToNat, h1, h2]
    exact finB rfl
  simp (dsimp := false) (maxDischargeDepth := 16) only [go_sem, ↓reduceIte, reduceCtorEq, Nat.reduceEqDiff, Nat.reduceAdd, Nat.reduceMul, Nat.reduceSub, Nat.reduceLT, Nat.reduceLeDiff, Nat.reducePow, Int.reduceLT, Int.reduceLE, Int.reduceNeg, Int.reduceToNat, h1, h2]
  refine callK_intro (c22 o.g) ?_
  simp (dsimp := false) (maxDischargeDepth := 16) only [go_sem, ↓reduceIte, reduceCtorEq, Nat.reduceEqDiff, Nat.reduceAdd, Nat.reduceMul, Nat.reduceSub, Nat.reduceLT, Nat.reduceLeDiff, Nat.reducePow, Int.reduceLT, Int.reduceLE, Int.reduceNeg, Int.reduceToNat, h1, h2]
  refine condK_intro (fun h3 => ?_) (fun h3 => ?_)
  · simp (dsimp := false) (maxDischargeDepth := 16) only [go_sem, ↓reduceIte, reduceCtorEq, Nat.reduceEqDiff, Nat.reduceAdd, Nat.reduceMul, Nat.reduceSub, Nat.reduceLT, Nat.reduceLeDiff, Nat.reducePow, Int.reduceLT, Int.reduceLE, Int.reduceNeg, Int.reduceToNat, h1, h2, h3]
    refine callK_intro c16 ?_
    simp (dsimp := false) (maxDischargeDepth := 16) only [go_sem, ↓reduceIte, reduceCtorEq, Nat.reduceEqDiff, Nat.reduceAdd, Nat.reduceMul, Nat.reduceSub, Nat.reduceLT, Nat.reduceLeDiff, Nat.reducePow, Int.reduceLT, Int.reduceLE, Int.reduceNeg, Int.reduceToNat, h1, h2, h3]
    exact finB rfl
  simp (dsimp := false) (maxDischargeDepth := 16) only [go_sem, ↓reduceIte, reduceCtorEq, Nat.reduceEqDiff, Nat.reduceAdd, Nat.reduceMul, Nat.reduceSub, Nat.reduceLT, Nat.reduceLeDiff, Nat.reducePow, Int.reduceLT, Int.reduceLE, Int.reduceNeg, Int.reduceToNat, h1, h2, h3]
  refine callK_intro (c26 o.l 200) ?_
  simp (dsimp := false) (maxDischargeDepth := 16) only [go_sem, ↓reduceIte, reduceCtorEq, Nat.reduceEqDiff, Nat.reduceAdd, Nat.reduceMul, Nat.reduceSub, Nat.reduceLT, Nat.reduceLeDiff, Nat.reducePow, Int.reduceLT, Int.reduceLE, Int.reduceNeg, Int.reduceToNat, h1, h2, h3]
  refine condK_intro (fun h4 => ?_) (fun h4 => ?_)
  · simp (dsimp := false) (maxDischargeDepth := 16) only [go_sem, ↓reduceIte, reduceCtorEq, Nat.reduceEqDiff, Nat.reduceAdd, Nat.reduceMul, Nat.reduceSub, Nat.reduceLT, Nat.reduceLeDiff, Nat.reducePow, Int.reduceLT, Int.reduceLE, Int.reduceNeg, Int.reduceToNat, h1, h2, h3, h4]
    refine callK_intro c16 ?_
    simp (dsimp := false) (maxDischargeDepth := 16) only [go_sem, ↓reduceIte, reduceCtorEq, Nat.reduceEqDiff, Nat.reduceAdd, Nat.reduceMul, Nat.reduceSub, Nat.reduceLT, Nat.reduceLeDiff, Nat.reducePow, Int.reduceLT, Int.reduceLE, Int.reduceNeg, Int.reduceToNat, h1, h2, h3, h4]
    exact finB rfl
  simp (dsimp := false) (maxDischargeDepth := 16) only [go_sem, ↓reduceIte, reduceCtorEq, Nat.reduceEqDiff, Nat.reduceAdd, Nat.reduceMul, Nat.reduceSub, Nat.reduceLT, Nat.reduceLeDiff, Nat.reducePow, Int.reduceLT, Int.reduceLE, Int.reduceNeg, Int.reduceToNat, h1, h2, h3, h4]
  refine callK_intro (c26 o.r 200) ?_
  simp (dsimp := false) (maxDischargeDepth := 16) only [go_sem, ↓reduceIte, reduceCtorEq, Nat.reduceEqDiff, Nat.reduceAdd, Nat.reduceMul, Nat.reduceSub, Nat.reduceLT, Nat.reduceLeDiff, Nat.reducePow, Int.reduceLT, Int.reduceLE, Int.reduceNeg, Int.reduceToNat, h1, h2, h3, h4]
  refine condK_intro (fun h5 => ?_) (fun h5 => ?_)
  · simp (dsimp := false) (maxDischargeDepth := 16) only [go_sem, ↓reduceIte, reduceCtorEq, Nat.reduceEqDiff, Nat.reduceAdd, Nat.reduceMul, Nat.reduceSub, Nat.reduceLT, Nat.reduceLeDiff, Nat.reducePow, Int.reduceLT, Int.reduceLE, Int.reduceNeg, Int.reduceToNat, h1, h2, h3, h4, h5]
    refine callK_intro c16 ?_
    simp (dsimp := false) (maxDischargeDepth := 16) only [go_sem, ↓reduceIte, reduceCtorEq, Nat.reduceEqDiff, Nat.reduceAdd, Nat.reduceMul, Nat.reduceSub, Nat.reduceLT, Nat.reduceLeDiff, Nat.reducePow, Int.reduceLT, Int.reduceLE, Int.reduceNeg, Int.reduceToNat, h1, h2, h3, h4, h5]
    exact finB rfl
  simp (dsimp := false) (maxDischargeDepth := 16) only [go_sem, ↓reduceIte, reduceCtorEq, Nat.reduceEqDiff, Nat.reduceAdd, Nat.reduceMul, Nat.reduceSub, Nat.reduceLT, Nat.reduceLeDiff, Nat.reducePow, Int.reduceLT, Int.reduceLE, Int.reduceNeg, Int.reduceToNat, h1, h2, h3, h4, h5]
  refine callK_intro (c27 a b o.g o.l o.r) ?_
  simp (dsimp := false) (maxDischargeDepth := 16) only [go_sem, ↓reduceIte, reduceCtorEq, Nat.reduceEqDiff, Nat.reduceAdd, Nat.reduceMul, Nat.reduceSub, Nat.reduceLT, Nat.reduceLeDiff, Nat.reducePow, Int.reduceLT, Int.reduceLE, Int.reduceNeg, Int.reduceToNat, h1, h2, h3, h4, h5]
  refine callK_intro (c28 a b o.g o.l o.r) ?_
  simp (dsimp := false) (maxDischargeDepth := 16) only [go_sem, ↓reduceIte, reduceCtorEq, Nat.reduceEqDiff, Nat.reduceAdd, Nat.reduceMul, Nat.reduceSub, Nat.reduceLT, Nat.reduceLeDiff, Nat.reducePow, Int.reduceLT, Int.reduceLE, Int.reduceNeg, Int.reduceToNat, h1, h2, h3, h4, h5]
  exact finB (by simp)
end Go.Sy

/- Plain law: both ways to list quotients come to the same list. -/
namespace Go.Sy
open Go Go.Proofs

theorem flat_congr {α β : Type} {f g : α → List β} : ∀ {l : List α}, (∀ x ∈ l, f x = g x) → l.flatMap f = l.flatMap g
  | [], _ => rfl
  | x :: l, h => by rw [List.flatMap_cons, List.flatMap_cons, h x (by simp), flat_congr fun y hy => h y (by simp [hy])]
theorem take_cap {α : Type} (a b : List α) (n : Nat) : (a.take n ++ b).take n = (a ++ b).take n := by
  rw [List.take_append, List.take_append, List.take_take, Nat.min_self, List.length_take]
  congr 2
  omega
theorem fold_cap {α β : Type} {f : List α → β → List α} {g : β → List α} {n : Nat} (h : ∀ j o, o.length ≤ n → f o j = (o ++ g j).take n) : ∀ (l : List β) (o : List α), o.length ≤ n → l.foldl f o = (o ++ l.flatMap g).take n
  | [], o, ho => by simp [List.take_of_length_le ho]
  | x :: l, o, ho => by
    rw [List.foldl_cons, h x o ho, fold_cap h l _ (by simp; omega), List.flatMap_cons, take_cap, List.append_assoc]
theorem take_full' {α : Type} {o : List α} {n : Nat} (h : n ≤ o.length) (ho : o.length ≤ n) (r : List α) : o = (o ++ r).take n := by
  rw [List.take_append_of_le_length h, List.take_of_length_le ho]
end Go.Sy

/- Plain law: the overlaps are the pairs of matchings; as many for b and a. -/
namespace Go.Sy
open Go Go.Proofs

/-- All lists that go on from one by numbers from -1 to below m. -/
def genL (ok : List Int → Int → Bool) (m : Nat) : Nat → List Int → List (List Int)
  | 0, l => [l]
  | k + 1, l => (List.range (m + 1)).flatMap fun (j : Nat) => if ok l ((j : Int) - 1) then genL ok m k (l ++ [(j : Int) - 1]) else []
def oN (a b : Gr) (l : List Int) (n : Int) : Bool := okN a (b.n.getD l.length 0) l n
def oE (a b : Gr) (nodes l : List Int) (n : Int) : Bool := okE a nodes l (b.e.getD l.length (0, 0, 0)) n
theorem ovE_cap (a b : Gr) (nodes : List Int) : ∀ (k : Nat) (l : List Int) (out : List Ov), out.length ≤ 2001 →
    ovE a b nodes k l out = (out ++ (genL (oE a b nodes) a.e.length k l).map (glue a b nodes)).take 2001
  | 0, l, out, h => by
    rw [ovE, genL]
    split
    · exact take_full' (by omega) h _
    · rw [List.take_of_length_le (by simp; omega)]
      rfl
  | k + 1, l, out, h => by
    rw [ovE, genL, List.map_flatMap]
    split
    · exact take_full' (by omega) h _
    · refine fold_cap (fun j o ho => ?_) _ _ h
      by_cases c : oE a b nodes l ((j : Int) - 1) = true
      · have c' : okE a nodes l (b.e.getD l.length (0, 0, 0)) ((j : Int) - 1) = true := c
        rw [if_pos c, if_pos c']
        exact ovE_cap a b nodes k _ _ ho
      · have c' : ¬ okE a nodes l (b.e.getD l.length (0, 0, 0)) ((j : Int) - 1) = true := c
        rw [if_neg c, if_neg c', List.map_nil, List.append_nil, List.take_of_length_le ho]
def ovF (a b : Gr) (nodes : List Int) : List Ov := (genL (oE a b nodes) a.e.length b.e.length []).map (glue a b nodes)
theorem ovN_cap (a b : Gr) : ∀ (k : Nat) (l : List Int) (out : List Ov), out.length ≤ 2001 →
    ovN a b k l out = (out ++ (genL (oN a b) a.n.length k l).flatMap (ovF a b)).take 2001
  | 0, l, out, h => by
    rw [ovN, genL]
    split
    · exact take_full' (by omega) h _
    · rw [ovE_cap a b l _ _ _ h]
      simp [ovF]
  | k + 1, l, out, h => by
    rw [ovN, genL, List.flatMap_assoc]
    split
    · exact take_full' (by omega) h _
    · refine fold_cap (fun j o ho => ?_) _ _ h
      by_cases c : oN a b l ((j : Int) - 1) = true
      · have c' : okN a (b.n.getD l.length 0) l ((j : Int) - 1) = true := c
        rw [if_pos c, if_pos c']
        exact ovN_cap a b k _ _ ho
      · have c' : ¬ okN a (b.n.getD l.length 0) l ((j : Int) - 1) = true := c
        rw [if_neg c, if_neg c', List.flatMap_nil, List.append_nil, List.take_of_length_le ho]
theorem genL_mem {ok : List Int → Int → Bool} {m : Nat} : ∀ (k : Nat) (l q : List Int), q ∈ genL ok m k l ↔ ∃ t : List Int, q = l ++ t ∧ t.length = k ∧ ∀ i (h : i < t.length), -1 ≤ t[i] ∧ t[i] < m ∧ ok (l ++ t.take i) t[i] = true
  | 0, l, q => by
    rw [genL, List.mem_singleton]
    constructor
    · rintro rfl
      exact ⟨[], by simp, rfl, fun i h => by simp at h⟩
    · rintro ⟨t, rfl, h, _⟩
      simp [List.eq_nil_of_length_eq_zero h]
  | k + 1, l, q => by
    rw [genL, List.mem_flatMap]
    constructor
    · rintro ⟨j, hj, h⟩
      have hj := List.mem_range.1 hj
      split at h
      · rename_i c
        obtain ⟨t, rfl, h1, h2⟩ := (genL_mem k _ q).1 h
        refine ⟨((j : Int) - 1) :: t, by simp, by simp [h1], fun i hi => ?_⟩
        cases i with
        | zero => exact ⟨by simp; omega, by simp; omega, by simpa using c⟩
        | succ i =>
          have := h2 i (by simpa using hi)
          refine ⟨by simpa using this.1, by simpa using this.2.1, ?_⟩
          have h3 := this.2.2
          simpa using h3
      · simp at h
    · rintro ⟨t, rfl, h1, h2⟩
      cases t with
      | nil => simp at h1
      | cons x t =>
        have h0 := h2 0 (by simp)
        simp only [List.getElem_cons_zero, List.take_zero, List.append_nil] at h0
        refine ⟨(x + 1).toNat, List.mem_range.2 (by omega), ?_⟩
        have hx : (((x + 1).toNat : Nat) : Int) - 1 = x := by omega
        rw [hx, if_pos h0.2.2]
        refine (genL_mem k _ _).2 ⟨t, by simp, by simpa using h1, fun i hi => ?_⟩
        have := h2 (i + 1) (by simpa using hi)
        simpa using this
/-- A partial injection from the numbers below n to those below m, along a relation; -1: nowhere. -/
structure PI (n m : Nat) (R : Nat → Nat → Prop) (q : List Int) : Prop where
  len : q.length = n
  val : ∀ i, i < n → q.getD i 0 = -1 ∨ ∃ k : Nat, k < m ∧ q.getD i 0 = (k : Int) ∧ R i k
  inj : ∀ i j, i < j → j < n → q.getD i 0 = q.getD j 0 → q.getD i 0 = -1
theorem mem_take {l : List Int} {i : Nat} {x : Int} (hi : i ≤ l.length) : x ∈ l.take i ↔ ∃ j, j < i ∧ l.getD j 0 = x := by
  rw [List.mem_take_iff_getElem]
  constructor
  · rintro ⟨j, hj, rfl⟩
    have : j < l.length := by omega
    exact ⟨j, by omega, getD_at this⟩
  · rintro ⟨j, hj, rfl⟩
    have : j < l.length := by omega
    exact ⟨j, by omega, (getD_at this).symm⟩
theorem genL_PI {R : Nat → Nat → Prop} {ok : List Int → Int → Bool} {n m : Nat} (hok : ∀ l x, ok l x = true ↔ x < 0 ∨ (x ∉ l ∧ R l.length x.toNat)) (q : List Int) : q ∈ genL ok m n [] ↔ PI n m R q := by
  rw [genL_mem]
  constructor
  · rintro ⟨t, h, h1, h2⟩
    rw [List.nil_append] at h
    subst h
    have each : ∀ i, i < n → q.getD i 0 = -1 ∨ ((∃ k : Nat, k < m ∧ q.getD i 0 = (k : Int) ∧ R i k) ∧ q.getD i 0 ∉ q.take i) := by
      intro i hi
      have hi' : i < q.length := by omega
      obtain ⟨a1, a2, a3⟩ := h2 i hi'
      rw [getD_at hi']
      rw [List.nil_append, hok] at a3
      rcases a3 with a3 | ⟨a3, a4⟩
      · exact .inl (by omega)
      · rw [List.length_take, Nat.min_eq_left (by omega)] at a4
        by_cases hneg : q[i] < 0
        · exact .inl (by omega)
        · exact .inr ⟨⟨q[i].toNat, by omega, by omega, a4⟩, a3⟩
    refine ⟨h1, fun i hi => (each i hi).imp id And.left, fun i j hij hj he => ?_⟩
    rcases each j hj with h3 | ⟨_, h3⟩
    · omega
    · exact absurd ((mem_take (by omega)).2 ⟨i, hij, he⟩) h3
  · rintro ⟨h1, h2, h3⟩
    refine ⟨q, rfl, h1, fun i hi => ?_⟩
    have h4 := h2 i (by omega)
    rw [getD_at hi] at h4
    rw [List.nil_append, hok]
    rcases h4 with h4 | ⟨k, hk, h4, h5⟩
    · exact ⟨by omega, by omega, .inl (by omega)⟩
    · refine ⟨by omega, by omega, .inr ⟨fun hm => ?_, ?_⟩⟩
      · obtain ⟨j, hj, he⟩ := (mem_take (by omega)).1 hm
        have := h3 j i hj (by omega) (by rw [he, getD_at hi])
        omega
      · rw [List.length_take, Nat.min_eq_left (by omega), h4]
        simpa using h5
def relN (a b : Gr) (i k : Nat) : Prop := a.n.getD k 0 = b.n.getD i 0
def relE (a b : Gr) (nodes : List Int) (i k : Nat) : Prop := a.e.getD k (0, 0, 0) = ((b.e.getD i (0, 0, 0)).1, nodes.getD (b.e.getD i (0, 0, 0)).2.1.toNat 0, nodes.getD (b.e.getD i (0, 0, 0)).2.2.toNat 0)
theorem memN (a b : Gr) (q : List Int) : q ∈ genL (oN a b) a.n.length b.n.length [] ↔ PI b.n.length a.n.length (relN a b) q :=
  genL_PI (fun l x => by simp [oN, okN, relN]) q
theorem memE (a b : Gr) (nodes q : List Int) : q ∈ genL (oE a b nodes) a.e.length b.e.length [] ↔ PI b.e.length a.e.length (relE a b nodes) q :=
  genL_PI (fun l x => by simp [oE, okE, relE]) q
/-! ### Turned round -/
theorem idxP_cases {α : Type} (p : α → Bool) : ∀ (l : List α), (idxP p l = -1 ∧ ∀ x ∈ l, p x = false) ∨ ∃ (k : Nat) (h : k < l.length), idxP p l = (k : Int) ∧ p l[k] = true
  | [] => .inl ⟨rfl, by simp⟩
  | x :: l => by
    by_cases hx : p x = true
    · exact .inr ⟨0, by simp, by simp [idxP, hx], by simpa using hx⟩
    · rcases idxP_cases p l with ⟨h1, h2⟩ | ⟨k, hk, h1, h2⟩
      · refine .inl ⟨by simp [idxP, hx, h1], ?_⟩
        intro y hy
        rcases List.mem_cons.1 hy with rfl | hy
        · simpa using hx
        · exact h2 y hy
      · refine .inr ⟨k + 1, by simp; omega, ?_, by simpa using h2⟩
        simp only [idxP, hx, Bool.false_eq_true, if_false, h1]
        rw [if_neg (by omega)]
        rfl
/-! ### Pairs of matchings -/
def ovP (a b : Gr) : List (List Int × List Int) := (genL (oN a b) a.n.length b.n.length []).flatMap fun nodes => (genL (oE a b nodes) a.e.length b.e.length []).map fun edges => (nodes, edges)
def isM (a b : Gr) (p : List Int × List Int) : Prop := PI b.n.length a.n.length (relN a b) p.1 ∧ PI b.e.length a.e.length (relE a b p.1) p.2
theorem memP (a b : Gr) (p : List Int × List Int) : p ∈ ovP a b ↔ isM a b p := by
  unfold ovP isM
  rw [List.mem_flatMap]
  constructor
  · rintro ⟨nodes, h1, h2⟩
    obtain ⟨edges, h3, rfl⟩ := List.mem_map.1 h2
    exact ⟨(memN a b _).1 h1, (memE a b _ _).1 h3⟩
  · rintro ⟨h1, h2⟩
    exact ⟨p.1, (memN a b _).2 h1, List.mem_map.2 ⟨p.2, (memE a b _ _).2 h2, rfl⟩⟩
theorem ovN_pairs (a b : Gr) : (genL (oN a b) a.n.length b.n.length []).flatMap (ovF a b) = (ovP a b).map fun p => glue a b p.1 p.2 := by
  unfold ovP ovF
  rw [List.map_flatMap]
  refine flat_congr fun nodes _ => ?_
  rw [List.map_map]
  rfl
/-- The overlaps of valid graphs that are small together. -/
theorem ovS_eq {a b : Gr} (ha : gErr a = 0) (hb : gErr b = 0) (hs : a.n.length + b.n.length ≤ 40 ∧ a.e.length + b.e.length ≤ 80) :
    ovS a b = if 2000 < (ovP a b).length then ([], 3) else ((ovP a b).map (fun p => glue a b p.1 p.2), 0) := by
  rw [ovS, if_neg (by simp [ha]), if_neg (by simp [hb]), if_neg (by omega), ovN_cap a b _ _ _ (by simp), List.nil_append, ovN_pairs]
  by_cases h : 2000 < (ovP a b).length
  · rw [if_pos h, if_pos (by rw [List.length_take, List.length_map]; omega)]
  · rw [if_neg h, if_neg (by rw [List.length_take, List.length_map]; omega), List.take_of_length_le (by rw [List.length_map]; omega)]
end Go.Sy

/- Plain law: what the overlap by a pair of matchings is. -/
namespace Go.Sy
open Go Go.Proofs

def gG {α : Type} (a : List α) (f : Nat → α) (q : List Int) : Nat → List α × List Int
  | 0 => (a, [])
  | i + 1 => if q.getD i 0 < 0 then ((gG a f q i).1 ++ [f i], (gG a f q i).2 ++ [((gG a f q i).1.length : Int)]) else ((gG a f q i).1, (gG a f q i).2 ++ [q.getD i 0])
theorem gN_gG (a bn q : List Int) (i : Nat) : gN a bn q i = gG a (fun j => bn.getD j 0) q i := by
  induction i with
  | zero => rfl
  | succ i ih => rw [gN, gG, ih]
def edF (be : List Ed) (R : List Int) (j : Nat) : Ed := ((be.getD j (0, 0, 0)).1, R.getD (be.getD j (0, 0, 0)).2.1.toNat 0, R.getD (be.getD j (0, 0, 0)).2.2.toNat 0)
theorem gE_gG (a be : List Ed) (R q : List Int) (i : Nat) : gE a be R q i = gG a (edF be R) q i := by
  induction i with
  | zero => rfl
  | succ i ih => rw [gE, gG, ih]; rfl
structure GS {α : Type} (a : List α) (f : Nat → α) (q : List Int) (i : Nat) (L : List α) (R : List Int) : Prop where
  len : R.length = i
  pre : ∃ t, L = a ++ t
  val : ∀ j, j < i → 0 ≤ R.getD j 0 ∧ (R.getD j 0).toNat < L.length
  old : ∀ j, j < i → ¬ q.getD j 0 < 0 → R.getD j 0 = q.getD j 0
  new : ∀ j, j < i → q.getD j 0 < 0 → (a.length : Int) ≤ R.getD j 0 ∧ L[(R.getD j 0).toNat]? = some (f j)
  lt : ∀ j k, j < k → k < i → q.getD j 0 < 0 → q.getD k 0 < 0 → R.getD j 0 < R.getD k 0
  cov : ∀ c : Nat, a.length ≤ c → c < L.length → ∃ j, j < i ∧ q.getD j 0 < 0 ∧ R.getD j 0 = (c : Int)
  up : L.length ≤ a.length + i
theorem gG_spec {α : Type} {a : List α} {f : Nat → α} {q : List Int} {n : Nat} (hq : ∀ j, j < n → q.getD j 0 < 0 ∨ (0 ≤ q.getD j 0 ∧ (q.getD j 0).toNat < a.length)) : ∀ i, i ≤ n → GS a f q i (gG a f q i).1 (gG a f q i).2
  | 0, _ => ⟨rfl, ⟨[], by simp [gG]⟩, fun j h => by omega, fun j h => by omega, fun j h => by omega, fun j k _ h => by omega, fun c h1 h2 => by simp [gG] at h2; omega, by simp [gG]⟩
  | i + 1, hi => by
    obtain ⟨h1, ⟨t, h2⟩, h3, h4, h5, h6, h7, h8⟩ := gG_spec (f := f) hq i (by omega)
    rw [gG]
    generalize (gG a f q i).1 = L at *
    generalize (gG a f q i).2 = R at *
    have gl : ∀ (x : Int) (j : Nat), j < i → (R ++ [x]).getD j 0 = R.getD j 0 := fun x j hj => getD_app_lt (by omega)
    have ge : ∀ (x : Int), (R ++ [x]).getD i 0 = x := fun x => getD_app_eq h1
    have la : a.length ≤ L.length := by rw [h2]; simp
    split
    · rename_i hneg
      refine ⟨by simp [h1], ⟨t ++ [f i], by rw [h2]; simp⟩, fun j hj => ?_, fun j hj hn => ?_, fun j hj hn => ?_, fun j k hjk hk hn hm => ?_, fun c hc1 hc2 => ?_, by simp; omega⟩
      · by_cases hji : j = i
        · simp only [hji, ge]
          refine ⟨by omega, by simp⟩
        · simp only [gl _ j (by omega)]
          have := h3 j (by omega)
          have l1 : (L ++ [f i]).length = L.length + 1 := by simp
          exact ⟨this.1, by rw [l1]; omega⟩
      · have hji : j ≠ i := fun e => hn (e ▸ hneg)
        simp only [gl _ j (by omega)]
        exact h4 j (by omega) hn
      · by_cases hji : j = i
        · simp only [hji, ge]
          refine ⟨by omega, by simp⟩
        · simp only [gl _ j (by omega)]
          have := h5 j (by omega) hn
          refine ⟨this.1, ?_⟩
          rw [List.getElem?_append_left (List.getElem?_eq_some_iff.1 this.2).1]
          exact this.2
      · by_cases hki : k = i
        · simp only [hki, ge, gl _ j (by omega)]
          have := h3 j (by omega)
          omega
        · simp only [gl _ k (by omega), gl _ j (by omega)]
          exact h6 j k hjk (by omega) hn hm
      · by_cases hcl : c < L.length
        · obtain ⟨j, j1, j2, j3⟩ := h7 c hc1 hcl
          exact ⟨j, by omega, j2, by rw [gl _ j j1]; exact j3⟩
        · simp at hc2
          exact ⟨i, by omega, hneg, by rw [ge]; omega⟩
    · rename_i hneg
      have hqi := (hq i (by omega)).resolve_left hneg
      refine ⟨by simp [h1], ⟨t, h2⟩, fun j hj => ?_, fun j hj hn => ?_, fun j hj hn => ?_, fun j k hjk hk hn hm => ?_, fun c hc1 hc2 => ?_, by show L.length ≤ _; omega⟩
      · by_cases hji : j = i
        · simp only [hji, ge]
          exact ⟨hqi.1, by omega⟩
        · simp only [gl _ j (by omega)]
          exact h3 j (by omega)
      · by_cases hji : j = i
        · simp only [hji, ge]
        · simp only [gl _ j (by omega)]
          exact h4 j (by omega) hn
      · have hji : j ≠ i := fun e => hneg (e ▸ hn)
        simp only [gl _ j (by omega)]
        exact h5 j (by omega) hn
      · have hki : k ≠ i := fun e => hneg (e ▸ hm)
        simp only [gl _ k (by omega), gl _ j (by omega)]
        exact h6 j k hjk (by omega) hn hm
      · obtain ⟨j, j1, j2, j3⟩ := h7 c hc1 hc2
        exact ⟨j, by omega, j2, by rw [gl _ j j1]; exact j3⟩
theorem GS.mem {α : Type} {a : List α} {f : Nat → α} {q : List Int} {i : Nat} {L : List α} {R : List Int} (h : GS a f q i L R) {x : α} (hx : x ∈ L) : x ∈ a ∨ ∃ j, j < i ∧ q.getD j 0 < 0 ∧ x = f j := by
  obtain ⟨c, hc, rfl⟩ := List.mem_iff_getElem.1 hx
  obtain ⟨t, ht⟩ := h.pre
  by_cases hca : c < a.length
  · left
    subst ht
    rw [List.getElem_append_left hca]
    exact List.getElem_mem hca
  · right
    obtain ⟨j, j1, j2, j3⟩ := h.cov c (by omega) hc
    have := (h.new j j1 j2).2
    rw [j3, Int.toNat_natCast, List.getElem?_eq_getElem hc] at this
    exact ⟨j, j1, j2, Option.some.inj this⟩
theorem GS.old_at {α : Type} {a : List α} {f : Nat → α} {q : List Int} {i : Nat} {L : List α} {R : List Int} (h : GS a f q i L R) {c : Nat} (hc : c < a.length) (d : α) : L.getD c d = a.getD c d := by
  obtain ⟨t, ht⟩ := h.pre
  rw [ht, getD_at (by simp; omega), getD_at hc, List.getElem_append_left hc]
theorem GS.len_le {α : Type} {a : List α} {f : Nat → α} {q : List Int} {i : Nat} {L : List α} {R : List Int} (h : GS a f q i L R) : a.length ≤ L.length := by
  obtain ⟨t, ht⟩ := h.pre
  rw [ht]
  simp
theorem PI.ok {n m : Nat} {R : Nat → Nat → Prop} {q : List Int} (h : PI n m R q) : ∀ j, j < n → q.getD j 0 < 0 ∨ (0 ≤ q.getD j 0 ∧ (q.getD j 0).toNat < m) := by
  intro j hj
  rcases h.val j hj with h1 | ⟨k, hk, h1, _⟩
  · exact .inl (by omega)
  · exact .inr ⟨by omega, by omega⟩
theorem PI.rel {n m : Nat} {R : Nat → Nat → Prop} {q : List Int} (h : PI n m R q) {j : Nat} (hj : j < n) (h0 : ¬ q.getD j 0 < 0) : R j (q.getD j 0).toNat := by
  rcases h.val j hj with h1 | ⟨k, hk, h1, h2⟩
  · omega
  · rw [h1]; exact h2
theorem GS.dist {α : Type} {a : List α} {f : Nat → α} {q : List Int} {n : Nat} {L : List α} {R : List Int} {Q : Nat → Nat → Prop} (h : GS a f q n L R) (hq : PI n a.length Q q) : dist R = true := by
  refine dist_yes fun i hi k hk he => ?_
  rw [h.len] at hi
  have hkn : k < n := by omega
  by_cases h1 : q.getD i 0 < 0
  · have a1 := (h.new i hi h1).1
    by_cases h2 : q.getD k 0 < 0
    · have := h.lt k i hk hi h2 h1
      omega
    · rw [h.old k hkn h2] at he
      have := (hq.ok k hkn).resolve_left h2
      omega
  · rw [h.old i hi h1] at he
    have b1 := (hq.ok i hi).resolve_left h1
    by_cases h2 : q.getD k 0 < 0
    · have := (h.new k hkn h2).1
      omega
    · rw [h.old k hkn h2] at he
      have := hq.inj k i hk hi he.symm
      omega
theorem rng_at {n i : Nat} (h : i < n) : (rng n).getD i 0 = (i : Int) := by
  rw [rng, getD_at (by simpa using h)]
  simp
theorem rng_len (n : Nat) : (rng n).length = n := by simp [rng]
theorem dist_rng (n : Nat) : dist (rng n) = true := by
  refine dist_yes fun i hi k hk he => ?_
  rw [rng_len] at hi
  rw [rng_at hi, rng_at (by omega)] at he
  omega
theorem contains_at {l : List Int} {j : Nat} {x : Int} (h : j < l.length) (e : l.getD j 0 = x) : l.contains x = true := by
  rw [List.contains_iff_mem, ← e, getD_at h]
  exact List.getElem_mem h
theorem GS.cover {α : Type} {a : List α} {f : Nat → α} {q : List Int} {n : Nat} {L : List α} {R : List Int} (h : GS a f q n L R) : Go.Sy.cov L.length (rng a.length) R = true := by
  refine cov_yes fun c hc => ?_
  by_cases hca : c < a.length
  · rw [contains_at (l := rng a.length) (j := c) (by rw [rng_len]; exact hca) (rng_at hca)]
    rfl
  · obtain ⟨j, j1, _, j3⟩ := h.cov c (by omega) hc
    rw [contains_at (l := R) (j := j) (by rw [h.len]; exact j1) j3, Bool.or_true]
/-- What overlap a pair of matchings gives. -/
structure GlueOK (a b : Gr) (p : List Int × List Int) : Prop where
  n : GS a.n (fun j => b.n.getD j 0) p.1 b.n.length (glue a b p.1 p.2).g.n (glue a b p.1 p.2).r.n
  e : GS a.e (edF b.e (glue a b p.1 p.2).r.n) p.2 b.e.length (glue a b p.1 p.2).g.e (glue a b p.1 p.2).r.e
theorem glue_ok {a b : Gr} {p : List Int × List Int} (h : isM a b p) : GlueOK a b p := by
  obtain ⟨h1, h2⟩ := h
  constructor
  · show GS _ _ _ _ (gN a.n b.n p.1 p.1.length).1 (gN a.n b.n p.1 p.1.length).2
    rw [h1.len, gN_gG]
    exact gG_spec h1.ok _ (Nat.le_refl _)
  · show GS _ (edF b.e (gN a.n b.n p.1 p.1.length).2) _ _ (gE a.e b.e (gN a.n b.n p.1 p.1.length).2 p.2 p.2.length).1 (gE a.e b.e (gN a.n b.n p.1 p.1.length).2 p.2 p.2.length).2
    rw [h2.len, gE_gG]
    exact gG_spec h2.ok _ (Nat.le_refl _)
theorem edOK_mono {n m : Nat} {x : Ed} (h : edOK n x) (hnm : n ≤ m) : edOK m x := by
  unfold edOK at h ⊢
  omega
theorem glue_small {a b : Gr} {p : List Int × List Int} (hs : a.n.length + b.n.length ≤ 40 ∧ a.e.length + b.e.length ≤ 80) (h : isM a b p) : (glue a b p.1 p.2).g.n.length ≤ 40 ∧ (glue a b p.1 p.2).g.e.length ≤ 80 := by
  have hg := glue_ok h
  have un := hg.n.up
  have ue := hg.e.up
  omega
theorem glue_valid {a b : Gr} {p : List Int × List Int} (ha : gErr a = 0) (hb : gErr b = 0) (hs : (glue a b p.1 p.2).g.n.length ≤ 40 ∧ (glue a b p.1 p.2).g.e.length ≤ 80) (h : isM a b p) : gErr (glue a b p.1 p.2).g = 0 := by
  obtain ⟨_, va1, va2⟩ := gErr_small ha
  obtain ⟨_, vb1, vb2⟩ := gErr_small hb
  have hg := glue_ok h
  have un := hg.n.up
  have ue := hg.e.up
  have ll := hg.n.len_le
  rw [gErr, if_pos (by omega), if_pos]
  refine ⟨fun t ht => ?_, fun x hx => ?_⟩
  · rcases hg.n.mem ht with h1 | ⟨j, j1, _, rfl⟩
    · exact va1 t h1
    · show 0 ≤ b.n.getD j 0 ∧ b.n.getD j 0 ≤ 99
      rw [getD_at j1]
      exact vb1 _ (List.getElem_mem j1)
  · rcases hg.e.mem hx with h1 | ⟨j, j1, _, rfl⟩
    · exact edOK_mono (va2 x h1) ll
    · have hv := vb2 _ (List.getElem_mem j1)
      have v1 := hg.n.val b.e[j].2.1.toNat (by have := hv.2; omega)
      have v2 := hg.n.val b.e[j].2.2.toNat (by have := hv.2; omega)
      unfold edF edOK
      rw [getD_at j1]
      refine ⟨hv.1, v1.1, ?_, v2.1, ?_⟩
      · show (glue a b p.1 p.2).r.n.getD b.e[j].2.1.toNat 0 < _
        omega
      · show (glue a b p.1 p.2).r.n.getD b.e[j].2.2.toNat 0 < _
        omega
theorem mErr_zero {a b : Gr} {m : Mo} (ha : gErr a = 0) (hb : gErr b = 0) (h1 : m.n.length = a.n.length) (h2 : m.e.length = a.e.length) (h3 : ∀ i, i < a.n.length → nodeErr a b m i = 0) (h4 : ∀ i, i < a.e.length → edgeErr a b m i = 0) : mErr a b m = 0 := by
  rw [mErr, if_neg (by simp [ha]), if_neg (by simp [hb]), if_neg (by omega), firstErr_zero h3, if_neg (by simp), firstErr_zero h4]
theorem glue_left {a b : Gr} {p : List Int × List Int} (ha : gErr a = 0) (hb : gErr b = 0) (hs : (glue a b p.1 p.2).g.n.length ≤ 40 ∧ (glue a b p.1 p.2).g.e.length ≤ 80) (h : isM a b p) : mErr a (glue a b p.1 p.2).g (glue a b p.1 p.2).l = 0 := by
  obtain ⟨_, va1, va2⟩ := gErr_small ha
  have hg := glue_ok h
  have ln := hg.n.len_le
  have le := hg.e.len_le
  refine mErr_zero ha (glue_valid ha hb hs h) (rng_len _) (rng_len _) (fun i hi => ?_) (fun i hi => ?_)
  · have e : (glue a b p.1 p.2).l.n.getD i 0 = (i : Int) := rng_at hi
    rw [nodeErr, e, if_neg (by omega), Int.toNat_natCast, hg.n.old_at hi, if_neg (by simp)]
  · have e : (glue a b p.1 p.2).l.e.getD i 0 = (i : Int) := rng_at hi
    have hv := (va2 _ (List.getElem_mem hi)).2
    have e1 : (glue a b p.1 p.2).l.n.getD a.e[i].2.1.toNat 0 = a.e[i].2.1 := by
      have : (glue a b p.1 p.2).l.n.getD a.e[i].2.1.toNat 0 = (a.e[i].2.1.toNat : Int) := rng_at (by omega)
      omega
    have e2 : (glue a b p.1 p.2).l.n.getD a.e[i].2.2.toNat 0 = a.e[i].2.2 := by
      have : (glue a b p.1 p.2).l.n.getD a.e[i].2.2.toNat 0 = (a.e[i].2.2.toNat : Int) := rng_at (by omega)
      omega
    rw [edgeErr, e, if_neg (by omega), Int.toNat_natCast, hg.e.old_at hi, if_neg (by simp), getD_at hi, e1, e2, if_neg (by simp)]
theorem glue_right {a b : Gr} {p : List Int × List Int} (ha : gErr a = 0) (hb : gErr b = 0) (hs : (glue a b p.1 p.2).g.n.length ≤ 40 ∧ (glue a b p.1 p.2).g.e.length ≤ 80) (h : isM a b p) : mErr b (glue a b p.1 p.2).g (glue a b p.1 p.2).r = 0 := by
  obtain ⟨_, va1, va2⟩ := gErr_small ha
  obtain ⟨_, vb1, vb2⟩ := gErr_small hb
  have hg := glue_ok h
  refine mErr_zero hb (glue_valid ha hb hs h) hg.n.len hg.e.len (fun i hi => ?_) (fun i hi => ?_)
  · have v := hg.n.val i hi
    rw [nodeErr, if_neg (by omega), if_neg]
    simp only [ne_eq, Decidable.not_not]
    by_cases h0 : p.1.getD i 0 < 0
    · have := (hg.n.new i hi h0).2
      rw [List.getD_eq_getElem?_getD, this]
      rfl
    · have h1 := (h.1.ok i hi).resolve_left h0
      rw [hg.n.old i hi h0, hg.n.old_at h1.2]
      exact h.1.rel hi h0
  · have v := hg.e.val i hi
    have hv := (vb2 _ (List.getElem_mem hi)).2
    rw [edgeErr, if_neg (by omega)]
    by_cases h0 : p.2.getD i 0 < 0
    · have := (hg.e.new i hi h0).2
      rw [List.getD_eq_getElem?_getD (l := (glue a b p.1 p.2).g.e), this]
      simp [edF]
    · have h1 := (h.2.ok i hi).resolve_left h0
      have hr : a.e.getD (p.2.getD i 0).toNat (0, 0, 0) = _ := h.2.rel hi h0
      have hm := va2 _ (List.getElem_mem h1.2)
      rw [← getD_at h1.2 (d := (0, 0, 0))] at hm
      rw [hr] at hm
      rw [hg.e.old i hi h0, hg.e.old_at h1.2, hr]
      rw [getD_at hi] at hm ⊢
      have hm1 : 0 ≤ p.1.getD b.e[i].2.1.toNat 0 := hm.2.1
      have hm2 : 0 ≤ p.1.getD b.e[i].2.2.toNat 0 := hm.2.2.2.1
      rw [hg.n.old b.e[i].2.1.toNat (by omega) (by omega), hg.n.old b.e[i].2.2.toNat (by omega) (by omega)]
      simp
theorem glue_all {a b : Gr} {p : List Int × List Int} (ha : gErr a = 0) (hb : gErr b = 0) (hs : (glue a b p.1 p.2).g.n.length ≤ 40 ∧ (glue a b p.1 p.2).g.e.length ≤ 80) (h : isM a b p) :
    injR a (glue a b p.1 p.2).g (glue a b p.1 p.2).l = true ∧ injR b (glue a b p.1 p.2).g (glue a b p.1 p.2).r = true ∧ jnt a b (glue a b p.1 p.2).g (glue a b p.1 p.2).l (glue a b p.1 p.2).r = true := by
  have hg := glue_ok h
  have m1 := glue_left ha hb hs h
  have m2 := glue_right ha hb hs h
  have d1 : dist (glue a b p.1 p.2).l.n = true := dist_rng _
  have d2 : dist (glue a b p.1 p.2).l.e = true := dist_rng _
  have d3 := hg.n.dist h.1
  have d4 := hg.e.dist h.2
  have c1 : cov (glue a b p.1 p.2).g.n.length (glue a b p.1 p.2).l.n (glue a b p.1 p.2).r.n = true := hg.n.cover
  have c2 : cov (glue a b p.1 p.2).g.e.length (glue a b p.1 p.2).l.e (glue a b p.1 p.2).r.e = true := hg.e.cover
  unfold injR jnt
  rw [m1, m2, d1, d2, d3, d4, c1, c2]
  exact ⟨rfl, rfl, rfl⟩
/-! ### The first -/
end Go.Sy

/- FactorListed: the law's contract. -/
set_option linter.unusedSimpArgs false
namespace Go.Sy
open Go Go.Proofs

theorem made_ok {d : Dr} (hd : drOK d) : gErr (made d) = 0 ∧ (made d).n.length ≤ 8 ∧ (made d).e.length ≤ 10 := by
  have l1 : (made d).n.length ≤ 8 := by simp [made]; omega
  have l2 : (made d).e.length ≤ 10 := by
    unfold made
    show (if d.n = [] then [] else _ : List Ed).length ≤ 10
    split
    · simp
    · simp; omega
  refine ⟨?_, l1, l2⟩
  rw [gErr, if_pos (by omega), if_pos]
  refine ⟨fun t ht => ?_, fun x hx => ?_⟩
  · obtain ⟨y, hy, rfl⟩ := List.mem_map.1 ht
    have := hd.1 y (List.mem_of_mem_take hy)
    have := tmod_byte (n := 3) this.1 (by decide)
    omega
  · have hx : x ∈ (if d.n = [] then [] else (d.e.take 10).map (mkE (d.n.take 8).length) : List Ed) := hx
    split at hx
    · simp at hx
    · rename_i hne
      obtain ⟨y, hy, rfl⟩ := List.mem_map.1 hx
      have hb := hd.2 y (List.mem_of_mem_take hy)
      have hpos : 0 < d.n.length := List.length_pos_iff.2 hne
      have hl : (made d).n.length = (d.n.take 8).length := by simp [made]
      have hp : (0 : Int) < ((d.n.take 8).length : Int) := by rw [List.length_take]; omega
      have x1 := tmod_byte (n := 2) hb.1.1 (by decide)
      have x2 := tmod_byte (n := ((d.n.take 8).length : Int)) hb.2.1.1 hp
      have x3 := tmod_byte (n := ((d.n.take 8).length : Int)) hb.2.2.1 hp
      rw [hl]
      unfold edOK mkE
      dsimp only
      omega
end Go.Sy

/- Plain law: a list's different numbers, ascending; there are as many as it has places just where no number occurs twice. -/
namespace Go.Sy
open Go Go.Proofs

/-- The different numbers, ascending. -/
def sq (l : List Int) : List Int := Lib.compact (l.mergeSort fun x y => decide (x ≤ y))

theorem sq_len (l : List Int) : (sq l).length ≤ l.length := by
  have := Lib.compact_length_le (l.mergeSort fun x y => decide (x ≤ y))
  rw [List.length_mergeSort] at this
  exact this

theorem cu_spec {d : Array Int} (hs : ∀ i j, i ≤ j → j < d.size → d[i]! ≤ d[j]!) : ∀ m, m ≤ d.size →
    (Lib.compactUpTo d m).Pairwise (· < ·) ∧ (∀ x, x ∈ Lib.compactUpTo d m ↔ ∃ j, j < m ∧ d[j]! = x) ∧ (Lib.compactUpTo d m).length ≤ m ∧ ((Lib.compactUpTo d m).length = m → ∀ i j, i < j → j < m → d[i]! < d[j]!)
  | 0, _ => by
    refine ⟨by simp [Lib.compactUpTo], fun x => ?_, by simp [Lib.compactUpTo], fun _ i j _ h => by omega⟩
    simp [Lib.compactUpTo]
  | m + 1, hm => by
    obtain ⟨h1, h2, h3, h4⟩ := cu_spec hs m (by omega)
    rw [Lib.compactUpTo_succ]
    by_cases hk : Lib.keeps d m = true
    · rw [if_pos hk]
      have hlt : ∀ j, j < m → d[j]! < d[m]! := by
        intro j hj
        have hk' : m = 0 ∨ d[m]! ≠ d[m - 1]! := by simpa [Lib.keeps] using hk
        have a1 := hs j (m - 1) (by omega) (by omega)
        have a2 := hs (m - 1) m (by omega) (by omega)
        rcases hk' with h | h
        · omega
        · omega
      refine ⟨?_, fun x => ?_, by simp; omega, fun hl i j hij hj => ?_⟩
      · rw [List.pairwise_append]
        refine ⟨h1, by simp, fun x hx y hy => ?_⟩
        obtain ⟨j, hj, rfl⟩ := (h2 x).1 hx
        rw [List.mem_singleton.1 hy]
        exact hlt j hj
      · rw [List.mem_append, h2, List.mem_singleton]
        constructor
        · rintro (⟨j, hj, rfl⟩ | rfl)
          · exact ⟨j, by omega, rfl⟩
          · exact ⟨m, by omega, rfl⟩
        · rintro ⟨j, hj, rfl⟩
          by_cases hjm : j = m
          · exact .inr (by rw [hjm])
          · exact .inl ⟨j, by omega, rfl⟩
      · by_cases hjm : j = m
        · rw [hjm]; exact hlt i (by omega)
        · exact h4 (by simpa using hl) i j hij (by omega)
    · have hk0 : Lib.keeps d m = false := by simpa using hk
      rw [if_neg hk, List.append_nil]
      have hk' : ¬ (m = 0 ∨ d[m]! ≠ d[m - 1]!) := by
        intro h
        apply hk
        simp [Lib.keeps, h]
      have hm0 : m ≠ 0 := fun h => hk' (.inl h)
      have he : d[m]! = d[m - 1]! := Decidable.not_not.1 fun h => hk' (.inr h)
      refine ⟨h1, fun x => ?_, by omega, fun hl => by omega⟩
      rw [h2]
      constructor
      · rintro ⟨j, hj, rfl⟩; exact ⟨j, by omega, rfl⟩
      · rintro ⟨j, hj, rfl⟩
        by_cases hjm : j = m
        · exact ⟨m - 1, by omega, by rw [hjm, he]⟩
        · exact ⟨j, by omega, rfl⟩

theorem bang_at {s : List Int} {j : Nat} (h : j < s.length) : s.toArray[j]! = s[j] := by
  rw [getElem!_pos s.toArray j (show j < s.toArray.size by simpa using h)]
  simp
theorem ms_sorted (l : List Int) : ∀ i j, i ≤ j → j < (l.mergeSort fun x y => decide (x ≤ y)).toArray.size → (l.mergeSort fun x y => decide (x ≤ y)).toArray[i]! ≤ (l.mergeSort fun x y => decide (x ≤ y)).toArray[j]! := by
  intro i j hij hj
  have hp := List.pairwise_mergeSort (le := fun x y : Int => decide (x ≤ y)) (fun a b c h1 h2 => by simp at h1 h2 ⊢; omega) (fun a b => by simp; omega) l
  generalize l.mergeSort (fun x y => decide (x ≤ y)) = s at *
  have hj' : j < s.length := by simpa using hj
  by_cases h : i = j
  · rw [h]; exact Int.le_refl _
  · have := (List.pairwise_iff_getElem.1 hp) i j (by omega) hj' (by omega)
    simp only [decide_eq_true_eq] at this
    simpa [getElem!_pos, hj', show i < s.length by omega] using this

theorem dist_nodup (l : List Int) : dist l = true ↔ l.Nodup := by
  constructor
  · intro h
    have h := List.all_eq_true.1 h
    refine List.pairwise_iff_getElem.2 fun i j hi hj hij e => ?_
    have h1 := List.all_eq_true.1 (h j (List.mem_range.2 hj)) i (List.mem_range.2 hij)
    simp only [decide_eq_true_eq] at h1
    exact h1 (by rw [getD_at hi, getD_at hj, e])
  · intro h
    refine dist_yes fun i hi k hk => ?_
    rw [getD_at hi, getD_at (show k < l.length by omega)]
    exact fun e => List.pairwise_iff_getElem.1 h k i (by omega) hi hk e.symm

theorem sq_dist (l : List Int) : (sq l).length = l.length ↔ dist l = true := by
  rw [dist_nodup, ← (List.mergeSort_perm l fun x y => decide (x ≤ y)).nodup_iff]
  have hsl : (l.mergeSort fun x y => decide (x ≤ y)).length = l.length := List.length_mergeSort l
  constructor
  · intro h
    have h4 := (cu_spec (ms_sorted l) (l.mergeSort fun x y => decide (x ≤ y)).length (by simp)).2.2.2 (by rw [show Lib.compactUpTo (l.mergeSort fun x y => decide (x ≤ y)).toArray (l.mergeSort fun x y => decide (x ≤ y)).length = sq l from rfl, hsl]; exact h)
    refine List.pairwise_iff_getElem.2 fun i j hi hj hij e => ?_
    have := h4 i j hij hj
    rw [bang_at hi, bang_at hj] at this
    omega
  · intro h
    have : sq l = l.mergeSort fun x y => decide (x ≤ y) := by
      refine Lib.compact_all _ fun j hj => ?_
      by_cases h0 : j = 0
      · subst h0; simp [Lib.keeps]
      · refine Lib.keeps_pos fun e => ?_
        have h1 := List.pairwise_iff_getElem.1 h (j - 1) j (by omega) hj (by omega)
        apply h1
        have hj' : j - 1 < (l.mergeSort fun x y => decide (x ≤ y)).length := by omega
        rw [bang_at hj, bang_at hj'] at e
        exact e.symm
    rw [this, hsl]
end Go.Sy

/- The library's sort, clone, compaction and product at this program: laid by the kit's tool. -/
namespace Go.Proofs
open Go.Shelf
def Try.lays189_ren : Go.Shelf.Ren := ⟨fun | 189 => 148 | 125 => 164 | 257 => 163 | 128 => 176 | 129 => 177 | 294 => 167 | 295 => 168 | 296 => 169 | 297 => 170 | 298 => 171 | 299 => 172 | 216 => 173 | 300 => 174 | 301 => 175 | 328 => 180 | 329 => 181 | 330 => 182 | 331 => 183 | 332 => 184 | 215 => 185 | 343 => 186 | n => n, fun | 28 => 22 | 3 => 3 | 46 => 197 | 0 => 0 | 51 => 210 | 53 => 212 | 4 => 4 | 183 => 203 | 182 => 202 | 131 => 207 | 5 => 5 | 9 => 9 | 218 => 217 | 222 => 221 | 228 => 223 | 229 => 149 | n => n, fun | n => n⟩
theorem Try.lays189 : Go.Proofs.Lays.n189 Try.prog Try.lays189_ren := {
  mixed := by kernel_rfl
  f125 := Try.func164.trans (congrArg some (by kernel_rfl))
  f128 := Try.func176.trans (congrArg some (by kernel_rfl))
  f129 := Try.func177.trans (congrArg some (by kernel_rfl))
  f189 := Try.func148.trans (congrArg some (by kernel_rfl))
  f215 := Try.func185.trans (congrArg some (by kernel_rfl))
  f216 := Try.func173.trans (congrArg some (by kernel_rfl))
  f257 := Try.func163.trans (congrArg some (by kernel_rfl))
  f294 := Try.func167.trans (congrArg some (by kernel_rfl))
  f295 := Try.func168.trans (congrArg some (by kernel_rfl))
  f296 := Try.func169.trans (congrArg some (by kernel_rfl))
  f297 := Try.func170.trans (congrArg some (by kernel_rfl))
  f298 := Try.func171.trans (congrArg some (by kernel_rfl))
  f299 := Try.func172.trans (congrArg some (by kernel_rfl))
  f300 := Try.func174.trans (congrArg some (by kernel_rfl))
  f301 := Try.func175.trans (congrArg some (by kernel_rfl))
  f328 := Try.func180.trans (congrArg some (by kernel_rfl))
  f329 := Try.func181.trans (congrArg some (by kernel_rfl))
  f330 := Try.func182.trans (congrArg some (by kernel_rfl))
  f331 := Try.func183.trans (congrArg some (by kernel_rfl))
  f332 := Try.func184.trans (congrArg some (by kernel_rfl))
  f343 := Try.func186.trans (congrArg some (by kernel_rfl))
  t0 := Try.underlying0
  a0 := Try.isAgg0
  z0 := Try.sizeOf0
  v0 := Try.zeroValue0
  t3 := Try.underlying3
  a3 := Try.isAgg3
  z3 := Try.sizeOf3
  v3 := Try.zeroValue3
  t4 := Try.underlying4
  a4 := Try.isAgg4
  z4 := Try.sizeOf4
  v4 := Try.zeroValue4
  t5 := Try.underlying5
  a5 := Try.isAgg5
  z5 := Try.sizeOf5
  v5 := Try.zeroValue5
  t9 := Try.underlying9
  a9 := Try.isAgg9
  z9 := Try.sizeOf9
  v9 := Try.zeroValue9
  t28 := Try.underlying22
  a28 := Try.isAgg22
  z28 := Try.sizeOf22
  v28 := Try.zeroValue22
  t46 := Try.underlying197
  a46 := Try.isAgg197
  z46 := Try.sizeOf197
  v46 := Try.zeroValue197
  t51 := Try.underlying210
  a51 := Try.isAgg210
  z51 := Try.sizeOf210
  v51 := Try.zeroValue210
  t53 := Try.underlying212
  a53 := Try.isAgg212
  z53 := Try.sizeOf212
  v53 := Try.zeroValue212
  t131 := Try.underlying207
  a131 := Try.isAgg207
  z131 := Try.sizeOf207
  v131 := Try.zeroValue207
  t182 := Try.underlying202
  a182 := Try.isAgg202
  z182 := Try.sizeOf202
  v182 := Try.zeroValue202
  t183 := Try.underlying203
  a183 := Try.isAgg203
  z183 := Try.sizeOf203
  v183 := Try.zeroValue203
  t218 := Try.underlying217
  a218 := Try.isAgg217
  z218 := Try.sizeOf217
  v218 := Try.zeroValue217
  t222 := Try.underlying221
  a222 := Try.isAgg221
  z222 := Try.sizeOf221
  v222 := Try.zeroValue221
  t228 := Try.underlying223
  a228 := Try.isAgg223
  z228 := Try.sizeOf223
  v228 := Try.zeroValue223
  t229 := Try.underlying149
  a229 := Try.isAgg149
  z229 := Try.sizeOf149
  v229 := Try.zeroValue149 }
open Go.Sort Go.RowKit in
theorem Try.slices_Sort_int (blk off cap : Nat) (zs : List Int) (w : World) (hH : Holds (Value.int .i64) w blk off zs.toArray) (hblk : blk < w.heap.size) (hsz : zs.length < 4611686018427387904) :
    Calls Try.prog 148 #[.slice (some ⟨blk, off, none⟩) zs.length cap] w fun e w' =>
      e = .returned (.tuple #[]) ∧ ∃ n os, w' = grow (putRow (Value.int .i64) (Sort.ahead w n) blk off (zs.mergeSort fun x y => decide (x ≤ y)).toArray) os := Any.slices_Sort_int Try.lays189 blk off cap zs w hH hblk hsz
def Try.lays212_ren : Go.Shelf.Ren := ⟨fun | 212 => 165 | 263 => 178 | 264 => 179 | n => n, fun | 46 => 197 | 51 => 210 | 146 => 213 | 53 => 212 | 148 => 215 | n => n, fun | n => n⟩
theorem Try.lays212 : Go.Proofs.Lays.n212 Try.prog Try.lays212_ren := {
  mixed := by kernel_rfl
  f212 := Try.func165.trans (congrArg some (by kernel_rfl))
  f263 := Try.func178.trans (congrArg some (by kernel_rfl))
  f264 := Try.func179.trans (congrArg some (by kernel_rfl))
  t46 := Try.underlying197
  a46 := Try.isAgg197
  z46 := Try.sizeOf197
  v46 := Try.zeroValue197
  t51 := Try.underlying210
  a51 := Try.isAgg210
  z51 := Try.sizeOf210
  v51 := Try.zeroValue210
  t53 := Try.underlying212
  a53 := Try.isAgg212
  z53 := Try.sizeOf212
  v53 := Try.zeroValue212
  t146 := Try.underlying213
  a146 := Try.isAgg213
  z146 := Try.sizeOf213
  v146 := Try.zeroValue213
  t148 := Try.underlying215
  a148 := Try.isAgg215
  z148 := Try.sizeOf215
  v148 := Try.zeroValue215 }
open Go.RowKit Go.Lib in
theorem Try.bits_Mul (x y : Nat) (hx : x < 18446744073709551616) (hy : y < 18446744073709551616) (w : World) :
    Calls Try.prog 165 #[.int .u64 x, .int .u64 y] w fun e w' => e = .returned (.tuple #[.int .u64 ((x * y / 18446744073709551616 : Nat) : Int), .int .u64 ((x * y % 18446744073709551616 : Nat) : Int)]) ∧ w' = w := Any.bits_Mul Try.lays212 x y hx hy w
def Try.laysNm215_ren : Go.Shelf.Ren := ⟨fun | 15 => 78 | n => n, fun | 22 => 22 | 3 => 3 | 4 => 4 | n => n, fun | n => n⟩
theorem Try.laysNm215 : Go.Proofs.Lays2.n15 Try.prog Try.laysNm215_ren := {
  mixed := by kernel_rfl
  f15 := Try.func78.trans (congrArg some (by kernel_rfl))
  t3 := Try.underlying3
  a3 := Try.isAgg3
  z3 := Try.sizeOf3
  v3 := Try.zeroValue3
  t4 := Try.underlying4
  a4 := Try.isAgg4
  z4 := Try.sizeOf4
  v4 := Try.zeroValue4
  t22 := Try.underlying22
  a22 := Try.isAgg22
  z22 := Try.sizeOf22
  v22 := Try.zeroValue22
  i3 := by kernel_rfl }
open Go.RowKit Go.Lib in
theorem Try.slices_Clone_int (b off n c : Nat) (zs : List Int) (w : World) (hz : n ≤ zs.length) (hbig : n * 8 ≤ 140737488355328) (hc : ∀ j, j < zs.length → w.cell? ⟨b, off + j, none⟩ = some (.int .i64 (zs.getD j 0))) :
    Calls Try.prog 78 #[.slice (some ⟨b, off, none⟩) n c] w fun e w' => ∃ v', e = .returned v' ∧ w'.ownsRow w.heap.size 3 1 v' n ((zs.take n).map (Value.int .i64)) ∧ v' ≠ .slice none 0 0 ∧ Below w.heap.size w w' := Any.slices_Clone_int Try.laysNm215 b off n c zs w hz hbig hc
open Go.RowKit Go.Lib in
theorem Try.slices_Clone_int_nil (n c : Nat) (w : World) :
    Calls Try.prog 78 #[.slice none n c] w fun e w' => e = .returned (.slice none 0 0) ∧ w' = w := Any.slices_Clone_int_nil Try.laysNm215 n c w
open Go.RowKit Go.Lib in
theorem Try.slices_Clone_int_zero (a : Addr) (c : Nat) (w : World) :
    Calls Try.prog 78 #[.slice (some a) 0 c] w fun e w' => ∃ v', e = .returned v' ∧ w'.ownsRow w.heap.size 3 1 v' 0 [] ∧ v' ≠ .slice none 0 0 ∧ Below w.heap.size w w' := Any.slices_Clone_int_zero Try.laysNm215 a c w
def Try.laysNm220_ren : Go.Shelf.Ren := ⟨fun | 20 => 138 | n => n, fun | 22 => 22 | 3 => 3 | 4 => 4 | 0 => 0 | n => n, fun | n => n⟩
theorem Try.laysNm220 : Go.Proofs.Lays2.n20 Try.prog Try.laysNm220_ren := {
  mixed := by kernel_rfl
  f20 := Try.func138.trans (congrArg some (by kernel_rfl))
  t0 := Try.underlying0
  a0 := Try.isAgg0
  z0 := Try.sizeOf0
  v0 := Try.zeroValue0
  t3 := Try.underlying3
  a3 := Try.isAgg3
  z3 := Try.sizeOf3
  v3 := Try.zeroValue3
  t4 := Try.underlying4
  a4 := Try.isAgg4
  z4 := Try.sizeOf4
  v4 := Try.zeroValue4
  t22 := Try.underlying22
  a22 := Try.isAgg22
  z22 := Try.sizeOf22
  v22 := Try.zeroValue22
  i3 := by kernel_rfl }
open Go.RowKit Go.Lib Go.Sort in
theorem Try.slices_Compact_int (blk off cap : Nat) (zs : List Int) (w : World) (hH : Holds (Value.int .i64) w blk off zs.toArray) (hsz : zs.length ≤ 9223372036854775807) (hcap : zs.length ≤ cap) :
    Calls Try.prog 138 #[.slice (some ⟨blk, off, none⟩) zs.length cap] w fun e w' => e = .returned (.slice (some ⟨blk, off, none⟩) (Lib.compact zs).length cap) ∧ ∃ q, w' = putRow (Value.int .i64) (Sort.ahead w q) blk off (Lib.compact zs ++ List.replicate (zs.length - (Lib.compact zs).length) 0).toArray := Any.slices_Compact_int Try.laysNm220 blk off cap zs w hH hsz hcap
open Go.RowKit Go.Lib Go.Sort in
theorem Try.slices_Compact_int_empty (a : Option Addr) (cap : Nat) (w : World) :
    Calls Try.prog 138 #[.slice a 0 cap] w fun e w' => e = .returned (.slice a 0 cap) ∧ w' = w := Any.slices_Compact_int_empty Try.laysNm220 a cap w
open Go.RowKit Go.Sort in
theorem Try.slices_Sort_int_none (p : Option Addr) (cap : Nat) (w : World) :
    Calls Try.prog 148 #[.slice p 0 cap] w fun e w' => e = .returned (.tuple #[]) ∧ w' = w := Any.slices_Sort_int_none Try.lays189 p cap w
end Go.Proofs

/- How many different numbers a list has, as the program counts them: a clone, sorted and compacted. The sorted, compacted list of a list's numbers. -/
namespace Go.Sy
open Go Go.RowKit Go.Sort Go.Proofs Go.Shelf

set_option maxHeartbeats 2000000 in
set_option maxRecDepth 100000 in
theorem img_tail (n : Nat) (arg : Value) (ss : List Int) (w : World) (hn : n ≤ 1000000)
    (hclone : Calls Try.prog 78 #[arg] w fun e w' => ∃ v', e = .returned v' ∧ w'.ownsRow w.heap.size 3 1 v' n (ss.map (Value.int .i64)) ∧ v' ≠ .slice none 0 0 ∧ Below w.heap.size w w') :
    Calls Try.prog 123 #[arg] w fun e w' => e = .returned (.int .i64 (sq ss).length) ∧ Below w.heap.size w w' := by
  go_enter Try.func123, Try.ntmps123
  go_wp2_with (first
    | (go_at_call 78; refine hclone.mono ?_; rintro e w1 ⟨v1, rfl, hown, hnn, hbel⟩
       obtain ⟨g, cap, rfl, hbg, hgl, hncap, hcm, hlen, hH⟩ := Lib.holds_of_ownsRow hown hnn
       have hsort := Try.slices_Sort_int g 0 cap ss w1 hH hgl (by omega)
       rw [hlen] at hsort
       have X : Aside (Below w.heap.size w w1 ∧ w.heap.size ≤ g ∧ g < w1.heap.size ∧ n ≤ cap ∧ ss.length = n ∧ Holds (Value.int .i64) w1 g 0 ss.toArray) := ⟨hbel, hbg, hgl, hncap, hlen, hH⟩
       clear hown hbel hH hnn)
    | (go_at_call 148; refine hsort.mono ?_; rintro e w2 ⟨rfl, nn, os, rfl⟩
       have hl2 : (ss.mergeSort fun x y => decide (x ≤ y)).length = n := by rw [List.length_mergeSort]; exact X.out.2.2.2.2.1
       have hH2 : Holds (Value.int .i64) (grow (putRow (Value.int .i64) (Sort.ahead w1 nn) g 0 (ss.mergeSort fun x y => decide (x ≤ y)).toArray) os) g 0 (ss.mergeSort fun x y => decide (x ≤ y)).toArray :=
         holds_grow (Value.int .i64) _ os g 0 _ (by simpa [putRow, mapBlock, Sort.ahead] using X.out.2.2.1) (holds_putRow (Value.int .i64) _ g 0 _ _ (holds_ahead (Value.int .i64) w1 nn g 0 _ X.out.2.2.2.2.2) (by simp))
       have hcomp := Try.slices_Compact_int g 0 cap (ss.mergeSort fun x y => decide (x ≤ y)) _ hH2 (by omega) (by have := X.out.2.2.2.1; omega)
       rw [hl2] at hcomp
       clear hH2 hsort)
    | (go_at_call 138; refine hcomp.mono ?_; rintro e w3 ⟨rfl, q, rfl⟩))
  go_ret
  exact ⟨rfl, Lib.below_putRow (X.out.1.grown (grownBy_sortedI _) X.out.1.size (fun j hj => by cases hj; exact X.out.2.1)) X.out.2.1⟩

set_option maxHeartbeats 2000000 in
theorem img_nil_c (c : Nat) (w : World) : Calls Try.prog 123 #[.slice none 0 c] w fun e w' => e = .returned (.int .i64 0) ∧ w' = w := by
  go_enter Try.func123, Try.ntmps123
  go_wp2_with (first
    | (go_at_call 78; refine (Try.slices_Clone_int_nil 0 c _).mono ?_; rintro e w' ⟨rfl, rfl⟩)
    | (go_at_call 148; refine (Try.slices_Sort_int_none none 0 _).mono ?_; rintro e w' ⟨rfl, rfl⟩)
    | (go_at_call 138; refine (Try.slices_Compact_int_empty none 0 _).mono ?_; rintro e w' ⟨rfl, rfl⟩))
  go_ret
  exact ⟨rfl, rfl⟩

theorem cell_ltS {w : World} {b o : Nat} {v : Value} (h : w.cell? ⟨b, o, none⟩ = some v) : b < w.heap.size := by
  rcases Nat.lt_or_ge b w.heap.size with h1 | h1
  · exact h1
  · simp [World.cell?, Array.getElem?_eq_none h1] at h
theorem cw_below {C : CMap} {w w' : World} (hC : CW C w) (hb : Below w.heap.size w w') : CW C w' := fun b o v h =>
  ⟨by rw [hb.cell (p := ⟨b, o, none⟩) (cell_ltS (hC b o v h).1)]; exact (hC b o v h).1, (hC b o v h).2⟩
theorem intl_cells {C : CMap} {w : World} {v : Value} {l : List Int} {ρ : RMap} {τ : TMap} (hC : CW C w) (h : RV C ρ τ v (lv l)) :
    ∃ A c, v = .slice A l.length c ∧ l.length ≤ c ∧ (l ≠ [] → ∃ b o, A = some ⟨b, o, none⟩ ∧ ∀ j, j < l.length → w.cell? ⟨b, o + j, none⟩ = some (.int .i64 (l.getD j 0))) := by
  obtain ⟨A, c, cv, rfl, hc, hm, hcell, hrv, _⟩ := rv_list h
  have hlen : (l.map fun n => [iv n]).length = l.length := by simp
  refine ⟨A, c, by rw [hlen], by rw [← hlen]; exact hc, fun hne => ?_⟩
  have hpos : 0 < l.length := List.length_pos_iff.2 hne
  obtain ⟨_, b, o, hA, _⟩ := hcell 0 _ (List.getElem?_eq_getElem (by simp; exact hpos))
  refine ⟨b, o, hA, fun j hj => ?_⟩
  have hx : (l.map fun n => [iv n])[j]? = some [iv l[j]] := by simp [hj]
  obtain ⟨_, b', o', hA', hC'⟩ := hcell j _ hx
  rw [hA] at hA'
  injection hA' with hA'
  injection hA' with h1 h2
  subst h1; subst h2
  have h3 := (hC _ _ _ (hC' 0 (by omega))).1
  have h4 := rv_v (hrv j _ 0 _ hx rfl)
  rw [h4.1] at h3
  rw [getD_at hj]
  simpa using h3
set_option maxRecDepth 10000 in
theorem c123 (l : List Int) (h : l.length ≤ 1000000) : Con Try.prog 123 [lv l] 0 (iv (sq l).length) := by
  refine ⟨(enters_of Try.func123 (by kernel_rfl) rfl), fun C w vs hC hsz hrv => ?_⟩
  obtain ⟨vl⟩ := vs
  match vl, hsz with
  | [v], _ =>
    have hv := hrv 0 v (lv l) rfl rfl
    obtain ⟨A, c, rfl, _, hcell⟩ := intl_cells hC hv
    have fin : ∀ e w', (e = .returned (.int .i64 ((sq l).length : Int)) ∧ Below w.heap.size w w') → ∃ v C' τ', e = Ending.returned v ∧ Below w.heap.size w w' ∧ (∀ b o v, C b o = some v → C' b o = some v) ∧ (∀ b o v, C' b o = some v → C b o = some v ∨ w.heap.size ≤ b) ∧
        CW C' w' ∧ RV C' noρ τ' v (iv (sq l).length) ∧ Toks C' w' τ' 0 w.heap.size := fun e w' ⟨he, hb⟩ =>
      ⟨_, C, noτ, he, hb, fun _ _ _ h => h, fun _ _ _ h => .inl h, cw_below hC hb, .v _ rfl, ⟨fun _ _ h => (by cases h), fun _ _ _ h => (by cases h), fun _ _ _ _ _ _ _ h => (by cases h)⟩⟩
    by_cases hl : l = []
    · subst hl
      have e0 : (sq []).length = 0 := by have := sq_len []; simpa using this
      cases A with
      | none =>
        refine (img_nil_c c w).mono fun e w' hq => fin e w' ⟨by rw [hq.1, e0]; rfl, by rw [hq.2]; exact Below.refl _ _⟩
      | some a => exact (img_tail 0 _ [] w (by omega) (Try.slices_Clone_int_zero a c w)).mono fin
    · obtain ⟨b, o, rfl, hc2⟩ := hcell hl
      have hcl := Try.slices_Clone_int b o l.length c l w (Nat.le_refl _) (by omega) hc2
      rw [List.take_length] at hcl
      exact (img_tail l.length _ l w h hcl).mono fin
end Go.Sy

/- Contracts: injective morphisms as the program tells them; places; compositions. -/
set_option linter.unusedSimpArgs false
namespace Go.Sy
open Go Go.Proofs

theorem sq_beq (l : List Int) : (((sq l).length : Int) == (l.length : Int)) = dist l := by
  rw [Bool.eq_iff_iff, ← sq_dist, beq_iff_eq]
  omega
theorem c75 (a b : Gr) (m : Mo) : Con Try.prog 75 [gv a, gv b, mv m] 0 (bv (injR a b m)) := by
  refine conT (X := []) (rs := [.tmp 6]) Try.func75 (by kernel_rfl) rfl rfl (by kernel_rfl) ?_
  simp (dsimp := false) (maxDischargeDepth := 16) only [go_sem, ↓reduceIte, reduceCtorEq, Nat.reduceEqDiff, Nat.reduceAdd, Nat.reduceMul, Nat.reduceSub, Nat.reduceLT, Nat.reduceLeDiff, Nat.reducePow, Int.reduceLT, Int.reduceLE, Int.reduceNeg, Int.reduceToNat]
  refine callK_intro (c70 a b m) ?_
  simp (dsimp := false) (maxDischargeDepth := 16) only [go_sem, ↓reduceIte, reduceCtorEq, Nat.reduceEqDiff, Nat.reduceAdd, Nat.reduceMul, Nat.reduceSub, Nat.reduceLT, Nat.reduceLeDiff, Nat.reducePow, Int.reduceLT, Int.reduceLE, Int.reduceNeg, Int.reduceToNat]
  refine condK_intro (fun h1 => ?_) (fun h1 => ?_)
  · have hs := mErr_ok (beq_iff_eq.1 h1)
    have ga := (gErr_small hs.1).1
    simp (dsimp := false) (maxDischargeDepth := 16) only [go_sem, ↓reduceIte, reduceCtorEq, Nat.reduceEqDiff, Nat.reduceAdd, Nat.reduceMul, Nat.reduceSub, Nat.reduceLT, Nat.reduceLeDiff, Nat.reducePow, Int.reduceLT, Int.reduceLE, Int.reduceNeg, Int.reduceToNat, h1]
    refine callK_intro (c123 m.n (by omega)) ?_
    simp (dsimp := false) (maxDischargeDepth := 16) only [go_sem, ↓reduceIte, reduceCtorEq, Nat.reduceEqDiff, Nat.reduceAdd, Nat.reduceMul, Nat.reduceSub, Nat.reduceLT, Nat.reduceLeDiff, Nat.reducePow, Int.reduceLT, Int.reduceLE, Int.reduceNeg, Int.reduceToNat, h1, sq_beq]
    refine condK_intro (fun h2 => ?_) (fun h2 => ?_)
    · simp (dsimp := false) (maxDischargeDepth := 16) only [go_sem, ↓reduceIte, reduceCtorEq, Nat.reduceEqDiff, Nat.reduceAdd, Nat.reduceMul, Nat.reduceSub, Nat.reduceLT, Nat.reduceLeDiff, Nat.reducePow, Int.reduceLT, Int.reduceLE, Int.reduceNeg, Int.reduceToNat, h1, h2]
      refine callK_intro (c123 m.e (by omega)) ?_
      simp (dsimp := false) (maxDischargeDepth := 16) only [go_sem, ↓reduceIte, reduceCtorEq, Nat.reduceEqDiff, Nat.reduceAdd, Nat.reduceMul, Nat.reduceSub, Nat.reduceLT, Nat.reduceLeDiff, Nat.reducePow, Int.reduceLT, Int.reduceLE, Int.reduceNeg, Int.reduceToNat, h1, h2, sq_beq]
      exact finB (by rw [injR, h1, h2]; rfl)
    · simp (dsimp := false) (maxDischargeDepth := 16) only [go_sem, ↓reduceIte, reduceCtorEq, Nat.reduceEqDiff, Nat.reduceAdd, Nat.reduceMul, Nat.reduceSub, Nat.reduceLT, Nat.reduceLeDiff, Nat.reducePow, Int.reduceLT, Int.reduceLE, Int.reduceNeg, Int.reduceToNat, h1, h2]
      exact finB (by rw [injR, h1, h2]; rfl)
  · simp (dsimp := false) (maxDischargeDepth := 16) only [go_sem, ↓reduceIte, reduceCtorEq, Nat.reduceEqDiff, Nat.reduceAdd, Nat.reduceMul, Nat.reduceSub, Nat.reduceLT, Nat.reduceLeDiff, Nat.reducePow, Int.reduceLT, Int.reduceLE, Int.reduceNeg, Int.reduceToNat, h1]
    exact finB (by rw [injR, h1]; rfl)
/-- The places of numbers in a list. -/
def plc (k l : List Int) : List Int := l.map fun x => idxP (fun y => x == y) k
/-- A list led on by another one. -/
def thr (l k : List Int) : List Int := l.map fun x => k.getD x.toNat 0
/-- A morphism led on by another one. -/
def thn (m n : Mo) : Mo := ⟨thr m.n n.n, thr m.e n.e⟩
/-- The composition, or the error. -/
def cmpR (a b c : Gr) (m n : Mo) : Mo × Int := if mErr a b m ≠ 0 then (⟨[], []⟩, mErr a b m) else if mErr b c n ≠ 0 then (⟨[], []⟩, mErr b c n) else (thn m n, 0)
end Go.Sy

/- Contracts: the overlap through which two morphisms go, and the rest. -/
set_option linter.unusedSimpArgs false
namespace Go.Sy
open Go Go.Proofs

/-- The rest: where the elements that the overlap adds go, behind those of the first graph. -/
def rst (h k : Mo) (p q : List Int) : Mo := ⟨(gN h.n k.n p p.length).1, (gN h.e k.e q q.length).1⟩
def thrV (r : Ov × Mo × Int) : AV := .tup [ov r.1, mv r.2.1, iv r.2.2]
attribute [go_sem] thrV
theorem plc_len (k l : List Int) : (plc k l).length = l.length := by simp [plc]
end Go.Sy

/- Plain law: two injective morphisms into one graph go through an overlap and the rest. -/
namespace Go.Sy
open Go Go.Proofs

theorem mErr_node {a b : Gr} {m : Mo} (h : mErr a b m = 0) {i : Nat} (hi : i < a.n.length) : 0 ≤ m.n.getD i 0 ∧ (m.n.getD i 0).toNat < b.n.length ∧ b.n.getD (m.n.getD i 0).toNat 0 = a.n.getD i 0 := by
  have := (mErr_ok h).2.2.2.2.1 i hi
  rw [nodeErr] at this
  split at this
  · cases this
  split at this
  · cases this
  · rename_i h1 h2
    simp only [ne_eq, Decidable.not_not] at h2
    exact ⟨by omega, by omega, h2⟩
theorem mErr_edge {a b : Gr} {m : Mo} (h : mErr a b m = 0) {i : Nat} (hi : i < a.e.length) : 0 ≤ m.e.getD i 0 ∧ (m.e.getD i 0).toNat < b.e.length ∧ (a.e.getD i (0, 0, 0)).1 = (b.e.getD (m.e.getD i 0).toNat (0, 0, 0)).1 ∧
    m.n.getD (a.e.getD i (0, 0, 0)).2.1.toNat 0 = (b.e.getD (m.e.getD i 0).toNat (0, 0, 0)).2.1 ∧ m.n.getD (a.e.getD i (0, 0, 0)).2.2.toNat 0 = (b.e.getD (m.e.getD i 0).toNat (0, 0, 0)).2.2 := by
  have := (mErr_ok h).2.2.2.2.2 i hi
  rw [edgeErr] at this
  split at this
  · cases this
  split at this
  · cases this
  split at this
  · cases this
  · rename_i h1 h2 h3
    simp only [ne_eq, Decidable.not_not] at h2
    exact ⟨by omega, by omega, h2, by omega, by omega⟩
theorem edge_in {g : Gr} (h : gErr g = 0) {i : Nat} (hi : i < g.e.length) : 0 ≤ (g.e.getD i (0, 0, 0)).2.1 ∧ (g.e.getD i (0, 0, 0)).2.1 < g.n.length ∧ 0 ≤ (g.e.getD i (0, 0, 0)).2.2 ∧ (g.e.getD i (0, 0, 0)).2.2 < g.n.length := by
  have := ((gErr_small h).2.2 _ (List.getElem_mem hi)).2
  rw [getD_at hi]
  exact this
theorem dist_at {l : List Int} (h : dist l = true) {i j : Nat} (hi : i < l.length) (hj : j < l.length) (he : l.getD i 0 = l.getD j 0) : i = j := by
  have h := List.all_eq_true.1 h
  rcases Nat.lt_trichotomy i j with h1 | h1 | h1
  · have := List.all_eq_true.1 (h j (List.mem_range.2 hj)) i (List.mem_range.2 h1)
    simp only [decide_eq_true_eq] at this
    exact absurd he.symm this
  · exact h1
  · have := List.all_eq_true.1 (h i (List.mem_range.2 hi)) j (List.mem_range.2 h1)
    simp only [decide_eq_true_eq] at this
    exact absurd he this
/-! ### Places -/
theorem plc_val (h k : List Int) {i : Nat} (hi : i < k.length) : ((plc h k).getD i 0 = -1 ∧ ∀ c, c < h.length → h.getD c 0 ≠ k.getD i 0) ∨ ∃ c : Nat, c < h.length ∧ (plc h k).getD i 0 = (c : Int) ∧ h.getD c 0 = k.getD i 0 := by
  have e : (plc h k).getD i 0 = idxP (fun y => k[i] == y) h := by rw [getD_at (by rw [plc_len]; exact hi)]; simp [plc]
  rw [e, getD_at hi]
  rcases idxP_cases (fun y => k[i] == y) h with ⟨h1, h2⟩ | ⟨c, hc, h1, h2⟩
  · refine .inl ⟨h1, fun c hc he => ?_⟩
    have := h2 _ (List.getElem_mem hc)
    rw [getD_at hc] at he
    rw [he] at this
    simp at this
  · refine .inr ⟨c, hc, h1, ?_⟩
    rw [getD_at hc]
    exact (beq_iff_eq.1 h2).symm
theorem plc_hit {h k : List Int} (hd : dist h = true) {i c : Nat} (hi : i < k.length) (hc : c < h.length) (he : h.getD c 0 = k.getD i 0) : (plc h k).getD i 0 = (c : Int) := by
  rcases plc_val h k hi with ⟨_, h2⟩ | ⟨c', hc', h1, h2⟩
  · exact absurd he (h2 c hc)
  · rw [h1, dist_at hd hc' hc (by rw [h2, he])]
theorem plc_PI {h k : List Int} (hk : dist k = true) {R : Nat → Nat → Prop} (hR : ∀ i c, i < k.length → c < h.length → h.getD c 0 = k.getD i 0 → R i c) : PI k.length h.length R (plc h k) := by
  refine ⟨plc_len _ _, fun i hi => ?_, fun i j hij hj he => ?_⟩
  · rcases plc_val h k hi with ⟨h1, _⟩ | ⟨c, hc, h1, h2⟩
    · exact .inl h1
    · exact .inr ⟨c, hc, h1, hR i c hi hc h2⟩
  · rcases plc_val h k (show i < k.length by omega) with ⟨h1, _⟩ | ⟨c, hc, h1, h2⟩
    · exact h1
    · rcases plc_val h k hj with ⟨h3, _⟩ | ⟨c', hc', h3, h4⟩
      · rw [he, h3]
      · have : c = c' := by omega
        subst this
        have := dist_at hk (show i < k.length by omega) hj (by rw [← h2, h4])
        omega
/-! ### Two lists that grow alike -/
theorem gG_snd {α β : Type} {a : List α} {a' : List β} (f : Nat → α) (f' : Nat → β) (q : List Int) (hl : a.length = a'.length) : ∀ i, (gG a f q i).2 = (gG a' f' q i).2 ∧ (gG a f q i).1.length = (gG a' f' q i).1.length
  | 0 => ⟨rfl, hl⟩
  | i + 1 => by
    obtain ⟨h1, h2⟩ := gG_snd f f' q hl i
    rw [gG, gG]
    split
    · refine ⟨by rw [h1, h2], by simp [h2]⟩
    · exact ⟨by rw [h1], h2⟩
theorem GS.at {α : Type} {a : List α} {f : Nat → α} {q : List Int} {n : Nat} {L : List α} {R : List Int} (h : GS a f q n L R) (d : α) {c : Nat} (hc : c < L.length) :
    (c < a.length ∧ L.getD c d = a.getD c d) ∨ (a.length ≤ c ∧ ∃ j, j < n ∧ q.getD j 0 < 0 ∧ R.getD j 0 = (c : Int) ∧ L.getD c d = f j) := by
  by_cases hca : c < a.length
  · exact .inl ⟨hca, h.old_at hca d⟩
  · obtain ⟨j, j1, j2, j3⟩ := h.cov c (by omega) hc
    refine .inr ⟨by omega, j, j1, j2, j3, ?_⟩
    have := (h.new j j1 j2).2
    rw [j3, Int.toNat_natCast] at this
    rw [List.getD_eq_getElem?_getD, this]
    rfl
theorem GS.new_at {α : Type} {a : List α} {f : Nat → α} {q : List Int} {n : Nat} {L : List α} {R : List Int} (h : GS a f q n L R) (d : α) {j : Nat} (hj : j < n) (hq : q.getD j 0 < 0) : L.getD (R.getD j 0).toNat d = f j := by
  have := (h.new j hj hq).2
  rw [List.getD_eq_getElem?_getD, this]
  rfl
/-- Where the rest takes an element of the overlap that comes from the second graph. -/
theorem rest_back {h k : List Int} {L R : List Int} (hg : GS h (fun j => k.getD j 0) (plc h k) k.length L R) {j : Nat} (hj : j < k.length) : L.getD (R.getD j 0).toNat 0 = k.getD j 0 := by
  rcases plc_val h k hj with ⟨h1, _⟩ | ⟨c, hc, h1, h2⟩
  · exact hg.new_at 0 hj (by omega)
  · rw [hg.old j hj (by omega), h1, Int.toNat_natCast, hg.old_at hc 0, h2]
theorem rest_dist {h k : List Int} {L R : List Int} (hg : GS h (fun j => k.getD j 0) (plc h k) k.length L R) (hd : dist h = true) (kd : dist k = true) : dist L = true := by
  have hcase : ∀ c d, c < d → d < L.length → L.getD c 0 ≠ L.getD d 0 := by
    intro c d hcd hd' he
    rcases hg.at 0 (show c < L.length by omega) with ⟨c1, c2⟩ | ⟨c1, j, j1, j2, j3, c2⟩
    · rcases hg.at 0 hd' with ⟨d1, d2⟩ | ⟨d1, i, i1, i2, i3, d2⟩
      · have := dist_at hd c1 d1 (by rw [← c2, ← d2, he])
        omega
      · rcases plc_val h k i1 with ⟨_, h1⟩ | ⟨x, _, h1, _⟩
        · exact h1 c c1 (by rw [← c2, he, d2])
        · omega
    · rcases hg.at 0 hd' with ⟨d1, d2⟩ | ⟨d1, i, i1, i2, i3, d2⟩
      · omega
      · have := dist_at kd j1 i1 (by show k.getD j 0 = k.getD i 0; rw [c2, d2] at he; exact he)
        subst this
        omega
  exact dist_yes fun i hi k hk e => hcase k i hk hi e.symm
/-- A list of different numbers below n has at most n. -/
theorem dist_le {l : List Int} {n : Nat} (h : dist l = true) (hl : ∀ x ∈ l, 0 ≤ x ∧ x < n) : l.length ≤ n := by
  have h1 : (l.map Int.toNat).Nodup := by
    rw [List.Nodup, List.pairwise_map]
    refine ((dist_nodup l).1 h).imp_of_mem fun {a b} ha hb hne e => hne ?_
    have := hl a ha
    have := hl b hb
    omega
  have h2 := List.Nodup.length_le_of_subset h1 (l₂ := List.range n) (fun x hx => by
    obtain ⟨y, hy, rfl⟩ := List.mem_map.1 hx
    have := hl y hy
    exact List.mem_range.2 (by omega))
  simpa using h2
theorem injR_dist {a b : Gr} {m : Mo} (h : injR a b m = true) : mErr a b m = 0 ∧ dist m.n = true ∧ dist m.e = true := by
  unfold injR at h
  simp only [Bool.and_eq_true, beq_iff_eq] at h
  exact h
theorem thru_isM {a b x : Gr} {h k : Mo} (i1 : injR a x h = true) (i2 : injR b x k = true) : isM a b (plc h.n k.n, plc h.e k.e) := by
  obtain ⟨g1, d1, d2⟩ := injR_dist i1
  obtain ⟨g2, d3, d4⟩ := injR_dist i2
  have o1 := mErr_ok g1
  have o2 := mErr_ok g2
  have P1 : PI k.n.length h.n.length (relN a b) (plc h.n k.n) := plc_PI d3 fun i c hi hc he => by
    have n1 := mErr_node g1 (show c < a.n.length by omega)
    have n2 := mErr_node g2 (show i < b.n.length by omega)
    rw [he] at n1
    rw [relN, ← n1.2.2, ← n2.2.2]
  have P2 : PI k.e.length h.e.length (relE a b (plc h.n k.n)) (plc h.e k.e) := plc_PI d4 fun i c hi hc he => by
    have hc' : c < a.e.length := by omega
    have hi' : i < b.e.length := by omega
    have n1 := mErr_edge g1 hc'
    have n2 := mErr_edge g2 hi'
    have r1 := edge_in o1.1 hc'
    have r2 := edge_in o2.1 hi'
    rw [he] at n1
    have e1 := plc_hit (k := k.n) d1 (i := (b.e.getD i (0, 0, 0)).2.1.toNat) (c := (a.e.getD c (0, 0, 0)).2.1.toNat) (by omega) (by omega) (by rw [n1.2.2.2.1, n2.2.2.2.1])
    have e2 := plc_hit (k := k.n) d1 (i := (b.e.getD i (0, 0, 0)).2.2.toNat) (c := (a.e.getD c (0, 0, 0)).2.2.toNat) (by omega) (by omega) (by rw [n1.2.2.2.2, n2.2.2.2.2])
    rw [relE, e1, e2]
    refine Prod.ext ?_ (Prod.ext ?_ ?_)
    · rw [n1.2.2.1, n2.2.2.1]
    · show _ = (((a.e.getD c (0, 0, 0)).2.1.toNat : Nat) : Int)
      omega
    · show _ = (((a.e.getD c (0, 0, 0)).2.2.toNat : Nat) : Int)
      omega
  rw [o1.2.2.1, o2.2.2.1] at P1
  rw [o1.2.2.2.1, o2.2.2.2.1] at P2
  exact ⟨P1, P2⟩
/-- What the rest is, beside the overlap. -/
structure RestOK (a b : Gr) (h k : Mo) (G : Ov) (r : Mo) : Prop where
  n : GS h.n (fun j => k.n.getD j 0) (plc h.n k.n) k.n.length r.n G.r.n
  e : GS h.e (fun j => k.e.getD j 0) (plc h.e k.e) k.e.length r.e G.r.e
  ln : r.n.length = G.g.n.length
  le : r.e.length = G.g.e.length
theorem rest_ok {a b x : Gr} {h k : Mo} (i1 : injR a x h = true) (i2 : injR b x k = true) : RestOK a b h k (glue a b (plc h.n k.n) (plc h.e k.e)) (rst h k (plc h.n k.n) (plc h.e k.e)) := by
  obtain ⟨g1, d1, d2⟩ := injR_dist i1
  obtain ⟨g2, d3, d4⟩ := injR_dist i2
  have o1 := mErr_ok g1
  have o2 := mErr_ok g2
  have hM := thru_isM i1 i2
  have s1 := gG_snd (a := h.n) (a' := a.n) (fun j => k.n.getD j 0) (fun j => b.n.getD j 0) (plc h.n k.n) (by omega) (plc h.n k.n).length
  have s2 := gG_snd (a := h.e) (a' := a.e) (fun j => k.e.getD j 0) (edF b.e (gN a.n b.n (plc h.n k.n) (plc h.n k.n).length).2) (plc h.e k.e) (by omega) (plc h.e k.e).length
  constructor
  · show GS _ _ _ _ (gN h.n k.n (plc h.n k.n) (plc h.n k.n).length).1 (gN a.n b.n (plc h.n k.n) (plc h.n k.n).length).2
    rw [gN_gG, gN_gG, ← s1.1, plc_len]
    refine gG_spec (fun j hj => ?_) _ (Nat.le_refl _)
    have := hM.1.ok j (by omega)
    rw [o1.2.2.1]
    exact this
  · show GS _ _ _ _ (gN h.e k.e (plc h.e k.e) (plc h.e k.e).length).1 (gE a.e b.e (gN a.n b.n (plc h.n k.n) (plc h.n k.n).length).2 (plc h.e k.e) (plc h.e k.e).length).2
    rw [gN_gG h.e, gE_gG, ← s2.1, plc_len]
    refine gG_spec (fun j hj => ?_) _ (Nat.le_refl _)
    have := hM.2.ok j (by omega)
    rw [o1.2.2.2.1]
    exact this
  · show (gN h.n k.n (plc h.n k.n) (plc h.n k.n).length).1.length = (gN a.n b.n (plc h.n k.n) (plc h.n k.n).length).1.length
    rw [gN_gG, gN_gG]
    exact s1.2
  · show (gN h.e k.e (plc h.e k.e) (plc h.e k.e).length).1.length = (gE a.e b.e (gN a.n b.n (plc h.n k.n) (plc h.n k.n).length).2 (plc h.e k.e) (plc h.e k.e).length).1.length
    rw [gN_gG h.e, gE_gG]
    exact s2.2
theorem thr_eq {R L k : List Int} (hl : R.length = k.length) (h : ∀ j, j < k.length → L.getD (R.getD j 0).toNat 0 = k.getD j 0) : thr R L = k := by
  refine List.ext_getElem (by simp [thr, hl]) fun i h1 h2 => ?_
  have := h i h2
  rw [getD_at h2, getD_at (show i < R.length by omega)] at this
  simp only [thr, List.getElem_map]
  exact this
theorem thru_all {a b x : Gr} {h k : Mo} (i1 : injR a x h = true) (i2 : injR b x k = true) :
    cmpR a (glue a b (plc h.n k.n) (plc h.e k.e)).g x (glue a b (plc h.n k.n) (plc h.e k.e)).l (rst h k (plc h.n k.n) (plc h.e k.e)) = (h, 0) ∧
    cmpR b (glue a b (plc h.n k.n) (plc h.e k.e)).g x (glue a b (plc h.n k.n) (plc h.e k.e)).r (rst h k (plc h.n k.n) (plc h.e k.e)) = (k, 0) ∧
    injR (glue a b (plc h.n k.n) (plc h.e k.e)).g x (rst h k (plc h.n k.n) (plc h.e k.e)) = true := by
  have hM := thru_isM i1 i2
  have hR := rest_ok i1 i2
  have hG := glue_ok hM
  obtain ⟨g1, d1, d2⟩ := injR_dist i1
  obtain ⟨g2, d3, d4⟩ := injR_dist i2
  have o1 := mErr_ok g1
  have o2 := mErr_ok g2
  have gx := gErr_small o1.2.1
  have dn := rest_dist hR.n d1 d3
  have de := rest_dist hR.e d2 d4
  have hln := hR.ln
  have hle := hR.le
  -- where the rest takes the overlap's nodes and edges
  have nin : ∀ c, c < (glue a b (plc h.n k.n) (plc h.e k.e)).g.n.length → nodeErr (glue a b (plc h.n k.n) (plc h.e k.e)).g x (rst h k (plc h.n k.n) (plc h.e k.e)) c = 0 := by
    intro c hc
    rw [nodeErr]
    rcases hR.n.at 0 (show c < (rst h k (plc h.n k.n) (plc h.e k.e)).n.length by omega) with ⟨c1, c2⟩ | ⟨c1, j, j1, j2, j3, c2⟩
    · have := mErr_node g1 (show c < a.n.length by omega)
      rw [c2, hG.n.old_at (show c < a.n.length by omega) 0, if_neg (by omega), if_neg (by rw [this.2.2]; simp)]
    · have := mErr_node g2 (show j < b.n.length by omega)
      have e := hG.n.new_at 0 (show j < b.n.length by omega) j2
      rw [j3, Int.toNat_natCast] at e
      rw [c2, e, if_neg (by omega), if_neg (by rw [this.2.2]; simp)]
  have ein : ∀ c, c < (glue a b (plc h.n k.n) (plc h.e k.e)).g.e.length → edgeErr (glue a b (plc h.n k.n) (plc h.e k.e)).g x (rst h k (plc h.n k.n) (plc h.e k.e)) c = 0 := by
    intro c hc
    rw [edgeErr]
    rcases hR.e.at 0 (show c < (rst h k (plc h.n k.n) (plc h.e k.e)).e.length by omega) with ⟨c1, c2⟩ | ⟨c1, j, j1, j2, j3, c2⟩
    · have hc' : c < a.e.length := by omega
      have n := mErr_edge g1 hc'
      have r := edge_in o1.1 hc'
      rw [c2, hG.e.old_at hc' (0, 0, 0), hR.n.old_at (show (a.e.getD c (0, 0, 0)).2.1.toNat < h.n.length by omega) 0, hR.n.old_at (show (a.e.getD c (0, 0, 0)).2.2.toNat < h.n.length by omega) 0,
        if_neg (by omega), if_neg (by rw [n.2.2.1]; simp), if_neg (by rw [n.2.2.2.1, n.2.2.2.2]; simp)]
    · have hj' : j < b.e.length := by omega
      have n := mErr_edge g2 hj'
      have r := edge_in o2.1 hj'
      have e := hG.e.new_at (0, 0, 0) hj' j2
      rw [j3, Int.toNat_natCast] at e
      have b1 := rest_back hR.n (show (b.e.getD j (0, 0, 0)).2.1.toNat < k.n.length by omega)
      have b2 := rest_back hR.n (show (b.e.getD j (0, 0, 0)).2.2.toNat < k.n.length by omega)
      rw [c2, e]
      unfold edF
      dsimp only
      rw [b1, b2, if_neg (by omega), if_neg (by rw [n.2.2.1]; simp), if_neg (by rw [n.2.2.2.1, n.2.2.2.2]; simp)]
  have rn : ∀ y ∈ (rst h k (plc h.n k.n) (plc h.e k.e)).n, 0 ≤ y ∧ y < x.n.length := by
    intro y hy
    obtain ⟨c, hc, rfl⟩ := List.mem_iff_getElem.1 hy
    have := nin c (by omega)
    rw [nodeErr] at this
    split at this
    · cases this
    · rename_i h5
      rw [getD_at hc] at h5
      omega
  have re : ∀ y ∈ (rst h k (plc h.n k.n) (plc h.e k.e)).e, 0 ≤ y ∧ y < x.e.length := by
    intro y hy
    obtain ⟨c, hc, rfl⟩ := List.mem_iff_getElem.1 hy
    have := ein c (by omega)
    rw [edgeErr] at this
    split at this
    · cases this
    · rename_i h5
      rw [getD_at hc] at h5
      omega
  have sn := dist_le dn rn
  have se := dist_le de re
  have hs : (glue a b (plc h.n k.n) (plc h.e k.e)).g.n.length ≤ 40 ∧ (glue a b (plc h.n k.n) (plc h.e k.e)).g.e.length ≤ 80 := by omega
  have gv := glue_valid (p := (plc h.n k.n, plc h.e k.e)) o1.1 o2.1 hs hM
  have ml := glue_left (p := (plc h.n k.n, plc h.e k.e)) o1.1 o2.1 hs hM
  have mr := glue_right (p := (plc h.n k.n, plc h.e k.e)) o1.1 o2.1 hs hM
  have m3 : mErr (glue a b (plc h.n k.n) (plc h.e k.e)).g x (rst h k (plc h.n k.n) (plc h.e k.e)) = 0 := mErr_zero gv o1.2.1 hln hle nin ein
  refine ⟨?_, ?_, ?_⟩
  · rw [cmpR, if_neg (by simp [ml]), if_neg (by simp [m3]), thn]
    refine Prod.ext ?_ rfl
    have l1 : (glue a b (plc h.n k.n) (plc h.e k.e)).l.n = rng a.n.length := rfl
    have l2 : (glue a b (plc h.n k.n) (plc h.e k.e)).l.e = rng a.e.length := rfl
    have t1 : thr (rng a.n.length) (rst h k (plc h.n k.n) (plc h.e k.e)).n = h.n := thr_eq (by rw [rng_len]; omega) fun j hj => by
      rw [rng_at (by omega), Int.toNat_natCast, hR.n.old_at hj]
    have t2 : thr (rng a.e.length) (rst h k (plc h.n k.n) (plc h.e k.e)).e = h.e := thr_eq (by rw [rng_len]; omega) fun j hj => by
      rw [rng_at (by omega), Int.toNat_natCast, hR.e.old_at hj]
    rw [l1, l2, t1, t2]
  · rw [cmpR, if_neg (by simp [mr]), if_neg (by simp [m3]), thn]
    refine Prod.ext ?_ rfl
    have t1 : thr (glue a b (plc h.n k.n) (plc h.e k.e)).r.n (rst h k (plc h.n k.n) (plc h.e k.e)).n = k.n := thr_eq hR.n.len fun j hj => rest_back hR.n hj
    have t2 : thr (glue a b (plc h.n k.n) (plc h.e k.e)).r.e (rst h k (plc h.n k.n) (plc h.e k.e)).e = k.e := thr_eq hR.e.len fun j hj => rest_back hR.e hj
    rw [t1, t2]
  · rw [injR, m3, dn, de]
    rfl
end Go.Sy

/- Contracts: the part of a graph that bits choose. -/
set_option linter.unusedSimpArgs false
namespace Go.Sy
open Go Go.Proofs

def u16 (x : Int) : AV := .v (.int .u16 x)
attribute [go_sem] u16
def shv (a b : Int) : Int := a.fdiv (2 ^ min b.toNat IntKind.u16.bits)
def anv (a b : Int) : Int := IntKind.u16.wrap (BitVec.ofInt IntKind.u16.bits a &&& BitVec.ofInt IntKind.u16.bits b).toNat
theorem bin_shr0 (a b : Int) : binAV Try.prog .shr 79 (.v (.int .u16 a)) (.v (.int .i64 b)) = if b < 0 then none else some (.v (.int .u16 (shv a b))) := rfl
theorem bin_shr (a : Int) (i : Nat) : binAV Try.prog .shr 79 (.v (.int .u16 a)) (.v (.int .i64 (i : Int))) = some (.v (.int .u16 (shv a i))) := by
  rw [bin_shr0, if_neg (by omega)]
theorem bin_and (a b : Int) : binAV Try.prog .and 79 (.v (.int .u16 a)) (.v (.int .u16 b)) = some (.v (.int .u16 (anv a b))) := rfl
theorem bi_set1 {zs : List Int} {i : Nat} {x : Int} (h : i < zs.length) : (bi zs).take (i * 1) ++ [AV.v (.int .i64 x)] ++ (bi zs).drop (i * 1 + 1) = bi (zs.set i x) := by
  rw [Nat.mul_one]
  exact bi_set h
theorem bi_head {zs : List Int} {k : Nat} {x : Int} (h : k < zs.length) (hx : zs.getD k 0 = x) : (List.drop (k * 1) (bi zs)).head? = some (AV.v (.int .i64 x)) := by
  rw [Nat.mul_one, List.head?_drop, bi, List.getElem?_map, List.getElem?_eq_getElem h, ← hx, getD_at h]
  rfl
attribute [go_sem] bin_shr bin_and
end Go.Sy

/- Types of arguments: numbers of bits; lists of bytes. -/
namespace Go.Sy
open Go Go.Proofs Go.RowKit Go.Proofs.Ytkhheblmgbiniaa Go.WideShapes Go.ChangeShapes
variable {H : Type} {enc : TypeId × Value → H} {W : World} {sp : Nat → Bool} {held : Bool}

set_option maxRecDepth 20000 in
theorem open_one {β : Type} {f : β → AV} {t : TypeId} {v : Value} {d : DataW H} {p : List MemPlace} (hc : v.cells = #[v]) (ho : Opens Try.prog t (fun x => ∃ b, x = [f b])) (h : DataW.Trod enc Try.prog W 0 sp held t v d p) : ∃ b, RV (cmap W) noρ noτ v (f b) := by
  obtain ⟨fuel, h⟩ := h
  obtain ⟨x, ⟨b, rfl⟩, q2, q3, q4, q5⟩ := ho.get enc W sp held fuel _ _ h
  exact ⟨b, q5 0 v (f b) (by rw [hc]; rfl) rfl⟩
set_option maxRecDepth 20000 in
theorem open_i {β : Type} {f : β → AV} {t : TypeId} {k : IntKind} {base : Nat} {v : Value} {d : DataW H} {p : List MemPlace} (hu : Try.prog.underlying t = some (.int k)) (ho : Opens Try.prog t (fun x => ∃ b, x = [f b])) (hval : Value.okWide Try.prog W .any base t v)
    (h : DataW.Trod enc Try.prog W 0 sp held t v d p) : ∃ b, RV (cmap W) noρ noτ v (f b) := by
  obtain ⟨n, rfl⟩ := okWide_int hu hval
  exact open_one rfl ho h
set_option maxRecDepth 20000 in
theorem open_s {β : Type} {f : β → AV} {t e : TypeId} {base : Nat} {v : Value} {d : DataW H} {p : List MemPlace} (hu : Try.prog.underlying t = some (.slice e)) (ho : Opens Try.prog t (fun x => ∃ b, x = [f b])) (hval : Value.okWide Try.prog W .any base t v)
    (h : DataW.Trod enc Try.prog W 0 sp held t v d p) : ∃ b, RV (cmap W) noρ noτ v (f b) := by
  obtain ⟨a, n, c, rfl⟩ := okWide_slice hu hval
  exact open_one rfl ho h
theorem opensU16 : Opens Try.prog 79 (fun x => ∃ n : Int, x = [u16 n]) := (opens_int (k := .u16) (by kernel_rfl) (by kernel_rfl)).mono fun x ⟨n, _, h⟩ => ⟨n, h⟩
structure BytesP where
  l : List Int
  ok : ∀ n ∈ l, byte n
def byv (l : List Int) : AV := .list 1 (l.map fun n => [u8 n]) .no
theorem opensBy : Opens Try.prog 47 (fun x => ∃ b : BytesP, x = [byv b.l]) := opensBytes.mono fun x ⟨l, h, hx⟩ => ⟨⟨l, h⟩, hx⟩
end Go.Sy

namespace Go.Sy
open Go Go.Proofs Go.RowKit
theorem hid0 {p : Prop} (h : p) : Hid p := h
@[irreducible] def CpSrc (w : World) (g off : Nat) (dp sp : Option Addr) (cs : List Value) : Prop := 0 < cs.length → dp = some ⟨g, off, none⟩ ∧ ∃ ad, sp = some ad ∧ ∀ j v, cs[j]? = some v → w.cell? (ad.add j) = some v
theorem CpSrc.out {w : World} {g off : Nat} {dp sp : Option Addr} {cs : List Value} (h : CpSrc w g off dp sp cs) : 0 < cs.length → dp = some ⟨g, off, none⟩ ∧ ∃ ad, sp = some ad ∧ ∀ j v, cs[j]? = some v → w.cell? (ad.add j) = some v := by unfold CpSrc at h; exact h
theorem CpSrc.mk {w : World} {g off : Nat} {dp sp : Option Addr} {cs : List Value} (h : 0 < cs.length → dp = some ⟨g, off, none⟩ ∧ ∃ ad, sp = some ad ∧ ∀ j v, cs[j]? = some v → w.cell? (ad.add j) = some v) : CpSrc w g off dp sp cs := by unfold CpSrc; exact h
theorem r153_info3 : (Try.prog.info? 3).map (fun i => (i.zero, i.size, i.bytes)) = some (some (.int .i64 0), 1, 8) := by kernel_rfl
theorem r153_size3 : (Try.prog.info? 3).map (·.size) = some 1 := by kernel_rfl
def repA (k n : Nat) : List Value := List.replicate k (.int .i64 (-1)) ++ List.replicate (n - k) (.int .i64 0)
theorem r153_mul (n : Nat) (hn : n ≤ 1000000) (w : World) : Calls Try.prog 165 #[.int .u64 1, .int .u64 n] w fun e w' => e = .returned (.tuple #[.int .u64 0, .int .u64 n]) ∧ w = w' := by
  refine (Try.bits_Mul 1 n (by omega) (by omega) w).mono ?_
  rintro e w' ⟨rfl, rfl⟩
  have h1 : 1 * n / 18446744073709551616 = 0 := by omega
  have h2 : 1 * n % 18446744073709551616 = n := by omega
  rw [h1, h2]
  exact ⟨rfl, rfl⟩
theorem splice_rep (k m n : Nat) : splice (repA k n) k (List.replicate m (.int .i64 (-1))) = repA (k + m) n := by
  unfold splice repA
  rw [List.take_append_of_le_length (by simp), List.drop_append]
  simp only [List.take_replicate, List.drop_replicate, List.length_replicate, Nat.min_self]
  rw [show k - (k + m) = 0 by omega, show k + m - k = m by omega, show n - k - m = n - (k + m) by omega]
  rw [← List.append_assoc, List.replicate_append_replicate]
  simp
theorem rep_len (k n : Nat) (h : k ≤ n) : (repA k n).length = n := by simp [repA]; omega
theorem rep_get (k n j : Nat) (h : j < k) : (repA k n)[j]? = some (.int .i64 (-1)) := by
  unfold repA
  rw [List.getElem?_append_left (by simpa using h)]
  simp [h]
theorem rep_hid (m n : Nat) (_h : m ≤ n) {w : World} {g : Nat} (hh : Hid (w.heap[g]? = some (.cells (splice (repA 0 n) 0 (List.replicate m (Value.int .i64 (-1)))).toArray 3))) : Hid (w.heap[g]? = some (.cells (repA m n).toArray 3 (0, 0))) := by
  have := splice_rep 0 m n
  rw [Nat.zero_add] at this
  rw [this] at hh
  exact hh
theorem rep_hid2 (k m n : Nat) (_h : k + m ≤ n) {w : World} {g : Nat} (hh : Hid (w.heap[g]? = some (.cells (splice (repA k n) k (List.replicate m (Value.int .i64 (-1)))).toArray 3))) : Hid (w.heap[g]? = some (.cells (repA (k + m) n).toArray 3 (0, 0))) := by
  rw [splice_rep k m n] at hh
  exact hh
set_option maxRecDepth 100000 in
set_option maxHeartbeats 1600000 in
theorem r153_calls (b o c n : Nat) (w : World) (hn : n ≤ 1000000) (hc : w.cell? ⟨b, o, none⟩ = some (.int .i64 (-1))) :
    Calls Try.prog 153 #[.slice (some ⟨b, o, none⟩) 1 c, .int .i64 n] w fun e w' => e = .returned (.slice (some ⟨w.heap.size, 0, none⟩) n n) ∧ Below w.heap.size w w' ∧ Hid (w'.heap[w.heap.size]? = some (.cells (repA n n).toArray 3 (0, 0))) := by
  have hmk := run_make_row' (P := Try.prog) 22 3 (.int .i64 0) 8 Try.underlying22 r153_info3 rfl .i64 .i64 n (by omega) (by omega)
  obtain ⟨w1, hw1, hh1, hb1⟩ : ∃ w1, w.alloc (.cells (madeCells #[.int .i64 0] n) 3) = w1 ∧ Hid (w1.heap[w.heap.size]? = some (.cells (repA 0 n).toArray 3 (0, 0))) ∧ Below w.heap.size w w1 := by
    refine ⟨_, rfl, hid0 ?_, (Below.refl _ _).alloc (Nat.le_refl _) _⟩
    have : madeCells #[.int .i64 0] n = (repA 0 n).toArray := by
      apply Array.toList_inj.1
      rw [toList_madeCells_one]
      simp [repA]
    rw [this, World.alloc]
    simp
  have hc1 : Hid (w1.cell? ⟨b, o, none⟩ = some (.int .i64 (-1))) := hid0 (by subst hw1; exact (World.cell?_alloc_past _ _ _ (World.block_lt_of_cell? w _ hc)).trans hc)
  obtain ⟨m, hm, hmn, hm0⟩ : ∃ m, Hid (m = Nat.min 1 n) ∧ m ≤ n ∧ Hid (0 < n → 0 < m) := ⟨_, rfl, Nat.min_le_right 1 n, hid0 fun h => by show 0 < min 1 n; omega⟩
  have hpos : CpSrc w1 w.heap.size 0 (some ⟨w.heap.size, 0, none⟩) (some ⟨b, o, none⟩) (List.replicate m (.int .i64 (-1))) := .mk (by
    refine fun _ => ⟨rfl, _, rfl, fun j v hj => ?_⟩
    have hm' : m = min 1 n := hm
    obtain ⟨h1, h2⟩ := List.getElem?_eq_some_iff.1 hj
    simp at h1 h2
    have : j = 0 := by omega
    subst this h2
    exact hc1)
  have hone : Hid (∀ k, ∀ v ∈ List.replicate k (Value.int .i64 (-1)), v.oneCell' = true) := hid0 (by
    intro k v hv
    rw [(List.mem_replicate.1 hv).2]; rfl)
  have hml : Hid ((List.replicate m (Value.int .i64 (-1))).length = Nat.min 1 n) := hid0 (by rw [List.length_replicate]; exact hm)
  have hfit : Hid (0 + (List.replicate m (Value.int .i64 (-1))).length ≤ (repA 0 n).length) := hid0 (by rw [List.length_replicate, rep_len 0 n (by omega)]; omega)
  clear hm hc
  go_enter Try.func153, Try.ntmps153
  go_wp2_with (first | (go_at_call 165; refine (r153_mul n hn _).mono ?_; rintro e w' ⟨rfl, rfl⟩) | (refine wpList_copy_splice rfl (.tmp 31) (.tmp 32) 22 22 rfl 3 Try.underlying22 r153_size3 (some ⟨w.heap.size, 0, none⟩) (some ⟨b, o, none⟩) n n 1 c (by rfl) (by rfl) w.heap.size 0 (repA 0 n) 3 hh1 (List.replicate m (.int .i64 (-1))) hml hpos.out hfit (hone m) w.heap.size w hb1 (Nat.le_refl _) ?_; intro w2 hh2 hb2; have hh3 := rep_hid m n hmn hh2; clear hh2))
  clear hpos hml hfit hc1 hh1 hb1
  go_loopw [8] (fun v wr => ∃ k : Nat, v = .int .i64 k ∧ k ≤ n ∧ Hid (0 < n → 0 < k) ∧ Hid (wr.heap[w.heap.size]? = some (.cells (repA k n).toArray 3 (0, 0))) ∧ Below w.heap.size w wr) (fun v _ => n - (RowKit.intOf v).toNat)
  case atStart => exact ⟨m, by go_num, hmn, hm0, hh3, hb2⟩
  case round =>
    clear hh3 hb2
    obtain ⟨k, rfl, hk, hk0, hh, hb⟩ := hrel
    by_cases hkn : k < n
    · obtain ⟨j, hj, hj0, hjn⟩ : ∃ j, Hid (j = Nat.min k (n - k)) ∧ Hid (0 < j) ∧ k + j ≤ n := ⟨_, rfl, by show 0 < min k (n - k); have := hk0 (by omega); omega, by show k + min k (n - k) ≤ n; omega⟩
      have hjl : Hid ((List.replicate j (Value.int .i64 (-1))).length = Nat.min k (n - k)) := hid0 (by rw [List.length_replicate]; exact hj)
      have hne : ¬ n = k := by omega
      have hfit : Hid (k + (List.replicate j (Value.int .i64 (-1))).length ≤ (repA k n).length) := hid0 (by rw [List.length_replicate, rep_len k n hk]; exact hjn)
      have hsrc : CpSrc wr.drew w.heap.size k (some ⟨w.heap.size, k, none⟩) (some ⟨w.heap.size, 0, none⟩) (List.replicate j (.int .i64 (-1))) := .mk (by
        refine fun _ => ⟨rfl, _, rfl, fun i v hi => ?_⟩
        obtain ⟨h1, h2⟩ := List.getElem?_eq_some_iff.1 hi
        simp at h1 h2
        subst h2
        have h3 : j = min k (n - k) := hj
        show wr.cell? _ = _
        rw [Addr.add_lit, World.cell?]
        have h4 : wr.heap[w.heap.size]? = _ := hh
        simp only [h4]
        have := rep_get k n i (by omega)
        simpa using this)
      have hhd : Hid (wr.drew.heap[w.heap.size]? = some (.cells (repA k n).toArray 3 (0, 0))) := hh
      have hbd : Below w.heap.size w wr.drew := hb.drew
      have hk1 : (0 : Int) ≤ (k : Int) := by omega
      have hk2 : (k : Int) ≤ (n : Int) := by omega
      have hk3 : ((k : Int)).toNat = k := by omega
      have hwr : IntKind.i64.wrap ((k : Int) + (j : Int)) = (k : Int) + (j : Int) := by rw [IntKind.wrap_i64]; omega
      clear hj
      go_wp2_with fail
      go_region_law (refine step_copy_splice rfl (.tmp 41) (.tmp 44) 22 22 rfl 3 Try.underlying22 r153_size3 (some ⟨w.heap.size, k, none⟩) (some ⟨w.heap.size, 0, none⟩) (n - k) (n - k) k n (by simp [Act.eval, Act.put]) (by simp [Act.eval, Act.put]) w.heap.size k (repA k n) 3 hhd (List.replicate j (.int .i64 (-1))) hjl hsrc.out hfit (hone j) w.heap.size w hbd (Nat.le_refl _) ?_; intro w3 hh4 hb4)
      go_wp2
      go_roundw
      case rel =>
        (repeat apply Exists.intro)
        exact ⟨⟨k + j, by go_num, hjn, (fun _ => by have : 0 < k := hk0 (by omega); omega), rep_hid2 k j n hjn hh4, hb4⟩, rfl⟩
      case measure =>
        have h0 : 0 < j := hj0
        have hz : n - (RowKit.intOf (Value.int .i64 ((k : Int) + (j : Int)))).toNat < n - (RowKit.intOf (Value.int .i64 (k : Int))).toNat := by
          simp only [RowKit.intOf]
          omega
        exact hz
    · obtain rfl : k = n := by omega
      go_wp2_with fail
      go_ret
      exact ⟨rfl, hb, hh⟩
theorem c153 (n : Nat) (hn : n ≤ 1000000) : BCon Try.prog 153 [lv [-1], iv n] n (List.replicate n (iv (-1))) := by
  refine ⟨enters_of Try.func153 (by kernel_rfl) rfl, ?_⟩
  intro C w vs hC hl hv
  obtain ⟨x0, x1, rfl⟩ : ∃ x0 x1, vs = #[x0, x1] := by
    rcases vs with ⟨l⟩
    match l, hl with
    | [a, b], _ => exact ⟨a, b, rfl⟩
  have h0 := hv 0 x0 _ rfl rfl
  have h1 := hv 1 x1 _ rfl rfl
  cases h1
  cases h0 with
  | list sz xs tk A m c cv hm hc hmx hcell hrv htk =>
    obtain ⟨_, b, o, rfl, hj⟩ := hcell 0 _ rfl
    have hb := hC _ _ _ (hj 0 (by omega))
    have hr := hrv 0 _ 0 _ rfl rfl
    cases hm
    simp only [Nat.zero_mul, Nat.add_zero] at hb
    have e : cv 0 0 = .int .i64 (-1) := by
      have g : ∀ v, RV C noρ noτ v (iv (-1)) → v = .int .i64 (-1) := fun v h => by cases h; rfl
      exact g _ hr
    rw [e] at hb
    refine (r153_calls b o c n w hn hb.1).mono ?_
    rintro e w' ⟨rfl, hbel, hh⟩
    refine ⟨_, _, C, (repA n n).toArray, 3, rfl, Nat.le_refl _, by unfold maxLen; omega, hbel, fun _ _ _ h => h, fun _ _ _ h => .inl h, ?_, Nat.le_refl _, hh, ?_, ?_, ?_, ?_⟩
    · intro b o v h
      have := hC b o v h
      exact ⟨(hbel.cell (World.block_lt_of_cell? w _ this.1)).trans this.1, this.2⟩
    · simp [rep_len]
    · intro i v hi
      have hi := Array.getElem?_eq_some_iff.1 hi
      obtain ⟨h1, h2⟩ := hi
      simp [repA] at h2
      subst h2; rfl
    · intro i v x hi hx
      simp [repA] at hi hx
      obtain ⟨_, rfl⟩ := Array.getElem?_eq_some_iff.1 hi
      obtain ⟨_, rfl⟩ := List.getElem?_eq_some_iff.1 hx
      simp
      exact .v _ rfl
    · intro o
      match hco : C w.heap.size o with
      | none => rfl
      | some v => exact absurd (World.block_lt_of_cell? w _ (hC _ _ _ hco).1) (Nat.lt_irrefl _)
end Go.Sy

/- Contracts: the document's overlap through which two morphisms go. -/
set_option linter.unusedSimpArgs false
namespace Go.Sy
open Go Go.Proofs

end Go.Sy

/- FactorComplete: the law's contract. -/
set_option linter.unusedSimpArgs false
namespace Go.Sy
open Go Go.Proofs

/-! ### What is chosen is a part -/
end Go.Sy

/- Conditions as abstract values, and what the small functions say of them. -/
namespace Go.Sy
open Go Go.Proofs

inductive Cd where
  | mk (k : Int) (kids : List Cd) (m : Mo) (g : Gr) (sl : List (List AV)) (v : Int) (ts : List (List AV))
theorem Cd.ind {P : Cd → Prop} (h : ∀ k kids m g sl v ts, (∀ c ∈ kids, P c) → P (.mk k kids m g sl v ts)) (c : Cd) : P c :=
  Cd.rec (motive_1 := P) (motive_2 := fun l => ∀ c ∈ l, P c) (fun k kids m g sl v ts ih => h k kids m g sl v ts ih) (fun c hc => by simp at hc) (fun c l h1 h2 d hd => (List.mem_cons.1 hd).elim (fun e => e ▸ h1) (h2 d)) c
mutual
def ccs : Cd → List AV
  | .mk k kids m g sl v ts => [iv k, .list 9 (ccsL kids) .no, lv m.n, lv m.e, lv g.n, elv g.e, .list 4 sl .no, iv v, .list 5 ts .no]
def ccsL : List Cd → List (List AV)
  | [] => []
  | c :: l => ccs c :: ccsL l
end
theorem ccsL_map : ∀ l : List Cd, ccsL l = l.map ccs
  | [] => rfl
  | c :: l => by rw [ccsL, ccsL_map l]; rfl
theorem ccs_mk (k : Int) (kids : List Cd) (m : Mo) (g : Gr) (sl : List (List AV)) (v : Int) (ts : List (List AV)) :
    ccs (.mk k kids m g sl v ts) = [iv k, .list 9 (kids.map ccs) .no, lv m.n, lv m.e, lv g.n, elv g.e, .list 4 sl .no, iv v, .list 5 ts .no] := by rw [ccs, ccsL_map]
def cv (c : Cd) : AV := .agg (ccs c)
def pcs (g : Gr) (sl : List (List AV)) (v : Int) (ts : List (List AV)) : List AV := [lv g.n, elv g.e, .list 4 sl .no, iv v, .list 5 ts .no]
attribute [go_sem] ccs_mk cv pcs
theorem foldl_take {α β : Type} {f : β → α → β} {a : β} {l : List α} {i : Nat} (h : i < l.length) : (l.take (i + 1)).foldl f a = f ((l.take i).foldl f a) l[i] := by
  rw [List.take_add_one, List.getElem?_eq_getElem h, List.foldl_append]
  rfl
/-! ### Sizes -/
def maxI (a b : Int) : Int := if b > a then b else a
mutual
def szC : Cd → Int × Int
  | .mk k kids _ _ _ _ _ => let r := szL kids (1, 0); (r.1, if k = 5 then IntKind.i64.wrap (r.2 + 1) else r.2)
def szL : List Cd → Int × Int → Int × Int
  | [], r => r
  | c :: l, r => szL l (IntKind.i64.wrap (r.1 + (szC c).1), maxI r.2 (szC c).2)
end
def szF (r : Int × Int) (c : Cd) : Int × Int := (IntKind.i64.wrap (r.1 + (szC c).1), maxI r.2 (szC c).2)
theorem szL_fold : ∀ (l : List Cd) (r : Int × Int), szL l r = l.foldl szF r
  | [], _ => rfl
  | c :: l, r => by rw [szL, szL_fold l]; rfl
theorem szC_mk (k : Int) (kids : List Cd) (m : Mo) (g : Gr) (sl : List (List AV)) (v : Int) (ts : List (List AV)) :
    szC (.mk k kids m g sl v ts) = ((kids.foldl szF (1, 0)).1, if k = 5 then IntKind.i64.wrap ((kids.foldl szF (1, 0)).2 + 1) else (kids.foldl szF (1, 0)).2) := by rw [szC, szL_fold]
def lrg (c : Cd) : Int := if 2000 < (szC c).1 ∨ 3 < (szC c).2 then 3 else 0
/-! ### Shapes -/
def unu (m : Mo) (g : Gr) : Bool := (m.n.length : Int) == 0 && ((m.e.length : Int) == 0 && ((g.n.length : Int) == 0 && (g.e.length : Int) == 0))
def plnB (sl : List (List AV)) (v : Int) (ts : List (List AV)) : Bool := (sl.length : Int) == 0 && (v == 0 && (ts.length : Int) == 0)
def okK (k : Int) (n : Nat) (u : Bool) : Bool :=
  if k = 1 then (n : Int) == 0 && u else if k = 2 then (n : Int) == 1 && u else if k = 3 ∨ k = 4 then decide (0 < (n : Int)) && u else if k = 5 then (n : Int) == 1 else false
def shp : Cd → Int
  | .mk k kids m g sl v ts => if okK k kids.length (unu m g && plnB sl v ts) = true then (if plnB sl v ts = true then 0 else 8) else 1
mutual
def shpA : Cd → Int
  | .mk k kids m g sl v ts => if shp (.mk k kids m g sl v ts) ≠ 0 then shp (.mk k kids m g sl v ts) else shpL kids
def shpL : List Cd → Int
  | [] => 0
  | c :: l => if shpA c ≠ 0 then shpA c else shpL l
end
/-- The first that is not nought. -/
def firstI {α : Type} (f : α → Int) : List α → Int
  | [] => 0
  | x :: l => if f x ≠ 0 then f x else firstI f l
theorem firstI_all {α : Type} {f : α → Int} : ∀ {l : List α}, (∀ x ∈ l, f x = 0) → firstI f l = 0
  | [], _ => rfl
  | x :: l, h => by rw [firstI, if_neg (by simp [h x (by simp)]), firstI_all fun y hy => h y (by simp [hy])]
theorem firstI_at {α : Type} {f : α → Int} : ∀ {l : List α} {i : Nat} (h : i < l.length), (∀ x ∈ l.take i, f x = 0) → f l[i] ≠ 0 → firstI f l = f l[i]
  | x :: l, 0, h, _, h2 => if_pos h2
  | x :: l, i + 1, h, h1, h2 => by
    rw [firstI, if_neg (by simp [h1 x (by simp)])]
    exact firstI_at (by simpa using h) (fun y hy => h1 y (by simp [hy])) h2
theorem firstI_zero {α : Type} {f : α → Int} : ∀ {l : List α}, firstI f l = 0 → ∀ x ∈ l, f x = 0
  | [], _, x, hx => by simp at hx
  | y :: l, h, x, hx => by
    rw [firstI] at h
    split at h
    · rename_i h1; exact absurd h h1
    · rename_i h1
      rcases List.mem_cons.1 hx with rfl | hx
      · simpa using h1
      · exact firstI_zero h x hx
theorem shpL_first : ∀ l : List Cd, shpL l = firstI shpA l
  | [] => rfl
  | c :: l => by rw [shpL, firstI, shpL_first l]
theorem shpA_mk (k : Int) (kids : List Cd) (m : Mo) (g : Gr) (sl : List (List AV)) (v : Int) (ts : List (List AV)) :
    shpA (.mk k kids m g sl v ts) = if shp (.mk k kids m g sl v ts) ≠ 0 then shp (.mk k kids m g sl v ts) else firstI shpA kids := by rw [shpA, shpL_first]
def sizR (c : Cd) : Int × Int × Int := if shpA c ≠ 0 then (0, 0, shpA c) else if lrg c ≠ 0 then (0, 0, lrg c) else ((szC c).1, (szC c).2, 0)
/-! ### Over a graph -/
mutual
def ovr : Cd → Gr → Int
  | .mk k kids m g sl v ts, a => if shp (.mk k kids m g sl v ts) ≠ 0 then shp (.mk k kids m g sl v ts) else if k = 5 then (if mErr a g m ≠ 0 then mErr a g m else if injR a g m = true then ovrL kids g else 1) else ovrL kids a
def ovrL : List Cd → Gr → Int
  | [], _ => 0
  | c :: l, a => if ovr c a ≠ 0 then ovr c a else ovrL l a
end
theorem ovrL_first (a : Gr) : ∀ l : List Cd, ovrL l a = firstI (fun c => ovr c a) l
  | [] => rfl
  | c :: l => by rw [ovrL, firstI, ovrL_first a l]
theorem ovr_mk (k : Int) (kids : List Cd) (m : Mo) (g : Gr) (sl : List (List AV)) (v : Int) (ts : List (List AV)) (a : Gr) :
    ovr (.mk k kids m g sl v ts) a = if shp (.mk k kids m g sl v ts) ≠ 0 then shp (.mk k kids m g sl v ts) else
      if k = 5 then (if mErr a g m ≠ 0 then mErr a g m else if injR a g m = true then firstI (fun c => ovr c g) kids else 1) else firstI (fun c => ovr c a) kids := by rw [ovr, ovrL_first, ovrL_first]
def vld (a : Gr) (c : Cd) : Int := if gErr a ≠ 0 then gErr a else if ovr c a ≠ 0 then ovr c a else lrg c
/-! ### Light ones -/
mutual
def fitC : Cd → Int → Int → Bool
  | .mk _ kids m g sl _ ts, n, e => decide (¬ ((n < (g.n.length : Int) ∨ e < (g.e.length : Int)) ∨ 100 < (m.n.length : Int) ∨ 100 < (m.e.length : Int) ∨ 20 < (sl.length : Int) ∨ 20 < (ts.length : Int))) && fitL kids n e
def fitL : List Cd → Int → Int → Bool
  | [], _, _ => true
  | c :: l, n, e => fitC c n e && fitL l n e
end
end Go.Sy

/- Contracts: shapes and sizes of conditions. -/
set_option linter.unusedSimpArgs false
namespace Go.Sy
open Go Go.Proofs

theorem ccs_len (c : Cd) : (ccs c).length = 9 := by obtain ⟨k, kids, m, g, sl, v, ts⟩ := c; rw [ccs_mk]; rfl
theorem ccs_take (c : Cd) : (ccs c).take 9 = ccs c := List.take_of_length_le (by rw [ccs_len]; exact Nat.le_refl _)
theorem ccs_fgt (c : Cd) : (ccs c).map fgt = ccs c := by obtain ⟨k, kids, m, g, sl, v, ts⟩ := c; rw [ccs_mk]; rfl
theorem ccs_clean (c : Cd) : (ccs c).all clean = true := by obtain ⟨k, kids, m, g, sl, v, ts⟩ := c; rw [ccs_mk]; rfl
theorem ccs_drop (c : Cd) : (ccs c).drop 9 = [] := List.drop_of_length_le (by rw [ccs_len]; exact Nat.le_refl _)
attribute [go_sem] ccs_len ccs_take ccs_fgt ccs_clean ccs_drop

theorem cv_mk (k : Int) (kids : List Cd) (m : Mo) (g : Gr) (sl : List (List AV)) (v : Int) (ts : List (List AV)) :
    cv (.mk k kids m g sl v ts) = .agg [iv k, .list 9 (kids.map ccs) .no, lv m.n, lv m.e, lv g.n, elv g.e, .list 4 sl .no, iv v, .list 5 ts .no] := by rw [cv, ccs_mk]
theorem shp_mk (k : Int) (kids : List Cd) (m : Mo) (g : Gr) (sl : List (List AV)) (v : Int) (ts : List (List AV)) :
    shp (.mk k kids m g sl v ts) = if okK k kids.length (unu m g && plnB sl v ts) = true then (if plnB sl v ts = true then 0 else 8) else 1 := rfl
theorem c127 : Con Try.prog 127 [] 0 (cv (.mk 1 [] ⟨[], []⟩ ⟨[], []⟩ [] 0 [])) := by
  refine conT (X := []) (rs := [.cell 0 69]) Try.func127 (by kernel_rfl) rfl rfl (by kernel_rfl) ?_
  simp (dsimp := false) (maxDischargeDepth := 16) only [go_sem, ↓reduceIte, reduceCtorEq, Nat.reduceEqDiff, Nat.reduceAdd, Nat.reduceMul, Nat.reduceSub, Nat.reduceLT, Nat.reduceLeDiff, Nat.reducePow, Int.reduceLT, Int.reduceLE, Int.reduceNeg, Int.reduceToNat]
  exact finK ⟨rfl, rfl⟩
theorem c159 (g : Gr) (sl : List (List AV)) (v : Int) (ts : List (List AV)) : Con Try.prog 159 [.agg (pcs g sl v ts)] 0 (bv (plnB sl v ts)) := by
  refine conT (X := []) (rs := [.tmp 2]) Try.func159 (by kernel_rfl) rfl rfl (by kernel_rfl) ?_
  simp (dsimp := false) (maxDischargeDepth := 16) only [go_sem, ↓reduceIte, reduceCtorEq, Nat.reduceEqDiff, Nat.reduceAdd, Nat.reduceMul, Nat.reduceSub, Nat.reduceLT, Nat.reduceLeDiff, Nat.reducePow, Int.reduceLT, Int.reduceLE, Int.reduceNeg, Int.reduceToNat]
  unfold plnB
  cases h1 : ((sl.length : Int) == 0) with
  | false => simp (dsimp := false) (maxDischargeDepth := 16) only [go_sem, ↓reduceIte, reduceCtorEq, Nat.reduceEqDiff, Nat.reduceAdd, Nat.reduceMul, Nat.reduceSub, Nat.reduceLT, Nat.reduceLeDiff, Nat.reducePow, Int.reduceLT, Int.reduceLE, Int.reduceNeg, Int.reduceToNat, h1]; exact finB rfl
  | true =>
    simp (dsimp := false) (maxDischargeDepth := 16) only [go_sem, ↓reduceIte, reduceCtorEq, Nat.reduceEqDiff, Nat.reduceAdd, Nat.reduceMul, Nat.reduceSub, Nat.reduceLT, Nat.reduceLeDiff, Nat.reducePow, Int.reduceLT, Int.reduceLE, Int.reduceNeg, Int.reduceToNat, h1]
    cases h2 : (v == 0) with
    | false => simp (dsimp := false) (maxDischargeDepth := 16) only [go_sem, ↓reduceIte, reduceCtorEq, Nat.reduceEqDiff, Nat.reduceAdd, Nat.reduceMul, Nat.reduceSub, Nat.reduceLT, Nat.reduceLeDiff, Nat.reducePow, Int.reduceLT, Int.reduceLE, Int.reduceNeg, Int.reduceToNat, h1, h2]; exact finB rfl
    | true =>
      simp (dsimp := false) (maxDischargeDepth := 16) only [go_sem, ↓reduceIte, reduceCtorEq, Nat.reduceEqDiff, Nat.reduceAdd, Nat.reduceMul, Nat.reduceSub, Nat.reduceLT, Nat.reduceLeDiff, Nat.reducePow, Int.reduceLT, Int.reduceLE, Int.reduceNeg, Int.reduceToNat, h1, h2]
      exact finB rfl
theorem c158 (k : Int) (kids : List Cd) (m : Mo) (g : Gr) (sl : List (List AV)) (v : Int) (ts : List (List AV)) : Con Try.prog 158 [cv (.mk k kids m g sl v ts)] 0 (bv (unu m g && plnB sl v ts)) := by
  have K := c159 g sl v ts
  generalize plnB sl v ts = B at *
  refine conT (X := []) (rs := [.tmp 2]) Try.func158 (by kernel_rfl) rfl rfl (by kernel_rfl) ?_
  simp (dsimp := false) (maxDischargeDepth := 16) only [go_sem, ↓reduceIte, reduceCtorEq, Nat.reduceEqDiff, Nat.reduceAdd, Nat.reduceMul, Nat.reduceSub, Nat.reduceLT, Nat.reduceLeDiff, Nat.reducePow, Int.reduceLT, Int.reduceLE, Int.reduceNeg, Int.reduceToNat]
  unfold unu
  cases h1 : ((m.n.length : Int) == 0) with
  | false => simp (dsimp := false) (maxDischargeDepth := 16) only [go_sem, ↓reduceIte, reduceCtorEq, Nat.reduceEqDiff, Nat.reduceAdd, Nat.reduceMul, Nat.reduceSub, Nat.reduceLT, Nat.reduceLeDiff, Nat.reducePow, Int.reduceLT, Int.reduceLE, Int.reduceNeg, Int.reduceToNat, h1]; exact finB rfl
  | true =>
    simp (dsimp := false) (maxDischargeDepth := 16) only [go_sem, ↓reduceIte, reduceCtorEq, Nat.reduceEqDiff, Nat.reduceAdd, Nat.reduceMul, Nat.reduceSub, Nat.reduceLT, Nat.reduceLeDiff, Nat.reducePow, Int.reduceLT, Int.reduceLE, Int.reduceNeg, Int.reduceToNat, h1]
    cases h2 : ((m.e.length : Int) == 0) with
    | false => simp (dsimp := false) (maxDischargeDepth := 16) only [go_sem, ↓reduceIte, reduceCtorEq, Nat.reduceEqDiff, Nat.reduceAdd, Nat.reduceMul, Nat.reduceSub, Nat.reduceLT, Nat.reduceLeDiff, Nat.reducePow, Int.reduceLT, Int.reduceLE, Int.reduceNeg, Int.reduceToNat, h1, h2]; exact finB rfl
    | true =>
      simp (dsimp := false) (maxDischargeDepth := 16) only [go_sem, ↓reduceIte, reduceCtorEq, Nat.reduceEqDiff, Nat.reduceAdd, Nat.reduceMul, Nat.reduceSub, Nat.reduceLT, Nat.reduceLeDiff, Nat.reducePow, Int.reduceLT, Int.reduceLE, Int.reduceNeg, Int.reduceToNat, h1, h2]
      cases h3 : ((g.n.length : Int) == 0) with
      | false => simp (dsimp := false) (maxDischargeDepth := 16) only [go_sem, ↓reduceIte, reduceCtorEq, Nat.reduceEqDiff, Nat.reduceAdd, Nat.reduceMul, Nat.reduceSub, Nat.reduceLT, Nat.reduceLeDiff, Nat.reducePow, Int.reduceLT, Int.reduceLE, Int.reduceNeg, Int.reduceToNat, h1, h2, h3]; exact finB rfl
      | true =>
        simp (dsimp := false) (maxDischargeDepth := 16) only [go_sem, ↓reduceIte, reduceCtorEq, Nat.reduceEqDiff, Nat.reduceAdd, Nat.reduceMul, Nat.reduceSub, Nat.reduceLT, Nat.reduceLeDiff, Nat.reducePow, Int.reduceLT, Int.reduceLE, Int.reduceNeg, Int.reduceToNat, h1, h2, h3]
        cases h4 : ((g.e.length : Int) == 0) with
        | false => simp (dsimp := false) (maxDischargeDepth := 16) only [go_sem, ↓reduceIte, reduceCtorEq, Nat.reduceEqDiff, Nat.reduceAdd, Nat.reduceMul, Nat.reduceSub, Nat.reduceLT, Nat.reduceLeDiff, Nat.reducePow, Int.reduceLT, Int.reduceLE, Int.reduceNeg, Int.reduceToNat, h1, h2, h3, h4]; exact finB rfl
        | true =>
          simp (dsimp := false) (maxDischargeDepth := 16) only [go_sem, ↓reduceIte, reduceCtorEq, Nat.reduceEqDiff, Nat.reduceAdd, Nat.reduceMul, Nat.reduceSub, Nat.reduceLT, Nat.reduceLeDiff, Nat.reducePow, Int.reduceLT, Int.reduceLE, Int.reduceNeg, Int.reduceToNat, h1, h2, h3, h4]
          refine callK_intro K ?_
          simp (dsimp := false) (maxDischargeDepth := 16) only [go_sem, ↓reduceIte, reduceCtorEq, Nat.reduceEqDiff, Nat.reduceAdd, Nat.reduceMul, Nat.reduceSub, Nat.reduceLT, Nat.reduceLeDiff, Nat.reducePow, Int.reduceLT, Int.reduceLE, Int.reduceNeg, Int.reduceToNat, h1, h2, h3, h4]
          exact finB rfl
theorem not_k {k n : Int} (h : k ≠ n) : (k == n) = false := by simpa using h
theorem c142 (k : Int) (kids : List Cd) (m : Mo) (g : Gr) (sl : List (List AV)) (v : Int) (ts : List (List AV)) : Con Try.prog 142 [cv (.mk k kids m g sl v ts)] 0 (iv (shp (.mk k kids m g sl v ts))) := by
  have K1 := c158 k kids m g sl v ts
  rw [cv_mk] at K1
  have K2 := c159 g sl v ts
  rw [shp_mk]
  unfold okK
  generalize (unu m g && plnB sl v ts) = U at *
  generalize plnB sl v ts = B at *
  by_cases e1 : k = 1
  · subst e1
    simp (dsimp := false) only [↓reduceIte]
    refine conT (X := []) (rs := [.tmp 2]) Try.func142 (by kernel_rfl) rfl rfl (by kernel_rfl) ?_
    simp (dsimp := false) (maxDischargeDepth := 16) only [go_sem, ↓reduceIte, reduceCtorEq, Nat.reduceEqDiff, Nat.reduceAdd, Nat.reduceMul, Nat.reduceSub, Nat.reduceLT, Nat.reduceLeDiff, Nat.reducePow, Int.reduceLT, Int.reduceLE, Int.reduceNeg, Int.reduceToNat]
    refine condK_intro (fun q => ?_) (fun q => absurd q (by decide))
    simp (dsimp := false) (maxDischargeDepth := 16) only [go_sem, ↓reduceIte, reduceCtorEq, Nat.reduceEqDiff, Nat.reduceAdd, Nat.reduceMul, Nat.reduceSub, Nat.reduceLT, Nat.reduceLeDiff, Nat.reducePow, Int.reduceLT, Int.reduceLE, Int.reduceNeg, Int.reduceToNat, q]
    cases h1 : ((kids.length : Int) == 0) with
    | false => simp (dsimp := false) (maxDischargeDepth := 16) only [go_sem, ↓reduceIte, reduceCtorEq, Nat.reduceEqDiff, Nat.reduceAdd, Nat.reduceMul, Nat.reduceSub, Nat.reduceLT, Nat.reduceLeDiff, Nat.reducePow, Int.reduceLT, Int.reduceLE, Int.reduceNeg, Int.reduceToNat, h1]; exact finI (by simp)
    | true =>
      simp (dsimp := false) (maxDischargeDepth := 16) only [go_sem, ↓reduceIte, reduceCtorEq, Nat.reduceEqDiff, Nat.reduceAdd, Nat.reduceMul, Nat.reduceSub, Nat.reduceLT, Nat.reduceLeDiff, Nat.reducePow, Int.reduceLT, Int.reduceLE, Int.reduceNeg, Int.reduceToNat, h1]
      refine callK_intro K1 ?_
      cases U with
      | false => simp (dsimp := false) (maxDischargeDepth := 16) only [go_sem, ↓reduceIte, reduceCtorEq, Nat.reduceEqDiff, Nat.reduceAdd, Nat.reduceMul, Nat.reduceSub, Nat.reduceLT, Nat.reduceLeDiff, Nat.reducePow, Int.reduceLT, Int.reduceLE, Int.reduceNeg, Int.reduceToNat, h1]; exact finI (by simp)
      | true =>
        simp (dsimp := false) (maxDischargeDepth := 16) only [go_sem, ↓reduceIte, reduceCtorEq, Nat.reduceEqDiff, Nat.reduceAdd, Nat.reduceMul, Nat.reduceSub, Nat.reduceLT, Nat.reduceLeDiff, Nat.reducePow, Int.reduceLT, Int.reduceLE, Int.reduceNeg, Int.reduceToNat, h1]
        refine callK_intro K2 ?_
        cases B with
        | false => simp (dsimp := false) (maxDischargeDepth := 16) only [go_sem, ↓reduceIte, reduceCtorEq, Nat.reduceEqDiff, Nat.reduceAdd, Nat.reduceMul, Nat.reduceSub, Nat.reduceLT, Nat.reduceLeDiff, Nat.reducePow, Int.reduceLT, Int.reduceLE, Int.reduceNeg, Int.reduceToNat, h1]; exact finI (by simp)
        | true => simp (dsimp := false) (maxDischargeDepth := 16) only [go_sem, ↓reduceIte, reduceCtorEq, Nat.reduceEqDiff, Nat.reduceAdd, Nat.reduceMul, Nat.reduceSub, Nat.reduceLT, Nat.reduceLeDiff, Nat.reducePow, Int.reduceLT, Int.reduceLE, Int.reduceNeg, Int.reduceToNat, h1]; exact finI (by simp)
  by_cases e2 : k = 2
  · subst e2
    simp (dsimp := false) only [Int.reduceEq, ↓reduceIte]
    refine conT (X := []) (rs := [.tmp 2]) Try.func142 (by kernel_rfl) rfl rfl (by kernel_rfl) ?_
    simp (dsimp := false) (maxDischargeDepth := 16) only [go_sem, ↓reduceIte, reduceCtorEq, Nat.reduceEqDiff, Nat.reduceAdd, Nat.reduceMul, Nat.reduceSub, Nat.reduceLT, Nat.reduceLeDiff, Nat.reducePow, Int.reduceLT, Int.reduceLE, Int.reduceNeg, Int.reduceToNat]
    refine condK_intro (fun q => absurd q (by decide)) (fun q => ?_)
    simp (dsimp := false) (maxDischargeDepth := 16) only [go_sem, ↓reduceIte, reduceCtorEq, Nat.reduceEqDiff, Nat.reduceAdd, Nat.reduceMul, Nat.reduceSub, Nat.reduceLT, Nat.reduceLeDiff, Nat.reducePow, Int.reduceLT, Int.reduceLE, Int.reduceNeg, Int.reduceToNat, q]
    refine condK_intro (fun q2 => ?_) (fun q => absurd q (by decide))
    simp (dsimp := false) (maxDischargeDepth := 16) only [go_sem, ↓reduceIte, reduceCtorEq, Nat.reduceEqDiff, Nat.reduceAdd, Nat.reduceMul, Nat.reduceSub, Nat.reduceLT, Nat.reduceLeDiff, Nat.reducePow, Int.reduceLT, Int.reduceLE, Int.reduceNeg, Int.reduceToNat, q, q2]
    cases h1 : ((kids.length : Int) == 1) with
    | false => simp (dsimp := false) (maxDischargeDepth := 16) only [go_sem, ↓reduceIte, reduceCtorEq, Nat.reduceEqDiff, Nat.reduceAdd, Nat.reduceMul, Nat.reduceSub, Nat.reduceLT, Nat.reduceLeDiff, Nat.reducePow, Int.reduceLT, Int.reduceLE, Int.reduceNeg, Int.reduceToNat, h1]; exact finI (by simp)
    | true =>
      simp (dsimp := false) (maxDischargeDepth := 16) only [go_sem, ↓reduceIte, reduceCtorEq, Nat.reduceEqDiff, Nat.reduceAdd, Nat.reduceMul, Nat.reduceSub, Nat.reduceLT, Nat.reduceLeDiff, Nat.reducePow, Int.reduceLT, Int.reduceLE, Int.reduceNeg, Int.reduceToNat, h1]
      refine callK_intro K1 ?_
      cases U with
      | false => simp (dsimp := false) (maxDischargeDepth := 16) only [go_sem, ↓reduceIte, reduceCtorEq, Nat.reduceEqDiff, Nat.reduceAdd, Nat.reduceMul, Nat.reduceSub, Nat.reduceLT, Nat.reduceLeDiff, Nat.reducePow, Int.reduceLT, Int.reduceLE, Int.reduceNeg, Int.reduceToNat, h1]; exact finI (by simp)
      | true =>
        simp (dsimp := false) (maxDischargeDepth := 16) only [go_sem, ↓reduceIte, reduceCtorEq, Nat.reduceEqDiff, Nat.reduceAdd, Nat.reduceMul, Nat.reduceSub, Nat.reduceLT, Nat.reduceLeDiff, Nat.reducePow, Int.reduceLT, Int.reduceLE, Int.reduceNeg, Int.reduceToNat, h1]
        refine callK_intro K2 ?_
        cases B with
        | false => simp (dsimp := false) (maxDischargeDepth := 16) only [go_sem, ↓reduceIte, reduceCtorEq, Nat.reduceEqDiff, Nat.reduceAdd, Nat.reduceMul, Nat.reduceSub, Nat.reduceLT, Nat.reduceLeDiff, Nat.reducePow, Int.reduceLT, Int.reduceLE, Int.reduceNeg, Int.reduceToNat, h1]; exact finI (by simp)
        | true => simp (dsimp := false) (maxDischargeDepth := 16) only [go_sem, ↓reduceIte, reduceCtorEq, Nat.reduceEqDiff, Nat.reduceAdd, Nat.reduceMul, Nat.reduceSub, Nat.reduceLT, Nat.reduceLeDiff, Nat.reducePow, Int.reduceLT, Int.reduceLE, Int.reduceNeg, Int.reduceToNat, h1]; exact finI (by simp)
  by_cases e3 : k = 3 ∨ k = 4
  · rw [if_neg e1, if_neg e2, if_pos e3]
    have n1 := not_k e1
    have n2 := not_k e2
    refine conT (X := []) (rs := [.tmp 2]) Try.func142 (by kernel_rfl) rfl rfl (by kernel_rfl) ?_
    rcases e3 with rfl | rfl
    · simp (dsimp := false) (maxDischargeDepth := 16) only [go_sem, ↓reduceIte, reduceCtorEq, Nat.reduceEqDiff, Nat.reduceAdd, Nat.reduceMul, Nat.reduceSub, Nat.reduceLT, Nat.reduceLeDiff, Nat.reducePow, Int.reduceLT, Int.reduceLE, Int.reduceNeg, Int.reduceToNat, n1, n2]
      refine condK_intro (fun q => ?_) (fun q => absurd q (by decide))
      simp (dsimp := false) (maxDischargeDepth := 16) only [go_sem, ↓reduceIte, reduceCtorEq, Nat.reduceEqDiff, Nat.reduceAdd, Nat.reduceMul, Nat.reduceSub, Nat.reduceLT, Nat.reduceLeDiff, Nat.reducePow, Int.reduceLT, Int.reduceLE, Int.reduceNeg, Int.reduceToNat, q, n1, n2]
      cases h1 : (decide (0 < (kids.length : Int))) with
      | false => simp (dsimp := false) (maxDischargeDepth := 16) only [go_sem, ↓reduceIte, reduceCtorEq, Nat.reduceEqDiff, Nat.reduceAdd, Nat.reduceMul, Nat.reduceSub, Nat.reduceLT, Nat.reduceLeDiff, Nat.reducePow, Int.reduceLT, Int.reduceLE, Int.reduceNeg, Int.reduceToNat, h1]; exact finI (by simp)
      | true =>
        simp (dsimp := false) (maxDischargeDepth := 16) only [go_sem, ↓reduceIte, reduceCtorEq, Nat.reduceEqDiff, Nat.reduceAdd, Nat.reduceMul, Nat.reduceSub, Nat.reduceLT, Nat.reduceLeDiff, Nat.reducePow, Int.reduceLT, Int.reduceLE, Int.reduceNeg, Int.reduceToNat, h1]
        refine callK_intro K1 ?_
        cases U with
        | false => simp (dsimp := false) (maxDischargeDepth := 16) only [go_sem, ↓reduceIte, reduceCtorEq, Nat.reduceEqDiff, Nat.reduceAdd, Nat.reduceMul, Nat.reduceSub, Nat.reduceLT, Nat.reduceLeDiff, Nat.reducePow, Int.reduceLT, Int.reduceLE, Int.reduceNeg, Int.reduceToNat, h1]; exact finI (by simp)
        | true =>
          simp (dsimp := false) (maxDischargeDepth := 16) only [go_sem, ↓reduceIte, reduceCtorEq, Nat.reduceEqDiff, Nat.reduceAdd, Nat.reduceMul, Nat.reduceSub, Nat.reduceLT, Nat.reduceLeDiff, Nat.reducePow, Int.reduceLT, Int.reduceLE, Int.reduceNeg, Int.reduceToNat, h1]
          refine callK_intro K2 ?_
          cases B with
          | false => simp (dsimp := false) (maxDischargeDepth := 16) only [go_sem, ↓reduceIte, reduceCtorEq, Nat.reduceEqDiff, Nat.reduceAdd, Nat.reduceMul, Nat.reduceSub, Nat.reduceLT, Nat.reduceLeDiff, Nat.reducePow, Int.reduceLT, Int.reduceLE, Int.reduceNeg, Int.reduceToNat, h1]; exact finI (by simp)
          | true => simp (dsimp := false) (maxDischargeDepth := 16) only [go_sem, ↓reduceIte, reduceCtorEq, Nat.reduceEqDiff, Nat.reduceAdd, Nat.reduceMul, Nat.reduceSub, Nat.reduceLT, Nat.reduceLeDiff, Nat.reducePow, Int.reduceLT, Int.reduceLE, Int.reduceNeg, Int.reduceToNat, h1]; exact finI (by simp)
    · simp (dsimp := false) (maxDischargeDepth := 16) only [go_sem, ↓reduceIte, reduceCtorEq, Nat.reduceEqDiff, Nat.reduceAdd, Nat.reduceMul, Nat.reduceSub, Nat.reduceLT, Nat.reduceLeDiff, Nat.reducePow, Int.reduceLT, Int.reduceLE, Int.reduceNeg, Int.reduceToNat, n1, n2]
      refine condK_intro (fun q => absurd q (by decide)) (fun q => ?_)
      simp (dsimp := false) (maxDischargeDepth := 16) only [go_sem, ↓reduceIte, reduceCtorEq, Nat.reduceEqDiff, Nat.reduceAdd, Nat.reduceMul, Nat.reduceSub, Nat.reduceLT, Nat.reduceLeDiff, Nat.reducePow, Int.reduceLT, Int.reduceLE, Int.reduceNeg, Int.reduceToNat, q, n1, n2]
      refine condK_intro (fun q2 => ?_) (fun q => absurd q (by decide))
      simp (dsimp := false) (maxDischargeDepth := 16) only [go_sem, ↓reduceIte, reduceCtorEq, Nat.reduceEqDiff, Nat.reduceAdd, Nat.reduceMul, Nat.reduceSub, Nat.reduceLT, Nat.reduceLeDiff, Nat.reducePow, Int.reduceLT, Int.reduceLE, Int.reduceNeg, Int.reduceToNat, q, q2, n1, n2]
      cases h1 : (decide (0 < (kids.length : Int))) with
      | false => simp (dsimp := false) (maxDischargeDepth := 16) only [go_sem, ↓reduceIte, reduceCtorEq, Nat.reduceEqDiff, Nat.reduceAdd, Nat.reduceMul, Nat.reduceSub, Nat.reduceLT, Nat.reduceLeDiff, Nat.reducePow, Int.reduceLT, Int.reduceLE, Int.reduceNeg, Int.reduceToNat, h1]; exact finI (by simp)
      | true =>
        simp (dsimp := false) (maxDischargeDepth := 16) only [go_sem, ↓reduceIte, reduceCtorEq, Nat.reduceEqDiff, Nat.reduceAdd, Nat.reduceMul, Nat.reduceSub, Nat.reduceLT, Nat.reduceLeDiff, Nat.reducePow, Int.reduceLT, Int.reduceLE, Int.reduceNeg, Int.reduceToNat, h1]
        refine callK_intro K1 ?_
        cases U with
        | false => simp (dsimp := false) (maxDischargeDepth := 16) only [go_sem, ↓reduceIte, reduceCtorEq, Nat.reduceEqDiff, Nat.reduceAdd, Nat.reduceMul, Nat.reduceSub, Nat.reduceLT, Nat.reduceLeDiff, Nat.reducePow, Int.reduceLT, Int.reduceLE, Int.reduceNeg, Int.reduceToNat, h1]; exact finI (by simp)
        | true =>
          simp (dsimp := false) (maxDischargeDepth := 16) only [go_sem, ↓reduceIte, reduceCtorEq, Nat.reduceEqDiff, Nat.reduceAdd, Nat.reduceMul, Nat.reduceSub, Nat.reduceLT, Nat.reduceLeDiff, Nat.reducePow, Int.reduceLT, Int.reduceLE, Int.reduceNeg, Int.reduceToNat, h1]
          refine callK_intro K2 ?_
          cases B with
          | false => simp (dsimp := false) (maxDischargeDepth := 16) only [go_sem, ↓reduceIte, reduceCtorEq, Nat.reduceEqDiff, Nat.reduceAdd, Nat.reduceMul, Nat.reduceSub, Nat.reduceLT, Nat.reduceLeDiff, Nat.reducePow, Int.reduceLT, Int.reduceLE, Int.reduceNeg, Int.reduceToNat, h1]; exact finI (by simp)
          | true => simp (dsimp := false) (maxDischargeDepth := 16) only [go_sem, ↓reduceIte, reduceCtorEq, Nat.reduceEqDiff, Nat.reduceAdd, Nat.reduceMul, Nat.reduceSub, Nat.reduceLT, Nat.reduceLeDiff, Nat.reducePow, Int.reduceLT, Int.reduceLE, Int.reduceNeg, Int.reduceToNat, h1]; exact finI (by simp)
  rw [if_neg e1, if_neg e2, if_neg e3]
  have n1 := not_k e1
  have n2 := not_k e2
  have n3 := not_k (fun h => e3 (.inl h))
  have n4 := not_k (fun h => e3 (.inr h))
  by_cases e5 : k = 5
  · rw [if_pos e5]
    have n5 : (k == 5) = true := by simp [e5]
    refine conT (X := []) (rs := [.tmp 2]) Try.func142 (by kernel_rfl) rfl rfl (by kernel_rfl) ?_
    simp (dsimp := false) (maxDischargeDepth := 16) only [go_sem, ↓reduceIte, reduceCtorEq, Nat.reduceEqDiff, Nat.reduceAdd, Nat.reduceMul, Nat.reduceSub, Nat.reduceLT, Nat.reduceLeDiff, Nat.reducePow, Int.reduceLT, Int.reduceLE, Int.reduceNeg, Int.reduceToNat, n1, n2, n3, n4, n5]
    cases h1 : ((kids.length : Int) == 1) with
    | false => simp (dsimp := false) (maxDischargeDepth := 16) only [go_sem, ↓reduceIte, reduceCtorEq, Nat.reduceEqDiff, Nat.reduceAdd, Nat.reduceMul, Nat.reduceSub, Nat.reduceLT, Nat.reduceLeDiff, Nat.reducePow, Int.reduceLT, Int.reduceLE, Int.reduceNeg, Int.reduceToNat, h1]; exact finI (by simp)
    | true =>
      simp (dsimp := false) (maxDischargeDepth := 16) only [go_sem, ↓reduceIte, reduceCtorEq, Nat.reduceEqDiff, Nat.reduceAdd, Nat.reduceMul, Nat.reduceSub, Nat.reduceLT, Nat.reduceLeDiff, Nat.reducePow, Int.reduceLT, Int.reduceLE, Int.reduceNeg, Int.reduceToNat, h1]
      refine callK_intro K2 ?_
      cases B with
      | false => simp (dsimp := false) (maxDischargeDepth := 16) only [go_sem, ↓reduceIte, reduceCtorEq, Nat.reduceEqDiff, Nat.reduceAdd, Nat.reduceMul, Nat.reduceSub, Nat.reduceLT, Nat.reduceLeDiff, Nat.reducePow, Int.reduceLT, Int.reduceLE, Int.reduceNeg, Int.reduceToNat, h1]; exact finI (by simp)
      | true => simp (dsimp := false) (maxDischargeDepth := 16) only [go_sem, ↓reduceIte, reduceCtorEq, Nat.reduceEqDiff, Nat.reduceAdd, Nat.reduceMul, Nat.reduceSub, Nat.reduceLT, Nat.reduceLeDiff, Nat.reducePow, Int.reduceLT, Int.reduceLE, Int.reduceNeg, Int.reduceToNat, h1]; exact finI (by simp)
  · rw [if_neg e5]
    have n5 := not_k e5
    refine conT (X := []) (rs := [.tmp 2]) Try.func142 (by kernel_rfl) rfl rfl (by kernel_rfl) ?_
    simp (dsimp := false) (maxDischargeDepth := 16) only [go_sem, ↓reduceIte, reduceCtorEq, Nat.reduceEqDiff, Nat.reduceAdd, Nat.reduceMul, Nat.reduceSub, Nat.reduceLT, Nat.reduceLeDiff, Nat.reducePow, Int.reduceLT, Int.reduceLE, Int.reduceNeg, Int.reduceToNat, n1, n2, n3, n4, n5]
    exact finI (by simp)
end Go.Sy

/- Contracts: sizes of conditions; what is valid by itself; what is light. -/
set_option linter.unusedSimpArgs false
namespace Go.Sy
open Go Go.Proofs

theorem bnd_cv {n : Nat} {k : Int} {kids : List Cd} {m : Mo} {g : Gr} {sl : List (List AV)} {v : Int} {ts : List (List AV)} (h : bnd (n + 2) (cv (.mk k kids m g sl v ts))) : (kids.length : Int) ≤ 9223372036854775807 := by
  rw [cv_mk] at h
  have := (h (.list 9 (kids.map ccs) .no) (by simp)).1
  simpa using this
theorem c101 (c : Cd) : Con Try.prog 101 [cv c] 0 (.tup [iv (szC c).1, iv (szC c).2]) := by
  induction c using Cd.ind
  rename_i k kids m g sl v ts ih
  refine Con.assume (enters_of Try.func101 (by kernel_rfl) rfl) fun hb => ?_
  have hlen := bnd_cv (hb _ (List.mem_cons_self ..))
  clear hb
  rw [szC_mk]
  refine conT (X := []) (rs := [.tmp 2, .tmp 3]) Try.func101 (by kernel_rfl) rfl rfl (by kernel_rfl) ?_
  simp (dsimp := false) (maxDischargeDepth := 16) only [go_sem, ↓reduceIte, reduceCtorEq, Nat.reduceEqDiff, Nat.reduceAdd, Nat.reduceMul, Nat.reduceSub, Nat.reduceLT, Nat.reduceLeDiff, Nat.reducePow, Int.reduceLT, Int.reduceLE, Int.reduceNeg, Int.reduceToNat]
  refine loopK_intro (fun (i : Nat) s => i ≤ kids.length ∧ s.t 1 = .box (1, 0, 0) 0 ∧ s.b (1, 0, 0) = some ⟨ccs (.mk k kids m g sl v ts), false⟩ ∧ s.t 4 = iv ((kids.take i).foldl szF (1, 0)).1 ∧ s.t 5 = iv ((kids.take i).foldl szF (1, 0)).2 ∧ s.t 6 = iv i) (fun i => kids.length - i) ?_ ?_
  · refine ⟨0, by omega, rfl, ?_, rfl, rfl, rfl⟩
    simp (dsimp := false) (maxDischargeDepth := 16) only [go_sem, ↓reduceIte, reduceCtorEq, Nat.reduceEqDiff, Nat.reduceAdd, Nat.reduceMul, Nat.reduceSub, Nat.reduceLT, Nat.reduceLeDiff, Nat.reducePow, Int.reduceLT, Int.reduceLE, Int.reduceNeg, Int.reduceToNat]
  rintro i s ⟨hi, t1, b1, t4, t5, t6⟩
  simp (dsimp := false) (maxDischargeDepth := 16) only [go_sem, ↓reduceIte, reduceCtorEq, Nat.reduceEqDiff, Nat.reduceAdd, Nat.reduceMul, Nat.reduceSub, Nat.reduceLT, Nat.reduceLeDiff, Nat.reducePow, Int.reduceLT, Int.reduceLE, Int.reduceNeg, Int.reduceToNat, t1, b1, t4, t5, t6]
  refine condK_dec (fun h6 => ?_) (fun h6 => ?_)
  · have hs := foldl_take (f := szF) (a := (1, 0)) h6
    have hc := ih _ (List.getElem_mem h6)
    generalize (kids.take i).foldl szF (1, 0) = z at *
    simp (dsimp := false) (maxDischargeDepth := 16) only [go_sem, ↓reduceIte, reduceCtorEq, Nat.reduceEqDiff, Nat.reduceAdd, Nat.reduceMul, Nat.reduceSub, Nat.reduceLT, Nat.reduceLeDiff, Nat.reducePow, Int.reduceLT, Int.reduceLE, Int.reduceNeg, Int.reduceToNat, t1, b1, t4, t5, t6, h6, idx_nat]
    refine callK_intro hc ?_
    simp (dsimp := false) (maxDischargeDepth := 16) only [go_sem, ↓reduceIte, reduceCtorEq, Nat.reduceEqDiff, Nat.reduceAdd, Nat.reduceMul, Nat.reduceSub, Nat.reduceLT, Nat.reduceLeDiff, Nat.reducePow, Int.reduceLT, Int.reduceLE, Int.reduceNeg, Int.reduceToNat, t1, b1, t4, t5, t6, h6]
    exact ⟨i + 1, by omega, by omega, by rw [hs]; rfl, by rw [hs]; rfl, by rw [wrapN _ (by omega)]⟩
  · have hin : i = kids.length := by omega
    subst hin
    rw [List.take_length] at t4 t5
    generalize kids.foldl szF (1, 0) = z at *
    simp (dsimp := false) (maxDischargeDepth := 16) only [go_sem, ↓reduceIte, reduceCtorEq, Nat.reduceEqDiff, Nat.reduceAdd, Nat.reduceMul, Nat.reduceSub, Nat.reduceLT, Nat.reduceLeDiff, Nat.reducePow, Int.reduceLT, Int.reduceLE, Int.reduceNeg, Int.reduceToNat, t1, b1, t4, t5, t6, h6]
    refine condK_intro (fun q => ?_) (fun q => ?_)
    · simp (dsimp := false) (maxDischargeDepth := 16) only [go_sem, ↓reduceIte, reduceCtorEq, Nat.reduceEqDiff, Nat.reduceAdd, Nat.reduceMul, Nat.reduceSub, Nat.reduceLT, Nat.reduceLeDiff, Nat.reducePow, Int.reduceLT, Int.reduceLE, Int.reduceNeg, Int.reduceToNat, t1, b1, t4, t5, t6, q]
      rw [if_pos (beq_iff_eq.1 q)]
      exact finK ⟨rfl, rfl⟩
    · simp (dsimp := false) (maxDischargeDepth := 16) only [go_sem, ↓reduceIte, reduceCtorEq, Nat.reduceEqDiff, Nat.reduceAdd, Nat.reduceMul, Nat.reduceSub, Nat.reduceLT, Nat.reduceLeDiff, Nat.reducePow, Int.reduceLT, Int.reduceLE, Int.reduceNeg, Int.reduceToNat, t1, b1, t4, t5, t6, q]
      rw [if_neg (beqF q)]
      exact finK ⟨rfl, rfl⟩
theorem c105 (c : Cd) : Con Try.prog 105 [cv c] 0 (.tup [iv (szC c).1, iv (szC c).2]) := by
  induction c using Cd.ind
  rename_i k kids m g sl v ts ih
  refine Con.assume (enters_of Try.func105 (by kernel_rfl) rfl) fun hb => ?_
  have hlen := bnd_cv (hb _ (List.mem_cons_self ..))
  clear hb
  rw [szC_mk]
  refine conT (X := []) (rs := [.tmp 2, .tmp 3]) Try.func105 (by kernel_rfl) rfl rfl (by kernel_rfl) ?_
  simp (dsimp := false) (maxDischargeDepth := 16) only [go_sem, ↓reduceIte, reduceCtorEq, Nat.reduceEqDiff, Nat.reduceAdd, Nat.reduceMul, Nat.reduceSub, Nat.reduceLT, Nat.reduceLeDiff, Nat.reducePow, Int.reduceLT, Int.reduceLE, Int.reduceNeg, Int.reduceToNat]
  refine loopK_intro (fun (i : Nat) s => i ≤ kids.length ∧ s.t 1 = .box (1, 0, 0) 0 ∧ s.b (1, 0, 0) = some ⟨ccs (.mk k kids m g sl v ts), false⟩ ∧ s.t 4 = iv ((kids.take i).foldl szF (1, 0)).1 ∧ s.t 5 = iv ((kids.take i).foldl szF (1, 0)).2 ∧ s.t 11 = .list 9 (kids.map ccs) .no ∧ s.t 12 = iv kids.length ∧ s.t 13 = iv i) (fun i => kids.length - i) ?_ ?_
  · refine ⟨0, by omega, rfl, ?_, rfl, rfl, rfl, rfl, rfl⟩
    simp (dsimp := false) (maxDischargeDepth := 16) only [go_sem, ↓reduceIte, reduceCtorEq, Nat.reduceEqDiff, Nat.reduceAdd, Nat.reduceMul, Nat.reduceSub, Nat.reduceLT, Nat.reduceLeDiff, Nat.reducePow, Int.reduceLT, Int.reduceLE, Int.reduceNeg, Int.reduceToNat]
  rintro i s ⟨hi, t1, b1, t4, t5, t11, t12, t13⟩
  simp (dsimp := false) (maxDischargeDepth := 16) only [go_sem, ↓reduceIte, reduceCtorEq, Nat.reduceEqDiff, Nat.reduceAdd, Nat.reduceMul, Nat.reduceSub, Nat.reduceLT, Nat.reduceLeDiff, Nat.reducePow, Int.reduceLT, Int.reduceLE, Int.reduceNeg, Int.reduceToNat, t1, b1, t4, t5, t11, t12, t13]
  refine condK_dec (fun h6 => ?_) (fun h6 => ?_)
  · have hs := foldl_take (f := szF) (a := (1, 0)) h6
    have hc := ih _ (List.getElem_mem h6)
    generalize (kids.take i).foldl szF (1, 0) = z at *
    simp (dsimp := false) (maxDischargeDepth := 16) only [go_sem, ↓reduceIte, reduceCtorEq, Nat.reduceEqDiff, Nat.reduceAdd, Nat.reduceMul, Nat.reduceSub, Nat.reduceLT, Nat.reduceLeDiff, Nat.reducePow, Int.reduceLT, Int.reduceLE, Int.reduceNeg, Int.reduceToNat, t1, b1, t4, t5, t11, t12, t13, h6, idx_nat]
    refine callK_intro hc ?_
    simp (dsimp := false) (maxDischargeDepth := 16) only [go_sem, ↓reduceIte, reduceCtorEq, Nat.reduceEqDiff, Nat.reduceAdd, Nat.reduceMul, Nat.reduceSub, Nat.reduceLT, Nat.reduceLeDiff, Nat.reducePow, Int.reduceLT, Int.reduceLE, Int.reduceNeg, Int.reduceToNat, t1, b1, t4, t5, t11, t12, t13, h6]
    exact ⟨i + 1, by omega, by omega, by rw [hs]; rfl, by rw [hs]; rfl, by rw [wrapN _ (by omega)]⟩
  · have hin : i = kids.length := by omega
    subst hin
    rw [List.take_length] at t4 t5
    generalize kids.foldl szF (1, 0) = z at *
    simp (dsimp := false) (maxDischargeDepth := 16) only [go_sem, ↓reduceIte, reduceCtorEq, Nat.reduceEqDiff, Nat.reduceAdd, Nat.reduceMul, Nat.reduceSub, Nat.reduceLT, Nat.reduceLeDiff, Nat.reducePow, Int.reduceLT, Int.reduceLE, Int.reduceNeg, Int.reduceToNat, t1, b1, t4, t5, t11, t12, t13, h6]
    refine condK_intro (fun q => ?_) (fun q => ?_)
    · simp (dsimp := false) (maxDischargeDepth := 16) only [go_sem, ↓reduceIte, reduceCtorEq, Nat.reduceEqDiff, Nat.reduceAdd, Nat.reduceMul, Nat.reduceSub, Nat.reduceLT, Nat.reduceLeDiff, Nat.reducePow, Int.reduceLT, Int.reduceLE, Int.reduceNeg, Int.reduceToNat, t1, b1, t4, t5, q]
      rw [if_pos (beq_iff_eq.1 q)]
      exact finK ⟨rfl, rfl⟩
    · simp (dsimp := false) (maxDischargeDepth := 16) only [go_sem, ↓reduceIte, reduceCtorEq, Nat.reduceEqDiff, Nat.reduceAdd, Nat.reduceMul, Nat.reduceSub, Nat.reduceLT, Nat.reduceLeDiff, Nat.reducePow, Int.reduceLT, Int.reduceLE, Int.reduceNeg, Int.reduceToNat, t1, b1, t4, t5, q]
      rw [if_neg (beqF q)]
      exact finK ⟨rfl, rfl⟩
theorem lrg_eq (c : Cd) : lrg c = if 2000 < (szC c).1 ∨ 3 < (szC c).2 then 3 else 0 := rfl
theorem c104 (c : Cd) : Con Try.prog 104 [cv c] 0 (iv (lrg c)) := by
  have K := c105 c
  rw [lrg_eq]
  generalize szC c = z at *
  refine conT (X := []) (rs := [.tmp 2]) Try.func104 (by kernel_rfl) rfl rfl (by kernel_rfl) ?_
  simp (dsimp := false) (maxDischargeDepth := 16) only [go_sem, ↓reduceIte, reduceCtorEq, Nat.reduceEqDiff, Nat.reduceAdd, Nat.reduceMul, Nat.reduceSub, Nat.reduceLT, Nat.reduceLeDiff, Nat.reducePow, Int.reduceLT, Int.reduceLE, Int.reduceNeg, Int.reduceToNat]
  refine callK_intro K ?_
  by_cases h1 : 2000 < z.1
  · simp (dsimp := false) (maxDischargeDepth := 16) only [go_sem, ↓reduceIte, reduceCtorEq, Nat.reduceEqDiff, Nat.reduceAdd, Nat.reduceMul, Nat.reduceSub, Nat.reduceLT, Nat.reduceLeDiff, Nat.reducePow, Int.reduceLT, Int.reduceLE, Int.reduceNeg, Int.reduceToNat, h1]
    exact finI (by simp)
  · by_cases h2 : 3 < z.2
    · simp (dsimp := false) (maxDischargeDepth := 16) only [go_sem, ↓reduceIte, reduceCtorEq, Nat.reduceEqDiff, Nat.reduceAdd, Nat.reduceMul, Nat.reduceSub, Nat.reduceLT, Nat.reduceLeDiff, Nat.reducePow, Int.reduceLT, Int.reduceLE, Int.reduceNeg, Int.reduceToNat, h1, h2]
      exact finI (by simp)
    · simp (dsimp := false) (maxDischargeDepth := 16) only [go_sem, ↓reduceIte, reduceCtorEq, Nat.reduceEqDiff, Nat.reduceAdd, Nat.reduceMul, Nat.reduceSub, Nat.reduceLT, Nat.reduceLeDiff, Nat.reducePow, Int.reduceLT, Int.reduceLE, Int.reduceNeg, Int.reduceToNat, h1, h2]
      exact finI (by simp)
theorem ne0_T {x : Int} (h : (x != 0) = true) : x ≠ 0 := by simpa using h
theorem ne0_F {x : Int} (h : (x != 0) = false) : x = 0 := by simpa using h
theorem c103 (c : Cd) : Con Try.prog 103 [cv c] 0 (iv (shpA c)) := by
  induction c using Cd.ind
  rename_i k kids m g sl v ts ih
  refine Con.assume (enters_of Try.func103 (by kernel_rfl) rfl) fun hb => ?_
  have hlen := bnd_cv (hb _ (List.mem_cons_self ..))
  clear hb
  rw [shpA_mk]
  have K := c142 k kids m g sl v ts
  rw [cv_mk] at K
  generalize shp (.mk k kids m g sl v ts) = e at *
  refine conT (X := []) (rs := [.tmp 2]) Try.func103 (by kernel_rfl) rfl rfl (by kernel_rfl) ?_
  simp (dsimp := false) (maxDischargeDepth := 16) only [go_sem, ↓reduceIte, reduceCtorEq, Nat.reduceEqDiff, Nat.reduceAdd, Nat.reduceMul, Nat.reduceSub, Nat.reduceLT, Nat.reduceLeDiff, Nat.reducePow, Int.reduceLT, Int.reduceLE, Int.reduceNeg, Int.reduceToNat]
  refine callK_intro K ?_
  simp (dsimp := false) (maxDischargeDepth := 16) only [go_sem, ↓reduceIte, reduceCtorEq, Nat.reduceEqDiff, Nat.reduceAdd, Nat.reduceMul, Nat.reduceSub, Nat.reduceLT, Nat.reduceLeDiff, Nat.reducePow, Int.reduceLT, Int.reduceLE, Int.reduceNeg, Int.reduceToNat]
  refine condK_intro (fun q => ?_) (fun q => ?_)
  · simp (dsimp := false) (maxDischargeDepth := 16) only [go_sem, ↓reduceIte, reduceCtorEq, Nat.reduceEqDiff, Nat.reduceAdd, Nat.reduceMul, Nat.reduceSub, Nat.reduceLT, Nat.reduceLeDiff, Nat.reducePow, Int.reduceLT, Int.reduceLE, Int.reduceNeg, Int.reduceToNat, q]
    rw [if_pos (ne0_T q)]
    exact finI rfl
  rw [if_neg (by simp [ne0_F q])]
  simp (dsimp := false) (maxDischargeDepth := 16) only [go_sem, ↓reduceIte, reduceCtorEq, Nat.reduceEqDiff, Nat.reduceAdd, Nat.reduceMul, Nat.reduceSub, Nat.reduceLT, Nat.reduceLeDiff, Nat.reducePow, Int.reduceLT, Int.reduceLE, Int.reduceNeg, Int.reduceToNat, q]
  refine loopK_intro (fun (i : Nat) s => i ≤ kids.length ∧ s.t 13 = .list 9 (kids.map ccs) .no ∧ s.t 14 = iv kids.length ∧ s.t 15 = iv i ∧ ∀ x ∈ kids.take i, shpA x = 0) (fun i => kids.length - i) ⟨0, by omega, rfl, rfl, rfl, fun j hj => by simp at hj⟩ ?_
  rintro i s ⟨hi, t13, t14, t15, hall⟩
  simp (dsimp := false) (maxDischargeDepth := 16) only [go_sem, ↓reduceIte, reduceCtorEq, Nat.reduceEqDiff, Nat.reduceAdd, Nat.reduceMul, Nat.reduceSub, Nat.reduceLT, Nat.reduceLeDiff, Nat.reducePow, Int.reduceLT, Int.reduceLE, Int.reduceNeg, Int.reduceToNat, t13, t14, t15]
  refine condK_dec (fun h6 => ?_) (fun h6 => ?_)
  · simp (dsimp := false) (maxDischargeDepth := 16) only [go_sem, ↓reduceIte, reduceCtorEq, Nat.reduceEqDiff, Nat.reduceAdd, Nat.reduceMul, Nat.reduceSub, Nat.reduceLT, Nat.reduceLeDiff, Nat.reducePow, Int.reduceLT, Int.reduceLE, Int.reduceNeg, Int.reduceToNat, t13, t14, t15, h6, idx_nat]
    refine callK_intro (ih _ (List.getElem_mem h6)) ?_
    simp (dsimp := false) (maxDischargeDepth := 16) only [go_sem, ↓reduceIte, reduceCtorEq, Nat.reduceEqDiff, Nat.reduceAdd, Nat.reduceMul, Nat.reduceSub, Nat.reduceLT, Nat.reduceLeDiff, Nat.reducePow, Int.reduceLT, Int.reduceLE, Int.reduceNeg, Int.reduceToNat, t13, t14, t15, h6]
    refine condK_intro (fun h9 => ?_) (fun h9 => ?_)
    · simp (dsimp := false) (maxDischargeDepth := 16) only [go_sem, ↓reduceIte, reduceCtorEq, Nat.reduceEqDiff, Nat.reduceAdd, Nat.reduceMul, Nat.reduceSub, Nat.reduceLT, Nat.reduceLeDiff, Nat.reducePow, Int.reduceLT, Int.reduceLE, Int.reduceNeg, Int.reduceToNat, t13, t14, t15, h6, h9]
      exact finI (firstI_at h6 hall (ne0_T h9))
    · simp (dsimp := false) (maxDischargeDepth := 16) only [go_sem, ↓reduceIte, reduceCtorEq, Nat.reduceEqDiff, Nat.reduceAdd, Nat.reduceMul, Nat.reduceSub, Nat.reduceLT, Nat.reduceLeDiff, Nat.reducePow, Int.reduceLT, Int.reduceLE, Int.reduceNeg, Int.reduceToNat, t13, t14, t15, h6, h9]
      exact ⟨i + 1, by omega, by omega, by rw [wrapN _ (by omega)], take_all h6 hall (ne0_F h9)⟩
  · simp (dsimp := false) (maxDischargeDepth := 16) only [go_sem, ↓reduceIte, reduceCtorEq, Nat.reduceEqDiff, Nat.reduceAdd, Nat.reduceMul, Nat.reduceSub, Nat.reduceLT, Nat.reduceLeDiff, Nat.reducePow, Int.reduceLT, Int.reduceLE, Int.reduceNeg, Int.reduceToNat, t13, t14, t15, h6]
    exact finI (firstI_all (take_full h6 hall))
/-! ### Light ones -/
theorem sizR_eq (c : Cd) : sizR c = if shpA c ≠ 0 then (0, 0, shpA c) else if lrg c ≠ 0 then (0, 0, lrg c) else ((szC c).1, (szC c).2, 0) := rfl
theorem c52 (c : Cd) : Con Try.prog 52 [cv c] 0 (.tup [iv (sizR c).1, iv (sizR c).2.1, iv (sizR c).2.2]) := by
  have K1 := c103 c
  have K2 := c104 c
  have K3 := c105 c
  rw [sizR_eq]
  generalize shpA c = x at *
  generalize lrg c = y at *
  generalize szC c = z at *
  refine conT (X := []) (rs := [.tmp 2, .tmp 3, .tmp 4]) Try.func52 (by kernel_rfl) rfl rfl (by kernel_rfl) ?_
  simp (dsimp := false) (maxDischargeDepth := 16) only [go_sem, ↓reduceIte, reduceCtorEq, Nat.reduceEqDiff, Nat.reduceAdd, Nat.reduceMul, Nat.reduceSub, Nat.reduceLT, Nat.reduceLeDiff, Nat.reducePow, Int.reduceLT, Int.reduceLE, Int.reduceNeg, Int.reduceToNat]
  refine callK_intro K1 ?_
  simp (dsimp := false) (maxDischargeDepth := 16) only [go_sem, ↓reduceIte, reduceCtorEq, Nat.reduceEqDiff, Nat.reduceAdd, Nat.reduceMul, Nat.reduceSub, Nat.reduceLT, Nat.reduceLeDiff, Nat.reducePow, Int.reduceLT, Int.reduceLE, Int.reduceNeg, Int.reduceToNat]
  refine condK_intro (fun q => ?_) (fun q => ?_)
  · simp (dsimp := false) (maxDischargeDepth := 16) only [go_sem, ↓reduceIte, reduceCtorEq, Nat.reduceEqDiff, Nat.reduceAdd, Nat.reduceMul, Nat.reduceSub, Nat.reduceLT, Nat.reduceLeDiff, Nat.reducePow, Int.reduceLT, Int.reduceLE, Int.reduceNeg, Int.reduceToNat, q]
    rw [if_pos (ne0_T q)]
    exact finK ⟨rfl, rfl⟩
  rw [if_neg (by simp [ne0_F q])]
  simp (dsimp := false) (maxDischargeDepth := 16) only [go_sem, ↓reduceIte, reduceCtorEq, Nat.reduceEqDiff, Nat.reduceAdd, Nat.reduceMul, Nat.reduceSub, Nat.reduceLT, Nat.reduceLeDiff, Nat.reducePow, Int.reduceLT, Int.reduceLE, Int.reduceNeg, Int.reduceToNat, q]
  refine callK_intro K2 ?_
  simp (dsimp := false) (maxDischargeDepth := 16) only [go_sem, ↓reduceIte, reduceCtorEq, Nat.reduceEqDiff, Nat.reduceAdd, Nat.reduceMul, Nat.reduceSub, Nat.reduceLT, Nat.reduceLeDiff, Nat.reducePow, Int.reduceLT, Int.reduceLE, Int.reduceNeg, Int.reduceToNat]
  refine condK_intro (fun q2 => ?_) (fun q2 => ?_)
  · simp (dsimp := false) (maxDischargeDepth := 16) only [go_sem, ↓reduceIte, reduceCtorEq, Nat.reduceEqDiff, Nat.reduceAdd, Nat.reduceMul, Nat.reduceSub, Nat.reduceLT, Nat.reduceLeDiff, Nat.reducePow, Int.reduceLT, Int.reduceLE, Int.reduceNeg, Int.reduceToNat, q, q2]
    rw [if_pos (ne0_T q2)]
    exact finK ⟨rfl, rfl⟩
  rw [if_neg (by simp [ne0_F q2])]
  simp (dsimp := false) (maxDischargeDepth := 16) only [go_sem, ↓reduceIte, reduceCtorEq, Nat.reduceEqDiff, Nat.reduceAdd, Nat.reduceMul, Nat.reduceSub, Nat.reduceLT, Nat.reduceLeDiff, Nat.reducePow, Int.reduceLT, Int.reduceLE, Int.reduceNeg, Int.reduceToNat, q, q2]
  refine callK_intro K3 ?_
  simp (dsimp := false) (maxDischargeDepth := 16) only [go_sem, ↓reduceIte, reduceCtorEq, Nat.reduceEqDiff, Nat.reduceAdd, Nat.reduceMul, Nat.reduceSub, Nat.reduceLT, Nat.reduceLeDiff, Nat.reducePow, Int.reduceLT, Int.reduceLE, Int.reduceNeg, Int.reduceToNat]
  exact finK ⟨rfl, rfl⟩
end Go.Sy
