/- The library's sort, clone, compaction and product at this program: laid by the kit's tool. -/
import Derived.Shelf.Sort.Plain
import Derived.Shelf.Bits.Mul64
import Derived.Shelf.Slices.Turned
import Derived.Ground.Names2Prog
import Derived.Shelf.Slices.Clone
import Derived.Shelf.Slices.CompactI
import Derived.Shelf.Slices.In.SortNone
import Derived.Test.YtkhheblmgbiniaaProg
import Derived.Test.YtkhheblmgbiniaaOntoG4
import Derived.WalkKit
import Derived.Below
import Derived.Lib.OwnBridge
import Derived.Sort.Grow
import Derived.Sort.OwnSortedInts
import Derived.WideShapes
import Derived.Test.YtkhheblmgbiniaaOntoG2
import Derived.RangeFuncBox
import Derived.RangeFuncLeaves
import Derived.Shelf.Abstract
import Derived.OwnWalkIn
import Derived.TacticsInMore
import Derived.LoopNIn
import Derived.LoopIn
import Derived.Maps.AppendAt
import Derived.Test.YtkhheblmgbiniaaOntoG3
namespace Go.Proofs
open Go.Shelf
def Try.lays189_ren : Go.Shelf.Ren := ⟨fun | 189 => 148 | 125 => 164 | 257 => 163 | 128 => 176 | 129 => 177 | 294 => 167 | 295 => 168 | 296 => 169 | 297 => 170 | 298 => 171 | 299 => 172 | 216 => 173 | 300 => 174 | 301 => 175 | 328 => 180 | 329 => 181 | 330 => 182 | 331 => 183 | 332 => 184 | 215 => 185 | 343 => 186 | n => n, fun | 28 => 22 | 3 => 3 | 46 => 197 | 0 => 0 | 51 => 210 | 53 => 212 | 4 => 4 | 183 => 203 | 182 => 202 | 131 => 207 | 5 => 5 | 9 => 9 | 218 => 217 | 222 => 221 | 228 => 223 | 229 => 149 | n => n, fun | n => n⟩
theorem Try.lays189 : Go.Proofs.Lays.n189 Try.prog Try.lays189_ren := {
  mixed := by kernel_rfl
  f125 := Try.func164.trans (congrArg some (by kernel_rfl))
  f128 := Try.func176.trans (congrArg some (by kernel_rfl))
  f129 := Try.func177.trans (congrArg some (by kernel_rfl))
  f189 := Try.func148.trans (congrArg some (by kernel_rfl))
  f215 := Try.func185.trans (congrArg some (by kernel_rfl))
  f216 := Try.func173.trans (congrArg some (by kernel_rfl))
  f257 := Try.func163.trans (congrArg some (by kernel_rfl))
  f294 := Try.func167.trans (congrArg some (by kernel_rfl))
  f295 := Try.func168.trans (congrArg some (by kernel_rfl))
  f296 := Try.func169.trans (congrArg some (by kernel_rfl))
  f297 := Try.func170.trans (congrArg some (by kernel_rfl))
  f298 := Try.func171.trans (congrArg some (by kernel_rfl))
  f299 := Try.func172.trans (congrArg some (by kernel_rfl))
  f300 := Try.func174.trans (congrArg some (by kernel_rfl))
  f301 := Try.func175.trans (congrArg some (by kernel_rfl))
  f328 := Try.func180.trans (congrArg some (by kernel_rfl))
  f329 := Try.func181.trans (congrArg some (by kernel_rfl))
  f330 := Try.func182.trans (congrArg some (by kernel_rfl))
  f331 := Try.func183.trans (congrArg some (by kernel_rfl))
  f332 := Try.func184.trans (congrArg some (by kernel_rfl))
  f343 := Try.func186.trans (congrArg some (by kernel_rfl))
  t0 := Try.underlying0
  a0 := Try.isAgg0
  z0 := Try.sizeOf0
  v0 := Try.zeroValue0
  t3 := Try.underlying3
  a3 := Try.isAgg3
  z3 := Try.sizeOf3
  v3 := Try.zeroValue3
  t4 := Try.underlying4
  a4 := Try.isAgg4
  z4 := Try.sizeOf4
  v4 := Try.zeroValue4
  t5 := Try.underlying5
  a5 := Try.isAgg5
  z5 := Try.sizeOf5
  v5 := Try.zeroValue5
  t9 := Try.underlying9
  a9 := Try.isAgg9
  z9 := Try.sizeOf9
  v9 := Try.zeroValue9
  t28 := Try.underlying22
  a28 := Try.isAgg22
  z28 := Try.sizeOf22
  v28 := Try.zeroValue22
  t46 := Try.underlying197
  a46 := Try.isAgg197
  z46 := Try.sizeOf197
  v46 := Try.zeroValue197
  t51 := Try.underlying210
  a51 := Try.isAgg210
  z51 := Try.sizeOf210
  v51 := Try.zeroValue210
  t53 := Try.underlying212
  a53 := Try.isAgg212
  z53 := Try.sizeOf212
  v53 := Try.zeroValue212
  t131 := Try.underlying207
  a131 := Try.isAgg207
  z131 := Try.sizeOf207
  v131 := Try.zeroValue207
  t182 := Try.underlying202
  a182 := Try.isAgg202
  z182 := Try.sizeOf202
  v182 := Try.zeroValue202
  t183 := Try.underlying203
  a183 := Try.isAgg203
  z183 := Try.sizeOf203
  v183 := Try.zeroValue203
  t218 := Try.underlying217
  a218 := Try.isAgg217
  z218 := Try.sizeOf217
  v218 := Try.zeroValue217
  t222 := Try.underlying221
  a222 := Try.isAgg221
  z222 := Try.sizeOf221
  v222 := Try.zeroValue221
  t228 := Try.underlying223
  a228 := Try.isAgg223
  z228 := Try.sizeOf223
  v228 := Try.zeroValue223
  t229 := Try.underlying149
  a229 := Try.isAgg149
  z229 := Try.sizeOf149
  v229 := Try.zeroValue149 }
open Go.Sort Go.RowKit in
theorem Try.slices_Sort_int (blk off cap : Nat) (zs : List Int) (w : World) (hH : Holds (Value.int .i64) w blk off zs.toArray) (hblk : blk < w.heap.size) (hsz : zs.length < 4611686018427387904) :
    Calls Try.prog 148 #[.slice (some ⟨blk, off, none⟩) zs.length cap] w fun e w' =>
      e = .returned (.tuple #[]) ∧ ∃ n os, w' = grow (putRow (Value.int .i64) (Sort.ahead w n) blk off (zs.mergeSort fun x y => decide (x ≤ y)).toArray) os := Any.slices_Sort_int Try.lays189 blk off cap zs w hH hblk hsz
def Try.lays212_ren : Go.Shelf.Ren := ⟨fun | 212 => 165 | 263 => 178 | 264 => 179 | n => n, fun | 46 => 197 | 51 => 210 | 146 => 213 | 53 => 212 | 148 => 215 | n => n, fun | n => n⟩
theorem Try.lays212 : Go.Proofs.Lays.n212 Try.prog Try.lays212_ren := {
  mixed := by kernel_rfl
  f212 := Try.func165.trans (congrArg some (by kernel_rfl))
  f263 := Try.func178.trans (congrArg some (by kernel_rfl))
  f264 := Try.func179.trans (congrArg some (by kernel_rfl))
  t46 := Try.underlying197
  a46 := Try.isAgg197
  z46 := Try.sizeOf197
  v46 := Try.zeroValue197
  t51 := Try.underlying210
  a51 := Try.isAgg210
  z51 := Try.sizeOf210
  v51 := Try.zeroValue210
  t53 := Try.underlying212
  a53 := Try.isAgg212
  z53 := Try.sizeOf212
  v53 := Try.zeroValue212
  t146 := Try.underlying213
  a146 := Try.isAgg213
  z146 := Try.sizeOf213
  v146 := Try.zeroValue213
  t148 := Try.underlying215
  a148 := Try.isAgg215
  z148 := Try.sizeOf215
  v148 := Try.zeroValue215 }
open Go.RowKit Go.Lib in
theorem Try.bits_Mul (x y : Nat) (hx : x < 18446744073709551616) (hy : y < 18446744073709551616) (w : World) :
    Calls Try.prog 165 #[.int .u64 x, .int .u64 y] w fun e w' => e = .returned (.tuple #[.int .u64 ((x * y / 18446744073709551616 : Nat) : Int), .int .u64 ((x * y % 18446744073709551616 : Nat) : Int)]) ∧ w' = w := Any.bits_Mul Try.lays212 x y hx hy w
def Try.laysNm215_ren : Go.Shelf.Ren := ⟨fun | 15 => 78 | n => n, fun | 22 => 22 | 3 => 3 | 4 => 4 | n => n, fun | n => n⟩
theorem Try.laysNm215 : Go.Proofs.Lays2.n15 Try.prog Try.laysNm215_ren := {
  mixed := by kernel_rfl
  f15 := Try.func78.trans (congrArg some (by kernel_rfl))
  t3 := Try.underlying3
  a3 := Try.isAgg3
  z3 := Try.sizeOf3
  v3 := Try.zeroValue3
  t4 := Try.underlying4
  a4 := Try.isAgg4
  z4 := Try.sizeOf4
  v4 := Try.zeroValue4
  t22 := Try.underlying22
  a22 := Try.isAgg22
  z22 := Try.sizeOf22
  v22 := Try.zeroValue22
  i3 := by kernel_rfl }
open Go.RowKit Go.Lib in
theorem Try.slices_Clone_int (b off n c : Nat) (zs : List Int) (w : World) (hz : n ≤ zs.length) (hbig : n * 8 ≤ 140737488355328) (hc : ∀ j, j < zs.length → w.cell? ⟨b, off + j, none⟩ = some (.int .i64 (zs.getD j 0))) :
    Calls Try.prog 78 #[.slice (some ⟨b, off, none⟩) n c] w fun e w' => ∃ v', e = .returned v' ∧ w'.ownsRow w.heap.size 3 1 v' n ((zs.take n).map (Value.int .i64)) ∧ v' ≠ .slice none 0 0 ∧ Below w.heap.size w w' := Any.slices_Clone_int Try.laysNm215 b off n c zs w hz hbig hc
open Go.RowKit Go.Lib in
theorem Try.slices_Clone_int_nil (n c : Nat) (w : World) :
    Calls Try.prog 78 #[.slice none n c] w fun e w' => e = .returned (.slice none 0 0) ∧ w' = w := Any.slices_Clone_int_nil Try.laysNm215 n c w
open Go.RowKit Go.Lib in
theorem Try.slices_Clone_int_zero (a : Addr) (c : Nat) (w : World) :
    Calls Try.prog 78 #[.slice (some a) 0 c] w fun e w' => ∃ v', e = .returned v' ∧ w'.ownsRow w.heap.size 3 1 v' 0 [] ∧ v' ≠ .slice none 0 0 ∧ Below w.heap.size w w' := Any.slices_Clone_int_zero Try.laysNm215 a c w
def Try.laysNm220_ren : Go.Shelf.Ren := ⟨fun | 20 => 138 | n => n, fun | 22 => 22 | 3 => 3 | 4 => 4 | 0 => 0 | n => n, fun | n => n⟩
theorem Try.laysNm220 : Go.Proofs.Lays2.n20 Try.prog Try.laysNm220_ren := {
  mixed := by kernel_rfl
  f20 := Try.func138.trans (congrArg some (by kernel_rfl))
  t0 := Try.underlying0
  a0 := Try.isAgg0
  z0 := Try.sizeOf0
  v0 := Try.zeroValue0
  t3 := Try.underlying3
  a3 := Try.isAgg3
  z3 := Try.sizeOf3
  v3 := Try.zeroValue3
  t4 := Try.underlying4
  a4 := Try.isAgg4
  z4 := Try.sizeOf4
  v4 := Try.zeroValue4
  t22 := Try.underlying22
  a22 := Try.isAgg22
  z22 := Try.sizeOf22
  v22 := Try.zeroValue22
  i3 := by kernel_rfl }
open Go.RowKit Go.Lib Go.Sort in
theorem Try.slices_Compact_int (blk off cap : Nat) (zs : List Int) (w : World) (hH : Holds (Value.int .i64) w blk off zs.toArray) (hsz : zs.length ≤ 9223372036854775807) (hcap : zs.length ≤ cap) :
    Calls Try.prog 138 #[.slice (some ⟨blk, off, none⟩) zs.length cap] w fun e w' => e = .returned (.slice (some ⟨blk, off, none⟩) (Lib.compact zs).length cap) ∧ ∃ q, w' = putRow (Value.int .i64) (Sort.ahead w q) blk off (Lib.compact zs ++ List.replicate (zs.length - (Lib.compact zs).length) 0).toArray := Any.slices_Compact_int Try.laysNm220 blk off cap zs w hH hsz hcap
open Go.RowKit Go.Lib Go.Sort in
theorem Try.slices_Compact_int_empty (a : Option Addr) (cap : Nat) (w : World) :
    Calls Try.prog 138 #[.slice a 0 cap] w fun e w' => e = .returned (.slice a 0 cap) ∧ w' = w := Any.slices_Compact_int_empty Try.laysNm220 a cap w
open Go.RowKit Go.Sort in
theorem Try.slices_Sort_int_none (p : Option Addr) (cap : Nat) (w : World) :
    Calls Try.prog 148 #[.slice p 0 cap] w fun e w' => e = .returned (.tuple #[]) ∧ w' = w := Any.slices_Sort_int_none Try.lays189 p cap w
end Go.Proofs

/- How many different numbers a list has, as the program counts them: a clone, sorted and compacted. The sorted, compacted list of a list's numbers. -/
namespace Go.Sy
open Go Go.RowKit Go.Sort Go.Proofs Go.Shelf

set_option maxHeartbeats 2000000 in
set_option maxRecDepth 100000 in
theorem img_tail (n : Nat) (arg : Value) (ss : List Int) (w : World) (hn : n ≤ 1000000)
    (hclone : Calls Try.prog 78 #[arg] w fun e w' => ∃ v', e = .returned v' ∧ w'.ownsRow w.heap.size 3 1 v' n (ss.map (Value.int .i64)) ∧ v' ≠ .slice none 0 0 ∧ Below w.heap.size w w') :
    Calls Try.prog 123 #[arg] w fun e w' => e = .returned (.int .i64 (sq ss).length) ∧ Below w.heap.size w w' := by
  go_enter Try.func123, Try.ntmps123
  go_wp2_with (first
    | (go_at_call 78; refine hclone.mono ?_; rintro e w1 ⟨v1, rfl, hown, hnn, hbel⟩
       obtain ⟨g, cap, rfl, hbg, hgl, hncap, hcm, hlen, hH⟩ := Lib.holds_of_ownsRow hown hnn
       have hsort := Try.slices_Sort_int g 0 cap ss w1 hH hgl (by omega)
       rw [hlen] at hsort
       have X : Aside (Below w.heap.size w w1 ∧ w.heap.size ≤ g ∧ g < w1.heap.size ∧ n ≤ cap ∧ ss.length = n ∧ Holds (Value.int .i64) w1 g 0 ss.toArray) := ⟨hbel, hbg, hgl, hncap, hlen, hH⟩
       clear hown hbel hH hnn)
    | (go_at_call 148; refine hsort.mono ?_; rintro e w2 ⟨rfl, nn, os, rfl⟩
       have hl2 : (ss.mergeSort fun x y => decide (x ≤ y)).length = n := by rw [List.length_mergeSort]; exact X.out.2.2.2.2.1
       have hH2 : Holds (Value.int .i64) (grow (putRow (Value.int .i64) (Sort.ahead w1 nn) g 0 (ss.mergeSort fun x y => decide (x ≤ y)).toArray) os) g 0 (ss.mergeSort fun x y => decide (x ≤ y)).toArray :=
         holds_grow (Value.int .i64) _ os g 0 _ (by simpa [putRow, mapBlock, Sort.ahead] using X.out.2.2.1) (holds_putRow (Value.int .i64) _ g 0 _ _ (holds_ahead (Value.int .i64) w1 nn g 0 _ X.out.2.2.2.2.2) (by simp))
       have hcomp := Try.slices_Compact_int g 0 cap (ss.mergeSort fun x y => decide (x ≤ y)) _ hH2 (by omega) (by have := X.out.2.2.2.1; omega)
       rw [hl2] at hcomp
       clear hH2 hsort)
    | (go_at_call 138; refine hcomp.mono ?_; rintro e w3 ⟨rfl, q, rfl⟩))
  go_ret
  exact ⟨rfl, Lib.below_putRow (X.out.1.grown (grownBy_sortedI _) X.out.1.size (fun j hj => by cases hj; exact X.out.2.1)) X.out.2.1⟩

set_option maxHeartbeats 2000000 in
theorem img_nil_c (c : Nat) (w : World) : Calls Try.prog 123 #[.slice none 0 c] w fun e w' => e = .returned (.int .i64 0) ∧ w' = w := by
  go_enter Try.func123, Try.ntmps123
  go_wp2_with (first
    | (go_at_call 78; refine (Try.slices_Clone_int_nil 0 c _).mono ?_; rintro e w' ⟨rfl, rfl⟩)
    | (go_at_call 148; refine (Try.slices_Sort_int_none none 0 _).mono ?_; rintro e w' ⟨rfl, rfl⟩)
    | (go_at_call 138; refine (Try.slices_Compact_int_empty none 0 _).mono ?_; rintro e w' ⟨rfl, rfl⟩))
  go_ret
  exact ⟨rfl, rfl⟩

theorem cell_ltS {w : World} {b o : Nat} {v : Value} (h : w.cell? ⟨b, o, none⟩ = some v) : b < w.heap.size := by
  rcases Nat.lt_or_ge b w.heap.size with h1 | h1
  · exact h1
  · simp [World.cell?, Array.getElem?_eq_none h1] at h
theorem cw_below {C : CMap} {w w' : World} (hC : CW C w) (hb : Below w.heap.size w w') : CW C w' := fun b o v h =>
  ⟨by rw [hb.cell (p := ⟨b, o, none⟩) (cell_ltS (hC b o v h).1)]; exact (hC b o v h).1, (hC b o v h).2⟩
theorem intl_cells {C : CMap} {w : World} {v : Value} {l : List Int} {ρ : RMap} {τ : TMap} (hC : CW C w) (h : RV C ρ τ v (lv l)) :
    ∃ A c, v = .slice A l.length c ∧ l.length ≤ c ∧ (l ≠ [] → ∃ b o, A = some ⟨b, o, none⟩ ∧ ∀ j, j < l.length → w.cell? ⟨b, o + j, none⟩ = some (.int .i64 (l.getD j 0))) := by
  obtain ⟨A, c, cv, rfl, hc, hm, hcell, hrv, _⟩ := rv_list h
  have hlen : (l.map fun n => [iv n]).length = l.length := by simp
  refine ⟨A, c, by rw [hlen], by rw [← hlen]; exact hc, fun hne => ?_⟩
  have hpos : 0 < l.length := List.length_pos_iff.2 hne
  obtain ⟨_, b, o, hA, _⟩ := hcell 0 _ (List.getElem?_eq_getElem (by simp; exact hpos))
  refine ⟨b, o, hA, fun j hj => ?_⟩
  have hx : (l.map fun n => [iv n])[j]? = some [iv l[j]] := by simp [hj]
  obtain ⟨_, b', o', hA', hC'⟩ := hcell j _ hx
  rw [hA] at hA'
  injection hA' with hA'
  injection hA' with h1 h2
  subst h1; subst h2
  have h3 := (hC _ _ _ (hC' 0 (by omega))).1
  have h4 := rv_v (hrv j _ 0 _ hx rfl)
  rw [h4.1] at h3
  rw [getD_at hj]
  simpa using h3
set_option maxRecDepth 10000 in
theorem c123 (l : List Int) (h : l.length ≤ 1000000) : Con Try.prog 123 [lv l] 0 (iv (sq l).length) := by
  refine ⟨(enters_of Try.func123 (by kernel_rfl) rfl), fun C w vs hC hsz hrv => ?_⟩
  obtain ⟨vl⟩ := vs
  match vl, hsz with
  | [v], _ =>
    have hv := hrv 0 v (lv l) rfl rfl
    obtain ⟨A, c, rfl, _, hcell⟩ := intl_cells hC hv
    have fin : ∀ e w', (e = .returned (.int .i64 ((sq l).length : Int)) ∧ Below w.heap.size w w') → ∃ v C' τ', e = Ending.returned v ∧ Below w.heap.size w w' ∧ (∀ b o v, C b o = some v → C' b o = some v) ∧ (∀ b o v, C' b o = some v → C b o = some v ∨ w.heap.size ≤ b) ∧
        CW C' w' ∧ RV C' noρ τ' v (iv (sq l).length) ∧ Toks C' w' τ' 0 w.heap.size := fun e w' ⟨he, hb⟩ =>
      ⟨_, C, noτ, he, hb, fun _ _ _ h => h, fun _ _ _ h => .inl h, cw_below hC hb, .v _ rfl, ⟨fun _ _ h => (by cases h), fun _ _ _ h => (by cases h), fun _ _ _ _ _ _ _ h => (by cases h)⟩⟩
    by_cases hl : l = []
    · subst hl
      have e0 : (sq []).length = 0 := by have := sq_len []; simpa using this
      cases A with
      | none =>
        refine (img_nil_c c w).mono fun e w' hq => fin e w' ⟨by rw [hq.1, e0]; rfl, by rw [hq.2]; exact Below.refl _ _⟩
      | some a => exact (img_tail 0 _ [] w (by omega) (Try.slices_Clone_int_zero a c w)).mono fin
    · obtain ⟨b, o, rfl, hc2⟩ := hcell hl
      have hcl := Try.slices_Clone_int b o l.length c l w (Nat.le_refl _) (by omega) hc2
      rw [List.take_length] at hcl
      exact (img_tail l.length _ l w h hcl).mono fin
end Go.Sy

/- Contracts: injective morphisms as the program tells them; places; compositions. -/
set_option linter.unusedSimpArgs false
namespace Go.Sy
open Go Go.Proofs

theorem sq_beq (l : List Int) : (((sq l).length : Int) == (l.length : Int)) = dist l := by
  rw [Bool.eq_iff_iff, ← sq_dist, beq_iff_eq]
  omega
theorem c75 (a b : Gr) (m : Mo) : Con Try.prog 75 [gv a, gv b, mv m] 0 (bv (injR a b m)) := by
  refine conT (X := []) (rs := [.tmp 6]) Try.func75 (by kernel_rfl) rfl rfl (by kernel_rfl) ?_
  simp (dsimp := false) (maxDischargeDepth := 16) only [go_sem, ↓reduceIte, reduceCtorEq, Nat.reduceEqDiff, Nat.reduceAdd, Nat.reduceMul, Nat.reduceSub, Nat.reduceLT, Nat.reduceLeDiff, Nat.reducePow, Int.reduceLT, Int.reduceLE, Int.reduceNeg, Int.reduceToNat]
  refine callK_intro (c70 a b m) ?_
  simp (dsimp := false) (maxDischargeDepth := 16) only [go_sem, ↓reduceIte, reduceCtorEq, Nat.reduceEqDiff, Nat.reduceAdd, Nat.reduceMul, Nat.reduceSub, Nat.reduceLT, Nat.reduceLeDiff, Nat.reducePow, Int.reduceLT, Int.reduceLE, Int.reduceNeg, Int.reduceToNat]
  refine condK_intro (fun h1 => ?_) (fun h1 => ?_)
  · have hs := mErr_ok (beq_iff_eq.1 h1)
    have ga := (gErr_small hs.1).1
    simp (dsimp := false) (maxDischargeDepth := 16) only [go_sem, ↓reduceIte, reduceCtorEq, Nat.reduceEqDiff, Nat.reduceAdd, Nat.reduceMul, Nat.reduceSub, Nat.reduceLT, Nat.reduceLeDiff, Nat.reducePow, Int.reduceLT, Int.reduceLE, Int.reduceNeg, Int.reduceToNat, h1]
    refine callK_intro (c123 m.n (by omega)) ?_
    simp (dsimp := false) (maxDischargeDepth := 16) only [go_sem, ↓reduceIte, reduceCtorEq, Nat.reduceEqDiff, Nat.reduceAdd, Nat.reduceMul, Nat.reduceSub, Nat.reduceLT, Nat.reduceLeDiff, Nat.reducePow, Int.reduceLT, Int.reduceLE, Int.reduceNeg, Int.reduceToNat, h1, sq_beq]
    refine condK_intro (fun h2 => ?_) (fun h2 => ?_)
    · simp (dsimp := false) (maxDischargeDepth := 16) only [go_sem, ↓reduceIte, reduceCtorEq, Nat.reduceEqDiff, Nat.reduceAdd, Nat.reduceMul, Nat.reduceSub, Nat.reduceLT, Nat.reduceLeDiff, Nat.reducePow, Int.reduceLT, Int.reduceLE, Int.reduceNeg, Int.reduceToNat, h1, h2]
      refine callK_intro (c123 m.e (by omega)) ?_
      simp (dsimp := false) (maxDischargeDepth := 16) only [go_sem, ↓reduceIte, reduceCtorEq, Nat.reduceEqDiff, Nat.reduceAdd, Nat.reduceMul, Nat.reduceSub, Nat.reduceLT, Nat.reduceLeDiff, Nat.reducePow, Int.reduceLT, Int.reduceLE, Int.reduceNeg, Int.reduceToNat, h1, h2, sq_beq]
      exact finB (by rw [injR, h1, h2]; rfl)
    · simp (dsimp := false) (maxDischargeDepth := 16) only [go_sem, ↓reduceIte, reduceCtorEq, Nat.reduceEqDiff, Nat.reduceAdd, Nat.reduceMul, Nat.reduceSub, Nat.reduceLT, Nat.reduceLeDiff, Nat.reducePow, Int.reduceLT, Int.reduceLE, Int.reduceNeg, Int.reduceToNat, h1, h2]
      exact finB (by rw [injR, h1, h2]; rfl)
  · simp (dsimp := false) (maxDischargeDepth := 16) only [go_sem, ↓reduceIte, reduceCtorEq, Nat.reduceEqDiff, Nat.reduceAdd, Nat.reduceMul, Nat.reduceSub, Nat.reduceLT, Nat.reduceLeDiff, Nat.reducePow, Int.reduceLT, Int.reduceLE, Int.reduceNeg, Int.reduceToNat, h1]
    exact finB (by rw [injR, h1]; rfl)
/-- The places of numbers in a list. -/
def plc (k l : List Int) : List Int := l.map fun x => idxP (fun y => x == y) k
theorem plc_succ {k l : List Int} {i : Nat} (h : i < l.length) : plc k (l.take (i + 1)) = plc k (l.take i) ++ [idxP (fun y => l[i] == y) k] := take_map h
theorem c76 (l k : List Int) (h : l.length ≤ 1000000) : Con Try.prog 76 [lv l, lv k] 0 (lv (plc k l)) := by
  refine conT (X := []) (rs := [.tmp 4]) Try.func76 (by kernel_rfl) rfl rfl (by kernel_rfl) ?_
  simp (dsimp := false) (maxDischargeDepth := 16) only [go_sem, ↓reduceIte, reduceCtorEq, Nat.reduceEqDiff, Nat.reduceAdd, Nat.reduceMul, Nat.reduceSub, Nat.reduceLT, Nat.reduceLeDiff, Nat.reducePow, Int.reduceLT, Int.reduceLE, Int.reduceNeg, Int.reduceToNat]
  refine loopK_intro (fun (i : Nat) s => i ≤ l.length ∧ s.t 1 = lv k ∧ s.t 8 = lv l ∧ s.t 9 = iv l.length ∧ s.t 10 = iv i ∧ ∃ tk, s.t 5 = lvT (plc k (l.take i)) tk ∧ tokOK s tk = true) (fun i => l.length - i) ⟨0, by omega, rfl, rfl, rfl, rfl, .nil, rfl, rfl⟩ ?_
  rintro i s ⟨hi, t1, t8, t9, t10, tk, t5, htk⟩
  simp (dsimp := false) (maxDischargeDepth := 16) only [go_sem, ↓reduceIte, reduceCtorEq, Nat.reduceEqDiff, Nat.reduceAdd, Nat.reduceMul, Nat.reduceSub, Nat.reduceLT, Nat.reduceLeDiff, Nat.reducePow, Int.reduceLT, Int.reduceLE, Int.reduceNeg, Int.reduceToNat, t1, t8, t9, t10, t5]
  refine condK_dec (fun h6 => ?_) (fun h6 => ?_)
  · have pl : (plc k (l.take i)).length = i := by simp [plc]; omega
    simp (dsimp := false) (maxDischargeDepth := 16) only [go_sem, ↓reduceIte, reduceCtorEq, Nat.reduceEqDiff, Nat.reduceAdd, Nat.reduceMul, Nat.reduceSub, Nat.reduceLT, Nat.reduceLeDiff, Nat.reducePow, Int.reduceLT, Int.reduceLE, Int.reduceNeg, Int.reduceToNat, t1, t8, t9, t10, t5, h6, idx_nat]
    refine callK_intro (c92 k l[i]) ?_
    simp (dsimp := false) (maxDischargeDepth := 16) only [go_sem, ↓reduceIte, reduceCtorEq, Nat.reduceEqDiff, Nat.reduceAdd, Nat.reduceMul, Nat.reduceSub, Nat.reduceLT, Nat.reduceLeDiff, Nat.reducePow, Int.reduceLT, Int.reduceLE, Int.reduceNeg, Int.reduceToNat, t1, t8, t9, t10, t5, h6, idx_nat, htk, pl]
    refine ⟨⟨by omega, by omega⟩, i + 1, by omega, by omega, by rw [wrapN _ (by omega)], _, by rw [plc_succ h6, map1_app], ?_⟩
    simp (dsimp := false) (maxDischargeDepth := 16) only [go_sem, ↓reduceIte, reduceCtorEq, Nat.reduceEqDiff, Nat.reduceAdd, Nat.reduceMul, Nat.reduceSub, Nat.reduceLT, Nat.reduceLeDiff, Nat.reducePow, Int.reduceLT, Int.reduceLE, Int.reduceNeg, Int.reduceToNat]
  · simp (dsimp := false) (maxDischargeDepth := 16) only [go_sem, ↓reduceIte, reduceCtorEq, Nat.reduceEqDiff, Nat.reduceAdd, Nat.reduceMul, Nat.reduceSub, Nat.reduceLT, Nat.reduceLeDiff, Nat.reducePow, Int.reduceLT, Int.reduceLE, Int.reduceNeg, Int.reduceToNat, t1, t8, t9, t10, t5, h6]
    refine finL ?_
    have : i = l.length := by omega
    rw [this, List.take_length]
theorem c79 (l : List Int) (x : Int) : Con Try.prog 79 [lv l, iv x] 0 (iv (idxP (fun y => x == y) l)) := by
  refine Con.assume (enters_of Try.func79 (by kernel_rfl) rfl) fun hb => ?_
  have hlen := bnd_lv (hb _ (List.mem_cons_self ..))
  refine conT (X := []) (rs := [.tmp 4]) Try.func79 (by kernel_rfl) rfl rfl (by kernel_rfl) ?_
  simp (dsimp := false) (maxDischargeDepth := 16) only [go_sem, ↓reduceIte, reduceCtorEq, Nat.reduceEqDiff, Nat.reduceAdd, Nat.reduceMul, Nat.reduceSub, Nat.reduceLT, Nat.reduceLeDiff, Nat.reducePow, Int.reduceLT, Int.reduceLE, Int.reduceNeg, Int.reduceToNat]
  refine loopK_intro (fun (i : Nat) s => i ≤ l.length ∧ s.t 0 = lv l ∧ s.t 1 = iv x ∧ s.t 5 = iv i ∧ ∀ y ∈ l.take i, (x == y) = false) (fun i => l.length - i) ⟨0, by omega, rfl, rfl, rfl, fun j hj => by simp at hj⟩ ?_
  rintro i s ⟨hi, h0, h1, h5, hn⟩
  simp (dsimp := false) (maxDischargeDepth := 16) only [go_sem, ↓reduceIte, reduceCtorEq, Nat.reduceEqDiff, Nat.reduceAdd, Nat.reduceMul, Nat.reduceSub, Nat.reduceLT, Nat.reduceLeDiff, Nat.reducePow, Int.reduceLT, Int.reduceLE, Int.reduceNeg, Int.reduceToNat, h0, h1, h5]
  refine condK_dec (fun h6 => ?_) (fun h6 => ?_)
  · simp (dsimp := false) (maxDischargeDepth := 16) only [go_sem, ↓reduceIte, reduceCtorEq, Nat.reduceEqDiff, Nat.reduceAdd, Nat.reduceMul, Nat.reduceSub, Nat.reduceLT, Nat.reduceLeDiff, Nat.reducePow, Int.reduceLT, Int.reduceLE, Int.reduceNeg, Int.reduceToNat, h0, h1, h5, h6, idx_nat]
    refine condK_intro (fun h9 => ?_) (fun h9 => ?_)
    · simp (dsimp := false) (maxDischargeDepth := 16) only [go_sem, ↓reduceIte, reduceCtorEq, Nat.reduceEqDiff, Nat.reduceAdd, Nat.reduceMul, Nat.reduceSub, Nat.reduceLT, Nat.reduceLeDiff, Nat.reducePow, Int.reduceLT, Int.reduceLE, Int.reduceNeg, Int.reduceToNat, h0, h1, h5, h6, h9]
      exact finI (idxP_hit h6 hn (by rw [BEq.comm]; exact h9))
    · simp (dsimp := false) (maxDischargeDepth := 16) only [go_sem, ↓reduceIte, reduceCtorEq, Nat.reduceEqDiff, Nat.reduceAdd, Nat.reduceMul, Nat.reduceSub, Nat.reduceLT, Nat.reduceLeDiff, Nat.reducePow, Int.reduceLT, Int.reduceLE, Int.reduceNeg, Int.reduceToNat, h0, h1, h5, h6, h9]
      exact ⟨i + 1, by omega, by omega, by rw [wrapN _ (by omega)], take_all h6 hn (by rw [BEq.comm]; exact h9)⟩
  · simp (dsimp := false) (maxDischargeDepth := 16) only [go_sem, ↓reduceIte, reduceCtorEq, Nat.reduceEqDiff, Nat.reduceAdd, Nat.reduceMul, Nat.reduceSub, Nat.reduceLT, Nat.reduceLeDiff, Nat.reducePow, Int.reduceLT, Int.reduceLE, Int.reduceNeg, Int.reduceToNat, h0, h1, h5, h6]
    exact finI (idxP_none (take_full h6 hn))
/-- A list led on by another one. -/
def thr (l k : List Int) : List Int := l.map fun x => k.getD x.toNat 0
theorem thr_succ {l k : List Int} {i : Nat} (h : i < l.length) : thr (l.take (i + 1)) k = thr (l.take i) k ++ [k.getD l[i].toNat 0] := take_map h
theorem c94 (l k : List Int) (h : l.length ≤ 1000000) (hl : ∀ x ∈ l, 0 ≤ x ∧ x < k.length) : Con Try.prog 94 [lv l, lv k] 0 (lv (thr l k)) := by
  refine conT (X := []) (rs := [.tmp 4]) Try.func94 (by kernel_rfl) rfl rfl (by kernel_rfl) ?_
  simp (dsimp := false) (maxDischargeDepth := 16) only [go_sem, ↓reduceIte, reduceCtorEq, Nat.reduceEqDiff, Nat.reduceAdd, Nat.reduceMul, Nat.reduceSub, Nat.reduceLT, Nat.reduceLeDiff, Nat.reducePow, Int.reduceLT, Int.reduceLE, Int.reduceNeg, Int.reduceToNat]
  refine loopK_intro (fun (i : Nat) s => i ≤ l.length ∧ s.t 0 = lv l ∧ s.t 1 = lv k ∧ s.t 6 = iv i ∧ ∃ tk, s.t 5 = lvT (thr (l.take i) k) tk ∧ tokOK s tk = true) (fun i => l.length - i) ⟨0, by omega, rfl, rfl, rfl, .nil, rfl, rfl⟩ ?_
  rintro i s ⟨hi, t0, t1, t6, tk, t5, htk⟩
  simp (dsimp := false) (maxDischargeDepth := 16) only [go_sem, ↓reduceIte, reduceCtorEq, Nat.reduceEqDiff, Nat.reduceAdd, Nat.reduceMul, Nat.reduceSub, Nat.reduceLT, Nat.reduceLeDiff, Nat.reducePow, Int.reduceLT, Int.reduceLE, Int.reduceNeg, Int.reduceToNat, t0, t1, t6, t5]
  refine condK_dec (fun h6 => ?_) (fun h6 => ?_)
  · have pl : (thr (l.take i) k).length = i := by simp [thr]; omega
    obtain ⟨r0, r1⟩ := hl _ (List.getElem_mem h6)
    have r2 : l[i].toNat < k.length := by omega
    simp (dsimp := false) (maxDischargeDepth := 16) only [go_sem, ↓reduceIte, reduceCtorEq, Nat.reduceEqDiff, Nat.reduceAdd, Nat.reduceMul, Nat.reduceSub, Nat.reduceLT, Nat.reduceLeDiff, Nat.reducePow, Int.reduceLT, Int.reduceLE, Int.reduceNeg, Int.reduceToNat, t0, t1, t6, t5, h6, idx_nat, idx_int, r0, r2, htk, pl]
    refine ⟨⟨by omega, by omega⟩, i + 1, by omega, by omega, by rw [wrapN _ (by omega)], _, by rw [thr_succ h6, map1_app, getD_at r2], ?_⟩
    simp (dsimp := false) (maxDischargeDepth := 16) only [go_sem, ↓reduceIte, reduceCtorEq, Nat.reduceEqDiff, Nat.reduceAdd, Nat.reduceMul, Nat.reduceSub, Nat.reduceLT, Nat.reduceLeDiff, Nat.reducePow, Int.reduceLT, Int.reduceLE, Int.reduceNeg, Int.reduceToNat]
  · simp (dsimp := false) (maxDischargeDepth := 16) only [go_sem, ↓reduceIte, reduceCtorEq, Nat.reduceEqDiff, Nat.reduceAdd, Nat.reduceMul, Nat.reduceSub, Nat.reduceLT, Nat.reduceLeDiff, Nat.reducePow, Int.reduceLT, Int.reduceLE, Int.reduceNeg, Int.reduceToNat, t0, t1, t6, t5, h6]
    refine finL ?_
    have : i = l.length := by omega
    rw [this, List.take_length]
/-- A morphism led on by another one. -/
def thn (m n : Mo) : Mo := ⟨thr m.n n.n, thr m.e n.e⟩
theorem c82 (m n : Mo) (h1 : m.n.length ≤ 1000000) (h2 : m.e.length ≤ 1000000) (r1 : ∀ x ∈ m.n, 0 ≤ x ∧ x < n.n.length) (r2 : ∀ x ∈ m.e, 0 ≤ x ∧ x < n.e.length) : Con Try.prog 82 [mv m, mv n] 0 (mv (thn m n)) := by
  refine conT (X := []) (rs := [.cell 4 41]) Try.func82 (by kernel_rfl) rfl rfl (by kernel_rfl) ?_
  simp (dsimp := false) (maxDischargeDepth := 16) only [go_sem, ↓reduceIte, reduceCtorEq, Nat.reduceEqDiff, Nat.reduceAdd, Nat.reduceMul, Nat.reduceSub, Nat.reduceLT, Nat.reduceLeDiff, Nat.reducePow, Int.reduceLT, Int.reduceLE, Int.reduceNeg, Int.reduceToNat]
  refine callK_intro (c94 _ _ h1 r1) ?_
  simp (dsimp := false) (maxDischargeDepth := 16) only [go_sem, ↓reduceIte, reduceCtorEq, Nat.reduceEqDiff, Nat.reduceAdd, Nat.reduceMul, Nat.reduceSub, Nat.reduceLT, Nat.reduceLeDiff, Nat.reducePow, Int.reduceLT, Int.reduceLE, Int.reduceNeg, Int.reduceToNat]
  refine callK_intro (c94 _ _ h2 r2) ?_
  simp (dsimp := false) (maxDischargeDepth := 16) only [go_sem, ↓reduceIte, reduceCtorEq, Nat.reduceEqDiff, Nat.reduceAdd, Nat.reduceMul, Nat.reduceSub, Nat.reduceLT, Nat.reduceLeDiff, Nat.reducePow, Int.reduceLT, Int.reduceLE, Int.reduceNeg, Int.reduceToNat]
  exact finK ⟨rfl, rfl⟩
theorem mErr_rng {a b : Gr} {m : Mo} (h : mErr a b m = 0) : (∀ x ∈ m.n, 0 ≤ x ∧ x < b.n.length) ∧ ∀ x ∈ m.e, 0 ≤ x ∧ x < b.e.length := by
  obtain ⟨_, _, h1, h2, h3, h4⟩ := mErr_ok h
  constructor
  · intro x hx
    obtain ⟨i, hi, rfl⟩ := List.mem_iff_getElem.1 hx
    have := h3 i (by omega)
    rw [nodeErr] at this
    split at this
    · cases this
    · rename_i h5
      rw [getD_at hi] at h5
      omega
  · intro x hx
    obtain ⟨i, hi, rfl⟩ := List.mem_iff_getElem.1 hx
    have := h4 i (by omega)
    rw [edgeErr] at this
    split at this
    · cases this
    · rename_i h5
      rw [getD_at hi] at h5
      omega
/-- The composition, or the error. -/
def cmpR (a b c : Gr) (m n : Mo) : Mo × Int := if mErr a b m ≠ 0 then (⟨[], []⟩, mErr a b m) else if mErr b c n ≠ 0 then (⟨[], []⟩, mErr b c n) else (thn m n, 0)
theorem c36 (a b c : Gr) (m n : Mo) : Con Try.prog 36 [gv a, gv b, gv c, mv m, mv n] 0 (.tup [mv (cmpR a b c m n).1, iv (cmpR a b c m n).2]) := by
  refine conT (X := []) (rs := [.cell 10 41, .tmp 11]) Try.func36 (by kernel_rfl) rfl rfl (by kernel_rfl) ?_
  simp (dsimp := false) (maxDischargeDepth := 16) only [go_sem, ↓reduceIte, reduceCtorEq, Nat.reduceEqDiff, Nat.reduceAdd, Nat.reduceMul, Nat.reduceSub, Nat.reduceLT, Nat.reduceLeDiff, Nat.reducePow, Int.reduceLT, Int.reduceLE, Int.reduceNeg, Int.reduceToNat]
  refine callK_intro (c72 a b m) ?_
  simp (dsimp := false) (maxDischargeDepth := 16) only [go_sem, ↓reduceIte, reduceCtorEq, Nat.reduceEqDiff, Nat.reduceAdd, Nat.reduceMul, Nat.reduceSub, Nat.reduceLT, Nat.reduceLeDiff, Nat.reducePow, Int.reduceLT, Int.reduceLE, Int.reduceNeg, Int.reduceToNat]
  refine condK_intro (fun h1 => ?_) (fun h1 => ?_)
  · simp (dsimp := false) (maxDischargeDepth := 16) only [go_sem, ↓reduceIte, reduceCtorEq, Nat.reduceEqDiff, Nat.reduceAdd, Nat.reduceMul, Nat.reduceSub, Nat.reduceLT, Nat.reduceLeDiff, Nat.reducePow, Int.reduceLT, Int.reduceLE, Int.reduceNeg, Int.reduceToNat, h1]
    have e : cmpR a b c m n = (⟨[], []⟩, mErr a b m) := if_pos (by simpa using h1)
    rw [e]
    exact finK ⟨rfl, rfl⟩
  · simp (dsimp := false) (maxDischargeDepth := 16) only [go_sem, ↓reduceIte, reduceCtorEq, Nat.reduceEqDiff, Nat.reduceAdd, Nat.reduceMul, Nat.reduceSub, Nat.reduceLT, Nat.reduceLeDiff, Nat.reducePow, Int.reduceLT, Int.reduceLE, Int.reduceNeg, Int.reduceToNat, h1]
    have g1 : mErr a b m = 0 := by simpa using h1
    refine callK_intro (c72 b c n) ?_
    simp (dsimp := false) (maxDischargeDepth := 16) only [go_sem, ↓reduceIte, reduceCtorEq, Nat.reduceEqDiff, Nat.reduceAdd, Nat.reduceMul, Nat.reduceSub, Nat.reduceLT, Nat.reduceLeDiff, Nat.reducePow, Int.reduceLT, Int.reduceLE, Int.reduceNeg, Int.reduceToNat, h1]
    refine condK_intro (fun h2 => ?_) (fun h2 => ?_)
    · simp (dsimp := false) (maxDischargeDepth := 16) only [go_sem, ↓reduceIte, reduceCtorEq, Nat.reduceEqDiff, Nat.reduceAdd, Nat.reduceMul, Nat.reduceSub, Nat.reduceLT, Nat.reduceLeDiff, Nat.reducePow, Int.reduceLT, Int.reduceLE, Int.reduceNeg, Int.reduceToNat, h1, h2]
      have e : cmpR a b c m n = (⟨[], []⟩, mErr b c n) := by rw [cmpR, if_neg (by simp [g1]), if_pos (by simpa using h2)]
      rw [e]
      exact finK ⟨rfl, rfl⟩
    · simp (dsimp := false) (maxDischargeDepth := 16) only [go_sem, ↓reduceIte, reduceCtorEq, Nat.reduceEqDiff, Nat.reduceAdd, Nat.reduceMul, Nat.reduceSub, Nat.reduceLT, Nat.reduceLeDiff, Nat.reducePow, Int.reduceLT, Int.reduceLE, Int.reduceNeg, Int.reduceToNat, h1, h2]
      have g2 : mErr b c n = 0 := by simpa using h2
      have o1 := mErr_ok g1
      have o2 := mErr_ok g2
      have r := mErr_rng g1
      have ga := (gErr_small o1.1).1
      rw [← o2.2.2.1, ← o2.2.2.2.1] at r
      refine callK_intro (c82 m n (by omega) (by omega) r.1 r.2) ?_
      simp (dsimp := false) (maxDischargeDepth := 16) only [go_sem, ↓reduceIte, reduceCtorEq, Nat.reduceEqDiff, Nat.reduceAdd, Nat.reduceMul, Nat.reduceSub, Nat.reduceLT, Nat.reduceLeDiff, Nat.reducePow, Int.reduceLT, Int.reduceLE, Int.reduceNeg, Int.reduceToNat, h1, h2]
      have e : cmpR a b c m n = (thn m n, 0) := by rw [cmpR, if_neg (by simp [g1]), if_neg (by simp [g2])]
      rw [e]
      exact finK ⟨rfl, rfl⟩
end Go.Sy

/- Contracts: the overlap through which two morphisms go, and the rest. -/
set_option linter.unusedSimpArgs false
namespace Go.Sy
open Go Go.Proofs

def oz : Ov := ⟨⟨[], []⟩, ⟨[], []⟩, ⟨[], []⟩⟩
def mz : Mo := ⟨[], []⟩
/-- The rest: where the elements that the overlap adds go, behind those of the first graph. -/
def rst (h k : Mo) (p q : List Int) : Mo := ⟨(gN h.n k.n p p.length).1, (gN h.e k.e q q.length).1⟩
def thrR (a b x : Gr) (h k : Mo) : Ov × Mo × Int := if mErr a x h ≠ 0 then (oz, mz, mErr a x h) else if mErr b x k ≠ 0 then (oz, mz, mErr b x k) else
  if injR a x h && injR b x k then (glue a b (plc h.n k.n) (plc h.e k.e), rst h k (plc h.n k.n) (plc h.e k.e), 0) else (oz, mz, 1)
def thrV (r : Ov × Mo × Int) : AV := .tup [ov r.1, mv r.2.1, iv r.2.2]
attribute [go_sem] thrV
theorem plc_len (k l : List Int) : (plc k l).length = l.length := by simp [plc]
set_option maxHeartbeats 2000000 in
theorem c33 (a b x : Gr) (h k : Mo) : Con Try.prog 33 [gv a, gv b, gv x, mv h, mv k] 0 (thrV (thrR a b x h k)) := by
  refine conT (X := [(24, [], [(10, [18], [])])]) (rs := [.cell 10 43, .cell 11 41, .tmp 12]) Try.func33 (by kernel_rfl) rfl rfl (by kernel_rfl) ?_
  simp (dsimp := false) (maxDischargeDepth := 16) only [go_sem, ↓reduceIte, reduceCtorEq, Nat.reduceEqDiff, Nat.reduceAdd, Nat.reduceMul, Nat.reduceSub, Nat.reduceLT, Nat.reduceLeDiff, Nat.reducePow, Int.reduceLT, Int.reduceLE, Int.reduceNeg, Int.reduceToNat]
  refine callK_intro (c70 a x h) ?_
  simp (dsimp := false) (maxDischargeDepth := 16) only [go_sem, ↓reduceIte, reduceCtorEq, Nat.reduceEqDiff, Nat.reduceAdd, Nat.reduceMul, Nat.reduceSub, Nat.reduceLT, Nat.reduceLeDiff, Nat.reducePow, Int.reduceLT, Int.reduceLE, Int.reduceNeg, Int.reduceToNat]
  refine condK_intro (fun h1 => ?_) (fun h1 => ?_)
  · simp (dsimp := false) (maxDischargeDepth := 16) only [go_sem, ↓reduceIte, reduceCtorEq, Nat.reduceEqDiff, Nat.reduceAdd, Nat.reduceMul, Nat.reduceSub, Nat.reduceLT, Nat.reduceLeDiff, Nat.reducePow, Int.reduceLT, Int.reduceLE, Int.reduceNeg, Int.reduceToNat, h1]
    have e : thrR a b x h k = (oz, mz, mErr a x h) := if_pos (by simpa using h1)
    rw [e]
    exact finK ⟨rfl, rfl⟩
  have g1 : mErr a x h = 0 := by simpa using h1
  simp (dsimp := false) (maxDischargeDepth := 16) only [go_sem, ↓reduceIte, reduceCtorEq, Nat.reduceEqDiff, Nat.reduceAdd, Nat.reduceMul, Nat.reduceSub, Nat.reduceLT, Nat.reduceLeDiff, Nat.reducePow, Int.reduceLT, Int.reduceLE, Int.reduceNeg, Int.reduceToNat, h1]
  refine callK_intro (c70 b x k) ?_
  simp (dsimp := false) (maxDischargeDepth := 16) only [go_sem, ↓reduceIte, reduceCtorEq, Nat.reduceEqDiff, Nat.reduceAdd, Nat.reduceMul, Nat.reduceSub, Nat.reduceLT, Nat.reduceLeDiff, Nat.reducePow, Int.reduceLT, Int.reduceLE, Int.reduceNeg, Int.reduceToNat, h1]
  refine condK_intro (fun h2 => ?_) (fun h2 => ?_)
  · simp (dsimp := false) (maxDischargeDepth := 16) only [go_sem, ↓reduceIte, reduceCtorEq, Nat.reduceEqDiff, Nat.reduceAdd, Nat.reduceMul, Nat.reduceSub, Nat.reduceLT, Nat.reduceLeDiff, Nat.reducePow, Int.reduceLT, Int.reduceLE, Int.reduceNeg, Int.reduceToNat, h1, h2]
    have e : thrR a b x h k = (oz, mz, mErr b x k) := by rw [thrR, if_neg (by simp [g1]), if_pos (by simpa using h2)]
    rw [e]
    exact finK ⟨rfl, rfl⟩
  have g2 : mErr b x k = 0 := by simpa using h2
  simp (dsimp := false) (maxDischargeDepth := 16) only [go_sem, ↓reduceIte, reduceCtorEq, Nat.reduceEqDiff, Nat.reduceAdd, Nat.reduceMul, Nat.reduceSub, Nat.reduceLT, Nat.reduceLeDiff, Nat.reducePow, Int.reduceLT, Int.reduceLE, Int.reduceNeg, Int.reduceToNat, h1, h2]
  have e0 : thrR a b x h k = if injR a x h && injR b x k then (glue a b (plc h.n k.n) (plc h.e k.e), rst h k (plc h.n k.n) (plc h.e k.e), 0) else (oz, mz, 1) := by rw [thrR, if_neg (by simp [g1]), if_neg (by simp [g2])]
  rw [e0]
  have H1 := c75 a x h
  have H2 := c75 b x k
  generalize injR a x h = r1 at *
  generalize injR b x k = r2 at *
  refine callK_intro H1 ?_
  cases r1 with
  | false =>
    simp (dsimp := false) (maxDischargeDepth := 16) only [go_sem, ↓reduceIte, reduceCtorEq, Nat.reduceEqDiff, Nat.reduceAdd, Nat.reduceMul, Nat.reduceSub, Nat.reduceLT, Nat.reduceLeDiff, Nat.reducePow, Int.reduceLT, Int.reduceLE, Int.reduceNeg, Int.reduceToNat, h1, h2, Bool.not_false]
    exact finK ⟨rfl, rfl⟩
  | true =>
  simp (dsimp := false) (maxDischargeDepth := 16) only [go_sem, ↓reduceIte, reduceCtorEq, Nat.reduceEqDiff, Nat.reduceAdd, Nat.reduceMul, Nat.reduceSub, Nat.reduceLT, Nat.reduceLeDiff, Nat.reducePow, Int.reduceLT, Int.reduceLE, Int.reduceNeg, Int.reduceToNat, h1, h2, Bool.not_true]
  refine callK_intro H2 ?_
  cases r2 with
  | false =>
    simp (dsimp := false) (maxDischargeDepth := 16) only [go_sem, ↓reduceIte, reduceCtorEq, Nat.reduceEqDiff, Nat.reduceAdd, Nat.reduceMul, Nat.reduceSub, Nat.reduceLT, Nat.reduceLeDiff, Nat.reducePow, Int.reduceLT, Int.reduceLE, Int.reduceNeg, Int.reduceToNat, h1, h2, Bool.not_false]
    exact finK ⟨rfl, rfl⟩
  | true =>
  simp (dsimp := false) (maxDischargeDepth := 16) only [go_sem, ↓reduceIte, reduceCtorEq, Nat.reduceEqDiff, Nat.reduceAdd, Nat.reduceMul, Nat.reduceSub, Nat.reduceLT, Nat.reduceLeDiff, Nat.reducePow, Int.reduceLT, Int.reduceLE, Int.reduceNeg, Int.reduceToNat, h1, h2, Bool.not_true]
  have o1 := mErr_ok g1
  have o2 := mErr_ok g2
  have ga := gErr_small o1.1
  have gb := gErr_small o2.1
  refine callK_intro (c76 k.n h.n (by omega)) ?_
  simp (dsimp := false) (maxDischargeDepth := 16) only [go_sem, ↓reduceIte, reduceCtorEq, Nat.reduceEqDiff, Nat.reduceAdd, Nat.reduceMul, Nat.reduceSub, Nat.reduceLT, Nat.reduceLeDiff, Nat.reducePow, Int.reduceLT, Int.reduceLE, Int.reduceNeg, Int.reduceToNat, h1, h2]
  refine callK_intro (c76 k.e h.e (by omega)) ?_
  simp (dsimp := false) (maxDischargeDepth := 16) only [go_sem, ↓reduceIte, reduceCtorEq, Nat.reduceEqDiff, Nat.reduceAdd, Nat.reduceMul, Nat.reduceSub, Nat.reduceLT, Nat.reduceLeDiff, Nat.reducePow, Int.reduceLT, Int.reduceLE, Int.reduceNeg, Int.reduceToNat, h1, h2]
  refine callK_intro (c77 a b (plc h.n k.n) (plc h.e k.e) o1.1 (by omega) (by omega) (by rw [plc_len]; omega) (by rw [plc_len]; omega) (by omega) (by omega) (fun x hx => ?_)) ?_
  · have := gb.2.2 x hx
    rw [plc_len, o2.2.2.1]
    unfold edOK at this
    omega
  simp (dsimp := false) (maxDischargeDepth := 16) only [go_sem, ↓reduceIte, reduceCtorEq, Nat.reduceEqDiff, Nat.reduceAdd, Nat.reduceMul, Nat.reduceSub, Nat.reduceLT, Nat.reduceLeDiff, Nat.reducePow, Int.reduceLT, Int.reduceLE, Int.reduceNeg, Int.reduceToNat, h1, h2]
  refine callK_intro (c78 h.n (by omega)) ?_
  simp (dsimp := false) (maxDischargeDepth := 16) only [go_sem, ↓reduceIte, reduceCtorEq, Nat.reduceEqDiff, Nat.reduceAdd, Nat.reduceMul, Nat.reduceSub, Nat.reduceLT, Nat.reduceLeDiff, Nat.reducePow, Int.reduceLT, Int.reduceLE, Int.reduceNeg, Int.reduceToNat, h1, h2]
  refine callK_intro (c78 h.e (by omega)) ?_
  simp (dsimp := false) (maxDischargeDepth := 16) only [go_sem, ↓reduceIte, reduceCtorEq, Nat.reduceEqDiff, Nat.reduceAdd, Nat.reduceMul, Nat.reduceSub, Nat.reduceLT, Nat.reduceLeDiff, Nat.reducePow, Int.reduceLT, Int.reduceLE, Int.reduceNeg, Int.reduceToNat, h1, h2]
  have pl : (plc h.n k.n).length = k.n.length := plc_len _ _
  have ql : (plc h.e k.e).length = k.e.length := plc_len _ _
  have sn : k.n.length ≤ 1000 := by omega
  have se : k.e.length ≤ 1000 := by omega
  have sn' : h.n.length ≤ 1000 := by omega
  have se' : h.e.length ≤ 1000 := by omega
  clear ga gb o1 o2 e0 h1 h2 H1 H2 g1 g2
  rw [if_pos (by rfl)]
  unfold rst
  generalize plc h.n k.n = p at *
  generalize plc h.e k.e = q at *
  generalize glue a b p q = G
  refine loopK_intro (fun (i : Nat) s => i ≤ p.length ∧ s.t 9 = .box (9, 0, 0) 0 ∧ s.b (9, 0, 0) = some ⟨mcs k, false⟩ ∧ s.t 10 = .box (10, 0, 0) 0 ∧ (∃ z1 z2 z3 z4 z5 z6, s.b (10, 0, 0) = some ⟨[z1, z2, z3, z4, z5, z6], false⟩) ∧ s.t 11 = .box (11, 0, 0) 0 ∧ (∃ y1 y2, s.b (11, 0, 0) = some ⟨[y1, y2], false⟩) ∧
    s.t 16 = lv q ∧ s.t 17 = .box (17, 0, 0) 0 ∧ s.b (17, 0, 0) = some ⟨ocs G, false⟩ ∧ s.t 18 = .box (18, 0, 0) 0 ∧ s.t 77 = lv p ∧ s.t 78 = iv p.length ∧ s.t 79 = iv i ∧ ∃ k1 k2, s.b (18, 0, 0) = some ⟨[lvT (gN h.n k.n p i).1 k1, lvT h.e k2], false⟩ ∧
    tokOK s k1 = true ∧ tokOK s k2 = true ∧ tkIn [(72, 0), (94, 0)] k1 = true ∧ tkIn [(75, 0)] k2 = true) (fun i => p.length - i) ?_ ?_
  · refine ⟨0, by omega, rfl, rfl, rfl, ⟨_, _, _, _, _, _, rfl⟩, rfl, ⟨_, _, rfl⟩, rfl, rfl, rfl, rfl, rfl, rfl, rfl, .own (72, 0, 0), .own (75, 0, 0), rfl, ?_, rfl, rfl, rfl⟩
    simp (dsimp := false) (maxDischargeDepth := 16) only [go_sem, ↓reduceIte, reduceCtorEq, Nat.reduceEqDiff, Nat.reduceAdd, Nat.reduceMul, Nat.reduceSub, Nat.reduceLT, Nat.reduceLeDiff, Nat.reducePow, Int.reduceLT, Int.reduceLE, Int.reduceNeg, Int.reduceToNat]
  rintro i s ⟨hi, t9, b9, t10, ⟨z1, z2, z3, z4, z5, z6, b10⟩, t11, ⟨y1, y2, b11⟩, t16, t17, b17, t18, t77, t78, t79, k1, k2, b18, a1, a2, i1, i2⟩
  simp (dsimp := false) (maxDischargeDepth := 16) only [go_sem, ↓reduceIte, reduceCtorEq, Nat.reduceEqDiff, Nat.reduceAdd, Nat.reduceMul, Nat.reduceSub, Nat.reduceLT, Nat.reduceLeDiff, Nat.reducePow, Int.reduceLT, Int.reduceLE, Int.reduceNeg, Int.reduceToNat, t9, b9, t10, b10, t11, b11, t16, t17, b17, t18, t77, t78, t79, b18]
  refine condK_dec (fun h6 => ?_) (fun h6 => ?_)
  · have h7 : i < k.n.length := by omega
    simp (dsimp := false) (maxDischargeDepth := 16) only [go_sem, ↓reduceIte, reduceCtorEq, Nat.reduceEqDiff, Nat.reduceAdd, Nat.reduceMul, Nat.reduceSub, Nat.reduceLT, Nat.reduceLeDiff, Nat.reducePow, Int.reduceLT, Int.reduceLE, Int.reduceNeg, Int.reduceToNat, t9, b9, t10, b10, t11, b11, t16, t17, b17, t18, t77, t78, t79, b18, h6, idx_nat]
    have k12 : ∀ (s : St) (d n : Nat) (x : AV), tokOK s k2 = true → tokOK (s.ntok d n x (tokKey k1)) k2 = true := fun s d n x h => tk_kill i1 i2 rfl h
    have l1 := gN_len1 h.n k.n p i
    refine condK_dec (fun h8 => ?_) (fun h8 => ?_)
    · simp (dsimp := false) (maxDischargeDepth := 16) only [go_sem, ↓reduceIte, reduceCtorEq, Nat.reduceEqDiff, Nat.reduceAdd, Nat.reduceMul, Nat.reduceSub, Nat.reduceLT, Nat.reduceLeDiff, Nat.reducePow, Int.reduceLT, Int.reduceLE, Int.reduceNeg, Int.reduceToNat, t9, b9, t10, b10, t11, b11, t16, t17, b17, t18, t77, t78, t79, b18, h6, h7, h8, idx_nat, a1, a2, k12]
      refine ⟨⟨by omega, by omega⟩, i + 1, by omega, by omega, ⟨_, _, _, _, _, _, rfl⟩, ⟨_, _, rfl⟩, by rw [wrapN _ (by omega)], .own (94, s.g 94, 0), k2, ?_, ?_, ?_, rfl, i2⟩
      · rw [gN_neg h6 h7 h8]
        simp only [map1_app]
      all_goals simp (dsimp := false) (maxDischargeDepth := 16) only [go_sem, ↓reduceIte, reduceCtorEq, Nat.reduceEqDiff, Nat.reduceAdd, Nat.reduceMul, Nat.reduceSub, Nat.reduceLT, Nat.reduceLeDiff, Nat.reducePow, Int.reduceLT, Int.reduceLE, Int.reduceNeg, Int.reduceToNat, a1, a2, k12]
    · simp (dsimp := false) (maxDischargeDepth := 16) only [go_sem, ↓reduceIte, reduceCtorEq, Nat.reduceEqDiff, Nat.reduceAdd, Nat.reduceMul, Nat.reduceSub, Nat.reduceLT, Nat.reduceLeDiff, Nat.reducePow, Int.reduceLT, Int.reduceLE, Int.reduceNeg, Int.reduceToNat, t9, b9, t10, b10, t11, b11, t16, t17, b17, t18, t77, t78, t79, b18, h6, h7, h8, idx_nat, a1, a2, k12]
      refine ⟨i + 1, by omega, by omega, ⟨_, _, _, _, _, _, rfl⟩, ⟨_, _, rfl⟩, by rw [wrapN _ (by omega)], k1, k2, ?_, a1, a2, i1, i2⟩
      rw [gN_pos h6 h8]
  · simp (dsimp := false) (maxDischargeDepth := 16) only [go_sem, ↓reduceIte, reduceCtorEq, Nat.reduceEqDiff, Nat.reduceAdd, Nat.reduceMul, Nat.reduceSub, Nat.reduceLT, Nat.reduceLeDiff, Nat.reducePow, Int.reduceLT, Int.reduceLE, Int.reduceNeg, Int.reduceToNat, t9, b9, t10, b10, t11, b11, t16, t17, b17, t18, t77, t78, t79, b18, h6]
    have hin : i = p.length := by omega
    subst hin
    generalize (gN h.n k.n p p.length).1 = L at *
    refine loopK_intro (fun (i : Nat) s => i ≤ q.length ∧ s.t 9 = .box (9, 0, 0) 0 ∧ s.b (9, 0, 0) = some ⟨mcs k, false⟩ ∧ s.t 10 = .box (10, 0, 0) 0 ∧ s.b (10, 0, 0) = some ⟨[z1, z2, z3, z4, z5, z6], false⟩ ∧ s.t 11 = .box (11, 0, 0) 0 ∧ s.b (11, 0, 0) = some ⟨[y1, y2], false⟩ ∧
      s.t 17 = .box (17, 0, 0) 0 ∧ s.b (17, 0, 0) = some ⟨ocs G, false⟩ ∧ s.t 18 = .box (18, 0, 0) 0 ∧ s.t 97 = lv q ∧ s.t 98 = iv q.length ∧ s.t 99 = iv i ∧ ∃ k2, s.b (18, 0, 0) = some ⟨[lvT L k1, lvT (gN h.e k.e q i).1 k2], false⟩ ∧
      tokOK s k2 = true ∧ tkIn [(75, 0), (114, 0)] k2 = true) (fun i => q.length - i) ?_ ?_
    · refine ⟨0, by omega, t9, b9, t10, b10, t11, b11, t17, b17, t18, rfl, rfl, rfl, k2, b18, a2, ?_⟩
      revert i2
      cases k2 <;> simp [tkIn]
      intro h1 h2
      exact .inl ⟨h1, h2⟩
    clear t9 b9 t10 b10 t11 b11 t16 t17 b17 t18 t77 t78 t79 b18 a1 a2 i1 i2 h6 hi
    rintro i s ⟨hi, t9, b9, t10, b10, t11, b11, t17, b17, t18, t97, t98, t99, k2, b18, a2, i2⟩
    simp (dsimp := false) (maxDischargeDepth := 16) only [go_sem, ↓reduceIte, reduceCtorEq, Nat.reduceEqDiff, Nat.reduceAdd, Nat.reduceMul, Nat.reduceSub, Nat.reduceLT, Nat.reduceLeDiff, Nat.reducePow, Int.reduceLT, Int.reduceLE, Int.reduceNeg, Int.reduceToNat, t9, b9, t10, b10, t11, b11, t17, b17, t18, t97, t98, t99, b18]
    refine condK_dec (fun h6 => ?_) (fun h6 => ?_)
    · have h7 : i < k.e.length := by omega
      simp (dsimp := false) (maxDischargeDepth := 16) only [go_sem, ↓reduceIte, reduceCtorEq, Nat.reduceEqDiff, Nat.reduceAdd, Nat.reduceMul, Nat.reduceSub, Nat.reduceLT, Nat.reduceLeDiff, Nat.reducePow, Int.reduceLT, Int.reduceLE, Int.reduceNeg, Int.reduceToNat, t9, b9, t10, b10, t11, b11, t17, b17, t18, t97, t98, t99, b18, h6, idx_nat]
      have l1 := gN_len1 h.e k.e q i
      refine condK_dec (fun h8 => ?_) (fun h8 => ?_)
      · simp (dsimp := false) (maxDischargeDepth := 16) only [go_sem, ↓reduceIte, reduceCtorEq, Nat.reduceEqDiff, Nat.reduceAdd, Nat.reduceMul, Nat.reduceSub, Nat.reduceLT, Nat.reduceLeDiff, Nat.reducePow, Int.reduceLT, Int.reduceLE, Int.reduceNeg, Int.reduceToNat, t9, b9, t10, b10, t11, b11, t17, b17, t18, t97, t98, t99, b18, h6, h7, h8, idx_nat, a2]
        refine ⟨⟨by omega, by omega⟩, i + 1, by omega, by omega, by rw [wrapN _ (by omega)], .own (114, s.g 114, 0), ?_, ?_, rfl⟩
        · rw [gN_neg h6 h7 h8]
          simp only [map1_app]
        all_goals simp (dsimp := false) (maxDischargeDepth := 16) only [go_sem, ↓reduceIte, reduceCtorEq, Nat.reduceEqDiff, Nat.reduceAdd, Nat.reduceMul, Nat.reduceSub, Nat.reduceLT, Nat.reduceLeDiff, Nat.reducePow, Int.reduceLT, Int.reduceLE, Int.reduceNeg, Int.reduceToNat, a2]
      · simp (dsimp := false) (maxDischargeDepth := 16) only [go_sem, ↓reduceIte, reduceCtorEq, Nat.reduceEqDiff, Nat.reduceAdd, Nat.reduceMul, Nat.reduceSub, Nat.reduceLT, Nat.reduceLeDiff, Nat.reducePow, Int.reduceLT, Int.reduceLE, Int.reduceNeg, Int.reduceToNat, t9, b9, t10, b10, t11, b11, t17, b17, t18, t97, t98, t99, b18, h6, h7, h8, idx_nat, a2]
        refine ⟨i + 1, by omega, by omega, by rw [wrapN _ (by omega)], k2, ?_, a2, i2⟩
        rw [gN_pos h6 h8]
    · simp (dsimp := false) (maxDischargeDepth := 16) only [go_sem, ↓reduceIte, reduceCtorEq, Nat.reduceEqDiff, Nat.reduceAdd, Nat.reduceMul, Nat.reduceSub, Nat.reduceLT, Nat.reduceLeDiff, Nat.reducePow, Int.reduceLT, Int.reduceLE, Int.reduceNeg, Int.reduceToNat, t9, b9, t10, b10, t11, b11, t17, b17, t18, t97, t98, t99, b18, h6]
      have hin : i = q.length := by omega
      rw [hin]

      exact ⟨rfl, finK ⟨rfl, rfl⟩⟩
end Go.Sy

/- Plain law: two injective morphisms into one graph go through an overlap and the rest. -/
namespace Go.Sy
open Go Go.Proofs

theorem mErr_node {a b : Gr} {m : Mo} (h : mErr a b m = 0) {i : Nat} (hi : i < a.n.length) : 0 ≤ m.n.getD i 0 ∧ (m.n.getD i 0).toNat < b.n.length ∧ b.n.getD (m.n.getD i 0).toNat 0 = a.n.getD i 0 := by
  have := (mErr_ok h).2.2.2.2.1 i hi
  rw [nodeErr] at this
  split at this
  · cases this
  split at this
  · cases this
  · rename_i h1 h2
    simp only [ne_eq, Decidable.not_not] at h2
    exact ⟨by omega, by omega, h2⟩
theorem mErr_edge {a b : Gr} {m : Mo} (h : mErr a b m = 0) {i : Nat} (hi : i < a.e.length) : 0 ≤ m.e.getD i 0 ∧ (m.e.getD i 0).toNat < b.e.length ∧ (a.e.getD i (0, 0, 0)).1 = (b.e.getD (m.e.getD i 0).toNat (0, 0, 0)).1 ∧
    m.n.getD (a.e.getD i (0, 0, 0)).2.1.toNat 0 = (b.e.getD (m.e.getD i 0).toNat (0, 0, 0)).2.1 ∧ m.n.getD (a.e.getD i (0, 0, 0)).2.2.toNat 0 = (b.e.getD (m.e.getD i 0).toNat (0, 0, 0)).2.2 := by
  have := (mErr_ok h).2.2.2.2.2 i hi
  rw [edgeErr] at this
  split at this
  · cases this
  split at this
  · cases this
  split at this
  · cases this
  · rename_i h1 h2 h3
    simp only [ne_eq, Decidable.not_not] at h2
    exact ⟨by omega, by omega, h2, by omega, by omega⟩
theorem edge_in {g : Gr} (h : gErr g = 0) {i : Nat} (hi : i < g.e.length) : 0 ≤ (g.e.getD i (0, 0, 0)).2.1 ∧ (g.e.getD i (0, 0, 0)).2.1 < g.n.length ∧ 0 ≤ (g.e.getD i (0, 0, 0)).2.2 ∧ (g.e.getD i (0, 0, 0)).2.2 < g.n.length := by
  have := ((gErr_small h).2.2 _ (List.getElem_mem hi)).2
  rw [getD_at hi]
  exact this
theorem dist_at {l : List Int} (h : dist l = true) {i j : Nat} (hi : i < l.length) (hj : j < l.length) (he : l.getD i 0 = l.getD j 0) : i = j := by
  have h := List.all_eq_true.1 h
  rcases Nat.lt_trichotomy i j with h1 | h1 | h1
  · have := List.all_eq_true.1 (h j (List.mem_range.2 hj)) i (List.mem_range.2 h1)
    simp only [decide_eq_true_eq] at this
    exact absurd he.symm this
  · exact h1
  · have := List.all_eq_true.1 (h i (List.mem_range.2 hi)) j (List.mem_range.2 h1)
    simp only [decide_eq_true_eq] at this
    exact absurd he this
/-! ### Places -/
theorem plc_val (h k : List Int) {i : Nat} (hi : i < k.length) : ((plc h k).getD i 0 = -1 ∧ ∀ c, c < h.length → h.getD c 0 ≠ k.getD i 0) ∨ ∃ c : Nat, c < h.length ∧ (plc h k).getD i 0 = (c : Int) ∧ h.getD c 0 = k.getD i 0 := by
  have e : (plc h k).getD i 0 = idxP (fun y => k[i] == y) h := by rw [getD_at (by rw [plc_len]; exact hi)]; simp [plc]
  rw [e, getD_at hi]
  rcases idxP_cases (fun y => k[i] == y) h with ⟨h1, h2⟩ | ⟨c, hc, h1, h2⟩
  · refine .inl ⟨h1, fun c hc he => ?_⟩
    have := h2 _ (List.getElem_mem hc)
    rw [getD_at hc] at he
    rw [he] at this
    simp at this
  · refine .inr ⟨c, hc, h1, ?_⟩
    rw [getD_at hc]
    exact (beq_iff_eq.1 h2).symm
theorem plc_hit {h k : List Int} (hd : dist h = true) {i c : Nat} (hi : i < k.length) (hc : c < h.length) (he : h.getD c 0 = k.getD i 0) : (plc h k).getD i 0 = (c : Int) := by
  rcases plc_val h k hi with ⟨_, h2⟩ | ⟨c', hc', h1, h2⟩
  · exact absurd he (h2 c hc)
  · rw [h1, dist_at hd hc' hc (by rw [h2, he])]
theorem plc_PI {h k : List Int} (hk : dist k = true) {R : Nat → Nat → Prop} (hR : ∀ i c, i < k.length → c < h.length → h.getD c 0 = k.getD i 0 → R i c) : PI k.length h.length R (plc h k) := by
  refine ⟨plc_len _ _, fun i hi => ?_, fun i j hij hj he => ?_⟩
  · rcases plc_val h k hi with ⟨h1, _⟩ | ⟨c, hc, h1, h2⟩
    · exact .inl h1
    · exact .inr ⟨c, hc, h1, hR i c hi hc h2⟩
  · rcases plc_val h k (show i < k.length by omega) with ⟨h1, _⟩ | ⟨c, hc, h1, h2⟩
    · exact h1
    · rcases plc_val h k hj with ⟨h3, _⟩ | ⟨c', hc', h3, h4⟩
      · rw [he, h3]
      · have : c = c' := by omega
        subst this
        have := dist_at hk (show i < k.length by omega) hj (by rw [← h2, h4])
        omega
/-! ### Two lists that grow alike -/
theorem gG_snd {α β : Type} {a : List α} {a' : List β} (f : Nat → α) (f' : Nat → β) (q : List Int) (hl : a.length = a'.length) : ∀ i, (gG a f q i).2 = (gG a' f' q i).2 ∧ (gG a f q i).1.length = (gG a' f' q i).1.length
  | 0 => ⟨rfl, hl⟩
  | i + 1 => by
    obtain ⟨h1, h2⟩ := gG_snd f f' q hl i
    rw [gG, gG]
    split
    · refine ⟨by rw [h1, h2], by simp [h2]⟩
    · exact ⟨by rw [h1], h2⟩
theorem GS.at {α : Type} {a : List α} {f : Nat → α} {q : List Int} {n : Nat} {L : List α} {R : List Int} (h : GS a f q n L R) (d : α) {c : Nat} (hc : c < L.length) :
    (c < a.length ∧ L.getD c d = a.getD c d) ∨ (a.length ≤ c ∧ ∃ j, j < n ∧ q.getD j 0 < 0 ∧ R.getD j 0 = (c : Int) ∧ L.getD c d = f j) := by
  by_cases hca : c < a.length
  · exact .inl ⟨hca, h.old_at hca d⟩
  · obtain ⟨j, j1, j2, j3⟩ := h.cov c (by omega) hc
    refine .inr ⟨by omega, j, j1, j2, j3, ?_⟩
    have := (h.new j j1 j2).2
    rw [j3, Int.toNat_natCast] at this
    rw [List.getD_eq_getElem?_getD, this]
    rfl
theorem GS.new_at {α : Type} {a : List α} {f : Nat → α} {q : List Int} {n : Nat} {L : List α} {R : List Int} (h : GS a f q n L R) (d : α) {j : Nat} (hj : j < n) (hq : q.getD j 0 < 0) : L.getD (R.getD j 0).toNat d = f j := by
  have := (h.new j hj hq).2
  rw [List.getD_eq_getElem?_getD, this]
  rfl
/-- Where the rest takes an element of the overlap that comes from the second graph. -/
theorem rest_back {h k : List Int} {L R : List Int} (hg : GS h (fun j => k.getD j 0) (plc h k) k.length L R) {j : Nat} (hj : j < k.length) : L.getD (R.getD j 0).toNat 0 = k.getD j 0 := by
  rcases plc_val h k hj with ⟨h1, _⟩ | ⟨c, hc, h1, h2⟩
  · exact hg.new_at 0 hj (by omega)
  · rw [hg.old j hj (by omega), h1, Int.toNat_natCast, hg.old_at hc 0, h2]
theorem rest_dist {h k : List Int} {L R : List Int} (hg : GS h (fun j => k.getD j 0) (plc h k) k.length L R) (hd : dist h = true) (kd : dist k = true) : dist L = true := by
  have hcase : ∀ c d, c < d → d < L.length → L.getD c 0 ≠ L.getD d 0 := by
    intro c d hcd hd' he
    rcases hg.at 0 (show c < L.length by omega) with ⟨c1, c2⟩ | ⟨c1, j, j1, j2, j3, c2⟩
    · rcases hg.at 0 hd' with ⟨d1, d2⟩ | ⟨d1, i, i1, i2, i3, d2⟩
      · have := dist_at hd c1 d1 (by rw [← c2, ← d2, he])
        omega
      · rcases plc_val h k i1 with ⟨_, h1⟩ | ⟨x, _, h1, _⟩
        · exact h1 c c1 (by rw [← c2, he, d2])
        · omega
    · rcases hg.at 0 hd' with ⟨d1, d2⟩ | ⟨d1, i, i1, i2, i3, d2⟩
      · omega
      · have := dist_at kd j1 i1 (by show k.getD j 0 = k.getD i 0; rw [c2, d2] at he; exact he)
        subst this
        omega
  exact dist_yes fun i hi k hk e => hcase k i hk hi e.symm
/-- A list of different numbers below n has at most n. -/
theorem dist_le {l : List Int} {n : Nat} (h : dist l = true) (hl : ∀ x ∈ l, 0 ≤ x ∧ x < n) : l.length ≤ n := by
  have h1 : (l.map Int.toNat).Nodup := by
    rw [List.Nodup, List.pairwise_map]
    refine ((dist_nodup l).1 h).imp_of_mem fun {a b} ha hb hne e => hne ?_
    have := hl a ha
    have := hl b hb
    omega
  have h2 := List.Nodup.length_le_of_subset h1 (l₂ := List.range n) (fun x hx => by
    obtain ⟨y, hy, rfl⟩ := List.mem_map.1 hx
    have := hl y hy
    exact List.mem_range.2 (by omega))
  simpa using h2
theorem injR_dist {a b : Gr} {m : Mo} (h : injR a b m = true) : mErr a b m = 0 ∧ dist m.n = true ∧ dist m.e = true := by
  unfold injR at h
  simp only [Bool.and_eq_true, beq_iff_eq] at h
  exact h
theorem thru_isM {a b x : Gr} {h k : Mo} (i1 : injR a x h = true) (i2 : injR b x k = true) : isM a b (plc h.n k.n, plc h.e k.e) := by
  obtain ⟨g1, d1, d2⟩ := injR_dist i1
  obtain ⟨g2, d3, d4⟩ := injR_dist i2
  have o1 := mErr_ok g1
  have o2 := mErr_ok g2
  have P1 : PI k.n.length h.n.length (relN a b) (plc h.n k.n) := plc_PI d3 fun i c hi hc he => by
    have n1 := mErr_node g1 (show c < a.n.length by omega)
    have n2 := mErr_node g2 (show i < b.n.length by omega)
    rw [he] at n1
    rw [relN, ← n1.2.2, ← n2.2.2]
  have P2 : PI k.e.length h.e.length (relE a b (plc h.n k.n)) (plc h.e k.e) := plc_PI d4 fun i c hi hc he => by
    have hc' : c < a.e.length := by omega
    have hi' : i < b.e.length := by omega
    have n1 := mErr_edge g1 hc'
    have n2 := mErr_edge g2 hi'
    have r1 := edge_in o1.1 hc'
    have r2 := edge_in o2.1 hi'
    rw [he] at n1
    have e1 := plc_hit (k := k.n) d1 (i := (b.e.getD i (0, 0, 0)).2.1.toNat) (c := (a.e.getD c (0, 0, 0)).2.1.toNat) (by omega) (by omega) (by rw [n1.2.2.2.1, n2.2.2.2.1])
    have e2 := plc_hit (k := k.n) d1 (i := (b.e.getD i (0, 0, 0)).2.2.toNat) (c := (a.e.getD c (0, 0, 0)).2.2.toNat) (by omega) (by omega) (by rw [n1.2.2.2.2, n2.2.2.2.2])
    rw [relE, e1, e2]
    refine Prod.ext ?_ (Prod.ext ?_ ?_)
    · rw [n1.2.2.1, n2.2.2.1]
    · show _ = (((a.e.getD c (0, 0, 0)).2.1.toNat : Nat) : Int)
      omega
    · show _ = (((a.e.getD c (0, 0, 0)).2.2.toNat : Nat) : Int)
      omega
  rw [o1.2.2.1, o2.2.2.1] at P1
  rw [o1.2.2.2.1, o2.2.2.2.1] at P2
  exact ⟨P1, P2⟩
/-- What the rest is, beside the overlap. -/
structure RestOK (a b : Gr) (h k : Mo) (G : Ov) (r : Mo) : Prop where
  n : GS h.n (fun j => k.n.getD j 0) (plc h.n k.n) k.n.length r.n G.r.n
  e : GS h.e (fun j => k.e.getD j 0) (plc h.e k.e) k.e.length r.e G.r.e
  ln : r.n.length = G.g.n.length
  le : r.e.length = G.g.e.length
theorem rest_ok {a b x : Gr} {h k : Mo} (i1 : injR a x h = true) (i2 : injR b x k = true) : RestOK a b h k (glue a b (plc h.n k.n) (plc h.e k.e)) (rst h k (plc h.n k.n) (plc h.e k.e)) := by
  obtain ⟨g1, d1, d2⟩ := injR_dist i1
  obtain ⟨g2, d3, d4⟩ := injR_dist i2
  have o1 := mErr_ok g1
  have o2 := mErr_ok g2
  have hM := thru_isM i1 i2
  have s1 := gG_snd (a := h.n) (a' := a.n) (fun j => k.n.getD j 0) (fun j => b.n.getD j 0) (plc h.n k.n) (by omega) (plc h.n k.n).length
  have s2 := gG_snd (a := h.e) (a' := a.e) (fun j => k.e.getD j 0) (edF b.e (gN a.n b.n (plc h.n k.n) (plc h.n k.n).length).2) (plc h.e k.e) (by omega) (plc h.e k.e).length
  constructor
  · show GS _ _ _ _ (gN h.n k.n (plc h.n k.n) (plc h.n k.n).length).1 (gN a.n b.n (plc h.n k.n) (plc h.n k.n).length).2
    rw [gN_gG, gN_gG, ← s1.1, plc_len]
    refine gG_spec (fun j hj => ?_) _ (Nat.le_refl _)
    have := hM.1.ok j (by omega)
    rw [o1.2.2.1]
    exact this
  · show GS _ _ _ _ (gN h.e k.e (plc h.e k.e) (plc h.e k.e).length).1 (gE a.e b.e (gN a.n b.n (plc h.n k.n) (plc h.n k.n).length).2 (plc h.e k.e) (plc h.e k.e).length).2
    rw [gN_gG h.e, gE_gG, ← s2.1, plc_len]
    refine gG_spec (fun j hj => ?_) _ (Nat.le_refl _)
    have := hM.2.ok j (by omega)
    rw [o1.2.2.2.1]
    exact this
  · show (gN h.n k.n (plc h.n k.n) (plc h.n k.n).length).1.length = (gN a.n b.n (plc h.n k.n) (plc h.n k.n).length).1.length
    rw [gN_gG, gN_gG]
    exact s1.2
  · show (gN h.e k.e (plc h.e k.e) (plc h.e k.e).length).1.length = (gE a.e b.e (gN a.n b.n (plc h.n k.n) (plc h.n k.n).length).2 (plc h.e k.e) (plc h.e k.e).length).1.length
    rw [gN_gG h.e, gE_gG]
    exact s2.2
theorem thr_eq {R L k : List Int} (hl : R.length = k.length) (h : ∀ j, j < k.length → L.getD (R.getD j 0).toNat 0 = k.getD j 0) : thr R L = k := by
  refine List.ext_getElem (by simp [thr, hl]) fun i h1 h2 => ?_
  have := h i h2
  rw [getD_at h2, getD_at (show i < R.length by omega)] at this
  simp only [thr, List.getElem_map]
  exact this
theorem thru_all {a b x : Gr} {h k : Mo} (i1 : injR a x h = true) (i2 : injR b x k = true) :
    cmpR a (glue a b (plc h.n k.n) (plc h.e k.e)).g x (glue a b (plc h.n k.n) (plc h.e k.e)).l (rst h k (plc h.n k.n) (plc h.e k.e)) = (h, 0) ∧
    cmpR b (glue a b (plc h.n k.n) (plc h.e k.e)).g x (glue a b (plc h.n k.n) (plc h.e k.e)).r (rst h k (plc h.n k.n) (plc h.e k.e)) = (k, 0) ∧
    injR (glue a b (plc h.n k.n) (plc h.e k.e)).g x (rst h k (plc h.n k.n) (plc h.e k.e)) = true := by
  have hM := thru_isM i1 i2
  have hR := rest_ok i1 i2
  have hG := glue_ok hM
  obtain ⟨g1, d1, d2⟩ := injR_dist i1
  obtain ⟨g2, d3, d4⟩ := injR_dist i2
  have o1 := mErr_ok g1
  have o2 := mErr_ok g2
  have gx := gErr_small o1.2.1
  have dn := rest_dist hR.n d1 d3
  have de := rest_dist hR.e d2 d4
  have hln := hR.ln
  have hle := hR.le
  -- where the rest takes the overlap's nodes and edges
  have nin : ∀ c, c < (glue a b (plc h.n k.n) (plc h.e k.e)).g.n.length → nodeErr (glue a b (plc h.n k.n) (plc h.e k.e)).g x (rst h k (plc h.n k.n) (plc h.e k.e)) c = 0 := by
    intro c hc
    rw [nodeErr]
    rcases hR.n.at 0 (show c < (rst h k (plc h.n k.n) (plc h.e k.e)).n.length by omega) with ⟨c1, c2⟩ | ⟨c1, j, j1, j2, j3, c2⟩
    · have := mErr_node g1 (show c < a.n.length by omega)
      rw [c2, hG.n.old_at (show c < a.n.length by omega) 0, if_neg (by omega), if_neg (by rw [this.2.2]; simp)]
    · have := mErr_node g2 (show j < b.n.length by omega)
      have e := hG.n.new_at 0 (show j < b.n.length by omega) j2
      rw [j3, Int.toNat_natCast] at e
      rw [c2, e, if_neg (by omega), if_neg (by rw [this.2.2]; simp)]
  have ein : ∀ c, c < (glue a b (plc h.n k.n) (plc h.e k.e)).g.e.length → edgeErr (glue a b (plc h.n k.n) (plc h.e k.e)).g x (rst h k (plc h.n k.n) (plc h.e k.e)) c = 0 := by
    intro c hc
    rw [edgeErr]
    rcases hR.e.at 0 (show c < (rst h k (plc h.n k.n) (plc h.e k.e)).e.length by omega) with ⟨c1, c2⟩ | ⟨c1, j, j1, j2, j3, c2⟩
    · have hc' : c < a.e.length := by omega
      have n := mErr_edge g1 hc'
      have r := edge_in o1.1 hc'
      rw [c2, hG.e.old_at hc' (0, 0, 0), hR.n.old_at (show (a.e.getD c (0, 0, 0)).2.1.toNat < h.n.length by omega) 0, hR.n.old_at (show (a.e.getD c (0, 0, 0)).2.2.toNat < h.n.length by omega) 0,
        if_neg (by omega), if_neg (by rw [n.2.2.1]; simp), if_neg (by rw [n.2.2.2.1, n.2.2.2.2]; simp)]
    · have hj' : j < b.e.length := by omega
      have n := mErr_edge g2 hj'
      have r := edge_in o2.1 hj'
      have e := hG.e.new_at (0, 0, 0) hj' j2
      rw [j3, Int.toNat_natCast] at e
      have b1 := rest_back hR.n (show (b.e.getD j (0, 0, 0)).2.1.toNat < k.n.length by omega)
      have b2 := rest_back hR.n (show (b.e.getD j (0, 0, 0)).2.2.toNat < k.n.length by omega)
      rw [c2, e]
      unfold edF
      dsimp only
      rw [b1, b2, if_neg (by omega), if_neg (by rw [n.2.2.1]; simp), if_neg (by rw [n.2.2.2.1, n.2.2.2.2]; simp)]
  have rn : ∀ y ∈ (rst h k (plc h.n k.n) (plc h.e k.e)).n, 0 ≤ y ∧ y < x.n.length := by
    intro y hy
    obtain ⟨c, hc, rfl⟩ := List.mem_iff_getElem.1 hy
    have := nin c (by omega)
    rw [nodeErr] at this
    split at this
    · cases this
    · rename_i h5
      rw [getD_at hc] at h5
      omega
  have re : ∀ y ∈ (rst h k (plc h.n k.n) (plc h.e k.e)).e, 0 ≤ y ∧ y < x.e.length := by
    intro y hy
    obtain ⟨c, hc, rfl⟩ := List.mem_iff_getElem.1 hy
    have := ein c (by omega)
    rw [edgeErr] at this
    split at this
    · cases this
    · rename_i h5
      rw [getD_at hc] at h5
      omega
  have sn := dist_le dn rn
  have se := dist_le de re
  have hs : (glue a b (plc h.n k.n) (plc h.e k.e)).g.n.length ≤ 40 ∧ (glue a b (plc h.n k.n) (plc h.e k.e)).g.e.length ≤ 80 := by omega
  have gv := glue_valid (p := (plc h.n k.n, plc h.e k.e)) o1.1 o2.1 hs hM
  have ml := glue_left (p := (plc h.n k.n, plc h.e k.e)) o1.1 o2.1 hs hM
  have mr := glue_right (p := (plc h.n k.n, plc h.e k.e)) o1.1 o2.1 hs hM
  have m3 : mErr (glue a b (plc h.n k.n) (plc h.e k.e)).g x (rst h k (plc h.n k.n) (plc h.e k.e)) = 0 := mErr_zero gv o1.2.1 hln hle nin ein
  refine ⟨?_, ?_, ?_⟩
  · rw [cmpR, if_neg (by simp [ml]), if_neg (by simp [m3]), thn]
    refine Prod.ext ?_ rfl
    have l1 : (glue a b (plc h.n k.n) (plc h.e k.e)).l.n = rng a.n.length := rfl
    have l2 : (glue a b (plc h.n k.n) (plc h.e k.e)).l.e = rng a.e.length := rfl
    have t1 : thr (rng a.n.length) (rst h k (plc h.n k.n) (plc h.e k.e)).n = h.n := thr_eq (by rw [rng_len]; omega) fun j hj => by
      rw [rng_at (by omega), Int.toNat_natCast, hR.n.old_at hj]
    have t2 : thr (rng a.e.length) (rst h k (plc h.n k.n) (plc h.e k.e)).e = h.e := thr_eq (by rw [rng_len]; omega) fun j hj => by
      rw [rng_at (by omega), Int.toNat_natCast, hR.e.old_at hj]
    rw [l1, l2, t1, t2]
  · rw [cmpR, if_neg (by simp [mr]), if_neg (by simp [m3]), thn]
    refine Prod.ext ?_ rfl
    have t1 : thr (glue a b (plc h.n k.n) (plc h.e k.e)).r.n (rst h k (plc h.n k.n) (plc h.e k.e)).n = k.n := thr_eq hR.n.len fun j hj => rest_back hR.n hj
    have t2 : thr (glue a b (plc h.n k.n) (plc h.e k.e)).r.e (rst h k (plc h.n k.n) (plc h.e k.e)).e = k.e := thr_eq hR.e.len fun j hj => rest_back hR.e hj
    rw [t1, t2]
  · rw [injR, m3, dn, de]
    rfl
end Go.Sy

/- Contracts: the part of a graph that bits choose. -/
set_option linter.unusedSimpArgs false
namespace Go.Sy
open Go Go.Proofs

def u16 (x : Int) : AV := .v (.int .u16 x)
attribute [go_sem] u16
def shv (a b : Int) : Int := a.fdiv (2 ^ min b.toNat IntKind.u16.bits)
def anv (a b : Int) : Int := IntKind.u16.wrap (BitVec.ofInt IntKind.u16.bits a &&& BitVec.ofInt IntKind.u16.bits b).toNat
theorem bin_shr0 (a b : Int) : binAV Try.prog .shr 79 (.v (.int .u16 a)) (.v (.int .i64 b)) = if b < 0 then none else some (.v (.int .u16 (shv a b))) := rfl
theorem bin_shr (a : Int) (i : Nat) : binAV Try.prog .shr 79 (.v (.int .u16 a)) (.v (.int .i64 (i : Int))) = some (.v (.int .u16 (shv a i))) := by
  rw [bin_shr0, if_neg (by omega)]
theorem bin_and (a b : Int) : binAV Try.prog .and 79 (.v (.int .u16 a)) (.v (.int .u16 b)) = some (.v (.int .u16 (anv a b))) := rfl
theorem bi_set1 {zs : List Int} {i : Nat} {x : Int} (h : i < zs.length) : (bi zs).take (i * 1) ++ [AV.v (.int .i64 x)] ++ (bi zs).drop (i * 1 + 1) = bi (zs.set i x) := by
  rw [Nat.mul_one]
  exact bi_set h
theorem bi_head {zs : List Int} {k : Nat} {x : Int} (h : k < zs.length) (hx : zs.getD k 0 = x) : (List.drop (k * 1) (bi zs)).head? = some (AV.v (.int .i64 x)) := by
  rw [Nat.mul_one, List.head?_drop, bi, List.getElem?_map, List.getElem?_eq_getElem h, ← hx, getD_at h]
  rfl
theorem set_at {zs : List Int} {i j : Nat} {x : Int} (h : i < zs.length) : (zs.set i x).getD j 0 = if j = i then x else zs.getD j 0 := by
  rw [List.getD_eq_getElem?_getD, List.getElem?_set]
  by_cases hj : j = i
  · rw [if_pos hj.symm, if_pos h, if_pos hj]
    rfl
  · rw [if_neg (fun e => hj e.symm), if_neg hj, List.getD_eq_getElem?_getD]
attribute [go_sem] bin_shr bin_and
def btv (w : Int) (j : Nat) : Bool := anv (shv w j) 1 == 1
def sel (p : Nat → Bool) (n : Nat) : List Nat := (List.range n).filter p
theorem sel_yes {p : Nat → Bool} {i : Nat} (h : p i = true) : sel p (i + 1) = sel p i ++ [i] := by simp [sel, List.range_succ, h]
theorem sel_no {p : Nat → Bool} {i : Nat} (h : p i = false) : sel p (i + 1) = sel p i := by simp [sel, List.range_succ, h]
/-- Where an element goes: its place among those that are chosen, or -1. -/
def atv (p : Nat → Bool) (j : Nat) : Int := if p j = true then ((sel p j).length : Int) else -1
def eok (g : Gr) (p q : Nat → Bool) (j : Nat) : Bool := q j && (decide (0 ≤ atv p (g.e.getD j (0, 0, 0)).2.1.toNat) && decide (0 ≤ atv p (g.e.getD j (0, 0, 0)).2.2.toNat))
def eat (g : Gr) (p : Nat → Bool) (j : Nat) : Ed := ((g.e.getD j (0, 0, 0)).1, atv p (g.e.getD j (0, 0, 0)).2.1.toNat, atv p (g.e.getD j (0, 0, 0)).2.2.toNat)
def selN (p : Nat → Bool) (i : Nat) : List Int := (sel p i).map fun (j : Nat) => (j : Int)
theorem selN_yes {p : Nat → Bool} {i : Nat} (h : p i = true) : selN p (i + 1) = selN p i ++ [(i : Int)] := by simp [selN, sel_yes h]
theorem selN_no {p : Nat → Bool} {i : Nat} (h : p i = false) : selN p (i + 1) = selN p i := by simp [selN, sel_no h]
theorem selN_len (p : Nat → Bool) (i : Nat) : (selN p i).length = (sel p i).length := by simp [selN]
def chR (g : Gr) (p q : Nat → Bool) : Gr × Mo := (⟨(sel p g.n.length).map fun j => g.n.getD j 0, (sel (eok g p q) g.e.length).map (eat g p)⟩, ⟨selN p g.n.length, selN (eok g p q) g.e.length⟩)
set_option maxHeartbeats 2000000 in
theorem c42 (g : Gr) (w : Int) (hg : gErr g = 0) : Con Try.prog 42 [gv g, u16 w] 0 (.tup [gv (chR g (btv w) fun j => btv w (8 + j)).1, mv (chR g (btv w) fun j => btv w (8 + j)).2]) := by
  have hs := gErr_small hg
  generalize hq : (fun j => btv w (8 + j)) = q
  have hq' : ∀ j : Nat, (anv (shv w ((8 + j : Nat) : Int)) 1 == 1) = q j := fun j => by rw [← hq]; rfl
  generalize hp : btv w = p
  have hp' : ∀ j : Nat, (anv (shv w j) 1 == 1) = p j := fun j => by rw [← hp]; rfl
  refine conT (X := [(18, [], [(4, [8], [])])]) (rs := [.cell 4 25, .cell 5 41]) Try.func42 (by kernel_rfl) rfl rfl (by kernel_rfl) ?_
  simp (dsimp := false) (maxDischargeDepth := 16) only [go_sem, ↓reduceIte, reduceCtorEq, Nat.reduceEqDiff, Nat.reduceAdd, Nat.reduceMul, Nat.reduceSub, Nat.reduceLT, Nat.reduceLeDiff, Nat.reducePow, Int.reduceLT, Int.reduceLE, Int.reduceNeg, Int.reduceToNat, Int.toNat_natCast, bi_zero]
  refine ⟨⟨by omega, by omega, by omega⟩, ?_⟩
  have hsl : ∀ p i, (sel p i).length ≤ i := fun p i => by have := List.length_filter_le p (List.range i); simpa [sel] using this
  refine loopK_intro (fun (i : Nat) s => i ≤ g.n.length ∧ s.t 1 = u16 w ∧ s.t 2 = .box (2, 0, 0) 0 ∧ s.b (2, 0, 0) = some ⟨gcs g, false⟩ ∧ s.t 4 = .box (4, 0, 0) 0 ∧ (∃ z1 z2, s.b (4, 0, 0) = some ⟨[z1, z2], false⟩) ∧ s.t 5 = .box (5, 0, 0) 0 ∧ (∃ y1 y2, s.b (5, 0, 0) = some ⟨[y1, y2], false⟩) ∧
    s.t 6 = .sl (16, 0, 0) g.n.length 1 ∧ s.t 7 = .box (7, 0, 0) 0 ∧ s.t 8 = .box (8, 0, 0) 0 ∧ s.t 18 = lv g.n ∧ s.t 19 = iv g.n.length ∧ s.t 20 = iv i ∧
    ∃ k1 k2, ∃ zs : List Int, s.b (7, 0, 0) = some ⟨[lvT ((sel p i).map fun j => g.n.getD j 0) k1, .list 3 [] .nil], false⟩ ∧ s.b (8, 0, 0) = some ⟨[lvT (selN p i) k2, .list 1 [] .nil], false⟩ ∧
      s.b (16, 0, 0) = some ⟨bi zs, false⟩ ∧ zs.length = g.n.length ∧ (∀ j, j < i → zs.getD j 0 = atv p j) ∧ tokOK s k1 = true ∧ tokOK s k2 = true ∧ tkIn [(43, 0)] k1 = true ∧ tkIn [(48, 0)] k2 = true) (fun i => g.n.length - i) ?_ ?_
  · refine ⟨0, by omega, rfl, rfl, rfl, rfl, ⟨_, _, rfl⟩, rfl, ⟨_, _, rfl⟩, rfl, rfl, rfl, rfl, rfl, rfl, .nil, .nil, _, rfl, rfl, rfl, by simp, fun j hj => by omega, rfl, rfl, rfl, rfl⟩
  rintro i s ⟨hi, t1, t2, b2, t4, ⟨z1, z2, b4⟩, t5, ⟨y1, y2, b5⟩, t6, t7, t8, t18, t19, t20, k1, k2, zs, b7, b8, b16, hz, hall, a1, a2, i1, i2⟩
  simp (dsimp := false) (maxDischargeDepth := 16) only [go_sem, ↓reduceIte, reduceCtorEq, Nat.reduceEqDiff, Nat.reduceAdd, Nat.reduceMul, Nat.reduceSub, Nat.reduceLT, Nat.reduceLeDiff, Nat.reducePow, Int.reduceLT, Int.reduceLE, Int.reduceNeg, Int.reduceToNat, t1, t2, b2, t4, b4, t5, b5, t6, t7, t8, t18, t19, t20, b7, b8, b16]
  refine condK_dec (fun h6 => ?_) (fun h6 => ?_)
  · have l1 := hsl p i
    have hzl : i < zs.length := by omega
    simp (dsimp := false) (maxDischargeDepth := 16) only [go_sem, ↓reduceIte, reduceCtorEq, Nat.reduceEqDiff, Nat.reduceAdd, Nat.reduceMul, Nat.reduceSub, Nat.reduceLT, Nat.reduceLeDiff, Nat.reducePow, Int.reduceLT, Int.reduceLE, Int.reduceNeg, Int.reduceToNat, t1, t2, b2, t4, b4, t5, b5, t6, t7, t8, t18, t19, t20, b7, b8, b16, h6, idx_nat, idx_sl, hp', bi_set1, hzl]
    refine ⟨by rw [bi_len]; omega, ?_⟩
    refine condK_intro (fun h8 => ?_) (fun h8 => ?_)
    · have k12 : ∀ (s : St) (d n : Nat) (x : AV), tokOK s k2 = true → tokOK (s.ntok d n x (tokKey k1)) k2 = true := fun s d n x h => tk_kill i1 i2 rfl h
      have q2 : ∀ (f : Key → Bool) (g : Nat), killO f (tokKey k2) (43, g, 0) = f (43, g, 0) := fun f g => kill_tk i2 rfl f
      simp (dsimp := false) (maxDischargeDepth := 16) only [go_sem, ↓reduceIte, reduceCtorEq, Nat.reduceEqDiff, Nat.reduceAdd, Nat.reduceMul, Nat.reduceSub, Nat.reduceLT, Nat.reduceLeDiff, Nat.reducePow, Int.reduceLT, Int.reduceLE, Int.reduceNeg, Int.reduceToNat, t1, t2, b2, t4, b4, t5, b5, t6, t7, t8, t18, t19, t20, b7, b8, b16, h6, h8, idx_nat, idx_sl, hp', a1, a2, k12, bi_set1, hzl, List.length_set, bi_len, selN_len]
      refine ⟨by omega, ⟨by omega, by omega⟩, ⟨by omega, by omega⟩, i + 1, by omega, by omega, ⟨_, _, rfl⟩, ⟨_, _, rfl⟩, by rw [wrapN _ (by omega)], .own (43, s.g 43, 0), .own (48, s.g 48, 0), _, by rw [sel_yes h8, List.map_append, List.map_singleton, map1_app, getD_at h6], by rw [selN_yes h8, map1_app], rfl, by simpa using hz, fun j hj => ?_, ?_, ?_, rfl, rfl⟩
      · rw [List.set_set, set_at hzl]
        split
        · rename_i e
          rw [e, atv, if_pos h8]
        · exact hall j (by omega)
      all_goals simp (dsimp := false) (maxDischargeDepth := 16) only [go_sem, ↓reduceIte, reduceCtorEq, Nat.reduceEqDiff, Nat.reduceAdd, Nat.reduceMul, Nat.reduceSub, Nat.reduceLT, Nat.reduceLeDiff, Nat.reducePow, Int.reduceLT, Int.reduceLE, Int.reduceNeg, Int.reduceToNat, a1, a2, k12, q2]
    · simp (dsimp := false) (maxDischargeDepth := 16) only [go_sem, ↓reduceIte, reduceCtorEq, Nat.reduceEqDiff, Nat.reduceAdd, Nat.reduceMul, Nat.reduceSub, Nat.reduceLT, Nat.reduceLeDiff, Nat.reducePow, Int.reduceLT, Int.reduceLE, Int.reduceNeg, Int.reduceToNat, t1, t2, b2, t4, b4, t5, b5, t6, t7, t8, t18, t19, t20, b7, b8, b16, h6, h8, idx_nat, idx_sl, hp', a1, a2, bi_set1, hzl, List.length_set, bi_len, selN_len]
      refine ⟨i + 1, by omega, by omega, ⟨_, _, rfl⟩, ⟨_, _, rfl⟩, by rw [wrapN _ (by omega)], k1, k2, _, by rw [sel_no h8], by rw [selN_no h8], rfl, by simpa using hz, fun j hj => ?_, a1, a2, i1, i2⟩
      rw [set_at hzl]
      split
      · rename_i e
        rw [e, atv, if_neg (by rw [h8]; decide)]
      · exact hall j (by omega)
  · simp (dsimp := false) (maxDischargeDepth := 16) only [go_sem, ↓reduceIte, reduceCtorEq, Nat.reduceEqDiff, Nat.reduceAdd, Nat.reduceMul, Nat.reduceSub, Nat.reduceLT, Nat.reduceLeDiff, Nat.reducePow, Int.reduceLT, Int.reduceLE, Int.reduceNeg, Int.reduceToNat, t1, t2, b2, t4, b4, t5, b5, t6, t7, t8, t18, t19, t20, b7, b8, b16, h6]
    have hin : i = g.n.length := by omega
    rw [hin] at hall b7 b8
    unfold chR
    have hN : ((sel p g.n.length).map fun j => g.n.getD j 0).length ≤ 40 := by have := hsl p g.n.length; simp; omega
    generalize (sel p g.n.length).map (fun j => g.n.getD j 0) = N at *
    generalize selN p g.n.length = M at *
    refine loopK_intro (fun (i : Nat) s => i ≤ g.e.length ∧ s.t 1 = u16 w ∧ s.t 4 = .box (4, 0, 0) 0 ∧ s.b (4, 0, 0) = some ⟨[z1, z2], false⟩ ∧ s.t 5 = .box (5, 0, 0) 0 ∧ s.b (5, 0, 0) = some ⟨[y1, y2], false⟩ ∧
      s.t 6 = .sl (16, 0, 0) g.n.length 1 ∧ s.t 7 = .box (7, 0, 0) 0 ∧ s.t 8 = .box (8, 0, 0) 0 ∧ s.t 53 = elv g.e ∧ s.t 54 = iv g.e.length ∧ s.t 55 = iv i ∧ s.b (16, 0, 0) = some ⟨bi zs, false⟩ ∧
      ∃ k3 k4, s.b (7, 0, 0) = some ⟨[lvT N k1, elT' ((sel (eok g p q) i).map (eat g p)) k3], false⟩ ∧ s.b (8, 0, 0) = some ⟨[lvT M k2, lvT (selN (eok g p q) i) k4], false⟩ ∧
        tokOK s k3 = true ∧ tokOK s k4 = true ∧ tkIn [(98, 0)] k3 = true ∧ tkIn [(103, 0)] k4 = true) (fun i => g.e.length - i) ?_ ?_
    · exact ⟨0, by omega, t1, t4, b4, t5, b5, t6, t7, t8, rfl, rfl, rfl, b16, .nil, .nil, b7, b8, rfl, rfl, rfl, rfl⟩
    clear t1 t2 b2 t4 b4 t5 b5 t6 t7 t8 t18 t19 t20 b7 b8 b16 a1 a2 i1 i2 h6 hi hin
    rintro i s ⟨hi, t1, t4, b4, t5, b5, t6, t7, t8, t53, t54, t55, b16, k3, k4, b7, b8, a3, a4, i3, i4⟩
    simp (dsimp := false) (maxDischargeDepth := 16) only [go_sem, ↓reduceIte, reduceCtorEq, Nat.reduceEqDiff, Nat.reduceAdd, Nat.reduceMul, Nat.reduceSub, Nat.reduceLT, Nat.reduceLeDiff, Nat.reducePow, Int.reduceLT, Int.reduceLE, Int.reduceNeg, Int.reduceToNat, t1, t4, b4, t5, b5, t6, t7, t8, t53, t54, t55, b16, b7, b8]
    refine condK_dec (fun h6 => ?_) (fun h6 => ?_)
    · have hx := edge_in hg h6
      rw [getD_at h6] at hx
      have w8 : IntKind.i64.wrap ((8 : Int) + (i : Int)) = ((8 + i : Nat) : Int) := by rw [wrap_i64 _ (by omega) (by omega)]; omega
      have f1 : g.e[i].2.1.toNat < g.n.length := by omega
      have f2 : g.e[i].2.2.toNat < g.n.length := by omega
      have f3 := hx.1
      have f4 := hx.2.2.1
      have g1 := bi_head (zs := zs) (k := g.e[i].2.1.toNat) (by omega) (hall _ f1)
      have g2 := bi_head (zs := zs) (k := g.e[i].2.2.toNat) (by omega) (hall _ f2)
      have c1 : g.e[i].2.1.toNat * 1 < (bi zs).length := by rw [bi_len]; omega
      have c2 : g.e[i].2.2.toNat * 1 < (bi zs).length := by rw [bi_len]; omega
      have le := hsl (eok g p q) i
      have eo : eok g p q i = (q i && (decide (0 ≤ atv p g.e[i].2.1.toNat) && decide (0 ≤ atv p g.e[i].2.2.toNat))) := by rw [eok, getD_at h6]
      have ea : eat g p i = (g.e[i].1, atv p g.e[i].2.1.toNat, atv p g.e[i].2.2.toNat) := by rw [eat, getD_at h6]
      simp (dsimp := false) (maxDischargeDepth := 16) only [go_sem, ↓reduceIte, reduceCtorEq, Nat.reduceEqDiff, Nat.reduceAdd, Nat.reduceMul, Nat.reduceSub, Nat.reduceLT, Nat.reduceLeDiff, Nat.reducePow, Int.reduceLT, Int.reduceLE, Int.reduceNeg, Int.reduceToNat, t1, t4, b4, t5, b5, t6, t7, t8, t53, t54, t55, b16, b7, b8, h6, idx_nat, idx_slI, f1, f2, f3, f4, w8, hq', g1, g2]
      cases h8 : q i with
      | false =>
        have en : eok g p q i = false := by rw [eo, h8]; rfl
        simp (dsimp := false) (maxDischargeDepth := 16) only [go_sem, ↓reduceIte, reduceCtorEq, Nat.reduceEqDiff, Nat.reduceAdd, Nat.reduceMul, Nat.reduceSub, Nat.reduceLT, Nat.reduceLeDiff, Nat.reducePow, Int.reduceLT, Int.reduceLE, Int.reduceNeg, Int.reduceToNat, t1, t4, b4, t5, b5, t6, t7, t8, t53, t54, t55, b16, b7, b8, h6, idx_nat, idx_slI, f1, f2, f3, f4, w8, hq', g1, g2, h8]
        refine ⟨i + 1, by omega, by omega, by rw [wrapN _ (by omega)], k3, k4, by rw [sel_no en], by rw [selN_no en], a3, a4, i3, i4⟩
      | true =>
        simp (dsimp := false) (maxDischargeDepth := 16) only [go_sem, ↓reduceIte, reduceCtorEq, Nat.reduceEqDiff, Nat.reduceAdd, Nat.reduceMul, Nat.reduceSub, Nat.reduceLT, Nat.reduceLeDiff, Nat.reducePow, Int.reduceLT, Int.reduceLE, Int.reduceNeg, Int.reduceToNat, t1, t4, b4, t5, b5, t6, t7, t8, t53, t54, t55, b16, b7, b8, h6, idx_nat, idx_slI, f1, f2, f3, f4, w8, hq', g1, g2, h8]
        refine ⟨c1, ?_⟩
        by_cases h9 : 0 ≤ atv p g.e[i].2.1.toNat
        · simp (dsimp := false) (maxDischargeDepth := 16) only [go_sem, ↓reduceIte, reduceCtorEq, Nat.reduceEqDiff, Nat.reduceAdd, Nat.reduceMul, Nat.reduceSub, Nat.reduceLT, Nat.reduceLeDiff, Nat.reducePow, Int.reduceLT, Int.reduceLE, Int.reduceNeg, Int.reduceToNat, t1, t4, b4, t5, b5, t6, t7, t8, t53, t54, t55, b16, b7, b8, h6, idx_nat, idx_slI, f1, f2, f3, f4, w8, hq', g1, g2, h8, h9]
          refine ⟨c2, ?_⟩
          by_cases h10 : 0 ≤ atv p g.e[i].2.2.toNat
          · have en : eok g p q i = true := by rw [eo, h8]; simp [h9, h10]
            have k34 : ∀ (s : St) (d n : Nat) (x : AV), tokOK s k4 = true → tokOK (s.ntok d n x (tokKey k3)) k4 = true := fun s d n x h => tk_kill i3 i4 rfl h
            have q2 : ∀ (f : Key → Bool) (g : Nat), killO f (tokKey k4) (98, g, 0) = f (98, g, 0) := fun f g => kill_tk i4 rfl f
            simp (dsimp := false) (maxDischargeDepth := 16) only [go_sem, ↓reduceIte, reduceCtorEq, Nat.reduceEqDiff, Nat.reduceAdd, Nat.reduceMul, Nat.reduceSub, Nat.reduceLT, Nat.reduceLeDiff, Nat.reducePow, Int.reduceLT, Int.reduceLE, Int.reduceNeg, Int.reduceToNat, t1, t4, b4, t5, b5, t6, t7, t8, t53, t54, t55, b16, b7, b8, h6, idx_nat, idx_slI, f1, f2, f3, f4, w8, hq', g1, g2, h8, h9, h10, c1, c2, a3, a4, k34, selN_len]
            refine ⟨⟨by omega, by omega⟩, ⟨by omega, by omega⟩, i + 1, by omega, by omega, by rw [wrapN _ (by omega)], .own (98, s.g 98, 0), .own (103, s.g 103, 0), ?_, by rw [selN_yes en, map1_app], ?_, ?_, rfl, rfl⟩
            · rw [sel_yes en, List.map_append, List.map_append, List.map_singleton, List.map_singleton, ea]
              rfl
            all_goals simp (dsimp := false) (maxDischargeDepth := 16) only [go_sem, ↓reduceIte, reduceCtorEq, Nat.reduceEqDiff, Nat.reduceAdd, Nat.reduceMul, Nat.reduceSub, Nat.reduceLT, Nat.reduceLeDiff, Nat.reducePow, Int.reduceLT, Int.reduceLE, Int.reduceNeg, Int.reduceToNat, a3, a4, k34, q2]
          · have en : eok g p q i = false := by rw [eo, h8]; simp [h10]
            simp (dsimp := false) (maxDischargeDepth := 16) only [go_sem, ↓reduceIte, reduceCtorEq, Nat.reduceEqDiff, Nat.reduceAdd, Nat.reduceMul, Nat.reduceSub, Nat.reduceLT, Nat.reduceLeDiff, Nat.reducePow, Int.reduceLT, Int.reduceLE, Int.reduceNeg, Int.reduceToNat, t1, t4, b4, t5, b5, t6, t7, t8, t53, t54, t55, b16, b7, b8, h6, idx_nat, idx_slI, f1, f2, f3, f4, w8, hq', g1, g2, h8, h9, h10]
            refine ⟨i + 1, by omega, by omega, by rw [wrapN _ (by omega)], k3, k4, by rw [sel_no en], by rw [selN_no en], a3, a4, i3, i4⟩
        · have en : eok g p q i = false := by rw [eo, h8]; simp [h9]
          simp (dsimp := false) (maxDischargeDepth := 16) only [go_sem, ↓reduceIte, reduceCtorEq, Nat.reduceEqDiff, Nat.reduceAdd, Nat.reduceMul, Nat.reduceSub, Nat.reduceLT, Nat.reduceLeDiff, Nat.reducePow, Int.reduceLT, Int.reduceLE, Int.reduceNeg, Int.reduceToNat, t1, t4, b4, t5, b5, t6, t7, t8, t53, t54, t55, b16, b7, b8, h6, idx_nat, idx_slI, f1, f2, f3, f4, w8, hq', g1, g2, h8, h9]
          refine ⟨i + 1, by omega, by omega, by rw [wrapN _ (by omega)], k3, k4, by rw [sel_no en], by rw [selN_no en], a3, a4, i3, i4⟩
    · simp (dsimp := false) (maxDischargeDepth := 16) only [go_sem, ↓reduceIte, reduceCtorEq, Nat.reduceEqDiff, Nat.reduceAdd, Nat.reduceMul, Nat.reduceSub, Nat.reduceLT, Nat.reduceLeDiff, Nat.reducePow, Int.reduceLT, Int.reduceLE, Int.reduceNeg, Int.reduceToNat, t1, t4, b4, t5, b5, t6, t7, t8, t53, t54, t55, b16, b7, b8, h6]
      have hin : i = g.e.length := by omega
      rw [hin]
      exact ⟨rfl, finK ⟨rfl, rfl⟩⟩
end Go.Sy

/- Types of arguments: numbers of bits; lists of bytes. -/
namespace Go.Sy
open Go Go.Proofs Go.RowKit Go.Proofs.Ytkhheblmgbiniaa Go.WideShapes Go.ChangeShapes
variable {H : Type} {enc : TypeId × Value → H} {W : World} {sp : Nat → Bool} {held : Bool}

set_option maxRecDepth 20000 in
theorem open_one {β : Type} {f : β → AV} {t : TypeId} {v : Value} {d : DataW H} {p : List MemPlace} (hc : v.cells = #[v]) (ho : Opens Try.prog t (fun x => ∃ b, x = [f b])) (h : DataW.Trod enc Try.prog W 0 sp held t v d p) : ∃ b, RV (cmap W) noρ noτ v (f b) := by
  obtain ⟨fuel, h⟩ := h
  obtain ⟨x, ⟨b, rfl⟩, q2, q3, q4, q5⟩ := ho.get enc W sp held fuel _ _ h
  exact ⟨b, q5 0 v (f b) (by rw [hc]; rfl) rfl⟩
set_option maxRecDepth 20000 in
theorem open_i {β : Type} {f : β → AV} {t : TypeId} {k : IntKind} {base : Nat} {v : Value} {d : DataW H} {p : List MemPlace} (hu : Try.prog.underlying t = some (.int k)) (ho : Opens Try.prog t (fun x => ∃ b, x = [f b])) (hval : Value.okWide Try.prog W .any base t v)
    (h : DataW.Trod enc Try.prog W 0 sp held t v d p) : ∃ b, RV (cmap W) noρ noτ v (f b) := by
  obtain ⟨n, rfl⟩ := okWide_int hu hval
  exact open_one rfl ho h
set_option maxRecDepth 20000 in
theorem open_s {β : Type} {f : β → AV} {t e : TypeId} {base : Nat} {v : Value} {d : DataW H} {p : List MemPlace} (hu : Try.prog.underlying t = some (.slice e)) (ho : Opens Try.prog t (fun x => ∃ b, x = [f b])) (hval : Value.okWide Try.prog W .any base t v)
    (h : DataW.Trod enc Try.prog W 0 sp held t v d p) : ∃ b, RV (cmap W) noρ noτ v (f b) := by
  obtain ⟨a, n, c, rfl⟩ := okWide_slice hu hval
  exact open_one rfl ho h
theorem opensU16 : Opens Try.prog 79 (fun x => ∃ n : Int, x = [u16 n]) := (opens_int (k := .u16) (by kernel_rfl) (by kernel_rfl)).mono fun x ⟨n, _, h⟩ => ⟨n, h⟩
structure BytesP where
  l : List Int
  ok : ∀ n ∈ l, byte n
def byv (l : List Int) : AV := .list 1 (l.map fun n => [u8 n]) .no
theorem opensBy : Opens Try.prog 47 (fun x => ∃ b : BytesP, x = [byv b.l]) := opensBytes.mono fun x ⟨l, h, hx⟩ => ⟨⟨l, h⟩, hx⟩
end Go.Sy

/- What every row asks of the program alone, and how a row's closed facts are put together. -/
namespace Go.Proofs.Ytkhheblmgbiniaa
open Go.Sy Go.ChangeShapes Go.WideShapes Go.ChangeAt Go.RowKit
theorem Try.own : ownKnob Try.prog.godebug = none := by kernel_rfl
theorem Try.laidOut : laidOutB Try.prog = true := by kernel_rfl
theorem Try.mapsRowed : mapsRowed Try.prog = true := by kernel_rfl
theorem Try.heard : Try.prog.stopsHeard = true := by kernel_rfl
theorem Try.may : Try.prog.mayEnter = true := by kernel_rfl
theorem and_mk {a b : Bool} (h1 : a = true) (h2 : b = true) : (a && b) = true := by rw [h1, h2]; rfl
set_option maxRecDepth 20000 in
/-- The closed facts of a row, each by itself. -/
theorem joined_mk {f : FuncId} {fn : Func} {s : ChangeSpec} {c : OpenClaim} (k1 : c.wf (OpenSpec.ofChange s) = true) (k5 : namedTie Try.prog c.named s.vars = true)
    (k10 : (c.inPlace == Try.prog.inPlace f) = true) (k11 : (c.unfollowed == Try.prog.unfollowed f) = true) (k12 : (c.recurses == Try.prog.recurses f) = true) (k13 : (c.named == Try.prog.varsNamed f) = true)
    (k23 : (c.plainKeys == Try.prog.plainKeys) = true) (k31 : (c.veiled == (fn.params.toList ++ s.plain.varTypes Try.prog ++ fn.resultTypes.toList).any (Try.prog.veiledRec ·)) = true)
    (k32 : c.veiledFits Try.prog fn.params.toList (fn.params.toList ++ s.plain.varTypes Try.prog ++ fn.resultTypes.toList) = true)
    (k4 : (fn.params.all (Try.prog.readableRec ·)) = true) (k69 : ((c.stops == []) && (Try.prog.stops == []) && (c.knobs == []) && (Try.prog.stopKnobs == [])) = true)
    (k14 : (c.maps == (fn.params.toList ++ s.plain.varTypes Try.prog).any (Try.prog.mapsRec ·)) = true) (k15 : (c.ifaces == (fn.params.toList ++ s.plain.varTypes Try.prog).any (Try.prog.ifacesRec ·)) = true)
    (k16 : (c.mapsOut == Try.prog.mapsAmong fn.resultTypes.toList) = true) (k17 : (c.loops == (fn.params.toList ++ s.plain.varTypes Try.prog).any (Try.prog.loopsFrom ·)) = true)
    (k18 : (c.wideKeys == (fn.params.toList ++ s.plain.varTypes Try.prog ++ fn.resultTypes.toList).any (Try.prog.wideKeysFrom ·)) = true) (k19 : (s.vars.all (Try.prog.varReadable ·)) = true)
    (k20 : (fn.resultTypes.all (fun t => Try.prog.readableRec t && decide (t < Try.prog.types.size))) = true) (k21 : (c.ifacesOut == fn.resultTypes.toList.any (Try.prog.ifacesRec ·)) = true) (k22 : (c.loopsOut == fn.resultTypes.toList.any (Try.prog.loopsFrom ·)) = true)
    (k24 : c.shortTexts.isNone = true) (k27 : (c.lifted == Try.prog.liftsFinal) = true) (k28 : (Try.prog.make == some c.make) = true)
    (k29 : (c.kinds == (if c.domain.isEmpty then [] else fn.params.toList.map fun t => match Try.prog.underlying t with | some (.int k) => some k | _ => none)) = true) (k30 : (c.pinned == c.pinnedBy) = true) :
    joinedFacts Try.prog f fn s c = true := by
  simp only [Bool.and_eq_true] at k69
  unfold joinedFacts
  exact and_mk (and_mk (and_mk (and_mk (and_mk (and_mk (and_mk (and_mk (and_mk (and_mk (and_mk (and_mk (and_mk (and_mk (and_mk (and_mk (and_mk (and_mk (and_mk (and_mk (and_mk (and_mk (and_mk (and_mk (and_mk (and_mk (and_mk (and_mk (and_mk (and_mk (and_mk k1 Try.laidOut) Try.mapsRowed) k4) k5) k69.1.1.1) k69.1.1.2) k69.1.2) k69.2) k10) k11) k12) k13) k14) k15) k16) k17) k18) k19) k20) k21) k22) k23) k24) Try.heard) Try.may) k27) k28) k29) k30) k31) k32
end Go.Proofs.Ytkhheblmgbiniaa

/- A list's different numbers, ascending, as the program lists them: an iterator over the list, collected, sorted and compacted. -/
namespace Go.Sy
open Go Go.RowKit Go.Sort Go.Proofs Go.Shelf

attribute [local go_sem] Oper.semAt_some

def upto {α : Type} (f : Nat → α) (k : Nat) : List α := (List.range k).map f
theorem upto_succ {α : Type} (f : Nat → α) (k : Nat) : upto f (k + 1) = upto f k ++ [f k] := by simp [upto, List.range_succ]
theorem upto_length {α : Type} (f : Nat → α) (k : Nat) : (upto f k).length = k := by simp [upto]
theorem upto_all (zs : List Int) : upto (fun j => zs[j]?.getD 0) zs.length = zs := by
  apply List.ext_getElem
  · simp [upto]
  · intro i h1 h2
    simp [upto, h2]
theorem upto_take (zs : List Int) {k : Nat} (hk : k ≤ zs.length) : upto (fun j => zs[j]?.getD 0) k = zs.take k := by
  apply List.ext_getElem
  · simp [upto, hk]
  · intro i h1 h2
    have : i < zs.length := by simp [upto] at h1; omega
    simp [upto, this]

set_option maxRecDepth 100000 in
set_option maxHeartbeats 2000000 in
/-- The iterator over a list, for every loop body that keeps what lay below n₀. -/
theorem vals1_in (F : Fence) (n : Nat) (h7 : F.fn 156) (hro : F.round = none) (hn : 1 ≤ n) (l Bs n₀ b off len cap : Nat) (zs : List Int) (hreach : len * 8 ≤ 140737488351232) (hb : b < n₀) (J Jx : List Int → World → Prop)
    (hY : ∀ pre x W, J pre W → pre.length < len → YieldAt F (n - 1) Try.prog l #[.int .i64 x] W fun e W' =>
      (e = .returned (.bool true) ∧ J (pre ++ [x]) W' ∧ Below n₀ W W') ∨ (e = .returned (.bool false) ∧ Jx (pre ++ [x]) W'))
    (W : World) (hBs : W.cell? ⟨Bs, 0, none⟩ = some (.slice (some ⟨b, off, none⟩) len cap)) (hc : ∀ j, j < len → W.cell? ⟨b, off + j, none⟩ = some (.int .i64 (zs[j]?.getD 0))) (h0 : J [] W) :
    CallsIn F n Try.prog 156 #[.func (.yield l) #[] #[], .pointer (some ⟨Bs, 0, none⟩)] W fun e W' => (∃ v, e = .returned v) ∧
      ((∃ ys, ys = upto (fun j => zs[j]?.getD 0) len ∧ J ys W') ∨ (∃ pre, (∃ k, k ≤ len ∧ pre = upto (fun j => zs[j]?.getD 0) k) ∧ Jx pre W')) := by
  refine callsIn_of_wp Try.func156 rfl h7 ?_ hro
  simp only [Try.ntmps156, List.size_toArray, List.length_cons, List.length_nil, Nat.reduceAdd, Nat.reduceSub, Array.replicate_succ, Array.replicate_zero, List.push_toArray, List.append_toArray, List.nil_append, List.cons_append]
  gi_wp2
  gi_loopw [7] (fun i wr => ∃ k : Nat, k ≤ len ∧ i = .int .i64 k ∧ J (upto (fun j => zs[j]?.getD 0) k) wr ∧ Below n₀ W wr)
    (fun i _ => len - (RowKit.intOf i).toNat)
  case atStart => exact ⟨0, Nat.zero_le _, rfl, h0, Below.refl _ _⟩
  case round =>
    obtain ⟨k, hk, rfl, hJs, hnx⟩ := hrel
    have hcx : k < len → wr.cell? ⟨b, off + k, none⟩ = some (.int .i64 (zs[k]?.getD 0)) := fun h => (hnx.cell (p := ⟨b, off + k, none⟩) hb).trans (hc k h)
    by_cases hlt : k < len
    · obtain ⟨fn, tmps, assign, body, hy, hR⟩ := hY _ (zs[k]?.getD 0) wr hJs (by rw [upto_length]; exact hlt)
      have hcx' := hcx hlt
      gi_wp2
      refine hR.mono ?_
      rintro e W3 (⟨rfl, hJ3, hk3⟩ | ⟨rfl, hJx3⟩)
      · gi_wp2
        go_roundw
        case rel => exact ⟨k + 1, by omega, by simp, by rw [upto_succ]; exact hJ3, hnx.trans hk3⟩
        case measure => simp [RowKit.intOf]; omega
      · gi_wp2
        refine bodyPost_ret (results_none rfl _ _ _) rfl ?_
        exact ⟨⟨_, rfl⟩, .inr ⟨_, ⟨k + 1, by omega, (upto_succ _ _).symm⟩, hJx3⟩⟩
    · obtain rfl : k = len := by omega
      gi_wp2
      go_end0
      exact ⟨⟨_, rfl⟩, .inl ⟨_, rfl, hJs⟩⟩
set_option maxRecDepth 100000 in
set_option maxHeartbeats 1000000 in
theorem vals1_nil_in (F : Fence) (n : Nat) (h7 : F.fn 156) (hro : F.round = none) (l Bs : Nat) (a : Option Addr) (c : Nat) (J : List Int → World → Prop) (W : World) (hBs : W.cell? ⟨Bs, 0, none⟩ = some (.slice a 0 c)) (h0 : J [] W) :
    CallsIn F n Try.prog 156 #[.func (.yield l) #[] #[], .pointer (some ⟨Bs, 0, none⟩)] W fun e W' => (∃ v, e = .returned v) ∧ J [] W' := by
  refine callsIn_of_wp Try.func156 rfl h7 ?_ hro
  simp only [Try.ntmps156, List.size_toArray, List.length_cons, List.length_nil, Nat.reduceAdd, Nat.reduceSub, Array.replicate_succ, Array.replicate_zero, List.push_toArray, List.append_toArray, List.nil_append, List.cons_append]
  gi_wp2
  gi_loopw [7] (fun i wr => i = .int .i64 0 ∧ J [] wr) (fun _ _ => 0)
  case atStart => exact ⟨rfl, h0⟩
  case round =>
    obtain ⟨rfl, hJs⟩ := hrel
    gi_wp2
    go_end0
    exact ⟨⟨_, rfl⟩, hJs⟩
/-- The slice value sv holds the ints zs, in a block below n₀; or there are none. -/
def IntsAt (n₀ : Nat) (W : World) (sv : Value) (zs : List Int) : Prop :=
  (∃ a c, sv = .slice a 0 c ∧ zs = []) ∨ ∃ b off cap, sv = .slice (some ⟨b, off, none⟩) zs.length cap ∧ b < n₀ ∧ ∀ j, j < zs.length → W.cell? ⟨b, off + j, none⟩ = some (.int .i64 (zs[j]?.getD 0))
theorem IntsAt.below {n₀ : Nat} {A B : World} (h : Below n₀ A B) {sv : Value} {zs : List Int} : IntsAt n₀ A sv zs → IntsAt n₀ B sv zs
  | .inl e => .inl e
  | .inr ⟨b, off, cap, e, hb, hc⟩ => .inr ⟨b, off, cap, e, hb, fun j hj => (h.cell (p := ⟨b, off + j, none⟩) hb).trans (hc j hj)⟩
set_option maxHeartbeats 1000000 in
theorem vals_at (a : Option Addr) (len cap : Nat) (w : World) :
    Calls Try.prog 140 #[.slice a len cap] w fun e w' => e = .returned (.func (.func 156) #[] #[.pointer (some ⟨w.heap.size, 0, none⟩)]) ∧ w' = w.alloc (.cells #[.slice a len cap] 22) := by
  go_enter Try.func140, Try.ntmps140
  go_wp2
  go_ret
  exact ⟨rfl, rfl⟩
theorem vals_stops (F : Fence) (n : Nat) (h7 : F.fn 156) (hro : F.round = none) (hn : 1 ≤ n) (Bs n₀ : Nat) (sv : Value) (zs : List Int) (hreach : zs.length * 8 ≤ 140737488351232) (w : World) (hBs : Bs < w.heap.size) (hn₀ : n₀ ≤ w.heap.size)
    (hc : w.cell? ⟨Bs, 0, none⟩ = some sv) (hI : IntsAt n₀ w sv zs) :
    SeqStopsK F n Try.prog 156 #[.pointer (some ⟨Bs, 0, none⟩)] (fun x : Int => #[Value.int .i64 x]) (Below n₀) (fun ys => ys = zs) (fun pre => pre <+: zs) zs.length w := fun l J Jx W hW _ _ hY h0 => by
  have hc' := (hW.cell (p := ⟨Bs, 0, none⟩) hBs).trans hc
  rcases hI.below (hW.mono hn₀) with ⟨a, c, rfl, rfl⟩ | ⟨b, off, cap, rfl, hb, hcs⟩
  · exact (vals1_nil_in F n h7 hro l Bs a c J W hc' h0).mono fun e W' ⟨he, hj⟩ => ⟨he, .inl ⟨_, rfl, hj⟩⟩
  · refine (vals1_in F n h7 hro hn l Bs n₀ b off zs.length cap zs hreach hb J Jx hY W hc' hcs h0).mono ?_
    rintro e W' ⟨he, ⟨ys, rfl, hj⟩ | ⟨pre, ⟨k, hk, rfl⟩, hj⟩⟩
    · exact ⟨he, .inl ⟨_, upto_all zs, hj⟩⟩
    · exact ⟨he, .inr ⟨_, by rw [upto_take zs hk]; exact List.take_prefix _ _, hj⟩⟩
theorem info3 : (Try.prog.info? 3).map (fun i => (i.zero, i.size, i.bytes)) = some (some (.int .i64 0), 1, 8) := by kernel_rfl
set_option maxRecDepth 100000 in
set_option maxHeartbeats 2000000 in
/-- What the iterator gives, appended to nothing. -/
theorem appSeq_in (F : Fence) (n : Nat) (h3 : F.fn 166) (h5 : F.fn 156) (hro : F.round = none) (hn : 3 ≤ n) (Bs : Nat) (sv : Value) (zs : List Int) (hz : zs.length ≤ 1000000) (w : World) (hBs : w.cell? ⟨Bs, 0, none⟩ = some sv) (hI : IntsAt w.heap.size w sv zs) :
    CallsIn F n Try.prog 166 #[.slice none 0 0, .func (.func 156) #[] #[.pointer (some ⟨Bs, 0, none⟩)]] w fun e W' => ∃ v, e = .returned v ∧ W'.ownsRow w.heap.size 3 1 v zs.length (zs.map (Value.int .i64)) ∧ (v = .slice none 0 0 ↔ zs = []) ∧ Below w.heap.size w W' := by
  have h1 : 1 ≤ n := by omega
  have hm : (1000000 : Nat) ≤ maxLen := by decide
  obtain ⟨i0, hi, hz0, hz1, hz2⟩ := info_parts info3
  have hbs := cell_lt hBs
  refine callsIn_of_wp_marks Try.func166 rfl h3 ?_ hro
  simp only [Try.ntmps166, List.size_toArray, List.length_cons, List.length_nil, Nat.reduceAdd, Nat.reduceSub, Array.replicate_succ, Array.replicate_zero, List.push_toArray, List.append_toArray, List.nil_append, List.cons_append]
  gi_wp2
  have bO := Boxed.new w 22 (.slice none 0 0)
  have hB0 : Below w.heap.size w (w.alloc (.cells #[.slice none 0 0] 22)) := (Below.refl _ w).alloc (Nat.le_refl _) _
  refine wpIn_rangeFunc_ownG hro h1 (gf := 156) (lb := #[.pointer (some ⟨Bs, 0, none⟩)]) rfl h5 (enters_of Try.func156 (by kernel_rfl) rfl)
    (vals_stops F (n - 1) h5 hro (by omega) Bs w.heap.size sv zs (by omega) _ (by simp; omega) (by simp) ((hB0.cell (p := ⟨Bs, 0, none⟩) hbs).trans hBs) (hI.below hB0)) belowK_t (belowK_b (by simp)) (Below.refl _ _) (fun _ => rfl)
    (fun pre W => (∃ v, Boxed W w.heap.size 22 v ∧ W.ownsRow w.heap.size 3 1 v pre.length (pre.map (Value.int .i64)) ∧ (v = .slice none 0 0 ↔ pre = [])) ∧ Below w.heap.size w W)
    (fun _ _ _ => False)
    (OwnFrom.and (Own.from (holdsRow_own w.heap.size w.heap.size 22 3 1 (fun pre => pre.length) (fun pre => pre.map (Value.int .i64)) (fun pre v => v = .slice none 0 0 ↔ pre = [])) _) (ownFrom_below (Nat.le_refl _) (by simp)))
    (fun _ _ _ _ _ hs _ _ => hs)
    ⟨⟨_, bO, World.ownsRow_nil _ _ _ _, by simp⟩, hB0⟩
    (fun x => { tmps := #[.slice none 0 0, .func (.func 156) #[] #[.pointer (some ⟨Bs, 0, none⟩)], .pointer (some ⟨w.heap.size, 0, none⟩), undef, .slice none 0 0, .int .i64 x, .func (.func 156) #[] #[.pointer (some ⟨Bs, 0, none⟩)], .int .i64 x, undef, undef, undef, undef, undef], defers := [] }) ?assign ?body ?done ?stop
  case assign =>
    intro l x W K hK
    gi_wp2
    exact hK
  case body =>
    rintro l pre x W ⟨⟨v, hv, hrow, hnil⟩, hB⟩ hlt
    have hc := hv.cell
    gi_wp2_with (gi_at_builtin; refine wpListIn_append_own _ rfl _ _ 22 rfl w.heap.size 3 i0 (.int .i64 0) 1 8 Try.underlying22 hi hz0 hz1 hz2 rfl (by decide) _ _ _ rfl (hrow.alloc _) ⟨W.heap.size, 0, none⟩ 1 1 [.int .i64 x] rfl rfl (cell_one_new _ _ _) (by simp [Value.oneCell']) (by omega) (by omega) (by have := hB.size; simp; omega) ?_; intro v' w1 hown' hgrow _; obtain ⟨g', cap', rfl⟩ := ownsRow_succ hown'; obtain ⟨hv1, hv2, hr2, hk2, hb2⟩ := hv.appended (by decide) hrow hB.size (Nat.le_refl _) hown' hgrow; have hc1 := hv1.cell; have hf1 := hv1.frozen)
    exact ⟨hk2.from _, hb2, ⟨_, hv2, by simpa using hr2, by simp⟩, hB.trans hb2⟩
  case done =>
    rintro D ys W hD rfl ⟨⟨v, hv, hrow, hnil⟩, hB⟩ hK
    have hc := hv.cell
    gi_wp2
    refine ⟨by simp, .inl ⟨_, _, rfl, run_takeDeferred hK, ?_⟩⟩
    exact ⟨_, results_tmp rfl _ _ _, v, rfl, ownsRow_putObj hrow _ hK rfl, hnil, hB.trans (belowK_b (w := w) (Nat.le_refl _) W D _ _ (by simp at hD; omega) hK rfl rfl)⟩
  case stop =>
    rintro D c pre W _ _ h _
    exact h.elim
/-- What a call leaves that hands back a list of its own. -/
theorem ret_list {C : CMap} {w w' : World} {v : Value} {zs : List Int} (hC : CW C w) (hb : Below w.heap.size w w') (ho : w'.ownsRow w.heap.size 3 1 v zs.length (zs.map (Value.int .i64))) :
    ∃ v' C' τ', Ending.returned v = .returned v' ∧ Below w.heap.size w w' ∧ (∀ b o v, C b o = some v → C' b o = some v) ∧ (∀ b o v, C' b o = some v → C b o = some v ∨ w.heap.size ≤ b) ∧ CW C' w' ∧ RV C' noρ τ' v' (lv zs) ∧ Toks C' w' τ' 0 w.heap.size := by
  have hC' := cw_below hC hb
  rcases ho.2 with ⟨rfl, hn⟩ | ⟨g, cap, cur, rfl, hbase, hg, r1, r2, r3, r4⟩
  · have hz : zs = [] := List.eq_nil_of_length_eq_zero hn
    subst hz
    exact ⟨_, C, noτ, rfl, hb, fun _ _ _ h => h, fun _ _ _ h => .inl h, hC', .list 1 [] .no none 0 0 (fun _ _ => default) rfl (Nat.le_refl _) (by decide) (fun i x h => by simp at h) (fun i x j a h => by simp at h) trivial,
      ⟨fun _ _ h => (by cases h), fun _ _ _ h => (by cases h), fun _ _ _ _ _ _ _ h => (by cases h)⟩⟩
  · have hnew : ∀ o, C g o = none := fun o => by
      cases h : C g o with
      | none => rfl
      | some u => have := cell_lt (hC g o u h).1; omega
    have hcell : ∀ j, j < zs.length → w'.cell? ⟨g, j, none⟩ = some (.int .i64 (zs.getD j 0)) := fun j hj => by
      have e1 : (cur.toList.take (zs.length * 1))[j]? = (zs.map (Value.int .i64))[j]? := by rw [r4]
      rw [List.getElem?_take, if_pos (by omega), Array.getElem?_toList, List.getElem?_map, List.getElem?_eq_getElem hj] at e1
      simp only [World.cell?, hg]
      simp only [Option.isSome_none, Bool.false_eq_true, if_false]
      rw [e1, getD_at hj]
      rfl
    refine ⟨_, fun b o => if b = g then (if o < zs.length then some (.int .i64 (zs.getD o 0)) else none) else C b o, noτ, rfl, hb, fun b o v h => ?_, fun b o v h => ?_, fun b o v h => ?_, ?_, ⟨fun _ _ h => (by cases h), fun _ _ _ h => (by cases h), fun _ _ _ _ _ _ _ h => (by cases h)⟩⟩
    · show (if b = g then _ else C b o) = some v
      by_cases hbg : b = g
      · rw [hbg, hnew] at h; cases h
      · rw [if_neg hbg]; exact h
    · have h : (if b = g then (if o < zs.length then some (Value.int .i64 (zs.getD o 0)) else none) else C b o) = some v := h
      by_cases hbg : b = g
      · exact .inr (by omega)
      · rw [if_neg hbg] at h; exact .inl h
    · have h : (if b = g then (if o < zs.length then some (Value.int .i64 (zs.getD o 0)) else none) else C b o) = some v := h
      by_cases hbg : b = g
      · rw [if_pos hbg] at h
        by_cases ho' : o < zs.length
        · rw [if_pos ho'] at h
          cases h
          rw [hbg]
          exact ⟨hcell o ho', rfl⟩
        · rw [if_neg ho'] at h; cases h
      · rw [if_neg hbg] at h; exact hC' b o v h
    · have hl : (zs.map fun n => [iv n]).length = zs.length := by simp
      refine .list 1 _ .no _ _ cap (fun i _ => .int .i64 (zs.getD i 0)) hl r1 r2 (fun i x hx => ?_) (fun i x j a hx ha => ?_) trivial
      · have hi : i < zs.length := by
          have := (List.getElem?_eq_some_iff.1 hx).1
          simpa using this
        rw [List.getElem?_map, List.getElem?_eq_getElem hi] at hx
        cases hx
        refine ⟨rfl, g, 0, rfl, fun j hj => ?_⟩
        show (if g = g then (if 0 + i * 1 + j < zs.length then some (Value.int .i64 (zs.getD (0 + i * 1 + j) 0)) else none) else C g (0 + i * 1 + j)) = _
        have e : 0 + i * 1 + j = i := by omega
        rw [if_pos rfl, e, if_pos hi]
      · have hi : i < zs.length := by
          have := (List.getElem?_eq_some_iff.1 hx).1
          simpa using this
        rw [List.getElem?_map, List.getElem?_eq_getElem hi] at hx
        cases hx
        cases j with
        | zero =>
          cases ha
          rw [getD_at hi]
          exact .v _ rfl
        | succ j => simp at ha
theorem appSeq (Bs : Nat) (sv : Value) (zs : List Int) (hz : zs.length ≤ 1000000) (w : World) (hBs : w.cell? ⟨Bs, 0, none⟩ = some sv) (hI : IntsAt w.heap.size w sv zs) :
    Calls Try.prog 166 #[.slice none 0 0, .func (.func 156) #[] #[.pointer (some ⟨Bs, 0, none⟩)]] w fun e W' => ∃ v, e = .returned v ∧ W'.ownsRow w.heap.size 3 1 v zs.length (zs.map (Value.int .i64)) ∧ (v = .slice none 0 0 ↔ zs = []) ∧ Below w.heap.size w W' :=
  (callsIn_wide (n := 3)).1 (appSeq_in Fence.wide 3 trivial trivial rfl (Nat.le_refl _) Bs sv zs hz w hBs hI)
set_option maxHeartbeats 1000000 in
theorem collect_at (Bs : Nat) (sv : Value) (zs : List Int) (hz : zs.length ≤ 1000000) (w : World) (hBs : w.cell? ⟨Bs, 0, none⟩ = some sv) (hI : IntsAt w.heap.size w sv zs) :
    Calls Try.prog 155 #[.func (.func 156) #[] #[.pointer (some ⟨Bs, 0, none⟩)]] w fun e W' => ∃ v, e = .returned v ∧ W'.ownsRow w.heap.size 3 1 v zs.length (zs.map (Value.int .i64)) ∧ (v = .slice none 0 0 ↔ zs = []) ∧ Below w.heap.size w W' := by
  go_enter Try.func155, Try.ntmps155
  go_wp2_with (go_at_call 166; refine (appSeq Bs sv zs hz w hBs hI).mono ?_; rintro e w' ⟨v, rfl, h⟩)
  go_ret
  exact ⟨v, rfl, h⟩
/-- What is sorted: the list lies in a slice of the call's own. -/
theorem own_sorted {w w1 : World} {g cap n nn : Nat} {os : Array Obj} {zs : List Int} (ho : w1.ownsRow w.heap.size 3 1 (.slice (some ⟨g, 0, none⟩) n cap) n (zs.map (Value.int .i64))) (hb : Below w.heap.size w w1) (hg : w.heap.size ≤ g) (hl : zs.length = n) :
    (grow (putRow (Value.int .i64) (Sort.ahead w1 nn) g 0 (zs.mergeSort fun x y => decide (x ≤ y)).toArray) os).ownsRow w.heap.size 3 1 (.slice (some ⟨g, 0, none⟩) n cap) n ((zs.mergeSort fun x y => decide (x ≤ y)).map (Value.int .i64)) ∧
    Below w.heap.size w (grow (putRow (Value.int .i64) (Sort.ahead w1 nn) g 0 (zs.mergeSort fun x y => decide (x ≤ y)).toArray) os) := by
  subst hl
  rcases ho.2 with ⟨h0, _⟩ | ⟨g', cap', cur, hv, hbase, hb', h1, h2, h3, h4⟩
  · cases h0
  cases hv
  exact ⟨ownsRow_sortedI (by rw [List.length_mergeSort]) hbase hb' h1 h2 h3, hb.grown (grownBy_sortedI _) hb.size (fun j hj => by cases hj; exact hg)⟩
set_option maxHeartbeats 2000000 in
theorem sorted_at (Bs : Nat) (sv : Value) (zs : List Int) (hz : zs.length ≤ 1000000) (w : World) (hBs : w.cell? ⟨Bs, 0, none⟩ = some sv) (hI : IntsAt w.heap.size w sv zs) :
    Calls Try.prog 139 #[.func (.func 156) #[] #[.pointer (some ⟨Bs, 0, none⟩)]] w fun e W' => ∃ v, e = .returned v ∧ W'.ownsRow w.heap.size 3 1 v zs.length ((zs.mergeSort fun x y => decide (x ≤ y)).map (Value.int .i64)) ∧ (v = .slice none 0 0 ↔ zs = []) ∧ Below w.heap.size w W' := by
  go_enter Try.func139, Try.ntmps139
  by_cases hz0 : zs = []
  · subst hz0
    go_wp2_with (first
      | (go_at_call 155; refine (collect_at Bs sv [] hz w hBs hI).mono ?_; rintro e w1 ⟨v, rfl, hown, hnil, hbel⟩
         obtain rfl := hnil.2 (by first | exact rfl | trivial)
         have X : Aside (w1.ownsRow w.heap.size 3 1 (.slice none 0 0) 0 [] ∧ Below w.heap.size w w1) := ⟨hown, hbel⟩
         clear hown hbel hnil)
      | (go_at_call 148; refine (Try.slices_Sort_int_none none 0 _).mono ?_; rintro e w' ⟨rfl, rfl⟩))
    go_ret
    exact ⟨_, rfl, X.out.1, by simp, X.out.2⟩
  · go_wp2_with (first
      | (go_at_call 155; refine (collect_at Bs sv zs hz w hBs hI).mono ?_; rintro e w1 ⟨v, rfl, hown, hnil, hbel⟩
         have hnn : v ≠ .slice none 0 0 := fun e => hz0 (hnil.1 e)
         obtain ⟨g, cap, rfl, hbg, hgl, hncap, hcm, hlen, hH⟩ := Lib.holds_of_ownsRow hown hnn
         have hsort := Try.slices_Sort_int g 0 cap zs w1 hH hgl (by omega)
         have X : Aside (w1.ownsRow w.heap.size 3 1 (.slice (some ⟨g, 0, none⟩) zs.length cap) zs.length (zs.map (Value.int .i64)) ∧ Below w.heap.size w w1 ∧ w.heap.size ≤ g) := ⟨hown, hbel, hbg⟩
         clear hown hbel hH hnn hnil)
      | (go_at_call 148; refine hsort.mono ?_; rintro e w2 ⟨rfl, nn, os, rfl⟩))
    go_ret
    obtain ⟨r1, r2⟩ := own_sorted (nn := nn) (os := os) X.out.1 X.out.2.1 X.out.2.2 rfl
    exact ⟨_, rfl, r1, by simp [hz0], r2⟩
set_option maxHeartbeats 2000000 in
theorem images_at (a : Option Addr) (len cap : Nat) (zs : List Int) (hz : zs.length ≤ 1000000) (w : World) (hI : IntsAt w.heap.size w (.slice a len cap) zs) :
    Calls Try.prog 91 #[.slice a len cap] w fun e W' => ∃ v, e = .returned v ∧ W'.ownsRow w.heap.size 3 1 v (sq zs).length ((sq zs).map (Value.int .i64)) ∧ Below w.heap.size w W' := by
  have hB0 : Below w.heap.size w (w.alloc (.cells #[.slice a len cap] 22)) := (Below.refl _ w).alloc (Nat.le_refl _) _
  have hso := sorted_at w.heap.size (.slice a len cap) zs hz (w.alloc (.cells #[.slice a len cap] 22)) (by have := (Boxed.new w 22 (.slice a len cap)).cell; exact this) (by
    rcases hI.below hB0 with ⟨a, c, e, e2⟩ | ⟨b, off, cap', e, hb, hc⟩
    · exact .inl ⟨a, c, e, e2⟩
    · exact .inr ⟨b, off, cap', e, by simp; omega, hc⟩)
  clear hI
  go_enter Try.func91, Try.ntmps91
  by_cases hz0 : zs = []
  · subst hz0
    go_wp2_with (first
      | (go_at_call 140; refine (vals_at a len cap w).mono ?_; rintro e w1 ⟨rfl, rfl⟩)
      | (go_at_call 139; refine hso.mono ?_; rintro e w1 ⟨v, rfl, hown, hnil, hbel⟩
         obtain rfl := hnil.2 (by first | exact rfl | trivial)
         have X : Aside (Below (w.alloc (.cells #[.slice a len cap] 22)).heap.size (w.alloc (.cells #[.slice a len cap] 22)) w1) := hbel
         clear hown hbel hnil hso)
      | (go_at_call 138; refine (Try.slices_Compact_int_empty none 0 _).mono ?_; rintro e w' ⟨rfl, rfl⟩))
    go_ret
    have e0 : sq [] = [] := List.eq_nil_of_length_eq_zero (by have := sq_len []; simpa using this)
    rw [e0]
    exact ⟨_, rfl, World.ownsRow_nil _ _ _ _, hB0.trans (X.out.mono (by simp))⟩
  · go_wp2_with (first
      | (go_at_call 140; refine (vals_at a len cap w).mono ?_; rintro e w1 ⟨rfl, rfl⟩)
      | (go_at_call 139; refine hso.mono ?_; rintro e w1 ⟨v, rfl, hown, hnil, hbel⟩
         have hnn : v ≠ .slice none 0 0 := fun e => hz0 (hnil.1 e)
         obtain ⟨g, cap2, rfl, hbg, hgl, hncap, hcm, hlen, hH⟩ := Lib.holds_of_ownsRow hown hnn
         have hcomp := Try.slices_Compact_int g 0 cap2 (zs.mergeSort fun x y => decide (x ≤ y)) w1 hH (by omega) (by omega)
         rw [hlen] at hcomp
         have X : Aside (w1.ownsRow (w.alloc (.cells #[.slice a len cap] 22)).heap.size 3 1 (.slice (some ⟨g, 0, none⟩) zs.length cap2) zs.length ((zs.mergeSort fun x y => decide (x ≤ y)).map (Value.int .i64)) ∧ Below (w.alloc (.cells #[.slice a len cap] 22)).heap.size (w.alloc (.cells #[.slice a len cap] 22)) w1 ∧ (w.alloc (.cells #[.slice a len cap] 22)).heap.size ≤ g) := ⟨hown, hbel, hbg⟩
         clear hown hbel hH hnn hnil hso)
      | (go_at_call 138; refine hcomp.mono ?_; rintro e w2 ⟨rfl, q, rfl⟩))
    go_ret
    have hle := sq_len zs
    have r1 := Lib.ownsRow_putRow (q := q) (k := (sq zs).length) (ys := sq zs ++ List.replicate (zs.length - (sq zs).length) 0) X.out.1 (by simp; omega) hle
    rw [List.take_left] at r1
    have hsz : w.heap.size ≤ (w.alloc (.cells #[.slice a len cap] 22)).heap.size := by simp
    refine ⟨_, rfl, ?_, Lib.below_putRow (hB0.trans (X.out.2.1.mono hsz)) (Nat.le_trans hsz X.out.2.2)⟩
    rcases r1.2 with ⟨h0, _⟩ | ⟨g', cap', cur, hv, hbase, rest⟩
    · cases h0
    · exact ⟨r1.1, .inr ⟨g', cap', cur, hv, Nat.le_trans hsz hbase, rest⟩⟩
set_option maxRecDepth 10000 in
theorem c91 (l : List Int) (h : l.length ≤ 1000000) : Con Try.prog 91 [lv l] 0 (lv (sq l)) := by
  refine ⟨(enters_of Try.func91 (by kernel_rfl) rfl), fun C w vs hC hsz hrv => ?_⟩
  obtain ⟨vl⟩ := vs
  match vl, hsz with
  | [v], _ =>
    have hv := hrv 0 v (lv l) rfl rfl
    obtain ⟨A, c, rfl, _, hcell⟩ := intl_cells hC hv
    refine (images_at A l.length c l h w ?_).mono fun e w' ⟨v, he, ho, hb⟩ => ?_
    · by_cases hl : l = []
      · subst hl
        exact .inl ⟨A, c, rfl, rfl⟩
      · obtain ⟨b, o, rfl, hc2⟩ := hcell hl
        refine .inr ⟨b, o, c, rfl, ?_, fun j hj => ?_⟩
        · exact cell_lt (hc2 0 (List.length_pos_iff.2 hl))
        · rw [hc2 j hj, List.getD_eq_getElem?_getD]
    · obtain ⟨v', C', τ', h1, h2⟩ := ret_list hC hb ho
      exact ⟨v', C', τ', he.trans h1, h2⟩
end Go.Sy

/- Contracts: the document's overlap through which two morphisms go. -/
set_option linter.unusedSimpArgs false
namespace Go.Sy
open Go Go.Proofs

theorem take1 {p : List Int} {i : Nat} (h : i < p.length) : List.map (fun n => [AV.v (Value.int .i64 n)]) (p.take i) ++ [[AV.v (Value.int .i64 p[i])]] = List.map (fun n => [AV.v (Value.int .i64 n)]) (p.take (i + 1)) := by
  rw [List.take_add_one, List.getElem?_eq_getElem h, List.map_append]
  rfl
theorem take_at' {p : List Int} {i : Nat} (h : i < p.length) : (p.take (i + 1)).length = i + 1 := by rw [List.length_take]; omega
theorem plc_at {k l : List Int} {i : Nat} (h : i < l.length) (h2 : i < (plc k l).length) : (plc k l)[i] = idxP (fun y => l[i] == y) k := by simp [plc]
set_option maxHeartbeats 2000000 in
theorem c34 (a b x : Gr) (h k : Mo) : Con Try.prog 34 [gv a, gv b, gv x, mv h, mv k] 0 (thrV (thrR a b x h k)) := by
  refine conT (X := [(23, [], [(10, [15], [])])]) (rs := [.cell 10 43, .cell 11 41, .tmp 12]) Try.func34 (by kernel_rfl) rfl rfl (by kernel_rfl) ?_
  simp (dsimp := false) (maxDischargeDepth := 16) only [go_sem, ↓reduceIte, reduceCtorEq, Nat.reduceEqDiff, Nat.reduceAdd, Nat.reduceMul, Nat.reduceSub, Nat.reduceLT, Nat.reduceLeDiff, Nat.reducePow, Int.reduceLT, Int.reduceLE, Int.reduceNeg, Int.reduceToNat]
  refine callK_intro (c72 a x h) ?_
  simp (dsimp := false) (maxDischargeDepth := 16) only [go_sem, ↓reduceIte, reduceCtorEq, Nat.reduceEqDiff, Nat.reduceAdd, Nat.reduceMul, Nat.reduceSub, Nat.reduceLT, Nat.reduceLeDiff, Nat.reducePow, Int.reduceLT, Int.reduceLE, Int.reduceNeg, Int.reduceToNat]
  refine condK_intro (fun h1 => ?_) (fun h1 => ?_)
  · simp (dsimp := false) (maxDischargeDepth := 16) only [go_sem, ↓reduceIte, reduceCtorEq, Nat.reduceEqDiff, Nat.reduceAdd, Nat.reduceMul, Nat.reduceSub, Nat.reduceLT, Nat.reduceLeDiff, Nat.reducePow, Int.reduceLT, Int.reduceLE, Int.reduceNeg, Int.reduceToNat, h1]
    have e : thrR a b x h k = (oz, mz, mErr a x h) := if_pos (by simpa using h1)
    rw [e]
    exact finK ⟨rfl, rfl⟩
  have g1 : mErr a x h = 0 := by simpa using h1
  simp (dsimp := false) (maxDischargeDepth := 16) only [go_sem, ↓reduceIte, reduceCtorEq, Nat.reduceEqDiff, Nat.reduceAdd, Nat.reduceMul, Nat.reduceSub, Nat.reduceLT, Nat.reduceLeDiff, Nat.reducePow, Int.reduceLT, Int.reduceLE, Int.reduceNeg, Int.reduceToNat, h1]
  refine callK_intro (c72 b x k) ?_
  simp (dsimp := false) (maxDischargeDepth := 16) only [go_sem, ↓reduceIte, reduceCtorEq, Nat.reduceEqDiff, Nat.reduceAdd, Nat.reduceMul, Nat.reduceSub, Nat.reduceLT, Nat.reduceLeDiff, Nat.reducePow, Int.reduceLT, Int.reduceLE, Int.reduceNeg, Int.reduceToNat, h1]
  refine condK_intro (fun h2 => ?_) (fun h2 => ?_)
  · simp (dsimp := false) (maxDischargeDepth := 16) only [go_sem, ↓reduceIte, reduceCtorEq, Nat.reduceEqDiff, Nat.reduceAdd, Nat.reduceMul, Nat.reduceSub, Nat.reduceLT, Nat.reduceLeDiff, Nat.reducePow, Int.reduceLT, Int.reduceLE, Int.reduceNeg, Int.reduceToNat, h1, h2]
    have e : thrR a b x h k = (oz, mz, mErr b x k) := by rw [thrR, if_neg (by simp [g1]), if_pos (by simpa using h2)]
    rw [e]
    exact finK ⟨rfl, rfl⟩
  have g2 : mErr b x k = 0 := by simpa using h2
  simp (dsimp := false) (maxDischargeDepth := 16) only [go_sem, ↓reduceIte, reduceCtorEq, Nat.reduceEqDiff, Nat.reduceAdd, Nat.reduceMul, Nat.reduceSub, Nat.reduceLT, Nat.reduceLeDiff, Nat.reducePow, Int.reduceLT, Int.reduceLE, Int.reduceNeg, Int.reduceToNat, h1, h2]
  have e0 : thrR a b x h k = if injR a x h && injR b x k then (glue a b (plc h.n k.n) (plc h.e k.e), rst h k (plc h.n k.n) (plc h.e k.e), 0) else (oz, mz, 1) := by rw [thrR, if_neg (by simp [g1]), if_neg (by simp [g2])]
  rw [e0]
  have H1 := c31 a x h
  have H2 := c31 b x k
  generalize injR a x h = r1 at *
  generalize injR b x k = r2 at *
  refine callK_intro H1 ?_
  cases r1 with
  | false =>
    simp (dsimp := false) (maxDischargeDepth := 16) only [go_sem, ↓reduceIte, reduceCtorEq, Nat.reduceEqDiff, Nat.reduceAdd, Nat.reduceMul, Nat.reduceSub, Nat.reduceLT, Nat.reduceLeDiff, Nat.reducePow, Int.reduceLT, Int.reduceLE, Int.reduceNeg, Int.reduceToNat, h1, h2, Bool.not_false]
    exact finK ⟨rfl, rfl⟩
  | true =>
  simp (dsimp := false) (maxDischargeDepth := 16) only [go_sem, ↓reduceIte, reduceCtorEq, Nat.reduceEqDiff, Nat.reduceAdd, Nat.reduceMul, Nat.reduceSub, Nat.reduceLT, Nat.reduceLeDiff, Nat.reducePow, Int.reduceLT, Int.reduceLE, Int.reduceNeg, Int.reduceToNat, h1, h2, Bool.not_true]
  refine callK_intro H2 ?_
  cases r2 with
  | false =>
    simp (dsimp := false) (maxDischargeDepth := 16) only [go_sem, ↓reduceIte, reduceCtorEq, Nat.reduceEqDiff, Nat.reduceAdd, Nat.reduceMul, Nat.reduceSub, Nat.reduceLT, Nat.reduceLeDiff, Nat.reducePow, Int.reduceLT, Int.reduceLE, Int.reduceNeg, Int.reduceToNat, h1, h2, Bool.not_false]
    exact finK ⟨rfl, rfl⟩
  | true =>
  have o1 := mErr_ok g1
  have o2 := mErr_ok g2
  have ga := gErr_small o1.1
  have gb := gErr_small o2.1
  have pl : (plc h.n k.n).length = k.n.length := plc_len _ _
  have ql : (plc h.e k.e).length = k.e.length := plc_len _ _
  have sn : k.n.length ≤ 1000 := by omega
  have se : k.e.length ≤ 1000 := by omega
  have sn' : h.n.length ≤ 1000 := by omega
  have se' : h.e.length ≤ 1000 := by omega
  simp (dsimp := false) (maxDischargeDepth := 16) only [go_sem, ↓reduceIte, reduceCtorEq, Nat.reduceEqDiff, Nat.reduceAdd, Nat.reduceMul, Nat.reduceSub, Nat.reduceLT, Nat.reduceLeDiff, Nat.reducePow, Int.reduceLT, Int.reduceLE, Int.reduceNeg, Int.reduceToNat, h1, h2, Bool.not_true]
  refine ⟨⟨by omega, by omega⟩, ⟨by omega, by omega⟩, ?_⟩
  have HG := c80 a b (plc h.n k.n) (plc h.e k.e) (by omega) (by omega) (by omega) (by omega) (by omega) (by omega) (fun x hx => by
    have := gb.2.2 x hx
    rw [plc_len, o2.2.2.1]
    unfold edOK at this
    omega)
  have HN : ∀ i (hi : i < k.n.length) (hi2 : i < (plc h.n k.n).length), Con Try.prog 79 [lv h.n, iv k.n[i]] 0 (iv (plc h.n k.n)[i]) := fun i hi hi2 => by rw [plc_at hi hi2]; exact c79 h.n k.n[i]
  have HE : ∀ i (hi : i < k.e.length) (hi2 : i < (plc h.e k.e).length), Con Try.prog 79 [lv h.e, iv k.e[i]] 0 (iv (plc h.e k.e)[i]) := fun i hi hi2 => by rw [plc_at hi hi2]; exact c79 h.e k.e[i]
  clear ga gb o1 o2 e0 h1 h2 H1 H2 g1 g2
  rw [if_pos (by rfl)]
  unfold rst
  generalize plc h.n k.n = p at *
  generalize plc h.e k.e = q at *
  generalize glue a b p q = G at *
  refine loopK_intro (fun (i : Nat) s => i ≤ p.length ∧ s.t 5 = .box (5, 0, 0) 0 ∧ s.b (5, 0, 0) = some ⟨gcs a, false⟩ ∧ s.t 6 = .box (6, 0, 0) 0 ∧ s.b (6, 0, 0) = some ⟨gcs b, false⟩ ∧ s.t 8 = .box (8, 0, 0) 0 ∧ s.b (8, 0, 0) = some ⟨mcs h, false⟩ ∧ s.t 9 = .box (9, 0, 0) 0 ∧ s.b (9, 0, 0) = some ⟨mcs k, false⟩ ∧
    s.t 10 = .box (10, 0, 0) 0 ∧ (∃ z1 z2 z3 z4 z5 z6, s.b (10, 0, 0) = some ⟨[z1, z2, z3, z4, z5, z6], false⟩) ∧ s.t 11 = .box (11, 0, 0) 0 ∧ (∃ y1 y2, s.b (11, 0, 0) = some ⟨[y1, y2], false⟩) ∧
    s.t 15 = .box (15, 0, 0) 0 ∧ s.t 17 = .list 1 [] .nil ∧ s.t 18 = iv i ∧ ∃ k1 k2 k3, s.b (15, 0, 0) = some ⟨[lvT (gN h.n k.n p i).1 k1, lvT h.e k2], false⟩ ∧ s.t 16 = lvT (p.take i) k3 ∧
    tokOK s k1 = true ∧ tokOK s k2 = true ∧ tokOK s k3 = true ∧ tkIn [(55, 0), (92, 0)] k1 = true ∧ tkIn [(59, 0)] k2 = true ∧ tkIn [(78, 0)] k3 = true) (fun i => p.length - i) ?_ ?_
  · refine ⟨0, by omega, rfl, rfl, rfl, rfl, rfl, rfl, rfl, rfl, rfl, ⟨_, _, _, _, _, _, rfl⟩, rfl, ⟨_, _, rfl⟩, rfl, rfl, rfl, .own (55, 0, 0), .own (59, 0, 0), .nil, rfl, rfl, ?_, ?_, rfl, rfl, rfl, rfl⟩
    all_goals simp (dsimp := false) (maxDischargeDepth := 16) only [go_sem, ↓reduceIte, reduceCtorEq, Nat.reduceEqDiff, Nat.reduceAdd, Nat.reduceMul, Nat.reduceSub, Nat.reduceLT, Nat.reduceLeDiff, Nat.reducePow, Int.reduceLT, Int.reduceLE, Int.reduceNeg, Int.reduceToNat]
  rintro i s ⟨hi, t5, b5, t6, b6, t8, b8, t9, b9, t10, ⟨z1, z2, z3, z4, z5, z6, b10⟩, t11, ⟨y1, y2, b11⟩, t15, t17, t18, k1, k2, k3, b15, t16, a1, a2, a3, i1, i2, i3⟩
  simp (dsimp := false) (maxDischargeDepth := 16) only [go_sem, ↓reduceIte, reduceCtorEq, Nat.reduceEqDiff, Nat.reduceAdd, Nat.reduceMul, Nat.reduceSub, Nat.reduceLT, Nat.reduceLeDiff, Nat.reducePow, Int.reduceLT, Int.reduceLE, Int.reduceNeg, Int.reduceToNat, t5, b5, t6, b6, t8, b8, t9, b9, t10, b10, t11, b11, t15, t17, t18, b15, t16]
  refine condK_dec (fun h6 => ?_) (fun h6 => ?_)
  · have hp : i < p.length := by omega
    have k12 : ∀ (s : St) (d n : Nat) (x : AV), tokOK s k2 = true → tokOK (s.ntok d n x (tokKey k1)) k2 = true := fun s d n x h => tk_kill i1 i2 rfl h
    have k31 : ∀ (s : St) (d n : Nat) (x : AV), tokOK s k1 = true → tokOK (s.ntok d n x (tokKey k3)) k1 = true := fun s d n x h => tk_kill i3 i1 rfl h
    have k32 : ∀ (s : St) (d n : Nat) (x : AV), tokOK s k2 = true → tokOK (s.ntok d n x (tokKey k3)) k2 = true := fun s d n x h => tk_kill i3 i2 rfl h
    have q3 : ∀ (f : Key → Bool) (g : Nat), killO f (tokKey k1) (78, g, 0) = f (78, g, 0) := fun f g => kill_tk i1 rfl f
    have l1 := gN_len1 h.n k.n p i
    have l3 : (p.take i).length = i := by rw [List.length_take]; omega
    have l4 := take_at' hp
    simp (dsimp := false) (maxDischargeDepth := 16) only [go_sem, ↓reduceIte, reduceCtorEq, Nat.reduceEqDiff, Nat.reduceAdd, Nat.reduceMul, Nat.reduceSub, Nat.reduceLT, Nat.reduceLeDiff, Nat.reducePow, Int.reduceLT, Int.reduceLE, Int.reduceNeg, Int.reduceToNat, t5, b5, t6, b6, t8, b8, t9, b9, t10, b10, t11, b11, t15, t17, t18, b15, t16, h6, idx_nat]
    refine callK_intro (HN i h6 hp) ?_
    simp (dsimp := false) (maxDischargeDepth := 16) only [go_sem, ↓reduceIte, reduceCtorEq, Nat.reduceEqDiff, Nat.reduceAdd, Nat.reduceMul, Nat.reduceSub, Nat.reduceLT, Nat.reduceLeDiff, Nat.reducePow, Int.reduceLT, Int.reduceLE, Int.reduceNeg, Int.reduceToNat, t5, b5, t6, b6, t8, b8, t9, b9, t10, b10, t11, b11, t15, t17, t18, b15, t16, h6, hp, idx_nat, a1, a2, a3, k12, k31, k32, l3, l4, take1, List.getElem_take, Nat.lt_add_one]
    refine ⟨⟨by omega, by omega⟩, ?_⟩
    refine condK_dec (fun h8 => ?_) (fun h8 => ?_)
    · simp (dsimp := false) (maxDischargeDepth := 16) only [go_sem, ↓reduceIte, reduceCtorEq, Nat.reduceEqDiff, Nat.reduceAdd, Nat.reduceMul, Nat.reduceSub, Nat.reduceLT, Nat.reduceLeDiff, Nat.reducePow, Int.reduceLT, Int.reduceLE, Int.reduceNeg, Int.reduceToNat, t5, b5, t6, b6, t8, b8, t9, b9, t10, b10, t11, b11, t15, t17, t18, b15, t16, h6, hp, h8, idx_nat, a1, a2, a3, k12, k31, k32, l3, l4]
      refine ⟨⟨by omega, by omega⟩, i + 1, by omega, by omega, ⟨_, _, _, _, _, _, rfl⟩, ⟨_, _, rfl⟩, by rw [wrapN _ (by omega)], .own (92, s.g 92, 0), k2, .own (78, s.g 78, 0), ?_, by rw [take1 hp], ?_, ?_, ?_, rfl, i2, rfl⟩
      · rw [gN_neg hp h6 h8]
        simp only [map1_app]
      all_goals simp (dsimp := false) (maxDischargeDepth := 16) only [go_sem, ↓reduceIte, reduceCtorEq, Nat.reduceEqDiff, Nat.reduceAdd, Nat.reduceMul, Nat.reduceSub, Nat.reduceLT, Nat.reduceLeDiff, Nat.reducePow, Int.reduceLT, Int.reduceLE, Int.reduceNeg, Int.reduceToNat, a1, a2, a3, k12, k31, k32, q3]
    · simp (dsimp := false) (maxDischargeDepth := 16) only [go_sem, ↓reduceIte, reduceCtorEq, Nat.reduceEqDiff, Nat.reduceAdd, Nat.reduceMul, Nat.reduceSub, Nat.reduceLT, Nat.reduceLeDiff, Nat.reducePow, Int.reduceLT, Int.reduceLE, Int.reduceNeg, Int.reduceToNat, t5, b5, t6, b6, t8, b8, t9, b9, t10, b10, t11, b11, t15, t17, t18, b15, t16, h6, hp, h8, idx_nat, a1, a2, a3, k12, k31, k32, l3, l4]
      refine ⟨i + 1, by omega, by omega, ⟨_, _, _, _, _, _, rfl⟩, ⟨_, _, rfl⟩, by rw [wrapN _ (by omega)], k1, k2, .own (78, s.g 78, 0), ?_, by rw [take1 hp], ?_, ?_, ?_, i1, i2, rfl⟩
      · rw [gN_pos hp h8]
      all_goals simp (dsimp := false) (maxDischargeDepth := 16) only [go_sem, ↓reduceIte, reduceCtorEq, Nat.reduceEqDiff, Nat.reduceAdd, Nat.reduceMul, Nat.reduceSub, Nat.reduceLT, Nat.reduceLeDiff, Nat.reducePow, Int.reduceLT, Int.reduceLE, Int.reduceNeg, Int.reduceToNat, a1, a2, a3, k12, k31, k32]
  · simp (dsimp := false) (maxDischargeDepth := 16) only [go_sem, ↓reduceIte, reduceCtorEq, Nat.reduceEqDiff, Nat.reduceAdd, Nat.reduceMul, Nat.reduceSub, Nat.reduceLT, Nat.reduceLeDiff, Nat.reducePow, Int.reduceLT, Int.reduceLE, Int.reduceNeg, Int.reduceToNat, t5, b5, t6, b6, t8, b8, t9, b9, t10, b10, t11, b11, t15, t17, t18, b15, t16, h6]
    have hin : i = p.length := by omega
    subst hin
    rw [List.take_length] at t16
    generalize (gN h.n k.n p p.length).1 = L at *
    refine loopK_intro (fun (i : Nat) s => i ≤ q.length ∧ s.t 5 = .box (5, 0, 0) 0 ∧ s.b (5, 0, 0) = some ⟨gcs a, false⟩ ∧ s.t 6 = .box (6, 0, 0) 0 ∧ s.b (6, 0, 0) = some ⟨gcs b, false⟩ ∧ s.t 8 = .box (8, 0, 0) 0 ∧ s.b (8, 0, 0) = some ⟨mcs h, false⟩ ∧ s.t 9 = .box (9, 0, 0) 0 ∧ s.b (9, 0, 0) = some ⟨mcs k, false⟩ ∧
      s.t 10 = .box (10, 0, 0) 0 ∧ s.b (10, 0, 0) = some ⟨[z1, z2, z3, z4, z5, z6], false⟩ ∧ s.t 11 = .box (11, 0, 0) 0 ∧ s.b (11, 0, 0) = some ⟨[y1, y2], false⟩ ∧
      s.t 15 = .box (15, 0, 0) 0 ∧ s.t 16 = lvT p k3 ∧ s.t 19 = iv i ∧ ∃ k2 k3, s.b (15, 0, 0) = some ⟨[lvT L k1, lvT (gN h.e k.e q i).1 k2], false⟩ ∧ s.t 17 = lvT (q.take i) k3 ∧
      tokOK s k2 = true ∧ tokOK s k3 = true ∧ tkIn [(59, 0), (125, 0)] k2 = true ∧ tkIn [(111, 0)] k3 = true) (fun i => q.length - i) ?_ ?_
    · refine ⟨0, by omega, t5, b5, t6, b6, t8, b8, t9, b9, t10, b10, t11, b11, t15, t16, rfl, k2, .nil, b15, t17, ?_, rfl, ?_, rfl⟩
      · simp (dsimp := false) (maxDischargeDepth := 16) only [go_sem, ↓reduceIte, reduceCtorEq, Nat.reduceEqDiff, Nat.reduceAdd, Nat.reduceMul, Nat.reduceSub, Nat.reduceLT, Nat.reduceLeDiff, Nat.reducePow, Int.reduceLT, Int.reduceLE, Int.reduceNeg, Int.reduceToNat, a2]
      revert i2
      cases k2 <;> simp [tkIn]
      intro h1 h2
      exact .inl ⟨h1, h2⟩
    clear t5 b5 t6 b6 t8 b8 t9 b9 t10 b10 t11 b11 t15 t16 t17 t18 b15 a1 a2 a3 i1 i2 i3 h6 hi
    rintro i s ⟨hi, t5, b5, t6, b6, t8, b8, t9, b9, t10, b10, t11, b11, t15, t16, t19, k2, k4, b15, t17, a2, a3, i2, i3⟩
    simp (dsimp := false) (maxDischargeDepth := 16) only [go_sem, ↓reduceIte, reduceCtorEq, Nat.reduceEqDiff, Nat.reduceAdd, Nat.reduceMul, Nat.reduceSub, Nat.reduceLT, Nat.reduceLeDiff, Nat.reducePow, Int.reduceLT, Int.reduceLE, Int.reduceNeg, Int.reduceToNat, t5, b5, t6, b6, t8, b8, t9, b9, t10, b10, t11, b11, t15, t17, t19, b15, t16]
    refine condK_dec (fun h6 => ?_) (fun h6 => ?_)
    · have hp : i < q.length := by omega
      have k32 : ∀ (s : St) (d n : Nat) (x : AV), tokOK s k2 = true → tokOK (s.ntok d n x (tokKey k4)) k2 = true := fun s d n x h => tk_kill i3 i2 rfl h
      have q3 : ∀ (f : Key → Bool) (g : Nat), killO f (tokKey k2) (111, g, 0) = f (111, g, 0) := fun f g => kill_tk i2 rfl f
      have l1 := gN_len1 h.e k.e q i
      have l3 : (q.take i).length = i := by rw [List.length_take]; omega
      have l4 := take_at' hp
      simp (dsimp := false) (maxDischargeDepth := 16) only [go_sem, ↓reduceIte, reduceCtorEq, Nat.reduceEqDiff, Nat.reduceAdd, Nat.reduceMul, Nat.reduceSub, Nat.reduceLT, Nat.reduceLeDiff, Nat.reducePow, Int.reduceLT, Int.reduceLE, Int.reduceNeg, Int.reduceToNat, t5, b5, t6, b6, t8, b8, t9, b9, t10, b10, t11, b11, t15, t17, t19, b15, t16, h6, idx_nat]
      refine callK_intro (HE i h6 hp) ?_
      simp (dsimp := false) (maxDischargeDepth := 16) only [go_sem, ↓reduceIte, reduceCtorEq, Nat.reduceEqDiff, Nat.reduceAdd, Nat.reduceMul, Nat.reduceSub, Nat.reduceLT, Nat.reduceLeDiff, Nat.reducePow, Int.reduceLT, Int.reduceLE, Int.reduceNeg, Int.reduceToNat, t5, b5, t6, b6, t8, b8, t9, b9, t10, b10, t11, b11, t15, t17, t19, b15, t16, h6, hp, idx_nat, a2, a3, k32, l3, l4, take1, List.getElem_take, Nat.lt_add_one]
      refine ⟨⟨by omega, by omega⟩, ?_⟩
      refine condK_dec (fun h8 => ?_) (fun h8 => ?_)
      · simp (dsimp := false) (maxDischargeDepth := 16) only [go_sem, ↓reduceIte, reduceCtorEq, Nat.reduceEqDiff, Nat.reduceAdd, Nat.reduceMul, Nat.reduceSub, Nat.reduceLT, Nat.reduceLeDiff, Nat.reducePow, Int.reduceLT, Int.reduceLE, Int.reduceNeg, Int.reduceToNat, t5, b5, t6, b6, t8, b8, t9, b9, t10, b10, t11, b11, t15, t17, t19, b15, t16, h6, hp, h8, idx_nat, a2, a3, k32, l3, l4]
        refine ⟨⟨by omega, by omega⟩, i + 1, by omega, by omega, by rw [wrapN _ (by omega)], .own (125, s.g 125, 0), .own (111, s.g 111, 0), ?_, by rw [take1 hp], ?_, ?_, rfl, rfl⟩
        · rw [gN_neg hp h6 h8]
          simp only [map1_app]
        all_goals simp (dsimp := false) (maxDischargeDepth := 16) only [go_sem, ↓reduceIte, reduceCtorEq, Nat.reduceEqDiff, Nat.reduceAdd, Nat.reduceMul, Nat.reduceSub, Nat.reduceLT, Nat.reduceLeDiff, Nat.reducePow, Int.reduceLT, Int.reduceLE, Int.reduceNeg, Int.reduceToNat, a2, a3, k32, q3]
      · simp (dsimp := false) (maxDischargeDepth := 16) only [go_sem, ↓reduceIte, reduceCtorEq, Nat.reduceEqDiff, Nat.reduceAdd, Nat.reduceMul, Nat.reduceSub, Nat.reduceLT, Nat.reduceLeDiff, Nat.reducePow, Int.reduceLT, Int.reduceLE, Int.reduceNeg, Int.reduceToNat, t5, b5, t6, b6, t8, b8, t9, b9, t10, b10, t11, b11, t15, t17, t19, b15, t16, h6, hp, h8, idx_nat, a2, a3, k32, l3, l4]
        refine ⟨i + 1, by omega, by omega, by rw [wrapN _ (by omega)], k2, .own (111, s.g 111, 0), ?_, by rw [take1 hp], ?_, ?_, i2, rfl⟩
        · rw [gN_pos hp h8]
        all_goals simp (dsimp := false) (maxDischargeDepth := 16) only [go_sem, ↓reduceIte, reduceCtorEq, Nat.reduceEqDiff, Nat.reduceAdd, Nat.reduceMul, Nat.reduceSub, Nat.reduceLT, Nat.reduceLeDiff, Nat.reducePow, Int.reduceLT, Int.reduceLE, Int.reduceNeg, Int.reduceToNat, a2, a3, k32]
    · simp (dsimp := false) (maxDischargeDepth := 16) only [go_sem, ↓reduceIte, reduceCtorEq, Nat.reduceEqDiff, Nat.reduceAdd, Nat.reduceMul, Nat.reduceSub, Nat.reduceLT, Nat.reduceLeDiff, Nat.reducePow, Int.reduceLT, Int.reduceLE, Int.reduceNeg, Int.reduceToNat, t5, b5, t6, b6, t8, b8, t9, b9, t10, b10, t11, b11, t15, t17, t19, b15, t16, h6]
      have hin : i = q.length := by omega
      subst hin
      rw [List.take_length] at t17
      simp (dsimp := false) only [List.take_length]
      refine callK_intro HG ?_
      simp (dsimp := false) (maxDischargeDepth := 16) only [go_sem, ↓reduceIte, reduceCtorEq, Nat.reduceEqDiff, Nat.reduceAdd, Nat.reduceMul, Nat.reduceSub, Nat.reduceLT, Nat.reduceLeDiff, Nat.reducePow, Int.reduceLT, Int.reduceLE, Int.reduceNeg, Int.reduceToNat, t5, b5, t6, b6, t8, b8, t9, b9, t10, b10, t11, b11, t15, t17, t19, b15, t16, h6]
      exact ⟨rfl, finK ⟨rfl, rfl⟩⟩
end Go.Sy

/- FactorComplete: the law's contract. -/
set_option linter.unusedSimpArgs false
namespace Go.Sy
open Go Go.Proofs

theorem c90 (l : List Ov) (f : FuncId) (caps : List AV) (p : Ov → Bool) (hl : l.length ≤ 1000000) (hp : ∀ x ∈ l, Con Try.prog f (ov x :: caps) 0 (bv (p x))) : Con Try.prog 90 [olv l, .clo f caps] 0 (iv (idxP p l)) := by
  refine conT (X := []) (rs := [.tmp 4]) Try.func90 (by kernel_rfl) rfl rfl (by kernel_rfl) ?_
  simp (dsimp := false) (maxDischargeDepth := 16) only [go_sem, ↓reduceIte, reduceCtorEq, Nat.reduceEqDiff, Nat.reduceAdd, Nat.reduceMul, Nat.reduceSub, Nat.reduceLT, Nat.reduceLeDiff, Nat.reducePow, Int.reduceLT, Int.reduceLE, Int.reduceNeg, Int.reduceToNat]
  refine loopK_intro (fun (i : Nat) s => i ≤ l.length ∧ s.t 0 = olv l ∧ s.t 1 = .clo f caps ∧ s.t 7 = iv l.length ∧ s.t 8 = iv i ∧ ∀ y ∈ l.take i, p y = false) (fun i => l.length - i) ⟨0, by omega, rfl, rfl, rfl, rfl, fun j hj => by simp at hj⟩ ?_
  rintro i s ⟨hi, h0, h1, h7, h8, hn⟩
  simp (dsimp := false) (maxDischargeDepth := 16) only [go_sem, ↓reduceIte, reduceCtorEq, Nat.reduceEqDiff, Nat.reduceAdd, Nat.reduceMul, Nat.reduceSub, Nat.reduceLT, Nat.reduceLeDiff, Nat.reducePow, Int.reduceLT, Int.reduceLE, Int.reduceNeg, Int.reduceToNat, h0, h1, h7, h8]
  refine condK_dec (fun h6 => ?_) (fun h6 => ?_)
  · simp (dsimp := false) (maxDischargeDepth := 16) only [go_sem, ↓reduceIte, reduceCtorEq, Nat.reduceEqDiff, Nat.reduceAdd, Nat.reduceMul, Nat.reduceSub, Nat.reduceLT, Nat.reduceLeDiff, Nat.reducePow, Int.reduceLT, Int.reduceLE, Int.reduceNeg, Int.reduceToNat, h0, h1, h7, h8, h6, idx_nat]
    refine callK_intro (hp _ (List.getElem_mem h6)) ?_
    simp (dsimp := false) (maxDischargeDepth := 16) only [go_sem, ↓reduceIte, reduceCtorEq, Nat.reduceEqDiff, Nat.reduceAdd, Nat.reduceMul, Nat.reduceSub, Nat.reduceLT, Nat.reduceLeDiff, Nat.reducePow, Int.reduceLT, Int.reduceLE, Int.reduceNeg, Int.reduceToNat, h0, h1, h7, h8, h6]
    refine condK_intro (fun h9 => ?_) (fun h9 => ?_)
    · simp (dsimp := false) (maxDischargeDepth := 16) only [go_sem, ↓reduceIte, reduceCtorEq, Nat.reduceEqDiff, Nat.reduceAdd, Nat.reduceMul, Nat.reduceSub, Nat.reduceLT, Nat.reduceLeDiff, Nat.reducePow, Int.reduceLT, Int.reduceLE, Int.reduceNeg, Int.reduceToNat, h0, h1, h7, h8, h6, h9]
      exact finI (idxP_hit h6 hn h9)
    · simp (dsimp := false) (maxDischargeDepth := 16) only [go_sem, ↓reduceIte, reduceCtorEq, Nat.reduceEqDiff, Nat.reduceAdd, Nat.reduceMul, Nat.reduceSub, Nat.reduceLT, Nat.reduceLeDiff, Nat.reducePow, Int.reduceLT, Int.reduceLE, Int.reduceNeg, Int.reduceToNat, h0, h1, h7, h8, h6, h9]
      exact ⟨i + 1, by omega, by omega, by rw [wrapN _ (by omega)], take_all h6 hn h9⟩
  · simp (dsimp := false) (maxDischargeDepth := 16) only [go_sem, ↓reduceIte, reduceCtorEq, Nat.reduceEqDiff, Nat.reduceAdd, Nat.reduceMul, Nat.reduceSub, Nat.reduceLT, Nat.reduceLeDiff, Nat.reducePow, Int.reduceLT, Int.reduceLE, Int.reduceNeg, Int.reduceToNat, h0, h1, h7, h8, h6]
    exact finI (idxP_none (take_full h6 hn))
theorem c43 (l : List Ov) (f : FuncId) (caps : List AV) (p : Ov → Bool) (hl : l.length ≤ 1000000) (hp : ∀ x ∈ l, Con Try.prog f (ov x :: caps) 0 (bv (p x))) : Con Try.prog 43 [olv l, .clo f caps] 0 (bv (l.any p)) := by
  refine conT (X := []) (rs := [.tmp 4]) Try.func43 (by kernel_rfl) rfl rfl (by kernel_rfl) ?_
  simp (dsimp := false) (maxDischargeDepth := 16) only [go_sem, ↓reduceIte, reduceCtorEq, Nat.reduceEqDiff, Nat.reduceAdd, Nat.reduceMul, Nat.reduceSub, Nat.reduceLT, Nat.reduceLeDiff, Nat.reducePow, Int.reduceLT, Int.reduceLE, Int.reduceNeg, Int.reduceToNat]
  refine callK_intro (c90 l f caps p hl hp) ?_
  simp (dsimp := false) (maxDischargeDepth := 16) only [go_sem, ↓reduceIte, reduceCtorEq, Nat.reduceEqDiff, Nat.reduceAdd, Nat.reduceMul, Nat.reduceSub, Nat.reduceLT, Nat.reduceLeDiff, Nat.reducePow, Int.reduceLT, Int.reduceLE, Int.reduceNeg, Int.reduceToNat]
  refine finB ?_
  rw [Bool.eq_iff_iff, ← idxP_any]
  simp
theorem c44 (x o : Ov) : Con Try.prog 44 [ov x, .ptr (ocs o)] 0 (bv (decide (x = o))) := by
  refine conT (X := []) (rs := [.tmp 3]) Try.func44 (by kernel_rfl) rfl rfl (by kernel_rfl) ?_
  simp (dsimp := false) (maxDischargeDepth := 16) only [go_sem, ↓reduceIte, reduceCtorEq, Nat.reduceEqDiff, Nat.reduceAdd, Nat.reduceMul, Nat.reduceSub, Nat.reduceLT, Nat.reduceLeDiff, Nat.reducePow, Int.reduceLT, Int.reduceLE, Int.reduceNeg, Int.reduceToNat]
  refine callK_intro (c32 x o) ?_
  simp (dsimp := false) (maxDischargeDepth := 16) only [go_sem, ↓reduceIte, reduceCtorEq, Nat.reduceEqDiff, Nat.reduceAdd, Nat.reduceMul, Nat.reduceSub, Nat.reduceLT, Nat.reduceLeDiff, Nat.reducePow, Int.reduceLT, Int.reduceLE, Int.reduceNeg, Int.reduceToNat]
  exact finB rfl
/-! ### What is chosen is a part -/
theorem sel_mem {p : Nat → Bool} {n j : Nat} : j ∈ sel p n ↔ j < n ∧ p j = true := by simp [sel]
theorem sel_nodup (p : Nat → Bool) (n : Nat) : (sel p n).Nodup := (List.filter_sublist).nodup List.nodup_range
theorem sel_le (p : Nat → Bool) (n : Nat) : (sel p n).length ≤ n := by
  have := List.length_filter_le p (List.range n)
  simpa [sel] using this
theorem sel_place {p : Nat → Bool} {j : Nat} (hp : p j = true) : ∀ {n : Nat}, j < n → (sel p n)[(sel p j).length]? = some j
  | n + 1, hj => by
    by_cases hjn : j = n
    · subst hjn
      rw [sel_yes hp]
      simp
    · have ih := sel_place hp (n := n) (by omega)
      have hlt := (List.getElem?_eq_some_iff.1 ih).1
      by_cases hn : p n = true
      · rw [sel_yes hn, List.getElem?_append_left hlt]
        exact ih
      · rw [sel_no (by simpa using hn)]
        exact ih
theorem atv_place {p : Nat → Bool} {j n : Nat} (h : 0 ≤ atv p j) (hj : j < n) : atv p j < (sel p n).length ∧ (selN p n).getD (atv p j).toNat 0 = (j : Int) := by
  by_cases hp : p j = true
  · have e : atv p j = ((sel p j).length : Int) := if_pos hp
    have h1 := sel_place hp hj
    have h2 := (List.getElem?_eq_some_iff.1 h1).1
    rw [e]
    refine ⟨by omega, ?_⟩
    rw [Int.toNat_natCast, List.getD_eq_getElem?_getD, selN, List.getElem?_map, h1]
    rfl
  · rw [atv, if_neg hp] at h
    omega
theorem selN_dist (p : Nat → Bool) (n : Nat) : dist (selN p n) = true := by
  rw [dist_nodup, selN, List.Nodup, List.pairwise_map]
  exact (sel_nodup p n).imp fun h e => h (by omega)
theorem chR_ok {g : Gr} (hg : gErr g = 0) (p q : Nat → Bool) : injR (chR g p q).1 g (chR g p q).2 = true := by
  have gs := gErr_small hg
  have l1 : (chR g p q).1.n.length = (sel p g.n.length).length := by simp [chR]
  have l2 : (chR g p q).1.e.length = (sel (eok g p q) g.e.length).length := by simp [chR]
  have s1 := sel_le p g.n.length
  have s2 := sel_le (eok g p q) g.e.length
  have hv : gErr (chR g p q).1 = 0 := by
    rw [gErr, if_pos (by omega), if_pos]
    refine ⟨fun t ht => ?_, fun x hx => ?_⟩
    · obtain ⟨j, hj, rfl⟩ := List.mem_map.1 ht
      have := (sel_mem.1 hj).1
      rw [getD_at this]
      exact gs.2.1 _ (List.getElem_mem this)
    · obtain ⟨j, hj, rfl⟩ := List.mem_map.1 hx
      obtain ⟨j1, j2⟩ := sel_mem.1 hj
      simp only [eok, Bool.and_eq_true, decide_eq_true_eq] at j2
      have r := edge_in hg j1
      have t := gs.2.2 _ (List.getElem_mem j1)
      have a1 := atv_place (n := g.n.length) j2.2.1 (by omega)
      have a2 := atv_place (n := g.n.length) j2.2.2 (by omega)
      unfold eat edOK
      rw [getD_at j1] at *
      rw [l1]
      exact ⟨t.1, j2.2.1, a1.1, j2.2.2, a2.1⟩
  have nat : ∀ i, i < (sel p g.n.length).length → ∃ j, j < g.n.length ∧ (selN p g.n.length).getD i 0 = (j : Int) ∧ (chR g p q).1.n.getD i 0 = g.n.getD j 0 := fun i hi => by
    refine ⟨(sel p g.n.length)[i], (sel_mem.1 (List.getElem_mem hi)).1, ?_, ?_⟩
    · rw [getD_at (by rw [selN_len]; exact hi)]
      simp [selN]
    · rw [getD_at (by rw [l1]; exact hi)]
      simp [chR]
  have hm : mErr (chR g p q).1 g (chR g p q).2 = 0 := by
    refine mErr_zero hv hg ?_ ?_ (fun i hi => ?_) (fun i hi => ?_)
    · show (selN p g.n.length).length = _
      rw [selN_len, l1]
    · show (selN (eok g p q) g.e.length).length = _
      rw [selN_len, l2]
    · obtain ⟨j, j1, j2, j3⟩ := nat i (by omega)
      have e : (chR g p q).2.n.getD i 0 = (j : Int) := j2
      rw [nodeErr, e, if_neg (by omega), j3, Int.toNat_natCast, if_neg (by simp)]
    · have hi' : i < (sel (eok g p q) g.e.length).length := by omega
      have hj := sel_mem.1 (List.getElem_mem hi')
      have e1 : (chR g p q).2.e.getD i 0 = (((sel (eok g p q) g.e.length)[i] : Nat) : Int) := by
        show (selN (eok g p q) g.e.length).getD i 0 = _
        rw [getD_at (by rw [selN_len]; exact hi')]
        simp [selN]
      have e2 : (chR g p q).1.e.getD i (0, 0, 0) = eat g p (sel (eok g p q) g.e.length)[i] := by
        rw [getD_at hi]
        simp [chR]
      generalize (sel (eok g p q) g.e.length)[i] = j at *
      obtain ⟨j1, j2⟩ := hj
      simp only [eok, Bool.and_eq_true, decide_eq_true_eq] at j2
      have r := edge_in hg j1
      have a1 := (atv_place (n := g.n.length) j2.2.1 (by omega)).2
      have a2 := (atv_place (n := g.n.length) j2.2.2 (by omega)).2
      have b1 : (chR g p q).2.n.getD (atv p (g.e.getD j (0, 0, 0)).2.1.toNat).toNat 0 = (g.e.getD j (0, 0, 0)).2.1 := by
        show (selN p g.n.length).getD _ 0 = _
        rw [a1]; omega
      have b2 : (chR g p q).2.n.getD (atv p (g.e.getD j (0, 0, 0)).2.2.toNat).toNat 0 = (g.e.getD j (0, 0, 0)).2.2 := by
        show (selN p g.n.length).getD _ 0 = _
        rw [a2]; omega
      rw [edgeErr, e1, e2, if_neg (by omega), Int.toNat_natCast]
      unfold eat
      dsimp only
      rw [b1, b2, if_neg (by simp), if_neg (by simp)]
  have d1 : dist (chR g p q).2.n = true := selN_dist _ _
  have d2 : dist (chR g p q).2.e = true := selN_dist _ _
  rw [injR, hm, d1, d2]
  rfl
set_option maxHeartbeats 2000000 in
theorem c9 (d : Dr) (u v : Int) (hd : drOK d) : Con Try.prog 9 [dv d, u16 u, u16 v] 0 (bv true) := by
  have H1 := c29 d 6 5
  have H2 := c30 d hd
  obtain ⟨vg, ng, eg⟩ := made_ok hd
  generalize made d = g at *
  have H3 := c42 g u vg
  have H4 := c42 g v vg
  have i1 := chR_ok vg (btv u) fun j => btv u (8 + j)
  have i2 := chR_ok vg (btv v) fun j => btv v (8 + j)
  have n1 : (chR g (btv u) fun j => btv u (8 + j)).1.e.length ≤ 10 := by have := sel_le (eok g (btv u) fun j => btv u (8 + j)) g.e.length; simp [chR]; omega
  have n2 : (chR g (btv v) fun j => btv v (8 + j)).1.e.length ≤ 10 := by have := sel_le (eok g (btv v) fun j => btv v (8 + j)) g.e.length; simp [chR]; omega
  generalize (chR g (btv u) fun j => btv u (8 + j)) = A at *
  generalize (chR g (btv v) fun j => btv v (8 + j)) = B at *
  obtain ⟨a, h⟩ := A
  obtain ⟨b, k⟩ := B
  dsimp only at i1 i2 n1 n2 H3 H4
  have H5 := c33 a b g h k
  have e5 : thrR a b g h k = (glue a b (plc h.n k.n) (plc h.e k.e), rst h k (plc h.n k.n) (plc h.e k.e), 0) := by
    rw [thrR, if_neg (by simp [(injR_dist i1).1]), if_neg (by simp [(injR_dist i2).1]), i1, i2]
    rfl
  rw [e5] at H5
  have hM := thru_isM i1 i2
  have va := (mErr_ok (injR_dist i1).1).1
  have vb := (mErr_ok (injR_dist i2).1).1
  have H6 := c18 a b
  have hin := (memP a b (plc h.n k.n, plc h.e k.e)).2 hM
  have e6 := fun hs => ovS_eq (a := a) (b := b) va vb hs
  generalize hO : glue a b (plc h.n k.n) (plc h.e k.e) = O at *
  generalize rst h k (plc h.n k.n) (plc h.e k.e) = R at *
  clear i1 i2 hM e5 va vb
  generalize smallD d 6 5 = D at *
  cases D with
  | false =>
    refine conT (X := [(12, [12], [])]) (rs := [.tmp 6]) Try.func9 (by kernel_rfl) rfl rfl (by kernel_rfl) ?_
    simp (dsimp := false) (maxDischargeDepth := 16) only [go_sem, ↓reduceIte, reduceCtorEq, Nat.reduceEqDiff, Nat.reduceAdd, Nat.reduceMul, Nat.reduceSub, Nat.reduceLT, Nat.reduceLeDiff, Nat.reducePow, Int.reduceLT, Int.reduceLE, Int.reduceNeg, Int.reduceToNat]
    refine callK_intro c16 ?_
    simp (dsimp := false) (maxDischargeDepth := 16) only [go_sem, ↓reduceIte, reduceCtorEq, Nat.reduceEqDiff, Nat.reduceAdd, Nat.reduceMul, Nat.reduceSub, Nat.reduceLT, Nat.reduceLeDiff, Nat.reducePow, Int.reduceLT, Int.reduceLE, Int.reduceNeg, Int.reduceToNat]
    refine callK_intro H1 ?_
    simp (dsimp := false) (maxDischargeDepth := 16) only [go_sem, ↓reduceIte, reduceCtorEq, Nat.reduceEqDiff, Nat.reduceAdd, Nat.reduceMul, Nat.reduceSub, Nat.reduceLT, Nat.reduceLeDiff, Nat.reducePow, Int.reduceLT, Int.reduceLE, Int.reduceNeg, Int.reduceToNat]
    refine callK_intro c16 ?_
    simp (dsimp := false) (maxDischargeDepth := 16) only [go_sem, ↓reduceIte, reduceCtorEq, Nat.reduceEqDiff, Nat.reduceAdd, Nat.reduceMul, Nat.reduceSub, Nat.reduceLT, Nat.reduceLeDiff, Nat.reducePow, Int.reduceLT, Int.reduceLE, Int.reduceNeg, Int.reduceToNat]
    exact finB rfl
  | true =>
  by_cases q1 : a.n.length ≤ 4
  rotate_left
  · have q1' : (4 : Int) < a.n.length := by omega
    refine conT (X := [(12, [12], [])]) (rs := [.tmp 6]) Try.func9 (by kernel_rfl) rfl rfl (by kernel_rfl) ?_
    simp (dsimp := false) (maxDischargeDepth := 16) only [go_sem, ↓reduceIte, reduceCtorEq, Nat.reduceEqDiff, Nat.reduceAdd, Nat.reduceMul, Nat.reduceSub, Nat.reduceLT, Nat.reduceLeDiff, Nat.reducePow, Int.reduceLT, Int.reduceLE, Int.reduceNeg, Int.reduceToNat]
    refine callK_intro c16 ?_
    simp (dsimp := false) (maxDischargeDepth := 16) only [go_sem, ↓reduceIte, reduceCtorEq, Nat.reduceEqDiff, Nat.reduceAdd, Nat.reduceMul, Nat.reduceSub, Nat.reduceLT, Nat.reduceLeDiff, Nat.reducePow, Int.reduceLT, Int.reduceLE, Int.reduceNeg, Int.reduceToNat]
    refine callK_intro H1 ?_
    simp (dsimp := false) (maxDischargeDepth := 16) only [go_sem, ↓reduceIte, reduceCtorEq, Nat.reduceEqDiff, Nat.reduceAdd, Nat.reduceMul, Nat.reduceSub, Nat.reduceLT, Nat.reduceLeDiff, Nat.reducePow, Int.reduceLT, Int.reduceLE, Int.reduceNeg, Int.reduceToNat]
    refine callK_intro H2 ?_
    simp (dsimp := false) (maxDischargeDepth := 16) only [go_sem, ↓reduceIte, reduceCtorEq, Nat.reduceEqDiff, Nat.reduceAdd, Nat.reduceMul, Nat.reduceSub, Nat.reduceLT, Nat.reduceLeDiff, Nat.reducePow, Int.reduceLT, Int.reduceLE, Int.reduceNeg, Int.reduceToNat]
    refine callK_intro H3 ?_
    simp (dsimp := false) (maxDischargeDepth := 16) only [go_sem, ↓reduceIte, reduceCtorEq, Nat.reduceEqDiff, Nat.reduceAdd, Nat.reduceMul, Nat.reduceSub, Nat.reduceLT, Nat.reduceLeDiff, Nat.reducePow, Int.reduceLT, Int.reduceLE, Int.reduceNeg, Int.reduceToNat]
    refine callK_intro H4 ?_
    simp (dsimp := false) (maxDischargeDepth := 16) only [go_sem, ↓reduceIte, reduceCtorEq, Nat.reduceEqDiff, Nat.reduceAdd, Nat.reduceMul, Nat.reduceSub, Nat.reduceLT, Nat.reduceLeDiff, Nat.reducePow, Int.reduceLT, Int.reduceLE, Int.reduceNeg, Int.reduceToNat, q1']
    exact finB rfl
  by_cases q2 : b.n.length ≤ 4
  rotate_left
  · have q1' : ¬ ((a.n.length : Int) > 4) := by omega
    have q2' : ((b.n.length : Int) > 4) := by omega
    refine conT (X := [(12, [12], [])]) (rs := [.tmp 6]) Try.func9 (by kernel_rfl) rfl rfl (by kernel_rfl) ?_
    simp (dsimp := false) (maxDischargeDepth := 16) only [go_sem, ↓reduceIte, reduceCtorEq, Nat.reduceEqDiff, Nat.reduceAdd, Nat.reduceMul, Nat.reduceSub, Nat.reduceLT, Nat.reduceLeDiff, Nat.reducePow, Int.reduceLT, Int.reduceLE, Int.reduceNeg, Int.reduceToNat]
    refine callK_intro c16 ?_
    simp (dsimp := false) (maxDischargeDepth := 16) only [go_sem, ↓reduceIte, reduceCtorEq, Nat.reduceEqDiff, Nat.reduceAdd, Nat.reduceMul, Nat.reduceSub, Nat.reduceLT, Nat.reduceLeDiff, Nat.reducePow, Int.reduceLT, Int.reduceLE, Int.reduceNeg, Int.reduceToNat]
    refine callK_intro H1 ?_
    simp (dsimp := false) (maxDischargeDepth := 16) only [go_sem, ↓reduceIte, reduceCtorEq, Nat.reduceEqDiff, Nat.reduceAdd, Nat.reduceMul, Nat.reduceSub, Nat.reduceLT, Nat.reduceLeDiff, Nat.reducePow, Int.reduceLT, Int.reduceLE, Int.reduceNeg, Int.reduceToNat]
    refine callK_intro H2 ?_
    simp (dsimp := false) (maxDischargeDepth := 16) only [go_sem, ↓reduceIte, reduceCtorEq, Nat.reduceEqDiff, Nat.reduceAdd, Nat.reduceMul, Nat.reduceSub, Nat.reduceLT, Nat.reduceLeDiff, Nat.reducePow, Int.reduceLT, Int.reduceLE, Int.reduceNeg, Int.reduceToNat]
    refine callK_intro H3 ?_
    simp (dsimp := false) (maxDischargeDepth := 16) only [go_sem, ↓reduceIte, reduceCtorEq, Nat.reduceEqDiff, Nat.reduceAdd, Nat.reduceMul, Nat.reduceSub, Nat.reduceLT, Nat.reduceLeDiff, Nat.reducePow, Int.reduceLT, Int.reduceLE, Int.reduceNeg, Int.reduceToNat]
    refine callK_intro H4 ?_
    simp (dsimp := false) (maxDischargeDepth := 16) only [go_sem, ↓reduceIte, reduceCtorEq, Nat.reduceEqDiff, Nat.reduceAdd, Nat.reduceMul, Nat.reduceSub, Nat.reduceLT, Nat.reduceLeDiff, Nat.reducePow, Int.reduceLT, Int.reduceLE, Int.reduceNeg, Int.reduceToNat]
    refine condK_dec (fun q3 => absurd q3 q1') (fun q3 => ?_)
    simp (dsimp := false) (maxDischargeDepth := 16) only [go_sem, ↓reduceIte, reduceCtorEq, Nat.reduceEqDiff, Nat.reduceAdd, Nat.reduceMul, Nat.reduceSub, Nat.reduceLT, Nat.reduceLeDiff, Nat.reducePow, Int.reduceLT, Int.reduceLE, Int.reduceNeg, Int.reduceToNat, q3]
    refine condK_dec (fun q4 => ?_) (fun q4 => absurd q2' q4)
    simp (dsimp := false) (maxDischargeDepth := 16) only [go_sem, ↓reduceIte, reduceCtorEq, Nat.reduceEqDiff, Nat.reduceAdd, Nat.reduceMul, Nat.reduceSub, Nat.reduceLT, Nat.reduceLeDiff, Nat.reducePow, Int.reduceLT, Int.reduceLE, Int.reduceNeg, Int.reduceToNat, q3, q4]
    exact finB rfl
  have q1' : ¬ ((a.n.length : Int) > 4) := by omega
  have q2' : ¬ ((b.n.length : Int) > 4) := by omega
  have e6 := e6 (by omega)
  by_cases hbig : 2000 < (ovP a b).length
  · rw [if_pos hbig] at e6
    rw [e6] at H6
    refine conT (X := [(12, [12], [])]) (rs := [.tmp 6]) Try.func9 (by kernel_rfl) rfl rfl (by kernel_rfl) ?_
    simp (dsimp := false) (maxDischargeDepth := 16) only [go_sem, ↓reduceIte, reduceCtorEq, Nat.reduceEqDiff, Nat.reduceAdd, Nat.reduceMul, Nat.reduceSub, Nat.reduceLT, Nat.reduceLeDiff, Nat.reducePow, Int.reduceLT, Int.reduceLE, Int.reduceNeg, Int.reduceToNat]
    refine callK_intro c16 ?_
    simp (dsimp := false) (maxDischargeDepth := 16) only [go_sem, ↓reduceIte, reduceCtorEq, Nat.reduceEqDiff, Nat.reduceAdd, Nat.reduceMul, Nat.reduceSub, Nat.reduceLT, Nat.reduceLeDiff, Nat.reducePow, Int.reduceLT, Int.reduceLE, Int.reduceNeg, Int.reduceToNat]
    refine callK_intro H1 ?_
    simp (dsimp := false) (maxDischargeDepth := 16) only [go_sem, ↓reduceIte, reduceCtorEq, Nat.reduceEqDiff, Nat.reduceAdd, Nat.reduceMul, Nat.reduceSub, Nat.reduceLT, Nat.reduceLeDiff, Nat.reducePow, Int.reduceLT, Int.reduceLE, Int.reduceNeg, Int.reduceToNat]
    refine callK_intro H2 ?_
    simp (dsimp := false) (maxDischargeDepth := 16) only [go_sem, ↓reduceIte, reduceCtorEq, Nat.reduceEqDiff, Nat.reduceAdd, Nat.reduceMul, Nat.reduceSub, Nat.reduceLT, Nat.reduceLeDiff, Nat.reducePow, Int.reduceLT, Int.reduceLE, Int.reduceNeg, Int.reduceToNat]
    refine callK_intro H3 ?_
    simp (dsimp := false) (maxDischargeDepth := 16) only [go_sem, ↓reduceIte, reduceCtorEq, Nat.reduceEqDiff, Nat.reduceAdd, Nat.reduceMul, Nat.reduceSub, Nat.reduceLT, Nat.reduceLeDiff, Nat.reducePow, Int.reduceLT, Int.reduceLE, Int.reduceNeg, Int.reduceToNat]
    refine callK_intro H4 ?_
    simp (dsimp := false) (maxDischargeDepth := 16) only [go_sem, ↓reduceIte, reduceCtorEq, Nat.reduceEqDiff, Nat.reduceAdd, Nat.reduceMul, Nat.reduceSub, Nat.reduceLT, Nat.reduceLeDiff, Nat.reducePow, Int.reduceLT, Int.reduceLE, Int.reduceNeg, Int.reduceToNat]
    refine condK_dec (fun q3 => absurd q3 q1') (fun q3 => ?_)
    simp (dsimp := false) (maxDischargeDepth := 16) only [go_sem, ↓reduceIte, reduceCtorEq, Nat.reduceEqDiff, Nat.reduceAdd, Nat.reduceMul, Nat.reduceSub, Nat.reduceLT, Nat.reduceLeDiff, Nat.reducePow, Int.reduceLT, Int.reduceLE, Int.reduceNeg, Int.reduceToNat, q3]
    refine condK_dec (fun q4 => absurd q4 q2') (fun q4 => ?_)
    simp (dsimp := false) (maxDischargeDepth := 16) only [go_sem, ↓reduceIte, reduceCtorEq, Nat.reduceEqDiff, Nat.reduceAdd, Nat.reduceMul, Nat.reduceSub, Nat.reduceLT, Nat.reduceLeDiff, Nat.reducePow, Int.reduceLT, Int.reduceLE, Int.reduceNeg, Int.reduceToNat, q3, q4]
    refine callK_intro H5 ?_
    simp (dsimp := false) (maxDischargeDepth := 16) only [go_sem, ↓reduceIte, reduceCtorEq, Nat.reduceEqDiff, Nat.reduceAdd, Nat.reduceMul, Nat.reduceSub, Nat.reduceLT, Nat.reduceLeDiff, Nat.reducePow, Int.reduceLT, Int.reduceLE, Int.reduceNeg, Int.reduceToNat, q3, q4]
    refine callK_intro H6 ?_
    simp (dsimp := false) (maxDischargeDepth := 16) only [go_sem, ↓reduceIte, reduceCtorEq, Nat.reduceEqDiff, Nat.reduceAdd, Nat.reduceMul, Nat.reduceSub, Nat.reduceLT, Nat.reduceLeDiff, Nat.reducePow, Int.reduceLT, Int.reduceLE, Int.reduceNeg, Int.reduceToNat, q3, q4]
    refine condK_intro (fun q5 => absurd q5 (by decide)) (fun q5 => ?_)
    simp (dsimp := false) (maxDischargeDepth := 16) only [go_sem, ↓reduceIte, reduceCtorEq, Nat.reduceEqDiff, Nat.reduceAdd, Nat.reduceMul, Nat.reduceSub, Nat.reduceLT, Nat.reduceLeDiff, Nat.reducePow, Int.reduceLT, Int.reduceLE, Int.reduceNeg, Int.reduceToNat, q3, q4, q5]
    refine condK_intro (fun q6 => ?_) (fun q6 => absurd q6 (by decide))
    simp (dsimp := false) (maxDischargeDepth := 16) only [go_sem, ↓reduceIte, reduceCtorEq, Nat.reduceEqDiff, Nat.reduceAdd, Nat.reduceMul, Nat.reduceSub, Nat.reduceLT, Nat.reduceLeDiff, Nat.reducePow, Int.reduceLT, Int.reduceLE, Int.reduceNeg, Int.reduceToNat, q3, q4, q5, q6]
    refine condK_intro (fun q7 => ?_) (fun q7 => absurd q7 (by decide))
    simp (dsimp := false) (maxDischargeDepth := 16) only [go_sem, ↓reduceIte, reduceCtorEq, Nat.reduceEqDiff, Nat.reduceAdd, Nat.reduceMul, Nat.reduceSub, Nat.reduceLT, Nat.reduceLeDiff, Nat.reducePow, Int.reduceLT, Int.reduceLE, Int.reduceNeg, Int.reduceToNat, q3, q4, q5, q6, q7]
    exact finB rfl
  · rw [if_neg hbig] at e6
    rw [e6] at H6
    have H7 := c43 ((ovP a b).map fun p => glue a b p.1 p.2) 44 [.ptr (ocs O)] (fun x => decide (x = O)) (by simp; omega) (fun x _ => c44 x O)
    have e7 : (((ovP a b).map fun p => glue a b p.1 p.2).any fun x => decide (x = O)) = true := by
      rw [List.any_eq_true]
      exact ⟨O, List.mem_map.2 ⟨_, hin, hO⟩, by simp⟩
    rw [e7] at H7
    generalize (ovP a b).map (fun p => glue a b p.1 p.2) = L at *
    refine conT (X := [(12, [12], [])]) (rs := [.tmp 6]) Try.func9 (by kernel_rfl) rfl rfl (by kernel_rfl) ?_
    simp (dsimp := false) (maxDischargeDepth := 16) only [go_sem, ↓reduceIte, reduceCtorEq, Nat.reduceEqDiff, Nat.reduceAdd, Nat.reduceMul, Nat.reduceSub, Nat.reduceLT, Nat.reduceLeDiff, Nat.reducePow, Int.reduceLT, Int.reduceLE, Int.reduceNeg, Int.reduceToNat]
    refine callK_intro c16 ?_
    simp (dsimp := false) (maxDischargeDepth := 16) only [go_sem, ↓reduceIte, reduceCtorEq, Nat.reduceEqDiff, Nat.reduceAdd, Nat.reduceMul, Nat.reduceSub, Nat.reduceLT, Nat.reduceLeDiff, Nat.reducePow, Int.reduceLT, Int.reduceLE, Int.reduceNeg, Int.reduceToNat]
    refine callK_intro H1 ?_
    simp (dsimp := false) (maxDischargeDepth := 16) only [go_sem, ↓reduceIte, reduceCtorEq, Nat.reduceEqDiff, Nat.reduceAdd, Nat.reduceMul, Nat.reduceSub, Nat.reduceLT, Nat.reduceLeDiff, Nat.reducePow, Int.reduceLT, Int.reduceLE, Int.reduceNeg, Int.reduceToNat]
    refine callK_intro H2 ?_
    simp (dsimp := false) (maxDischargeDepth := 16) only [go_sem, ↓reduceIte, reduceCtorEq, Nat.reduceEqDiff, Nat.reduceAdd, Nat.reduceMul, Nat.reduceSub, Nat.reduceLT, Nat.reduceLeDiff, Nat.reducePow, Int.reduceLT, Int.reduceLE, Int.reduceNeg, Int.reduceToNat]
    refine callK_intro H3 ?_
    simp (dsimp := false) (maxDischargeDepth := 16) only [go_sem, ↓reduceIte, reduceCtorEq, Nat.reduceEqDiff, Nat.reduceAdd, Nat.reduceMul, Nat.reduceSub, Nat.reduceLT, Nat.reduceLeDiff, Nat.reducePow, Int.reduceLT, Int.reduceLE, Int.reduceNeg, Int.reduceToNat]
    refine callK_intro H4 ?_
    simp (dsimp := false) (maxDischargeDepth := 16) only [go_sem, ↓reduceIte, reduceCtorEq, Nat.reduceEqDiff, Nat.reduceAdd, Nat.reduceMul, Nat.reduceSub, Nat.reduceLT, Nat.reduceLeDiff, Nat.reducePow, Int.reduceLT, Int.reduceLE, Int.reduceNeg, Int.reduceToNat]
    refine condK_dec (fun q3 => absurd q3 q1') (fun q3 => ?_)
    simp (dsimp := false) (maxDischargeDepth := 16) only [go_sem, ↓reduceIte, reduceCtorEq, Nat.reduceEqDiff, Nat.reduceAdd, Nat.reduceMul, Nat.reduceSub, Nat.reduceLT, Nat.reduceLeDiff, Nat.reducePow, Int.reduceLT, Int.reduceLE, Int.reduceNeg, Int.reduceToNat, q3]
    refine condK_dec (fun q4 => absurd q4 q2') (fun q4 => ?_)
    simp (dsimp := false) (maxDischargeDepth := 16) only [go_sem, ↓reduceIte, reduceCtorEq, Nat.reduceEqDiff, Nat.reduceAdd, Nat.reduceMul, Nat.reduceSub, Nat.reduceLT, Nat.reduceLeDiff, Nat.reducePow, Int.reduceLT, Int.reduceLE, Int.reduceNeg, Int.reduceToNat, q3, q4]
    refine callK_intro H5 ?_
    simp (dsimp := false) (maxDischargeDepth := 16) only [go_sem, ↓reduceIte, reduceCtorEq, Nat.reduceEqDiff, Nat.reduceAdd, Nat.reduceMul, Nat.reduceSub, Nat.reduceLT, Nat.reduceLeDiff, Nat.reducePow, Int.reduceLT, Int.reduceLE, Int.reduceNeg, Int.reduceToNat, q3, q4]
    refine callK_intro H6 ?_
    simp (dsimp := false) (maxDischargeDepth := 16) only [go_sem, ↓reduceIte, reduceCtorEq, Nat.reduceEqDiff, Nat.reduceAdd, Nat.reduceMul, Nat.reduceSub, Nat.reduceLT, Nat.reduceLeDiff, Nat.reducePow, Int.reduceLT, Int.reduceLE, Int.reduceNeg, Int.reduceToNat, q3, q4]
    refine condK_intro (fun q5 => absurd q5 (by decide)) (fun q5 => ?_)
    simp (dsimp := false) (maxDischargeDepth := 16) only [go_sem, ↓reduceIte, reduceCtorEq, Nat.reduceEqDiff, Nat.reduceAdd, Nat.reduceMul, Nat.reduceSub, Nat.reduceLT, Nat.reduceLeDiff, Nat.reducePow, Int.reduceLT, Int.reduceLE, Int.reduceNeg, Int.reduceToNat, q3, q4, q5]
    refine callK_intro H7 ?_
    simp (dsimp := false) (maxDischargeDepth := 16) only [go_sem, ↓reduceIte, reduceCtorEq, Nat.reduceEqDiff, Nat.reduceAdd, Nat.reduceMul, Nat.reduceSub, Nat.reduceLT, Nat.reduceLeDiff, Nat.reducePow, Int.reduceLT, Int.reduceLE, Int.reduceNeg, Int.reduceToNat, q3, q4, q5]
    exact finB rfl
end Go.Sy

/- Plain law: the factorization of a morphism. -/
namespace Go.Sy
open Go Go.Proofs

theorem pw_ext : ∀ {l k : List Int}, l.Pairwise (· < ·) → k.Pairwise (· < ·) → (∀ x, x ∈ l ↔ x ∈ k) → l = k
  | [], [], _, _, _ => rfl
  | [], y :: k, _, _, h => by have := (h y).2 (by simp); simp at this
  | x :: l, [], _, _, h => by have := (h x).1 (by simp); simp at this
  | x :: l, y :: k, h1, h2, h => by
    obtain ⟨a1, a2⟩ := List.pairwise_cons.1 h1
    obtain ⟨b1, b2⟩ := List.pairwise_cons.1 h2
    have e : x = y := by
      rcases List.mem_cons.1 ((h x).1 (by simp)) with e | e
      · exact e
      · rcases List.mem_cons.1 ((h y).2 (by simp)) with e' | e'
        · exact e'.symm
        · have := b1 x e
          have := a1 y e'
          omega
    subst e
    rw [pw_ext a2 b2 fun z => ?_]
    constructor
    · intro hz
      rcases List.mem_cons.1 ((h z).1 (by simp [hz])) with e | e
      · have := a1 z hz
        omega
      · exact e
    · intro hz
      rcases List.mem_cons.1 ((h z).2 (by simp [hz])) with e | e
      · have := b1 z hz
        omega
      · exact e
def has (l : List Int) (i : Nat) : Bool := l.contains (i : Int)
theorem has_iff {l : List Int} {i : Nat} : has l i = true ↔ (i : Int) ∈ l := by simp [has]
theorem selN_pw (p : Nat → Bool) (n : Nat) : (selN p n).Pairwise (· < ·) := by
  rw [selN, List.pairwise_map]
  exact (List.pairwise_lt_range.filter p).imp fun h => by omega
theorem mem_selN {p : Nat → Bool} {n : Nat} {x : Int} : x ∈ selN p n ↔ ∃ j : Nat, x = (j : Int) ∧ j < n ∧ p j = true := by
  rw [selN, List.mem_map]
  constructor
  · rintro ⟨j, hj, rfl⟩
    exact ⟨j, rfl, sel_mem.1 hj⟩
  · rintro ⟨j, rfl, hj⟩
    exact ⟨j, sel_mem.2 hj, rfl⟩
theorem sq_sel {l : List Int} {n : Nat} (h : ∀ x ∈ l, 0 ≤ x ∧ x < n) : sq l = selN (has l) n := by
  refine pw_ext (sq_pw l) (selN_pw _ _) fun x => ?_
  rw [mem_sq, mem_selN]
  constructor
  · intro hx
    have := h x hx
    refine ⟨x.toNat, by omega, by omega, ?_⟩
    rw [has_iff, Int.toNat_of_nonneg this.1]
    exact hx
  · rintro ⟨j, rfl, _, hj⟩
    exact has_iff.1 hj
/-- The place of a number among those chosen. -/
def rk (p : Nat → Bool) (x : Int) : Int := ((sel p x.toNat).length : Int)
theorem rk_at {p : Nat → Bool} {n j : Nat} (hj : j < n) (hp : p j = true) : rk p j < (sel p n).length ∧ (selN p n).getD (rk p j).toNat 0 = (j : Int) := by
  have h := sel_place hp hj
  have hl := (List.getElem?_eq_some_iff.1 h).1
  have e : (rk p (j : Int)).toNat = (sel p j).length := by simp [rk]
  refine ⟨by simp only [rk, Int.toNat_natCast]; omega, ?_⟩
  rw [e, selN, List.getD_eq_getElem?_getD, List.getElem?_map, h]
  rfl
theorem idx_rk {p : Nat → Bool} {n : Nat} {x : Int} (h0 : 0 ≤ x) (h1 : x < n) (hp : p x.toNat = true) : idxP (fun y => x == y) (selN p n) = rk p x := by
  obtain ⟨j, rfl⟩ := Int.eq_ofNat_of_zero_le h0
  rw [Int.toNat_natCast] at hp
  have hj : j < n := by omega
  obtain ⟨r1, r2⟩ := rk_at hj hp
  have hr : 0 ≤ rk p j := by simp [rk]
  rcases idxP_cases (fun y => (j : Int) == y) (selN p n) with ⟨_, h2⟩ | ⟨k, hk, h2, h3⟩
  · have := h2 (j : Int) (mem_selN.2 ⟨j, rfl, hj, hp⟩)
    simp at this
  · rw [h2]
    have e : (selN p n).getD k 0 = (j : Int) := by rw [getD_at hk]; exact (beq_iff_eq.1 h3).symm
    have := dist_at (selN_dist p n) hk (show (rk p j).toNat < (selN p n).length by rw [selN_len]; omega) (by rw [e, r2])
    omega
def facG (b : Gr) (p q : Nat → Bool) : Gr :=
  ⟨(sel p b.n.length).map fun i => b.n.getD i 0, (sel q b.e.length).map fun i => ((b.e.getD i (0, 0, 0)).1, rk p (b.e.getD i (0, 0, 0)).2.1, rk p (b.e.getD i (0, 0, 0)).2.2)⟩
def facR (a b : Gr) (m : Mo) : Gr × Mo × Mo × Int := if mErr a b m ≠ 0 then (⟨[], []⟩, ⟨[], []⟩, ⟨[], []⟩, mErr a b m) else
  (facG b (has m.n) (has m.e), ⟨m.n.map (rk (has m.n)), m.e.map (rk (has m.e))⟩, ⟨selN (has m.n) b.n.length, selN (has m.e) b.e.length⟩, 0)
/-- The ends of a morphism's edges are nodes of its. -/
theorem im_ends {a b : Gr} {m : Mo} (h : mErr a b m = 0) {i : Nat} (hi : i < b.e.length) (hq : has m.e i = true) : 0 ≤ (b.e.getD i (0, 0, 0)).2.1 ∧ (b.e.getD i (0, 0, 0)).2.1 < b.n.length ∧ has m.n (b.e.getD i (0, 0, 0)).2.1.toNat = true ∧
    0 ≤ (b.e.getD i (0, 0, 0)).2.2 ∧ (b.e.getD i (0, 0, 0)).2.2 < b.n.length ∧ has m.n (b.e.getD i (0, 0, 0)).2.2.toNat = true := by
  have o := mErr_ok h
  have r := edge_in o.2.1 hi
  obtain ⟨j, hj, e⟩ := List.mem_iff_getElem.1 (has_iff.1 hq)
  have n := mErr_edge h (show j < a.e.length by omega)
  rw [getD_at hj, e, Int.toNat_natCast] at n
  have r2 := edge_in o.1 (show j < a.e.length by omega)
  refine ⟨r.1, r.2.1, ?_, r.2.2.1, r.2.2.2, ?_⟩
  · rw [has_iff, Int.toNat_of_nonneg r.1, ← n.2.2.2.1, getD_at (by omega)]
    exact List.getElem_mem _
  · rw [has_iff, Int.toNat_of_nonneg r.2.2.1, ← n.2.2.2.2, getD_at (by omega)]
    exact List.getElem_mem _
/-- How the program puts it. -/
def facP (b : Gr) (m : Mo) : Gr × Mo × Mo :=
  (⟨(sq m.n).map fun x => b.n.getD x.toNat 0, (sq m.e).map fun x => ((b.e.getD x.toNat (0, 0, 0)).1, idxP (fun y => (b.e.getD x.toNat (0, 0, 0)).2.1 == y) (sq m.n), idxP (fun y => (b.e.getD x.toNat (0, 0, 0)).2.2 == y) (sq m.n))⟩,
    ⟨plc (sq m.n) m.n, plc (sq m.e) m.e⟩, ⟨sq m.n, sq m.e⟩)
theorem facP_eq {a b : Gr} {m : Mo} (h : mErr a b m = 0) : facR a b m = ((facP b m).1, (facP b m).2.1, (facP b m).2.2, 0) := by
  have r := mErr_rng h
  rw [facR, if_neg (by simp [h])]
  unfold facP
  rw [sq_sel r.1, sq_sel r.2]
  have hn : m.n.map (rk (has m.n)) = plc (selN (has m.n) b.n.length) m.n := by
    unfold plc
    refine List.map_congr_left fun x hx => ?_
    have := r.1 x hx
    rw [idx_rk this.1 this.2]
    rw [has_iff, Int.toNat_of_nonneg this.1]
    exact hx
  have he : m.e.map (rk (has m.e)) = plc (selN (has m.e) b.e.length) m.e := by
    unfold plc
    refine List.map_congr_left fun x hx => ?_
    have := r.2 x hx
    rw [idx_rk this.1 this.2]
    rw [has_iff, Int.toNat_of_nonneg this.1]
    exact hx
  rw [hn, he]
  unfold facG
  have e1 : (selN (has m.n) b.n.length).map (fun x => b.n.getD x.toNat 0) = (sel (has m.n) b.n.length).map fun i => b.n.getD i 0 := by
    rw [selN, List.map_map]
    refine List.map_congr_left fun i _ => ?_
    simp
  have e2 : (selN (has m.e) b.e.length).map (fun x => ((b.e.getD x.toNat (0, 0, 0)).1, idxP (fun y => (b.e.getD x.toNat (0, 0, 0)).2.1 == y) (selN (has m.n) b.n.length), idxP (fun y => (b.e.getD x.toNat (0, 0, 0)).2.2 == y) (selN (has m.n) b.n.length))) =
      (sel (has m.e) b.e.length).map fun i => ((b.e.getD i (0, 0, 0)).1, rk (has m.n) (b.e.getD i (0, 0, 0)).2.1, rk (has m.n) (b.e.getD i (0, 0, 0)).2.2) := by
    rw [show selN (has m.e) b.e.length = (sel (has m.e) b.e.length).map fun (j : Nat) => (j : Int) from rfl, List.map_map]
    refine List.map_congr_left fun i hi => ?_
    obtain ⟨h1, h2⟩ := sel_mem.1 hi
    obtain ⟨a1, a2, a3, a4, a5, a6⟩ := im_ends h h1 h2
    simp only [Function.comp_apply, Int.toNat_natCast]
    rw [idx_rk a1 a2 a3, idx_rk a4 a5 a6]
  rw [e1, e2]
/-! ### Onto -/
def covB (l : List Int) (n : Nat) : Bool := (List.range n).all fun k => l.contains (k : Int)
def surR (a b : Gr) (m : Mo) : Bool := mErr a b m == 0 && (covB m.n b.n.length && covB m.e b.e.length)
theorem rk_cov {l : List Int} {n : Nat} (h : ∀ x ∈ l, 0 ≤ x ∧ x < n) : covB (l.map (rk (has l))) (sel (has l) n).length = true := by
  rw [covB, List.all_eq_true]
  intro k hk
  have hk := List.mem_range.1 hk
  obtain ⟨h1, h2⟩ := sel_mem.1 (List.getElem_mem hk)
  rw [List.contains_iff_mem, List.mem_map]
  refine ⟨_, has_iff.1 h2, ?_⟩
  obtain ⟨r1, r2⟩ := rk_at h1 h2
  have hr : 0 ≤ rk (has l) ((sel (has l) n)[k] : Nat) := by simp [rk]
  have e : (selN (has l) n).getD k 0 = (((sel (has l) n)[k] : Nat) : Int) := by
    rw [getD_at (by rw [selN_len]; exact hk)]
    simp [selN]
  have := dist_at (selN_dist (has l) n) (show k < (selN (has l) n).length by rw [selN_len]; exact hk) (show (rk (has l) ((sel (has l) n)[k] : Nat)).toNat < (selN (has l) n).length by rw [selN_len]; omega) (by rw [e, r2])
  omega
theorem rk_thr {l : List Int} {n : Nat} (h : ∀ x ∈ l, 0 ≤ x ∧ x < n) : thr (l.map (rk (has l))) (selN (has l) n) = l := by
  rw [thr, List.map_map]
  conv => rhs; rw [← List.map_id l]
  refine List.map_congr_left fun x hx => ?_
  have hx' := h x hx
  obtain ⟨j, rfl⟩ := Int.eq_ofNat_of_zero_le hx'.1
  exact (rk_at (show j < n by omega) (has_iff.2 hx)).2
theorem facR_ok {a b : Gr} {m : Mo} (h : mErr a b m = 0) : cmpR a (facG b (has m.n) (has m.e)) b ⟨m.n.map (rk (has m.n)), m.e.map (rk (has m.e))⟩ ⟨selN (has m.n) b.n.length, selN (has m.e) b.e.length⟩ = (m, 0) ∧
    surR a (facG b (has m.n) (has m.e)) ⟨m.n.map (rk (has m.n)), m.e.map (rk (has m.e))⟩ = true ∧ injR (facG b (has m.n) (has m.e)) b ⟨selN (has m.n) b.n.length, selN (has m.e) b.e.length⟩ = true := by
  have o := mErr_ok h
  have r := mErr_rng h
  have gb := gErr_small o.2.1
  have s1 := sel_le (has m.n) b.n.length
  have s2 := sel_le (has m.e) b.e.length
  generalize hp : has m.n = p at *
  generalize hq : has m.e = q at *
  have l1 : (facG b p q).n.length = (sel p b.n.length).length := by simp [facG]
  have l2 : (facG b p q).e.length = (sel q b.e.length).length := by simp [facG]
  have ends := fun i h1 h2 => im_ends (i := i) h h1 h2
  rw [hp, hq] at ends
  have ne : ∀ i : Nat, i < (sel p b.n.length).length → ∃ j : Nat, j < b.n.length ∧ p j = true ∧ (sel p b.n.length)[i]? = some j ∧ (facG b p q).n.getD i 0 = b.n.getD j 0 ∧ (selN p b.n.length).getD i 0 = (j : Int) := fun i hi => by
    obtain ⟨h1, h2⟩ := sel_mem.1 (List.getElem_mem hi)
    refine ⟨_, h1, h2, List.getElem?_eq_getElem hi, ?_, ?_⟩
    · rw [getD_at (by omega)]
      simp [facG]
    · rw [getD_at (by rw [selN_len]; exact hi)]
      simp [selN]
  have ee : ∀ i : Nat, i < (sel q b.e.length).length → ∃ j : Nat, j < b.e.length ∧ q j = true ∧ (facG b p q).e.getD i (0, 0, 0) = ((b.e.getD j (0, 0, 0)).1, rk p (b.e.getD j (0, 0, 0)).2.1, rk p (b.e.getD j (0, 0, 0)).2.2) ∧ (selN q b.e.length).getD i 0 = (j : Int) := fun i hi => by
    obtain ⟨h1, h2⟩ := sel_mem.1 (List.getElem_mem hi)
    refine ⟨_, h1, h2, ?_, ?_⟩
    · rw [getD_at (by omega)]
      simp [facG]
    · rw [getD_at (by rw [selN_len]; exact hi)]
      simp [selN]
  have rkI : ∀ x : Int, 0 ≤ x → x < b.n.length → p x.toNat = true → 0 ≤ rk p x ∧ rk p x < (sel p b.n.length).length ∧ (selN p b.n.length).getD (rk p x).toNat 0 = x := fun x x0 x1 x2 => by
    obtain ⟨j, rfl⟩ := Int.eq_ofNat_of_zero_le x0
    obtain ⟨r1, r2⟩ := rk_at (show j < b.n.length by omega) (by simpa using x2)
    exact ⟨by simp [rk], r1, r2⟩
  have rkQ : ∀ x : Int, 0 ≤ x → x < b.e.length → q x.toNat = true → 0 ≤ rk q x ∧ rk q x < (sel q b.e.length).length ∧ (selN q b.e.length).getD (rk q x).toNat 0 = x := fun x x0 x1 x2 => by
    obtain ⟨j, rfl⟩ := Int.eq_ofNat_of_zero_le x0
    obtain ⟨r1, r2⟩ := rk_at (show j < b.e.length by omega) (by simpa using x2)
    exact ⟨by simp [rk], r1, r2⟩
  have gv : gErr (facG b p q) = 0 := by
    rw [gErr, if_pos (by omega), if_pos]
    refine ⟨fun t ht => ?_, fun x hx => ?_⟩
    · obtain ⟨j, hj, rfl⟩ := List.mem_map.1 ht
      have := (sel_mem.1 hj).1
      rw [getD_at this]
      exact gb.2.1 _ (List.getElem_mem this)
    · obtain ⟨j, hj, rfl⟩ := List.mem_map.1 hx
      obtain ⟨h1, h2⟩ := sel_mem.1 hj
      obtain ⟨a1, a2, a3, a4, a5, a6⟩ := ends j h1 h2
      have t := gb.2.2 _ (List.getElem_mem h1)
      rw [← getD_at h1 (d := (0, 0, 0))] at t
      have u1 := rkI _ a1 a2 a3
      have u2 := rkI _ a4 a5 a6
      unfold edOK
      rw [l1]
      exact ⟨t.1, u1.1, u1.2.1, u2.1, u2.2.1⟩
  -- into
  have m2 : mErr (facG b p q) b ⟨selN p b.n.length, selN q b.e.length⟩ = 0 := by
    refine mErr_zero gv o.2.1 (by rw [l1, selN_len]) (by rw [l2, selN_len]) (fun i hi => ?_) (fun i hi => ?_)
    · obtain ⟨j, j1, _, _, j3, j4⟩ := ne i (by omega)
      rw [nodeErr, j4, j3, if_neg (by omega), Int.toNat_natCast, if_neg (by simp)]
    · obtain ⟨j, j1, j2, j3, j4⟩ := ee i (by omega)
      obtain ⟨a1, a2, a3, a4, a5, a6⟩ := ends j j1 j2
      have u1 := rkI _ a1 a2 a3
      have u2 := rkI _ a4 a5 a6
      rw [edgeErr, j4, j3, if_neg (by omega), Int.toNat_natCast, if_neg (by simp)]
      dsimp only
      rw [u1.2.2, u2.2.2, if_neg (by simp)]
  -- onto
  have hmn : ∀ i, i < m.n.length → (m.n.map (rk p)).getD i 0 = rk p (m.n.getD i 0) := fun i hi => by rw [getD_at (by simpa using hi), getD_at hi, List.getElem_map]
  have hme : ∀ i, i < m.e.length → (m.e.map (rk q)).getD i 0 = rk q (m.e.getD i 0) := fun i hi => by rw [getD_at (by simpa using hi), getD_at hi, List.getElem_map]
  have pin : ∀ i, i < m.n.length → p (m.n.getD i 0).toNat = true := fun i hi => by
    have := r.1 _ (List.getElem_mem hi)
    rw [← hp, getD_at hi, has_iff, Int.toNat_of_nonneg this.1]
    exact List.getElem_mem hi
  have qin : ∀ i, i < m.e.length → q (m.e.getD i 0).toNat = true := fun i hi => by
    have := r.2 _ (List.getElem_mem hi)
    rw [← hq, getD_at hi, has_iff, Int.toNat_of_nonneg this.1]
    exact List.getElem_mem hi
  have m1 : mErr a (facG b p q) ⟨m.n.map (rk p), m.e.map (rk q)⟩ = 0 := by
    refine mErr_zero o.1 gv (by simpa using o.2.2.1) (by simpa using o.2.2.2.1) (fun i hi => ?_) (fun i hi => ?_)
    · have n := mErr_node h hi
      have u := rkI (m.n.getD i 0) n.1 (by omega) (pin i (by omega))
      obtain ⟨j, j1, j2, _, j3, j4⟩ := ne (rk p (m.n.getD i 0)).toNat (by omega)
      have e : (m.n.getD i 0).toNat = j := by rw [u.2.2] at j4; omega
      rw [nodeErr]
      dsimp only
      rw [hmn i (by omega), if_neg (by omega), j3, ← e, n.2.2, if_neg (by simp)]
    · have n := mErr_edge h hi
      have u := rkQ (m.e.getD i 0) n.1 (by omega) (qin i (by omega))
      obtain ⟨j, j1, j2, j3, j4⟩ := ee (rk q (m.e.getD i 0)).toNat (by omega)
      have e : (m.e.getD i 0).toNat = j := by rw [u.2.2] at j4; omega
      have ed := edge_in o.1 hi
      rw [edgeErr]
      dsimp only
      rw [hme i (by omega), if_neg (by omega), j3, ← e, if_neg (by rw [n.2.2.1]; simp), hmn _ (by omega), hmn _ (by omega), n.2.2.2.1, n.2.2.2.2, if_neg (by simp)]
  have t1 : thr (m.n.map (rk p)) (selN p b.n.length) = m.n := by rw [← hp]; exact rk_thr r.1
  have t2 : thr (m.e.map (rk q)) (selN q b.e.length) = m.e := by rw [← hq]; exact rk_thr r.2
  have c1 : covB (m.n.map (rk p)) (sel p b.n.length).length = true := by rw [← hp]; exact rk_cov r.1
  have c2 : covB (m.e.map (rk q)) (sel q b.e.length).length = true := by rw [← hq]; exact rk_cov r.2
  refine ⟨?_, ?_, ?_⟩
  · rw [cmpR, if_neg (by simp [m1]), if_neg (by simp [m2]), thn]
    dsimp only
    rw [t1, t2]
  · rw [surR, m1, l1, l2]
    dsimp only
    rw [c1, c2]
    rfl
  · rw [injR, m2]
    dsimp only
    rw [selN_dist, selN_dist]
    rfl
end Go.Sy

/- Walks through code that turns two lists of numbers which a box refers to: calls that only read such lists; calls that turn them. -/
namespace Go.Sy
open Go Go.RowKit

variable {N : Nat} {w0 : World} {C0 : CMap} {E : EX} {s : St} {a : Act} {w : World} {C : CMap} {ρ : RMap} {τ : TMap} {P : Program} {o : Oper} {e : Eff}

/-- What a call reads of a list that may still be written. -/
def thB (x : AV) (n sz : Nat) : Option Box → AV
  | some B => if n = B.c.length ∧ sz = 1 ∧ B.c.all clean = true then .list 1 (B.c.map fun y => [y]) .no else x
  | none => x
def thw (s : St) : AV → AV
  | .sl k n sz => thB (.sl k n sz) n sz (s.b k)
  | x => x

theorem endC_cw (h : RepG N w0 C0 E s a w C ρ τ) : CW (endC C ρ s w) w := by
  intro b o v hv
  rcases endC_cases hv with h1 | ⟨⟨k, B, hB, hρ⟩, hc⟩
  · exact h.cw _ _ _ h1
  · refine ⟨hc, ?_⟩
    obtain ⟨cs, ty, g1, g2, g3, g4⟩ := box_cells h hB hρ
    simp only [World.cell?, g1] at hc
    exact g3 o v hc

theorem thw_rv (h : RepG N w0 C0 E s a w C ρ τ) {v : Value} {x : AV} (hv : RV C ρ τ v x) (hc : cleanV (thw s x) = true) : RV (endC C ρ s w) noρ noτ v (thw s x) := by
  have base : cleanV x = true → RV (endC C ρ s w) noρ noτ v x := fun hx => (cleanV_rv hv hx).mono endC_ge (fun _ _ h => h) (fun _ _ h => h)
  cases x with
  | sl k n sz =>
    simp only [thw] at hc ⊢
    unfold thB at hc ⊢
    split at hc
    · rename_i B hB
      split at hc
      · rename_i hcnd
        rw [if_pos hcnd]
        obtain ⟨h1, rfl, h3⟩ := hcnd
        refine fin0_rv h hv (.inr ⟨k, n, 1, _, B, rfl, rfl, hB, ?_, by simp [h1], ?_, fun y hy => List.all_eq_true.1 h3 y hy⟩)
        · generalize B.c = l
          induction l with
          | nil => rfl
          | cons y l ih => simp only [List.map_cons, List.flatten_cons, List.singleton_append]; rw [← ih]
        · intro y hy
          obtain ⟨z, _, rfl⟩ := List.mem_map.1 hy
          rfl
      · cases hc
    · cases hc
  | _ => exact base hc

/-- A call that only reads, lists that may still be written among what it reads. -/
def stepT (P : Program) (s : St) (o : Oper) (K : St → Prop) : Prop := match o.op with
  | .call { callee := .value g, args, argTypes } => match s.o P 0 g with
    | .clo f caps => args.size ≤ argTypes.size ∧ ((argsAV P s args.toList argTypes.toList).map (thw s)).all cleanV = true ∧ ∃ d v, o.dst = some d ∧ Con P f ((argsAV P s args.toList argTypes.toList).map (thw s) ++ caps) 0 (.v v) ∧ K (s.set d (.v v))
    | _ => False
  | _ => False

theorem stepT_sound {Q : Exit → Act → World → Prop} {K : St → Prop} {KA : Act → World → Prop} (h : Rep N w0 C0 E s a w) (hN : ∀ d, o.dst = some d → d < N) (he : stepT P s o K)
    (hK : ∀ s' a' w', K s' → Rep N w0 C0 E s' a' w' → KA a' w') : o.wp P a w KA Q := by
  obtain ⟨C, ρ, τ, h⟩ := h
  unfold stepT at he
  split at he
  case h_2 => exact he.elim
  rename_i g args ts ho
  split at he
  case h_2 => exact he.elim
  rename_i f caps hg
  obtain ⟨hts, hcl, d, v, hd, hcon, hk⟩ := he
  have hgv := opnd (P := P) h 0 g
  rw [hg] at hgv
  have hfn : ∃ cs, a.eval g = .func (.func f) #[] cs ∧ cs.size = caps.length ∧ (∀ (i : Nat) (v : Value) (x : AV), cs[i]? = some v → caps[i]? = some x → RV C noρ noτ v x) := by
    generalize a.eval g = v at hgv
    cases hgv
    exact ⟨_, rfl, by assumption, by assumption⟩
  obtain ⟨cs, hfv, hcs1, hcs2⟩ := hfn
  have hrun : (execOp a.eval o).run P w = .ok (.enter f (args.map a.eval ++ cs)) w := by
    simp [execOp, ho, resolve, hfv, Deferred.ofValue, invoke, hcon.enters _ _]
  unfold Oper.wp
  rw [hrun]
  simp only [Oper.upon]
  have hlen : (argsAV P s args.toList ts.toList).length = args.size := by
    simp only [argsAV, List.length_zipWith, Array.length_toList]; omega
  refine (hcon.calls (endC C ρ s w) w (args.map a.eval ++ cs) (endC_cw h) (by simp [hlen, hcs1]) ?_).mono ?_
  · intro i v x hv hx
    by_cases hi : i < args.size
    · rw [Array.getElem?_append_left (by simpa using hi)] at hv
      rw [List.getElem?_append_left (by simp; omega)] at hx
      simp only [Array.getElem?_map] at hv
      obtain ⟨y, hy, rfl⟩ := Option.map_eq_some_iff.1 hv
      have hmem := List.mem_of_getElem? hx
      have hcx := List.all_eq_true.1 hcl x hmem
      simp only [List.getElem?_map] at hx
      obtain ⟨z, hz, rfl⟩ := Option.map_eq_some_iff.1 hx
      simp only [argsAV, List.getElem?_zipWith] at hz
      split at hz
      · rename_i y' t' hy' ht'
        cases hz
        simp only [Array.getElem?_toList] at hy'
        rw [hy] at hy'
        cases hy'
        exact thw_rv h (fgtV_rv (opnd h t' y)) hcx
      · cases hz
    · rw [Array.getElem?_append_right (by simp; omega)] at hv
      rw [List.getElem?_append_right (by simp; omega)] at hx
      simp only [Array.size_map, List.length_map, hlen] at hv hx
      exact (hcs2 _ _ _ hv hx).mono endC_ge (fun _ _ h => h) (fun _ _ h => h)
  · rintro e' w' ⟨u, C', τ', rfl, hb, _, _, _, hr, _⟩
    obtain ⟨rfl, h1⟩ := rv_v hr
    have h2 := h.same hb
    refine hK _ _ _ hk ⟨C, ρ, τ, ?_⟩
    rw [hd]
    exact h2.set d (hN d hd) (.v _ h1)

/-! ### Calls that turn two lists -/
def ints (l : List Int) : Array Value := (l.map fun n => Value.int .i64 n).toArray
theorem ints_size (l : List Int) : (ints l).size = l.length := by simp [ints]
theorem ints_at {l : List Int} {i : Nat} {v : Value} (h : (ints l)[i]? = some v) : ∃ n, l[i]? = some n ∧ v = .int .i64 n := by
  simp only [ints, List.getElem?_toArray, List.getElem?_map] at h
  obtain ⟨n, h1, rfl⟩ := Option.map_eq_some_iff.1 h
  exact ⟨n, h1, rfl⟩
theorem ints_rv {l : List Int} {i : Nat} {v : Value} {x : AV} (h : (ints l)[i]? = some v) (hx : (bi l)[i]? = some x) : RV C ρ τ v x := by
  obtain ⟨n, h1, rfl⟩ := ints_at h
  simp only [bi, List.getElem?_map, h1, Option.map_some, Option.some.injEq] at hx
  subst hx
  exact .v _ rfl
theorem rv_ints {l : List Int} {cs : Array Value} (hl : cs.size = l.length) (h : ∀ (i : Nat) (v : Value) (x : AV), cs[i]? = some v → (bi l)[i]? = some x → RV C ρ τ v x) : cs = ints l := by
  refine Array.ext (by rw [hl, ints_size]) fun i h1 h2 => ?_
  have hi : i < l.length := by omega
  have := h i cs[i] (.v (.int .i64 l[i])) (by simp [h1]) (by simp [bi, hi])
  rw [(rv_v this).1]
  simp [ints]

/-- A box, and the two lists that it refers to. -/
structure XB (C : CMap) (w : World) (x y z : Nat) (p : List AV) (q : AV) (l m : List Int) : Prop where
  ex : ∃ (cs : Array Value) (ty : TypeId) (c d : Nat), w.heap[x]? = some (.cells cs ty (0, 0)) ∧ cs.size = p.length + 3 ∧ (∀ (i : Nat) (v : Value), cs[i]? = some v → v.oneCell' = true) ∧
    (∀ (i : Nat) (v : Value) (a : AV), cs[i]? = some v → p[i]? = some a → RV C noρ noτ v a) ∧ cs[p.length]? = some (.slice (some ⟨y, 0, none⟩) l.length c) ∧ l.length ≤ c ∧ c ≤ maxLen ∧
    cs[p.length + 1]? = some (.slice (some ⟨z, 0, none⟩) m.length d) ∧ m.length ≤ d ∧ d ≤ maxLen ∧ (∀ v, cs[p.length + 2]? = some v → RV C noρ noτ v q)
  b1 : ∃ ty, w.heap[y]? = some (.cells (ints l) ty (0, 0))
  b2 : ∃ ty, w.heap[z]? = some (.cells (ints m) ty (0, 0))
  f : ∀ o, C x o = none ∧ C y o = none ∧ C z o = none
  ne : x ≠ y ∧ x ≠ z ∧ y ≠ z

structure XCon (P : Program) (f : FuncId) (args : List AV) (p : List AV) (q : AV) (l m : List Int) (r : Bool) : Prop where
  enters : Enters P f
  calls : ∀ (C : CMap) (w : World) (x y z : Nat) (vs : Array Value), CW C w → XB C w x y z p q l m → vs.size = args.length →
    (∀ (i : Nat) (v : Value) (x : AV), vs[i]? = some v → args[i]? = some x → RV C noρ noτ v x) →
    Calls P f (#[.pointer (some ⟨x, 0, none⟩)] ++ vs) w fun e w' => ∃ (C' : CMap) (l' m' : List Int), e = .returned (.bool r) ∧ Fr w (fun i => i = x ∨ i = y ∨ i = z) w' ∧ (∀ b o v, C b o = some v → C' b o = some v) ∧
      (∀ b o v, C' b o = some v → C b o = some v ∨ w.heap.size ≤ b) ∧ CW C' w' ∧ XB C' w' x y z p q l' m' ∧ l'.length = l.length ∧ m'.length = m.length ∧ (r = false → l' = l ∧ m' = m)

/-- Three blocks more that never turn. -/
noncomputable def plus3 (C : CMap) (w : World) (x y z : Nat) : CMap := fun b o => open Classical in if b = x ∨ b = y ∨ b = z then w.cell? ⟨b, o, none⟩ else C b o
theorem plus3_in {x y z b o : Nat} (h : b = x ∨ b = y ∨ b = z) : plus3 C w x y z b o = w.cell? ⟨b, o, none⟩ := if_pos h
theorem plus3_out {x y z b o : Nat} (h : ¬ (b = x ∨ b = y ∨ b = z)) : plus3 C w x y z b o = C b o := if_neg h
set_option maxHeartbeats 1000000 in
/-- A call that turns nothing is such a call. -/
theorem xcon_con {f : FuncId} {args p : List AV} {q : AV} {l m : List Int} {r : Bool} (h : Con P f (.ptr (p ++ [lvT l .no, lvT m .no, q]) :: args) 0 (bv r)) : XCon P f args p q l m r := by
  refine ⟨h.enters, fun C w x y z vs hC hX hl hv => ?_⟩
  obtain ⟨cs, ty, c, d, g1, g2, g3, g4, g5, g6, g7, g8, g9, g10, g11⟩ := hX.ex
  obtain ⟨ty1, y1⟩ := hX.b1
  obtain ⟨ty2, z1⟩ := hX.b2
  obtain ⟨C1, eC1⟩ : ∃ C1, C1 = plus3 C w x y z := ⟨_, rfl⟩
  have hC1 : ∀ b o v, C b o = some v → C1 b o = some v := by
    intro b o v hb
    have : ¬ (b = x ∨ b = y ∨ b = z) := by
      rintro (rfl | rfl | rfl)
      · rw [(hX.f o).1] at hb; cases hb
      · rw [(hX.f o).2.1] at hb; cases hb
      · rw [(hX.f o).2.2] at hb; cases hb
    rw [eC1, plus3_out this]
    exact hb
  have cx : ∀ o, C1 x o = cs[o]? := fun o => by
    rw [eC1, plus3_in (.inl rfl)]
    simp only [World.cell?, g1]
    rfl
  have cy : ∀ o, C1 y o = (ints l)[o]? := fun o => by
    rw [eC1, plus3_in (.inr (.inl rfl))]
    simp only [World.cell?, y1]
    rfl
  have cz : ∀ o, C1 z o = (ints m)[o]? := fun o => by
    rw [eC1, plus3_in (.inr (.inr rfl))]
    simp only [World.cell?, z1]
    rfl
  have hcw : CW C1 w := by
    intro b o v hb
    by_cases hh : b = x ∨ b = y ∨ b = z
    · have hb' := hb
      rw [eC1, plus3_in hh] at hb'
      refine ⟨hb', ?_⟩
      rcases hh with rfl | rfl | rfl
      · rw [cx] at hb; exact g3 o v hb
      · rw [cy] at hb; obtain ⟨n, _, rfl⟩ := ints_at hb; rfl
      · rw [cz] at hb; obtain ⟨n, _, rfl⟩ := ints_at hb; rfl
    · have hb' := hb
      rw [eC1, plus3_out hh] at hb'
      exact hC b o v hb'
  have lst : ∀ (b c : Nat) (l : List Int), l.length ≤ c → c ≤ maxLen → (∀ o, C1 b o = (ints l)[o]?) → RV C1 noρ noτ (.slice (some ⟨b, 0, none⟩) l.length c) (lvT l .no) := by
    intro b c l h1 h2 h3
    refine .list 1 _ .no _ _ c (fun i _ => (ints l).getD i undef) (by simp) h1 h2 (fun i x hx => ?_) (fun i x j u hx hu => ?_) trivial
    · rw [List.getElem?_map] at hx
      obtain ⟨n, hn, rfl⟩ := Option.map_eq_some_iff.1 hx
      have hi := (List.getElem?_eq_some_iff.1 hn).1
      refine ⟨rfl, b, 0, rfl, fun j hj => ?_⟩
      have e : 0 + i * 1 + j = i := by omega
      rw [e, h3]
      have : i < (ints l).size := by rw [ints_size]; exact hi
      simp [this]
    · rw [List.getElem?_map] at hx
      obtain ⟨n, hn, rfl⟩ := Option.map_eq_some_iff.1 hx
      have hi := (List.getElem?_eq_some_iff.1 hn).1
      cases j with
      | zero =>
        cases hu
        have e : (ints l).getD i undef = .int .i64 n := by
          have : i < (ints l).size := by rw [ints_size]; exact hi
          rw [Array.getD_eq_getD_getElem?]
          simp [ints, hn]
        rw [e]
        exact .v _ rfl
      | succ j => simp at hu
  have hpv : RV C1 noρ noτ (.pointer (some ⟨x, 0, none⟩)) (.ptr (p ++ [lvT l .no, lvT m .no, q])) := by
    refine .ptr x 0 _ (fun j => cs.getD j undef) (fun j hj => ?_) (fun j u hu => ?_)
    · rw [Nat.zero_add, cx]
      have : j < cs.size := by simp at hj; omega
      simp [this]
    · have hj := (List.getElem?_eq_some_iff.1 hu).1
      simp at hj
      have hlt : j < cs.size := by omega
      have hjv : cs[j]? = some (cs.getD j undef) := by simp [hlt]
      rcases Nat.lt_or_ge j p.length with h1 | h1
      · rw [List.getElem?_append_left h1] at hu
        exact (g4 j _ u hjv hu).mono hC1 (fun _ _ h => h) (fun _ _ h => h)
      · rw [List.getElem?_append_right h1] at hu
        have hcase : j = p.length ∨ j = p.length + 1 ∨ j = p.length + 2 := by omega
        rcases hcase with rfl | rfl | rfl
        · simp at hu; subst hu
          rw [g5] at hjv; rw [← Option.some.inj hjv]
          exact lst y c l g6 g7 cy
        · rw [show p.length + 1 - p.length = 1 by omega] at hu
          simp at hu; subst hu
          rw [g8] at hjv; rw [← Option.some.inj hjv]
          exact lst z d m g9 g10 cz
        · rw [show p.length + 2 - p.length = 2 by omega] at hu
          simp at hu; subst hu
          exact (g11 _ hjv).mono hC1 (fun _ _ h => h) (fun _ _ h => h)
  have hs1 : (#[Value.pointer (some ⟨x, 0, none⟩)] ++ vs).size = (AV.ptr (p ++ [lvT l .no, lvT m .no, q]) :: args).length := by
    rw [Array.size_append, hl, List.length_cons, Nat.add_comm]
    rfl
  have hs2 : ∀ (i : Nat) (v : Value) (u : AV), (#[Value.pointer (some ⟨x, 0, none⟩)] ++ vs)[i]? = some v → (AV.ptr (p ++ [lvT l .no, lvT m .no, q]) :: args)[i]? = some u → RV C1 noρ noτ v u := by
    intro i v u hv' hu
    cases i with
    | zero =>
      rw [Array.getElem?_append_left (Nat.zero_lt_one)] at hv'
      cases hv'
      cases hu
      exact hpv
    | succ i =>
      rw [Array.getElem?_append_right (by exact Nat.le_add_left 1 i)] at hv'
      have e : i + 1 - #[Value.pointer (some ⟨x, 0, none⟩)].size = i := rfl
      rw [e] at hv'
      exact (hv i v u hv' hu).mono hC1 (fun _ _ h => h) (fun _ _ h => h)
  refine (h.calls C1 w _ hcw hs1 hs2).mono ?_
  · rintro e w' ⟨v, C', τ', rfl, hb, _, _, _, hr, _⟩
    obtain ⟨rfl, _⟩ := rv_v hr
    have blkx : ∀ {i : Nat} {x : Obj}, w.heap[i]? = some x → w'.heap[i]? = some x := fun hx => (hb.block _ (heap_lt hx)).trans hx
    refine ⟨C, l, m, rfl, ⟨hb.os, hb.tape, hb.output, hb.size, fun i hi _ => hb.block i hi⟩, fun _ _ _ h => h, fun _ _ _ h => .inl h, ?_, ⟨⟨cs, ty, c, d, blkx g1, g2, g3, g4, g5, g6, g7, g8, g9, g10, g11⟩, ⟨ty1, blkx y1⟩, ⟨ty2, blkx z1⟩, hX.f, hX.ne⟩, rfl, rfl, fun _ => ⟨rfl, rfl⟩⟩
    intro b o v hv
    obtain ⟨h1, h2⟩ := hC b o v hv
    exact ⟨(World.cell?_of_block (w := w) (a := ⟨b, o, none⟩) (hb.block b (cell_lt h1))).trans h1, h2⟩

theorem RepG.unbox (h : RepG N w0 C0 E s a w C ρ τ) (k : Key) : RepG N w0 C0 E { s with b := upd s.b k none } a w C ρ τ := by
  have ob : ∀ k' B', (upd s.b k none : Key → Option Box) k' = some B' → s.b k' = some B' := by
    intro k' B' hh
    rw [upd_at] at hh
    split at hh
    · cases hh
    · exact hh
  exact { h with
    bx := fun k' B hB => h.bx k' B (ob _ _ hB)
    bj := fun k1 k2 B1 B2 b h1 h2 => h.bj k1 k2 B1 B2 b (ob _ _ h1) (ob _ _ h2)
    tk := by
      intro k' v n hk hd
      obtain ⟨A, n', c, rfl, g⟩ := h.tk k' v n hk hd
      refine ⟨A, n', c, rfl, ?_⟩
      rcases g with g | ⟨b', cs, ty, hA, g1, g2, g3, g4, g5, g6, g7⟩
      · exact .inl g
      · exact .inr ⟨b', cs, ty, hA, g1, g2, g3, g4, g5, g6, fun k2 B2 hB2 => g7 k2 B2 (ob _ _ hB2)⟩ }

/-- Blocks that neither a box nor a token holds may turn. -/
theorem RepG.turnS (h : RepG N w0 C0 E s a w C ρ τ) (G : Nat → Prop) (hG1 : ∀ i, G i → w0.heap.size ≤ i ∨ E i) (hG2 : ∀ k B i, s.b k = some B → ρ k = some i → ¬ G i)
    (hG3 : ∀ k v m i, τ k = some (v, m) → s.d k = false → blk v = some i → ¬ G i) {w1 : World} {C1 : CMap} (hC : ∀ b o v, C b o = some v → C1 b o = some v)
    (hF : Fr w G w1) (hn : ∀ b' o v, C1 b' o = some v → C b' o = some v ∨ w.heap.size ≤ b') (hcw : CW C1 w1) : RepG N w0 C0 E s a w1 C1 ρ τ := by
  have mono : ∀ {v : Value} {x : AV}, RV C ρ τ v x → RV C1 ρ τ v x := fun hv => hv.mono hC (fun _ _ h => h) (fun _ _ h => h)
  have old : ∀ {i : Nat} {x : Obj}, ¬ G i → w.heap[i]? = some x → w1.heap[i]? = some x := fun h1 hx => (hF.block _ (heap_lt hx) h1).trans hx
  have cold : ∀ {i o : Nat}, i < w.heap.size → C i o = none → C1 i o = none := by
    intro i o h1 h3
    cases hc : C1 i o with
    | none => rfl
    | some v =>
      rcases hn _ _ _ hc with hh | hh
      · rw [h3] at hh; cases hh
      · omega
  refine
    { df := h.df, sz := h.sz, tm := fun t => mono (h.tm t), cw := hcw, c0 := fun _ _ _ hh => hC _ _ _ (h.c0 _ _ _ hh), c1 := ?_, bx := ?_, bj := h.bj, tk := ?_, tj := h.tj, fρ := h.fρ, fτ := h.fτ, fo := h.fo, fr := ?_ }
  · intro b' o v hb' hv
    rcases hn _ _ _ hv with hh | hh
    · exact h.c1 _ _ _ hb' hh
    · have := h.fr.size; omega
  · intro k' B' hB'
    obtain ⟨b', hρ', ⟨⟨cs, ty, g1, g2, g3, g4, g5⟩, g6⟩, g7⟩ := h.bx k' B' hB'
    exact ⟨b', hρ', ⟨⟨cs, ty, old (hG2 _ _ _ hB' hρ') g1, g2, g3, fun i v x hc hx => mono (g4 i v x hc hx), fun hz i v hc => hC _ _ _ (g5 hz i v hc)⟩, fun hz o => cold (heap_lt g1) (g6 hz o)⟩, g7⟩
  · intro k' v m hk' hd
    obtain ⟨A, n, c, rfl, g⟩ := h.tk k' v m hk' hd
    refine ⟨A, n, c, rfl, ?_⟩
    rcases g with g | ⟨b', cs, ty, hA, g1, g2, g3, g4, g5, g6, g7⟩
    · exact .inl g
    · by_cases hc0 : c = 0
      · exact .inl hc0
      subst hA
      exact .inr ⟨b', cs, ty, rfl, old (hG3 _ _ _ b' hk' hd (by simp [blk, hc0])) g1, g2, g3, g4, fun o ho => cold (heap_lt g1) (g5 o ho), g6, g7⟩
  · refine ⟨hF.os.trans h.fr.os, hF.tape.trans h.fr.tape, hF.output.trans h.fr.output, Nat.le_trans h.fr.size hF.size, fun i hi hEi => ?_⟩
    rw [hF.block i (Nat.lt_of_lt_of_le hi h.fr.size), h.fr.block i hi hEi]
    intro hh
    rcases hG1 i hh with g | g
    · omega
    · exact hEi g

def xcell (p : List AV) (k1 k2 : Key) (n1 n2 : Nat) (q : AV) : List AV := p ++ [.sl k1 n1 1, .sl k2 n2 1, q]
/-- What such a call leaves. -/
def St.xcall (s : St) (d : Option Nat) (r : Bool) (k k1 k2 : Key) (c : List AV) (l m : List Int) : St :=
  { s with t := match d with | none => s.t | some d => upd s.t d (.v (.bool r)), b := upd (upd (upd s.b k (some ⟨c, false⟩)) k1 (some ⟨bi l, false⟩)) k2 (some ⟨bi m, false⟩) }
def stepM (P : Program) (s : St) (o : Oper) (K : St → Prop) : Prop := match o.op with
  | .call { callee := .value g, args, argTypes } => ∃ f x0 xs t0 ts k k1 k2 p q l m r, s.o P 0 g = .clo f [] ∧ args.toList = x0 :: xs ∧ argTypes.toList = t0 :: ts ∧ xs.length ≤ ts.length ∧ s.o P t0 x0 = .box k 0 ∧
      s.b k = some ⟨xcell p k1 k2 l.length m.length q, false⟩ ∧ (p.all clean = true ∧ clean q = true) ∧ s.b k1 = some ⟨bi l, false⟩ ∧ s.b k2 = some ⟨bi m, false⟩ ∧ (k ≠ k1 ∧ k ≠ k2 ∧ k1 ≠ k2) ∧ (argsAV P s xs ts).all cleanV = true ∧ XCon P f (argsAV P s xs ts) p q l m r ∧
      ∀ l' m' : List Int, l'.length = l.length → m'.length = m.length → (r = false → l' = l ∧ m' = m) → K (s.xcall o.dst r k k1 k2 (xcell p k1 k2 l.length m.length q) l' m')
  | _ => False

set_option maxHeartbeats 1000000 in
theorem stepM_sound {Q : Exit → Act → World → Prop} {K : St → Prop} {KA : Act → World → Prop} (h : Rep N w0 C0 E s a w) (hN : ∀ d, o.dst = some d → d < N) (he : stepM P s o K)
    (hK : ∀ s' a' w', K s' → Rep N w0 C0 E s' a' w' → KA a' w') : o.wp P a w KA Q := by
  obtain ⟨C, ρ, τ, h⟩ := h
  unfold stepM at he
  split at he
  case h_2 => exact he.elim
  rename_i g args tys ho
  obtain ⟨f, x0, xs, t0, ts, k, k1, k2, p, q, l, m, r, hg, hargs, htys, hlen, hbx, hB, ⟨hp, hq⟩, hB1, hB2, ⟨n1, n2, n3⟩, hcl, hcon, hk⟩ := he
  have hgv := opnd (P := P) h 0 g
  rw [hg] at hgv
  have hfn : a.eval g = .func (.func f) #[] #[] := by
    generalize a.eval g = v at hgv
    cases hgv with
    | clo _ cs _ hl _ =>
      have : cs = #[] := by simpa using hl
      rw [this]
  have hrun : (execOp a.eval o).run P w = .ok (.enter f (args.map a.eval)) w := by
    simp [execOp, ho, resolve, hfn, Deferred.ofValue, invoke, hcon.enters _ _]
  unfold Oper.wp
  rw [hrun]
  simp only [Oper.upon]
  have hbv := opnd (P := P) h t0 x0
  rw [hbx] at hbv
  obtain ⟨x, hv0, hρ⟩ := rv_box hbv
  have hmap : args.map a.eval = #[.pointer (some ⟨x, 0, none⟩)] ++ (xs.map a.eval).toArray := by
    apply Array.ext'
    simp [hargs, hv0]
  obtain ⟨x', hρ', ⟨⟨cs, ty, g1, g2, g3, g4, _⟩, g6⟩, g7⟩ := h.bx k _ hB
  rw [hρ] at hρ'; cases hρ'
  obtain ⟨y, hρ1, ⟨⟨cs1, ty1, y1, y2, y3, y4, _⟩, y6⟩, y7⟩ := h.bx k1 _ hB1
  obtain ⟨z, hρ2, ⟨⟨cs2, ty2, z1, z2, z3, z4, _⟩, z6⟩, z7⟩ := h.bx k2 _ hB2
  have e1 : cs1 = ints l := rv_ints (by simpa [bi] using y2) y4
  have e2 : cs2 = ints m := rv_ints (by simpa [bi] using z2) z4
  subst e1 e2
  have hsz : cs.size = p.length + 3 := by simpa [xcell] using g2
  have sl1 : ∃ c, cs[p.length]? = some (.slice (some ⟨y, 0, none⟩) l.length c) ∧ l.length ≤ c ∧ c ≤ maxLen := by
    have hlt : p.length < cs.size := by omega
    have := g4 p.length cs[p.length] (.sl k1 l.length 1) (by simp [hlt]) (by simp [xcell])
    obtain ⟨b, c, e, hb, h1, h2⟩ := rv_sl this
    rw [hρ1] at hb; cases hb
    exact ⟨c, by simp [hlt, e], h1, h2⟩
  have sl2 : ∃ c, cs[p.length + 1]? = some (.slice (some ⟨z, 0, none⟩) m.length c) ∧ m.length ≤ c ∧ c ≤ maxLen := by
    have hlt : p.length + 1 < cs.size := by omega
    have := g4 (p.length + 1) cs[p.length + 1] (.sl k2 m.length 1) (by simp [hlt]) (by simp [xcell])
    obtain ⟨b, c, e, hb, h1, h2⟩ := rv_sl this
    rw [hρ2] at hb; cases hb
    exact ⟨c, by simp [hlt, e], h1, h2⟩
  obtain ⟨c, s1, s2, s3⟩ := sl1
  obtain ⟨d, t1, t2, t3⟩ := sl2
  have ne1 : x ≠ y := fun e => n1 (h.bj _ _ _ _ x hB hB1 hρ (e ▸ hρ1))
  have ne2 : x ≠ z := fun e => n2 (h.bj _ _ _ _ x hB hB2 hρ (e ▸ hρ2))
  have ne3 : y ≠ z := fun e => n3 (h.bj _ _ _ _ y hB1 hB2 hρ1 (e ▸ hρ2))
  have hX : XB C w x y z p q l m := by
    refine ⟨⟨cs, ty, c, d, g1, hsz, g3, fun i v u hv hu => ?_, s1, s2, s3, t1, t2, t3, fun v hv => ?_⟩, ⟨ty1, y1⟩, ⟨ty2, z1⟩, fun o => ⟨g6 rfl o, y6 rfl o, z6 rfl o⟩, ne1, ne2, ne3⟩
    · have hi := (List.getElem?_eq_some_iff.1 hu).1
      exact clean_rv (g4 i v u hv (by rw [xcell, List.getElem?_append_left hi]; exact hu)) (List.all_eq_true.1 hp u (List.mem_of_getElem? hu))
    · exact clean_rv (g4 (p.length + 2) v q hv (by simp [xcell])) hq
  rw [hmap]
  refine (hcon.calls C w x y z _ h.cw hX ?_ ?_).mono ?_
  · simp only [argsAV, List.length_zipWith, List.size_toArray, List.length_map]; omega
  · intro i v u hv hu
    have hmem := List.mem_of_getElem? hu
    have hcx := List.all_eq_true.1 hcl u hmem
    simp only [argsAV, List.getElem?_zipWith] at hu
    split at hu
    · rename_i y' t' hy' ht'
      cases hu
      simp only [List.getElem?_toArray, List.getElem?_map, hy', Option.map_some, Option.some.injEq] at hv
      subst hv
      exact cleanV_rv (fgtV_rv (opnd h t' y')) hcx
    · cases hu
  · rintro e' w' ⟨C', l', m', rfl, hF, hC1, hC2, hcw, hX', hl, hm, hrr⟩
    refine hK _ _ _ (hk l' m' hl hm hrr) ?_
    have h1 := ((h.unbox k).unbox k1).unbox k2
    have ob : ∀ k' B', (upd (upd (upd s.b k none) k1 none) k2 none : Key → Option Box) k' = some B' → (k' ≠ k ∧ k' ≠ k1 ∧ k' ≠ k2) ∧ s.b k' = some B' := by
      intro k' B' hh
      simp only [upd_at] at hh
      split at hh
      · cases hh
      · split at hh
        · cases hh
        · split at hh
          · cases hh
          · exact ⟨⟨by assumption, by assumption, by assumption⟩, hh⟩
    have tkn : ∀ k' v n i, τ k' = some (v, n) → s.d k' = false → blk v = some i → i ≠ x ∧ i ≠ y ∧ i ≠ z := by
      intro k' v n i e1 e2 e3
      obtain ⟨A, n', c, rfl, gg⟩ := h.tk k' v n e1 e2
      obtain ⟨hc, ad, rfl, hb2⟩ := blk_cap e3
      rcases gg with gg | ⟨b', cs, ty, hA, _, _, _, _, _, _, gg7⟩
      · exact absurd gg hc
      · cases hA
        subst hb2
        refine ⟨fun hh => gg7 k _ hB ?_, fun hh => gg7 k1 _ hB1 ?_, fun hh => gg7 k2 _ hB2 ?_⟩
        · rw [hρ]; exact congrArg some hh.symm
        · rw [hρ1]; exact congrArg some hh.symm
        · rw [hρ2]; exact congrArg some hh.symm
    have h2 := h1.turnS (fun i => i = x ∨ i = y ∨ i = z) (by
        rintro i (rfl | rfl | rfl)
        · exact g7
        · exact y7
        · exact z7) (by
        intro k' B i hB' hρ' hh
        obtain ⟨⟨e1, e2, e3⟩, hB'⟩ := ob _ _ hB'
        rcases hh with rfl | rfl | rfl
        · exact e1 (h.bj _ _ _ _ _ hB' hB hρ' hρ)
        · exact e2 (h.bj _ _ _ _ _ hB' hB1 hρ' hρ1)
        · exact e3 (h.bj _ _ _ _ _ hB' hB2 hρ' hρ2)) (by
        intro k' v n i e1 e2 e3 hh
        have := tkn k' v n i e1 e2 e3
        rcases hh with rfl | rfl | rfl
        · exact this.1 rfl
        · exact this.2.1 rfl
        · exact this.2.2 rfl) hC1 hF hC2 hcw
    obtain ⟨cs', ty', c', d', q1, q2, q3, q4, q5, q6, q7, q8, q9, q10, q11⟩ := hX'.ex
    obtain ⟨ty1', u1⟩ := hX'.b1
    obtain ⟨ty2', v1⟩ := hX'.b2
    have h3 := h2.putbox (k := k) (b := x) (l := xcell p k1 k2 l.length m.length q) hρ g7 q1 (by simpa [xcell] using q2) q3 (by
        intro i v u hv hu
        rcases Nat.lt_or_ge i p.length with h1 | h1
        · rw [xcell, List.getElem?_append_left h1] at hu
          exact (q4 i v u hv hu).lift _ _
        · rw [xcell, List.getElem?_append_right h1] at hu
          have hi := (List.getElem?_eq_some_iff.1 hu).1
          simp at hi
          have hcase : i = p.length ∨ i = p.length + 1 ∨ i = p.length + 2 := by omega
          rcases hcase with rfl | rfl | rfl
          · simp at hu; subst hu
            rw [q5] at hv; cases hv
            rw [hl] at q6 ⊢
            exact .sl _ y _ c' 1 hρ1 q6 q7
          · rw [show p.length + 1 - p.length = 1 by omega] at hu
            simp at hu; subst hu
            rw [q8] at hv; cases hv
            rw [hm] at q9 ⊢
            exact .sl _ z _ d' 1 hρ2 q9 q10
          · rw [show p.length + 2 - p.length = 2 by omega] at hu
            simp at hu; subst hu
            exact (q11 v hv).lift _ _) (fun o => (hX'.f o).1) (by
        intro k' B hne e1 e2
        exact hne (h.bj _ _ _ _ _ (ob _ _ e1).2 hB e2 hρ)) (fun k' v n e1 e2 e3 => (tkn k' v n x e1 e2 e3).1 rfl)
    have h4 := h3.putbox (k := k1) (b := y) (l := bi l') hρ1 y7 u1 (by rw [ints_size, bi_len]) (by
        intro i v hv
        obtain ⟨n, _, rfl⟩ := ints_at hv
        rfl) (fun i v u hv hu => ints_rv hv hu) (fun o => (hX'.f o).2.1) (by
        intro k' B hne e1 e2
        by_cases hkk : k' = k
        · subst hkk; rw [hρ] at e2; exact ne1 (Option.some.inj e2)
        · have e1 := (upd_ne _ _ hkk).symm.trans e1
          exact hne (h.bj _ _ _ _ _ (ob _ _ e1).2 hB1 e2 hρ1)) (fun k' v n e1 e2 e3 => (tkn k' v n y e1 e2 e3).2.1 rfl)
    have h5 := h4.putbox (k := k2) (b := z) (l := bi m') hρ2 z7 v1 (by rw [ints_size, bi_len]) (by
        intro i v hv
        obtain ⟨n, _, rfl⟩ := ints_at hv
        rfl) (fun i v u hv hu => ints_rv hv hu) (fun o => (hX'.f o).2.2) (by
        intro k' B hne e1 e2
        by_cases hkk1 : k' = k1
        · subst hkk1; rw [hρ1] at e2; exact ne3 (Option.some.inj e2)
        · have e1 := (upd_ne _ _ hkk1).symm.trans e1
          by_cases hkk : k' = k
          · subst hkk; rw [hρ] at e2; exact ne2 (Option.some.inj e2)
          · have e1 := (upd_ne _ _ hkk).symm.trans e1
            exact hne (h.bj _ _ _ _ _ (ob _ _ e1).2 hB2 e2 hρ2)) (fun k' v n e1 e2 e3 => (tkn k' v n z e1 e2 e3).2.2 rfl)
    have eb : upd (upd (upd (upd (upd (upd s.b k none) k1 none) k2 none) k (some ⟨xcell p k1 k2 l.length m.length q, false⟩)) k1 (some ⟨bi l', false⟩)) k2 (some ⟨bi m', false⟩) =
        upd (upd (upd s.b k (some ⟨xcell p k1 k2 l.length m.length q, false⟩)) k1 (some ⟨bi l', false⟩)) k2 (some ⟨bi m', false⟩) := by
      funext k'
      simp only [upd_at]
      split
      · rfl
      · split
        · rfl
        · split
          · rfl
          · rfl
    cases hd : o.dst with
    | none =>
      refine ⟨C', ρ, τ, ?_⟩
      simp only [eb] at h5
      exact h5
    | some d =>
      refine ⟨C', ρ, τ, ?_⟩
      simp only [eb] at h5
      exact h5.set d (hN d hd) (.v _ rfl)

/-! ### Code -/
def kdO : List (Nat × Nat) → Nat → Nat
  | [], _ => 0
  | (j, k) :: r, i => if i = j then k else kdO r i
def stepX (P : Program) (s : St) (o : Oper) (n : Nat) (K : St → Prop) : Prop := if n = 0 then stepG P s o K else if n = 1 then stepT P s o K else stepM P s o K
theorem stepX_sound {Q : Exit → Act → World → Prop} {K : St → Prop} {KA : Act → World → Prop} {n : Nat} (h : Rep N w0 C0 E s a w) (hN : ∀ d, o.dst = some d → d < N) (he : stepX P s o n K)
    (hK : ∀ s' a' w', K s' → Rep N w0 C0 E s' a' w' → KA a' w') : o.wp P a w KA Q := by
  unfold stepX at he
  split at he
  · obtain ⟨p, h1, h2⟩ := stepG_elim he
    exact stp_sound h hN h1 fun a' w' hr => hK _ _ _ h2 hr
  · split at he
    · exact stepT_sound h hN he hK
    · exact stepM_sound h hN he hK
def xops (P : Program) (ops : Array Oper) (H : List (Nat × Nat)) : Nat → List Oper → St → (St → Prop) → Prop
  | _, [], s, K => K s
  | i, o :: r, s, K => match wantA ops s o with
    | none => False
    | some c => (c = true → stepX P s o (kdO H i) fun s' => xops P ops H (i + 1) r s' K) ∧ (c = false → xops P ops H (i + 1) r (s.skip o.dst) K)
theorem xops_sound {ops : Array Oper} {H : List (Nat × Nat)} {Q : Exit → Act → World → Prop} {K : St → Prop} (hQ : ∀ s' a' w', K s' → Rep N w0 C0 E s' a' w' → Q .normal a' w') :
    ∀ (l : List Oper) (i : Nat) (s : St) (a : Act) (w : World), (∀ o ∈ l, ∀ d, o.dst = some d → d < N) → xops P ops H i l s K → Rep N w0 C0 E s a w → wpList P ops Q l a w
  | [], i, s, a, w, _, h, hr => hQ s a w h hr
  | o :: r, i, s, a, w, hN, h, hr => by
    unfold xops at h
    split at h
    · exact h.elim
    · rename_i c hc
      obtain ⟨C, ρ, τ, hr'⟩ := id hr
      have hw := wantA_sound hr' hc
      have hNo := hN o (List.mem_cons_self ..)
      unfold wpList
      cases c with
      | true =>
        rw [if_pos hw]
        exact .inl (stepX_sound hr hNo (h.1 rfl) fun s' a' w' hk hr' => xops_sound hQ r _ s' a' w' (fun o ho => hN o (List.mem_cons_of_mem _ ho)) hk hr')
      | false =>
        rw [if_neg (by simp [hw])]
        exact xops_sound hQ r _ _ _ w (fun o ho => hN o (List.mem_cons_of_mem _ ho)) (h.2 rfl) (skip_sound hr hNo)
abbrev XHints := List (Nat × List (Nat × Nat))
def hkO : XHints → Nat → Option (List (Nat × Nat))
  | [], _ => none
  | (j, h) :: r, i => if i = j then some h else hkO r i
def xcode (P : Program) (X : Hints) (H : XHints) : Code → (Exit → St → Prop) → St → Prop
  | .region id ops d, Q, s => match hkO H id with
    | none => acode P X (.region id ops d) Q s
    | some h => d = false ∧ xops P ops h 0 ops.toList s (Q .normal)
  | .seq x y, Q, s => xcode P X H x (fun e s' => match e with | .normal => xcode P X H y Q s' | e => Q e s') s
  | .cond c x y, Q, s => match s.o P 0 c with
    | .v (.bool b) => (b = true → xcode P X H x Q s) ∧ (b = false → xcode P X H y Q s)
    | _ => False
  | .block id c, Q, s => xcode P X H c (fun e s' => match e with | .exit id' => if id' = id then Q .normal s' else Q (.exit id') s' | e => Q e s') s
  | .loop c, Q, s => ∃ I : Nat → St → Prop, (∃ n, I n s) ∧ ∀ n s, I n s → xcode P X H c (fun e s' => match e with | .normal => ∃ m, m < n ∧ I m s' | e => Q e s') s
  | .scope c, Q, s => xcode P X H c (fun e s' => match e with | .goto _ => False | e => Q e s') s
  | .exit id, Q, s => Q (.exit id) s
  | .ret, Q, s => Q .ret s
  | .skip, Q, s => Q .normal s
  | _, _, _ => False
theorem xcode_sound {D : List Ap → Array Oper → Bool} {X : Hints} {H : XHints} (hD : DOK P D) : ∀ (c : Code) (QA : Exit → St → Prop) (Q : Exit → Act → World → Prop) (s : St) (a : Act) (w : World), (dstOK N c && draws D X c) = true →
    (∀ e s' a' w', QA e s' → Rep N w0 C0 E s' a' w' → Q e a' w') → xcode P X H c QA s → Rep N w0 C0 E s a w → c.wp P Q a w := by
  intro c
  induction c with
  | skip => intro QA Q s a w _ hQ h hr; exact wp_skip (hQ _ _ _ _ h hr)
  | region id ops draw =>
    intro QA Q s a w hN hQ h hr
    simp only [xcode] at h
    split at h
    · exact acode_sound hD _ _ _ _ _ _ hN hQ h hr
    · obtain ⟨rfl, h⟩ := h
      simp only [dstOK, draws, Bool.and_eq_true] at hN
      have hN' : ∀ o ∈ ops.toList, ∀ d, o.dst = some d → d < N := by
        intro o ho d hd
        have hN := hN.1
        simp only [Array.all_eq_true] at hN
        obtain ⟨i, hi, rfl⟩ := List.mem_iff_getElem.1 ho
        have := hN i (by simpa using hi)
        simp only [Array.getElem_toList] at hd
        rw [hd] at this
        simpa using this
      exact wp_region_list (xops_sound (fun s' a' w' hk hr => hQ _ _ _ _ hk hr) _ _ _ a w hN' h hr)
  | seq x y ihx ihy =>
    intro QA Q s a w hN hQ h hr
    simp only [dstOK, draws, Bool.and_eq_true] at hN
    simp only [xcode] at h
    refine wp_seq (ihx _ _ s a w (by simp [hN]) ?_ h hr)
    intro e s' a' w' hq hr'
    cases e with
    | normal => exact ihy _ _ _ _ _ (by simp [hN]) hQ hq hr'
    | _ => exact hQ _ _ _ _ hq hr'
  | cond c x y ihx ihy =>
    intro QA Q s a w hN hQ h hr
    simp only [dstOK, draws, Bool.and_eq_true] at hN
    simp only [xcode] at h
    obtain ⟨C, ρ, τ, hr'⟩ := id hr
    have hc := opnd (P := P) hr' 0 c
    split at h
    · rename_i b hb
      rw [hb] at hc
      have hv := (rv_v hc).1
      cases b with
      | true => exact wp_cond_true hv (ihx _ _ _ _ _ (by simp [hN]) hQ (h.1 rfl) hr)
      | false => exact wp_cond_false hv (ihy _ _ _ _ _ (by simp [hN]) hQ (h.2 rfl) hr)
    · exact h.elim
  | block id c ih =>
    intro QA Q s a w hN hQ h hr
    simp only [xcode] at h
    refine wp_block (ih _ _ s a w hN ?_ h hr)
    intro e s' a' w' hq hr'
    cases e with
    | exit id' =>
      simp only [Exit.inBlock]
      simp only at hq
      split
      · rename_i hid; rw [if_pos hid] at hq; exact hQ _ _ _ _ hq hr'
      · rename_i hid; rw [if_neg hid] at hq; exact hQ _ _ _ _ hq hr'
    | _ => exact hQ _ _ _ _ hq hr'
  | loop c ih =>
    intro QA Q s a w hN hQ h hr
    simp only [xcode] at h
    obtain ⟨I, ⟨n0, h0⟩, hround⟩ := h
    let R : Nat → Act → World → Prop := fun n a w => ∃ s, I n s ∧ Rep N w0 C0 E s a w
    let μ : Act → World → Nat := fun a w => Classical.epsilon fun n => R n a w ∧ ∀ m, R m a w → n ≤ m
    have least : ∀ a w n, R n a w → R (μ a w) a w ∧ ∀ m, R m a w → μ a w ≤ m := by
      intro a w n hn
      have hex : ∃ n, R n a w ∧ ∀ m, R m a w → n ≤ m := by
        induction n using Nat.strongRecOn with
        | _ n ih2 =>
          by_cases hq : ∃ m, m < n ∧ R m a w
          · obtain ⟨m, hm, hR⟩ := hq
            exact ih2 m hm hR
          · refine ⟨n, hn, fun m hm => ?_⟩
            rcases Nat.lt_or_ge m n with hlt | hge
            · exact absurd ⟨m, hlt, hm⟩ hq
            · exact hge
      exact Classical.epsilon_spec hex
    refine wp_loop (fun a w => ∃ n, R n a w) μ ⟨n0, s, h0, hr⟩ ?_
    rintro a w ⟨n, hn⟩
    obtain ⟨⟨s', hI, hr'⟩, _⟩ := least a w n hn
    refine ih _ _ s' a w hN ?_ (hround _ _ hI) hr'
    intro e s2 a2 w2 hq hr2
    cases e with
    | normal =>
      obtain ⟨m, hm, hI2⟩ := hq
      have hRm : R m a2 w2 := ⟨s2, hI2, hr2⟩
      have := (least a2 w2 m hRm).2 m hRm
      exact ⟨⟨m, hRm⟩, by omega⟩
    | _ => exact hQ _ _ _ _ hq hr2
  | scope c ih =>
    intro QA Q s a w hN hQ h hr
    simp only [xcode] at h
    refine wp_scope_straight (ih _ _ s a w hN ?_ h hr)
    intro e s' a' w' hq hr'
    cases e with
    | goto l => exact hq
    | _ => exact hQ _ _ _ _ hq hr'
  | exit id => intro QA Q s a w _ hQ h hr; exact wp_exit (hQ _ _ _ _ h hr)
  | ret => intro QA Q s a w _ hQ h hr; exact wp_ret (hQ _ _ _ _ h hr)
  | rangeFunc f ps x y _ _ => intro QA Q s a w hN; simp [dstOK] at hN
  | label l => intro QA Q s a w hN; simp [dstOK] at hN
  | goto l => intro QA Q s a w hN; simp [dstOK] at hN
  | refuse y => intro QA Q s a w hN; simp [dstOK] at hN
end Go.Sy

/- The rules of reckoning for code that turns two lists; contracts out of it. -/
namespace Go.Sy
open Go Go.RowKit

variable {P : Program} {X : Hints} {H : XHints} {h : List (Nat × Nat)} {ops : Array Oper} {r : List Oper} {s : St} {K : St → Prop} {Q : Exit → St → Prop}

def hkK (x : Option (List (Nat × Nat))) (A : Prop) (B : List (Nat × Nat) → Prop) (_ : Tag (A, B)) : Prop := match x with | none => A | some h => B h
theorem hkK_none (A : Prop) (B : List (Nat × Nat) → Prop) : hkK none A B (.mk _) = A := rfl
theorem hkK_some (h : List (Nat × Nat)) (A : Prop) (B : List (Nat × Nat) → Prop) : hkK (some h) A B (.mk _) = B h := rfl
theorem hkO_nil (i : Nat) : hkO [] i = none := rfl
theorem hkO_cons (j i : Nat) (h : List (Nat × Nat)) : hkO ((j, h) :: H) i = if i = j then some h else hkO H i := rfl
theorem kdO_nil (i : Nat) : kdO [] i = 0 := rfl
theorem kdO_cons (j k i : Nat) : kdO ((j, k) :: h) i = if i = j then k else kdO h i := rfl
theorem xcode_region (id : Nat) (l : List Oper) (dr : Bool) : xcode P X H (.region id l.toArray dr) Q s = hkK (hkO H id) (acode P X (.region id l.toArray dr) Q s) (fun h => dr = false ∧ xops P l.toArray h 0 l s (Q .normal)) (.mk _) := by
  have e : xcode P X H (.region id l.toArray dr) Q s = (match hkO H id with
    | none => acode P X (.region id l.toArray dr) Q s
    | some h => dr = false ∧ xops P l.toArray h 0 l s (Q .normal)) := rfl
  rw [e]
  unfold hkK
  cases hkO H id <;> rfl
theorem xcode_skip : xcode P X H .skip Q s = Q .normal s := rfl
theorem xcode_seq (x y : Code) : xcode P X H (.seq x y) Q s = xcode P X H x (fun e s' => match e with | .normal => xcode P X H y Q s' | e => Q e s') s := rfl
theorem xcode_block (id : Nat) (c : Code) : xcode P X H (.block id c) Q s = xcode P X H c (fun e s' => match e with | .exit id' => if id' = id then Q .normal s' else Q (.exit id') s' | e => Q e s') s := rfl
theorem xcode_scope (c : Code) : xcode P X H (.scope c) Q s = xcode P X H c (fun e s' => match e with | .goto _ => False | e => Q e s') s := rfl
theorem xcode_exit (id : Nat) : xcode P X H (.exit id) Q s = Q (.exit id) s := rfl
theorem xcode_ret : xcode P X H .ret Q s = Q .ret s := rfl
def xloopK (P : Program) (X : Hints) (H : XHints) (c : Code) (Q : Exit → St → Prop) (s : St) (_ : Tag (X, c, Q)) : Prop := xcode P X H (.loop c) Q s
theorem xcode_loop (c : Code) : xcode P X H (.loop c) Q s = xloopK P X H c Q s (.mk _) := rfl
theorem xcode_cond (c : Operand) (x y : Code) : xcode P X H (.cond c x y) Q s = testK (s.o P 0 c) (xcode P X H x Q s) (xcode P X H y Q s) (.mk _) := rfl
theorem xops_nil (i : Nat) : xops P ops h i [] s K = K s := rfl
def kdK (n : Nat) (A B C : Prop) (_ : Tag (A, B, C)) : Prop := if n = 0 then A else if n = 1 then B else C
theorem kdK_0 (A B C : Prop) : kdK 0 A B C (.mk _) = A := rfl
theorem kdK_1 (A B C : Prop) : kdK 1 A B C (.mk _) = B := rfl
theorem kdK_2 (A B C : Prop) : kdK 2 A B C (.mk _) = C := rfl
theorem stepX_kdK (o : Oper) (n : Nat) : stepX P s o n K = kdK n (gK (boxArg P s o) (stepF P s o fun e => K (s.app o.dst e)) (fun k => estepF P s o k K) (.mk _)) (stepT P s o K) (stepM P s o K) (.mk _) := by
  unfold stepX kdK
  rw [stepG_gK]
theorem xops_cons (i : Nat) (dst : Option Nat) (op : Op) (ty : TypeId) (p : String) (af : Array Edge) :
    xops P ops h i (⟨dst, op, ty, p, af, none⟩ :: r) s K = kdK (kdO h i)
      (gK (boxArg P s ⟨dst, op, ty, p, af, none⟩) (stepF P s ⟨dst, op, ty, p, af, none⟩ (fun e => xops P ops h (i + 1) r (s.app dst e) K)) (fun k => estepF P s ⟨dst, op, ty, p, af, none⟩ k (fun s' => xops P ops h (i + 1) r s' K)) (.mk _))
      (stepT P s ⟨dst, op, ty, p, af, none⟩ (fun s' => xops P ops h (i + 1) r s' K)) (stepM P s ⟨dst, op, ty, p, af, none⟩ (fun s' => xops P ops h (i + 1) r s' K)) (.mk _) := by
  rw [← stepX_kdK (K := fun s' => xops P ops h (i + 1) r s' K)]
  simp [xops, wantA]
theorem xops_guard (i : Nat) (dst : Option Nat) (op : Op) (ty : TypeId) (p : String) (af : Array Edge) (j : Nat) (want : Bool) :
    xops P ops h i (⟨dst, op, ty, p, af, some (j, want)⟩ :: r) s K = guardK s (gdst ops j) want (kdK (kdO h i)
      (gK (boxArg P s ⟨dst, op, ty, p, af, none⟩) (stepF P s ⟨dst, op, ty, p, af, none⟩ (fun e => xops P ops h (i + 1) r (s.app dst e) K)) (fun k => estepF P s ⟨dst, op, ty, p, af, none⟩ k (fun s' => xops P ops h (i + 1) r s' K)) (.mk _))
      (stepT P s ⟨dst, op, ty, p, af, none⟩ (fun s' => xops P ops h (i + 1) r s' K)) (stepM P s ⟨dst, op, ty, p, af, none⟩ (fun s' => xops P ops h (i + 1) r s' K)) (.mk _)) (xops P ops h (i + 1) r (s.skip dst) K) (.mk _) := by
  have e : xops P ops h i (⟨dst, op, ty, p, af, some (j, want)⟩ :: r) s K = (match wantA ops s ⟨dst, op, ty, p, af, some (j, want)⟩ with
    | none => False
    | some c => (c = true → stepX P s ⟨dst, op, ty, p, af, none⟩ (kdO h i) fun s' => xops P ops h (i + 1) r s' K) ∧ (c = false → xops P ops h (i + 1) r (s.skip dst) K)) := rfl
  rw [e]
  rw [stepX_kdK (K := fun s' => xops P ops h (i + 1) r s' K)]
  unfold wantA gdst guardK testG
  simp only
  cases (ops[j]?).bind (·.dst) with
  | none => rfl
  | some d =>
    simp only
    cases s.t d with
    | v v => cases v <;> rfl
    | tup l => cases l <;> simp
    | _ => rfl
def thawK (P : Program) (f : FuncId) (xs : List AV) (K : Value → Prop) (_ : Tag K) : Prop := ∃ v, Con P f xs 0 (.v v) ∧ K v
theorem thawK_intro {f : FuncId} {xs : List AV} {v : Value} {K : Value → Prop} {t : Tag K} (h : Con P f xs 0 (.v v)) (hK : K v) : thawK P f xs K t := ⟨v, h, hK⟩
theorem stepT_call (f : FuncId) (args : List Operand) (ts : List TypeId) (d : Nat) (ty : TypeId) (p : String) (af : Array Edge) (gd : Option (Nat × Bool)) :
    stepT P s ⟨some d, .call { callee := .value (.func f), args := args.toArray, argTypes := ts.toArray }, ty, p, af, gd⟩ K =
      ((args.length ≤ ts.length ∧ ((argsAV P s args ts).map (thw s)).all cleanV = true) ∧ thawK P f ((argsAV P s args ts).map (thw s)) (fun v => K (s.set d (.v v))) (.mk _)) := by
  unfold stepT thawK
  simp [St.o, and_assoc]
theorem thw_v (v : Value) : thw s (.v v) = .v v := rfl
theorem thw_list (sz : Nat) (xs : List (List AV)) (tk : Tok) : thw s (.list sz xs tk) = .list sz xs tk := rfl
theorem thw_agg (l : List AV) : thw s (.agg l) = .agg l := rfl
theorem thw_clo (f : FuncId) (l : List AV) : thw s (.clo f l) = .clo f l := rfl
theorem thw_sl (k : Key) (n sz : Nat) : thw s (.sl k n sz) = thB (.sl k n sz) n sz (s.b k) := rfl
theorem thB_some (x : AV) (n sz : Nat) (l : List AV) (z : Bool) : thB x n sz (some ⟨l, z⟩) = if n = l.length ∧ sz = 1 ∧ l.all clean = true then .list 1 (l.map fun y => [y]) .no else x := rfl
theorem bi_clean (l : List Int) : (bi l).all clean = true := by simp [bi, clean]
theorem bi_list (l : List Int) : (bi l).map (fun y => [y]) = l.map fun n => [AV.v (.int .i64 n)] := by simp [bi]
theorem fgtV_sl (k : Key) (n sz : Nat) : fgtV (.sl k n sz) = .sl k n sz := rfl
theorem xcall_t (d u : Nat) (b : Bool) (k k1 k2 : Key) (c : List AV) (l m : List Int) : (s.xcall (some d) b k k1 k2 c l m).t u = if u = d then .v (.bool b) else s.t u := rfl
theorem xcall_t0 (b : Bool) (k k1 k2 : Key) (c : List AV) (l m : List Int) : (s.xcall none b k k1 k2 c l m).t = s.t := rfl
theorem xcall_b (d : Option Nat) (b : Bool) (k k1 k2 k' : Key) (c : List AV) (l m : List Int) : (s.xcall d b k k1 k2 c l m).b k' = if k' = k2 then some ⟨bi m, false⟩ else if k' = k1 then some ⟨bi l, false⟩ else if k' = k then some ⟨c, false⟩ else s.b k' := rfl
theorem xcall_d (d : Option Nat) (b : Bool) (k k1 k2 : Key) (c : List AV) (l m : List Int) : (s.xcall d b k k1 k2 c l m).d = s.d := rfl
theorem xcall_g (d : Option Nat) (b : Bool) (k k1 k2 : Key) (c : List AV) (l m : List Int) : (s.xcall d b k k1 k2 c l m).g = s.g := rfl
theorem stepM_intro {dst : Option Nat} {f : FuncId} {x0 : Operand} {xs : List Operand} {t0 : TypeId} {ts : List TypeId} {ty : TypeId} {ps : String} {af : Array Edge} {gd : Option (Nat × Bool)} (k k1 k2 : Key) {p : List AV} {q : AV} {l m : List Int} {b : Bool} {args : List AV}
    (hx : XCon P f args p q l m b) (ha : argsAV P s xs ts = args) (hl : xs.length ≤ ts.length) (hc : args.all cleanV = true) (h1 : s.o P t0 x0 = .box k 0) (h2 : s.b k = some ⟨xcell p k1 k2 l.length m.length q, false⟩) (h3 : s.b k1 = some ⟨bi l, false⟩)
    (h4 : s.b k2 = some ⟨bi m, false⟩) (hp : p.all clean = true) (hq : clean q = true) (hne : k ≠ k1 ∧ k ≠ k2 ∧ k1 ≠ k2)
    (hK : ∀ l' m' : List Int, l'.length = l.length → m'.length = m.length → (b = false → l' = l ∧ m' = m) → K (s.xcall dst b k k1 k2 (xcell p k1 k2 l.length m.length q) l' m')) :
    stepM P s ⟨dst, .call { callee := .value (.func f), args := (x0 :: xs).toArray, argTypes := (t0 :: ts).toArray }, ty, ps, af, gd⟩ K := by
  subst ha
  exact ⟨f, x0, xs, t0, ts, k, k1, k2, p, q, l, m, b, rfl, rfl, rfl, hl, h1, h2, ⟨hp, hq⟩, h3, h4, hne, hc, hx, hK⟩
theorem xcode_congr {c : Code} {s s' : St} {Q : Exit → St → Prop} (e : s = s') : xcode P X H c Q s = xcode P X H c Q s' := by rw [e]
theorem xops_congr {i : Nat} {l : List Oper} {s s' : St} {K : St → Prop} (e : s = s') : xops P ops h i l s K = xops P ops h i l s' K := by rw [e]
theorem stepM_congr {o : Oper} {s s' : St} {K : St → Prop} (e : s = s') : stepM P s o K = stepM P s' o K := by rw [e]
theorem stepT_congr {o : Oper} {s s' : St} {K : St → Prop} (e : s = s') : stepT P s o K = stepT P s' o K := by rw [e]
attribute [congr] xcode_congr xops_congr stepM_congr stepT_congr
theorem xloopK_intro {α : Type} {c : Code} {t : Tag (X, c, Q)} (I : α → St → Prop) (μ : α → Nat) (h0 : ∃ x, I x s) (hr : ∀ x s', I x s' → xcode P X H c (fun e s2 => match e with | .normal => ∃ y, μ y < μ x ∧ I y s2 | e => Q e s2) s') :
    xloopK P X H c Q s t := by
  obtain ⟨x0, h0⟩ := h0
  refine ⟨fun n s' => ∃ x, μ x = n ∧ I x s', ⟨μ x0, x0, rfl, h0⟩, ?_⟩
  rintro n s' ⟨x, rfl, hx⟩
  have := hr x s' hx
  have e : (fun (e : Exit) (s2 : St) => (match e with | .normal => ∃ y, μ y < μ x ∧ I y s2 | e => Q e s2)) = (fun (e : Exit) (s2 : St) => (match e with | .normal => ∃ m, m < μ x ∧ ∃ y, μ y = m ∧ I y s2 | e => Q e s2)) := by
    funext e s2
    cases e with
    | normal => exact propext ⟨fun ⟨y, h1, h2⟩ => ⟨_, h1, y, rfl, h2⟩, fun ⟨m, h1, y, h2, h3⟩ => ⟨y, h2 ▸ h1, h3⟩⟩
    | _ => rfl
  rw [e] at this
  exact this
attribute [go_sem] hkK_none hkK_some hkO_nil hkO_cons kdO_nil kdO_cons kdK_0 kdK_1 kdK_2 thw_v thw_list thw_agg thw_clo thw_sl thB_some bi_clean bi_list fgtV_sl xcall_t xcall_t0 xcall_b xcall_d xcall_g
attribute [go_sem ↓] xcode_region xcode_skip xcode_seq xcode_block xcode_scope xcode_exit xcode_ret xcode_loop xcode_cond xops_nil xops_cons xops_guard stepT_call

/-! ### A slice of the call's own that may still be written -/
variable {N : Nat} {w0 : World} {C0 : CMap} {E : EX} {a : Act} {w : World} {C : CMap} {ρ : RMap} {τ : TMap}
def retB (P : Program) (rs : List ResultVar) (n : Nat) (l : List AV) : Exit → St → Prop
  | .ret, s | .normal, s => oK (resAV P s rs) (fun xs => ∃ k m, one xs = .sl k n m ∧ s.b k = some ⟨l, false⟩ ∧ l.all clean = true) (.mk _)
  | _, _ => False
theorem retB_ret {rs : List ResultVar} {n : Nat} {l : List AV} : retB P rs n l .ret s = oK (resAV P s rs) (fun xs => ∃ k m, one xs = .sl k n m ∧ s.b k = some ⟨l, false⟩ ∧ l.all clean = true) (.mk _) := rfl
theorem retB_normal {rs : List ResultVar} {n : Nat} {l : List AV} : retB P rs n l .normal s = oK (resAV P s rs) (fun xs => ∃ k m, one xs = .sl k n m ∧ s.b k = some ⟨l, false⟩ ∧ l.all clean = true) (.mk _) := rfl
attribute [go_sem] retB_ret retB_normal
theorem bcon_of {D : List Ap → Array Oper → Bool} (hD : DOK P D) {X : Hints} {f : FuncId} {fn : Func} {c : Code} {rs : List ResultVar} {args : List AV} {n : Nat} {l : List AV} (hf : P.funcs[f]? = some fn) (hname : (fn.name == "runtime.NumGoroutine") = false) (hb : fn.body = some c)
    (hrs : fn.results.toList = rs) (hN : (dstOK fn.ntmps c && draws D X c && decide (args.length ≤ fn.ntmps)) = true) (h : acode P X c (retB P rs n l) (s0 args)) : BCon P f args n l := by
  refine ⟨enters_of hf hname hb, ?_⟩
  intro C w vs hC hl hv
  rw [Bool.and_eq_true] at hN
  refine calls_of_wp hf hb (acode_sound (N := fn.ntmps) (w0 := w) (C0 := C) (E := EX.none) hD c _ _ _ _ _ hN.1 ?_ h ⟨C, noρ, noτ, s0_rep hC hl hv (of_decide_eq_true hN.2)⟩)
  intro e s' a' w' hq hr
  obtain ⟨C', ρ', τ', hr⟩ := hr
  have main : oK (resAV P s' rs) (fun xs => ∃ k m, one xs = .sl k n m ∧ s'.b k = some ⟨l, false⟩ ∧ l.all clean = true) (.mk _) → a'.defers = [] ∧ ∃ v, (results fn a'.tmps).run P w' = .ok v w' ∧
      ∃ (b c : Nat) (C' : CMap) (cs : Array Value) (ty : TypeId), Ending.returned v = .returned (.slice (some ⟨b, 0, none⟩) n c) ∧ n ≤ c ∧ c ≤ maxLen ∧ Below w.heap.size w w' ∧ (∀ b o v, C b o = some v → C' b o = some v) ∧
      (∀ b o v, C' b o = some v → C b o = some v ∨ w.heap.size ≤ b) ∧ CW C' w' ∧ w.heap.size ≤ b ∧ w'.heap[b]? = some (.cells cs ty (0, 0)) ∧ cs.size = l.length ∧ (∀ (i : Nat) (v : Value), cs[i]? = some v → v.oneCell' = true) ∧
      (∀ (i : Nat) (v : Value) (x : AV), cs[i]? = some v → l[i]? = some x → RV C' noρ noτ v x) ∧ ∀ o, C' b o = none := by
    intro hq
    unfold oK at hq
    split at hq
    case h_2 => exact hq.elim
    rename_i xs hxs
    obtain ⟨k, m, hone, hB, hcl⟩ := hq
    obtain ⟨v, hrun, hv⟩ := results_run (P := P) (fn := fn) hr (by rw [hrs]; exact hxs)
    rw [hone] at hv
    obtain ⟨b, c, rfl, hρ, h1, h2⟩ := rv_sl hv
    obtain ⟨b', hρ', ⟨⟨cs, ty, g1, g2, g3, g4, _⟩, g6⟩, g7⟩ := hr.bx _ _ hB
    rw [hρ] at hρ'; cases hρ'
    refine ⟨hr.df, _, hrun, b, c, C', cs, ty, rfl, h1, h2, ⟨hr.fr.os, hr.fr.tape, hr.fr.output, hr.fr.size, fun k hk => hr.fr.block k hk id⟩, fun b o v h => hr.c0 _ _ _ h, ?_, hr.cw, g7.resolve_right id, g1, g2, g3, fun i v x hv hx => clean_rv (g4 i v x hv hx) (List.all_eq_true.1 hcl x (List.mem_of_getElem? hx)), g6 rfl⟩
    intro b o v h
    rcases Nat.lt_or_ge b w.heap.size with hlt | hge
    · exact (hr.c1 _ _ _ hlt h).imp_right fun h => h.elim
    · exact .inr hge
  cases e with
  | ret => exact main hq
  | normal => exact main hq
  | _ => exact hq.elim

/-! ### Functions that turn two lists -/
def s3 (args p : List AV) (q : AV) (l m : List Int) : St :=
  { t := fun u => if u = 0 then .box (0, 0, 0) 0 else args.getD (u - 1) .any
    b := fun k => if k = (0, 0, 0) then some ⟨xcell p (0, 0, 1) (0, 0, 2) l.length m.length q, false⟩ else if k = (0, 0, 1) then some ⟨bi l, false⟩ else if k = (0, 0, 2) then some ⟨bi m, false⟩ else none
    d := fun _ => false
    g := fun u => if u = 0 then 1 else 0 }
theorem s3_t (args p : List AV) (q : AV) (l m : List Int) (u : Nat) : (s3 args p q l m).t u = if u = 0 then .box (0, 0, 0) 0 else args.getD (u - 1) .any := rfl
theorem s3_b (args p : List AV) (q : AV) (l m : List Int) (k : Key) : (s3 args p q l m).b k = if k = (0, 0, 0) then some ⟨xcell p (0, 0, 1) (0, 0, 2) l.length m.length q, false⟩ else if k = (0, 0, 1) then some ⟨bi l, false⟩ else if k = (0, 0, 2) then some ⟨bi m, false⟩ else none := rfl
theorem s3_d (args p : List AV) (q : AV) (l m : List Int) (k : Key) : (s3 args p q l m).d k = false := rfl
theorem s3_g (args p : List AV) (q : AV) (l m : List Int) (u : Nat) : (s3 args p q l m).g u = if u = 0 then 1 else 0 := rfl
attribute [go_sem] s3_t s3_b s3_d s3_g
def retX (P : Program) (rs : List ResultVar) (p : List AV) (q : AV) (l m : List Int) (b : Bool) : Exit → St → Prop
  | .ret, s | .normal, s => oK (resAV P s rs) (fun xs => one xs = .v (.bool b) ∧ ∃ l' m' : List Int, s.b (0, 0, 0) = some ⟨xcell p (0, 0, 1) (0, 0, 2) l.length m.length q, false⟩ ∧ s.b (0, 0, 1) = some ⟨bi l', false⟩ ∧ s.b (0, 0, 2) = some ⟨bi m', false⟩ ∧
      l'.length = l.length ∧ m'.length = m.length ∧ (b = false → l' = l ∧ m' = m)) (.mk _)
  | _, _ => False
theorem retX_ret {rs : List ResultVar} {p : List AV} {q : AV} {l m : List Int} {b : Bool} : retX P rs p q l m b .ret s = oK (resAV P s rs) (fun xs => one xs = .v (.bool b) ∧ ∃ l' m' : List Int, s.b (0, 0, 0) = some ⟨xcell p (0, 0, 1) (0, 0, 2) l.length m.length q, false⟩ ∧ s.b (0, 0, 1) = some ⟨bi l', false⟩ ∧ s.b (0, 0, 2) = some ⟨bi m', false⟩ ∧
      l'.length = l.length ∧ m'.length = m.length ∧ (b = false → l' = l ∧ m' = m)) (.mk _) := rfl
theorem retX_normal {rs : List ResultVar} {p : List AV} {q : AV} {l m : List Int} {b : Bool} : retX P rs p q l m b .normal s = oK (resAV P s rs) (fun xs => one xs = .v (.bool b) ∧ ∃ l' m' : List Int, s.b (0, 0, 0) = some ⟨xcell p (0, 0, 1) (0, 0, 2) l.length m.length q, false⟩ ∧ s.b (0, 0, 1) = some ⟨bi l', false⟩ ∧ s.b (0, 0, 2) = some ⟨bi m', false⟩ ∧
      l'.length = l.length ∧ m'.length = m.length ∧ (b = false → l' = l ∧ m' = m)) (.mk _) := rfl
attribute [go_sem] retX_ret retX_normal
def ρ3 (x y z : Nat) : RMap := fun k => if k = (0, 0, 0) then some x else if k = (0, 0, 1) then some y else if k = (0, 0, 2) then some z else none
theorem ρ3_some {x y z b : Nat} {k : Key} (h : ρ3 x y z k = some b) : (k = (0, 0, 0) ∧ b = x) ∨ (k = (0, 0, 1) ∧ b = y) ∨ (k = (0, 0, 2) ∧ b = z) := by
  unfold ρ3 at h
  split at h
  · cases h; exact .inl ⟨by assumption, rfl⟩
  · split at h
    · cases h; exact .inr (.inl ⟨by assumption, rfl⟩)
    · split at h
      · cases h; exact .inr (.inr ⟨by assumption, rfl⟩)
      · cases h
theorem s3_box {args p : List AV} {q : AV} {l m : List Int} {k : Key} {B : Box} (h : (s3 args p q l m).b k = some B) :
    (k = (0, 0, 0) ∧ B = ⟨xcell p (0, 0, 1) (0, 0, 2) l.length m.length q, false⟩) ∨ (k = (0, 0, 1) ∧ B = ⟨bi l, false⟩) ∨ (k = (0, 0, 2) ∧ B = ⟨bi m, false⟩) := by
  rw [s3_b] at h
  split at h
  · cases h; exact .inl ⟨by assumption, rfl⟩
  · split at h
    · cases h; exact .inr (.inl ⟨by assumption, rfl⟩)
    · split at h
      · cases h; exact .inr (.inr ⟨by assumption, rfl⟩)
      · cases h
theorem s3_rep {args p : List AV} {q : AV} {l m : List Int} {x y z : Nat} {vs : Array Value} {w : World} (hC : CW C w) (hX : XB C w x y z p q l m) (hl : vs.size = args.length)
    (hv : ∀ (i : Nat) (v : Value) (x : AV), vs[i]? = some v → args[i]? = some x → RV C noρ noτ v x) (hN : args.length + 1 ≤ N) :
    RepG N w C ⟨fun i => i = x ∨ i = y ∨ i = z, ρ3 x y z⟩ (s3 args p q l m)
      { tmps := (#[Value.pointer (some ⟨x, 0, none⟩)] ++ vs) ++ Array.replicate (N - (#[Value.pointer (some ⟨x, 0, none⟩)] ++ vs).size) undef, defers := [] } w C (ρ3 x y z) noτ := by
  obtain ⟨cs, ty, c, d, g1, g2, g3, g4, g5, g6, g7, g8, g9, g10, g11⟩ := hX.ex
  obtain ⟨ty1, y1⟩ := hX.b1
  obtain ⟨ty2, z1⟩ := hX.b2
  have r0 : ρ3 x y z (0, 0, 0) = some x := rfl
  have r1 : ρ3 x y z (0, 0, 1) = some y := rfl
  have r2 : ρ3 x y z (0, 0, 2) = some z := rfl
  exact
  { df := rfl
    sz := by simp; omega
    tm := by
      intro t
      cases t with
      | zero => simpa [s3, Array.getElem?_append] using RV.box (0, 0, 0) x 0 r0
      | succ t =>
        simp only [s3, Nat.add_one_ne_zero, if_false, Nat.add_sub_cancel]
        by_cases ht : t < args.length
        · have h1 : t < vs.size := by omega
          have e : (#[Value.pointer (some ⟨x, 0, none⟩)] ++ vs ++ Array.replicate (N - (#[Value.pointer (some ⟨x, 0, none⟩)] ++ vs).size) undef).getD (t + 1) undef = vs[t] := by
            rw [Array.getD_eq_getD_getElem?, Array.getElem?_append_left (by simp; omega), Array.getElem?_append_right (by simp)]
            simp [h1]
          rw [e]
          simp only [List.getD, List.getElem?_eq_getElem ht, Option.getD_some]
          exact (hv t _ _ (by simp [h1]) (by simp [ht])).lift _ _
        · rw [List.getD, List.getElem?_eq_none (by omega)]
          exact .any _
    cw := hC
    c0 := fun _ _ _ h => h
    c1 := fun _ _ _ _ h => .inl h
    bx := by
      intro k B h
      rcases s3_box h with ⟨rfl, rfl⟩ | ⟨rfl, rfl⟩ | ⟨rfl, rfl⟩
      · refine ⟨x, r0, ⟨⟨cs, ty, g1, by simpa [xcell] using g2, g3, ?_, fun hz => by cases hz⟩, fun _ o => (hX.f o).1⟩, .inr (.inl rfl)⟩
        intro i u a hu ha
        rcases Nat.lt_or_ge i p.length with hi | hi
        · rw [xcell, List.getElem?_append_left hi] at ha
          exact (g4 i u a hu ha).lift _ _
        · rw [xcell, List.getElem?_append_right hi] at ha
          have hlt := (List.getElem?_eq_some_iff.1 ha).1
          simp at hlt
          have hcase : i = p.length ∨ i = p.length + 1 ∨ i = p.length + 2 := by omega
          rcases hcase with rfl | rfl | rfl
          · simp at ha; subst ha
            rw [g5] at hu; cases hu
            exact .sl _ y _ c 1 r1 g6 g7
          · rw [show p.length + 1 - p.length = 1 by omega] at ha
            simp at ha; subst ha
            rw [g8] at hu; cases hu
            exact .sl _ z _ d 1 r2 g9 g10
          · rw [show p.length + 2 - p.length = 2 by omega] at ha
            simp at ha; subst ha
            exact (g11 u hu).lift _ _
      · exact ⟨y, r1, ⟨⟨ints l, ty1, y1, by rw [ints_size, bi_len], fun i v hv => by obtain ⟨n, _, rfl⟩ := ints_at hv; rfl, fun i v u hv hu => ints_rv hv hu, fun hz => by cases hz⟩, fun _ o => (hX.f o).2.1⟩, .inr (.inr (.inl rfl))⟩
      · exact ⟨z, r2, ⟨⟨ints m, ty2, z1, by rw [ints_size, bi_len], fun i v hv => by obtain ⟨n, _, rfl⟩ := ints_at hv; rfl, fun i v u hv hu => ints_rv hv hu, fun hz => by cases hz⟩, fun _ o => (hX.f o).2.2⟩, .inr (.inr (.inr rfl))⟩
    bj := by
      intro k k' B B' b h h' e e'
      obtain ⟨n1, n2, n3⟩ := hX.ne
      rcases ρ3_some e with ⟨rfl, rfl⟩ | ⟨rfl, rfl⟩ | ⟨rfl, rfl⟩ <;> rcases ρ3_some e' with ⟨rfl, e2⟩ | ⟨rfl, e2⟩ | ⟨rfl, e2⟩ <;> first | rfl | (exfalso; omega)
    tk := fun k v n hk => by cases hk
    tj := fun k k' v v' n n' b hk => by cases hk
    fρ := by
      intro k b h
      rcases ρ3_some h with ⟨rfl, _⟩ | ⟨rfl, _⟩ | ⟨rfl, _⟩ <;> simp [s3]
    fτ := fun k x h => by cases h
    fo := fun k b h => h
    fr := ⟨rfl, rfl, rfl, Nat.le_refl _, fun _ _ _ => rfl⟩ }
theorem xcon_of {D : List Ap → Array Oper → Bool} (hD : DOK P D) {X : Hints} {H : XHints} {f : FuncId} {fn : Func} {c : Code} {rs : List ResultVar} {args p : List AV} {q : AV} {l m : List Int} {b : Bool} (hf : P.funcs[f]? = some fn) (hname : (fn.name == "runtime.NumGoroutine") = false) (hb : fn.body = some c)
    (hrs : fn.results.toList = rs) (hN : (dstOK fn.ntmps c && draws D X c && decide (args.length + 1 ≤ fn.ntmps)) = true) (hp : p.all clean = true) (hcq : clean q = true) (h : xcode P X H c (retX P rs p q l m b) (s3 args p q l m)) : XCon P f args p q l m b := by
  refine ⟨enters_of hf hname hb, ?_⟩
  intro C w x y z vs hC hX hl hv
  rw [Bool.and_eq_true] at hN
  have lx : x < w.heap.size := by obtain ⟨cs, ty, _, _, g, _⟩ := hX.ex; exact heap_lt g
  have ly : y < w.heap.size := by obtain ⟨ty, g⟩ := hX.b1; exact heap_lt g
  have lz : z < w.heap.size := by obtain ⟨ty, g⟩ := hX.b2; exact heap_lt g
  refine calls_of_wp hf hb (xcode_sound (N := fn.ntmps) (w0 := w) (C0 := C) (E := ⟨fun i => i = x ∨ i = y ∨ i = z, ρ3 x y z⟩) hD c _ _ _ _ _ hN.1 ?_ h ⟨C, _, noτ, s3_rep hC hX hl hv (of_decide_eq_true hN.2)⟩)
  intro e s' a' w' hq hr
  obtain ⟨C', ρ', τ', hr⟩ := hr
  have main : oK (resAV P s' rs) (fun xs => one xs = .v (.bool b) ∧ ∃ l' m' : List Int, s'.b (0, 0, 0) = some ⟨xcell p (0, 0, 1) (0, 0, 2) l.length m.length q, false⟩ ∧ s'.b (0, 0, 1) = some ⟨bi l', false⟩ ∧ s'.b (0, 0, 2) = some ⟨bi m', false⟩ ∧
      l'.length = l.length ∧ m'.length = m.length ∧ (b = false → l' = l ∧ m' = m)) (.mk _) → a'.defers = [] ∧ ∃ v, (results fn a'.tmps).run P w' = .ok v w' ∧
      ∃ (C' : CMap) (l' m' : List Int), Ending.returned v = .returned (.bool b) ∧ Fr w (fun i => i = x ∨ i = y ∨ i = z) w' ∧ (∀ b o v, C b o = some v → C' b o = some v) ∧
      (∀ b o v, C' b o = some v → C b o = some v ∨ w.heap.size ≤ b) ∧ CW C' w' ∧ XB C' w' x y z p q l' m' ∧ l'.length = l.length ∧ m'.length = m.length ∧ (b = false → l' = l ∧ m' = m) := by
    intro hq
    unfold oK at hq
    split at hq
    case h_2 => exact hq.elim
    rename_i xs hxs
    obtain ⟨hone, l', m', hB, hB1, hB2, e1, e2, e3⟩ := hq
    obtain ⟨v, hrun, hv⟩ := results_run (P := P) (fn := fn) hr (by rw [hrs]; exact hxs)
    rw [hone] at hv
    obtain ⟨rfl, _⟩ := rv_v hv
    have hρ0 : ρ' (0, 0, 0) = some x := hr.fo (0, 0, 0) x rfl
    have hρ1 : ρ' (0, 0, 1) = some y := hr.fo (0, 0, 1) y rfl
    have hρ2 : ρ' (0, 0, 2) = some z := hr.fo (0, 0, 2) z rfl
    obtain ⟨x', hρ', ⟨⟨cs, ty, g1, g2, g3, g4, _⟩, g6⟩, _⟩ := hr.bx _ _ hB
    rw [hρ0] at hρ'; cases hρ'
    obtain ⟨y', hρ', ⟨⟨cs1, ty1, y1, y2, y3, y4, _⟩, y6⟩, _⟩ := hr.bx _ _ hB1
    rw [hρ1] at hρ'; cases hρ'
    obtain ⟨z', hρ', ⟨⟨cs2, ty2, z1, z2, z3, z4, _⟩, z6⟩, _⟩ := hr.bx _ _ hB2
    rw [hρ2] at hρ'; cases hρ'
    have c1 : cs1 = ints l' := rv_ints (by simpa [bi] using y2) y4
    have c2 : cs2 = ints m' := rv_ints (by simpa [bi] using z2) z4
    subst c1 c2
    have hsz : cs.size = p.length + 3 := by simpa [xcell] using g2
    have sl1 : ∃ c, cs[p.length]? = some (.slice (some ⟨y, 0, none⟩) l'.length c) ∧ l'.length ≤ c ∧ c ≤ maxLen := by
      have hlt : p.length < cs.size := by omega
      have := g4 p.length cs[p.length] (.sl (0, 0, 1) l.length 1) (by simp [hlt]) (by simp [xcell])
      obtain ⟨b, c, e, hb, h1, h2⟩ := rv_sl this
      rw [hρ1] at hb; cases hb
      exact ⟨c, by simp [hlt, e, e1], by omega, h2⟩
    have sl2 : ∃ c, cs[p.length + 1]? = some (.slice (some ⟨z, 0, none⟩) m'.length c) ∧ m'.length ≤ c ∧ c ≤ maxLen := by
      have hlt : p.length + 1 < cs.size := by omega
      have := g4 (p.length + 1) cs[p.length + 1] (.sl (0, 0, 2) m.length 1) (by simp [hlt]) (by simp [xcell])
      obtain ⟨b, c, e, hb, h1, h2⟩ := rv_sl this
      rw [hρ2] at hb; cases hb
      exact ⟨c, by simp [hlt, e, e2], by omega, h2⟩
    obtain ⟨c, s1, s2, s3⟩ := sl1
    obtain ⟨d, t1, t2, t3⟩ := sl2
    refine ⟨hr.df, _, hrun, C', l', m', rfl, hr.fr, fun b o v h => hr.c0 _ _ _ h, ?_, hr.cw, ⟨⟨cs, ty, c, d, g1, hsz, g3, fun i v u hv hu => ?_, s1, s2, s3, t1, t2, t3, fun v hv => ?_⟩, ⟨ty1, y1⟩, ⟨ty2, z1⟩, fun o => ⟨g6 rfl o, y6 rfl o, z6 rfl o⟩, hX.ne⟩, e1, e2, e3⟩
    · intro b o v h
      rcases Nat.lt_or_ge b w.heap.size with hlt | hge
      · rcases hr.c1 _ _ _ hlt h with hh | hh
        · exact .inl hh
        · exfalso
          rcases hh with rfl | rfl | rfl
          · rw [g6 rfl o] at h; cases h
          · rw [y6 rfl o] at h; cases h
          · rw [z6 rfl o] at h; cases h
      · exact .inr hge
    · have hi := (List.getElem?_eq_some_iff.1 hu).1
      exact clean_rv (g4 i v u hv (by rw [xcell, List.getElem?_append_left hi]; exact hu)) (List.all_eq_true.1 hp u (List.mem_of_getElem? hu))
    · exact clean_rv (g4 (p.length + 2) v q hv (by simp [xcell])) hcq
  cases e with
  | ret => exact main hq
  | normal => exact main hq
  | _ => exact hq.elim
end Go.Sy
