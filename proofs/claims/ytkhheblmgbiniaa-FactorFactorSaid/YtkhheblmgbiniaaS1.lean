/- How many different numbers a list has, as the program counts them: a clone, sorted and compacted. The sorted, compacted list of a list's numbers. -/
import Derived.Test.YtkhheblmgbiniaaM4
import Derived.Test.YtkhheblmgbiniaaS0
import Derived.WalkKit
import Derived.Below
import Derived.Lib.OwnBridge
import Derived.Sort.Grow
import Derived.Sort.OwnSortedInts
namespace Go.Sy
open Go Go.RowKit Go.Sort Go.Proofs Go.Shelf

set_option maxHeartbeats 2000000 in
set_option maxRecDepth 100000 in
theorem img_tail (n : Nat) (arg : Value) (ss : List Int) (w : World) (hn : n ≤ 1000000)
    (hclone : Calls Try.prog 78 #[arg] w fun e w' => ∃ v', e = .returned v' ∧ w'.ownsRow w.heap.size 3 1 v' n (ss.map (Value.int .i64)) ∧ v' ≠ .slice none 0 0 ∧ Below w.heap.size w w') :
    Calls Try.prog 123 #[arg] w fun e w' => e = .returned (.int .i64 (sq ss).length) ∧ Below w.heap.size w w' := by
  go_enter Try.func123, Try.ntmps123
  go_wp2_with (first
    | (go_at_call 78; refine hclone.mono ?_; rintro e w1 ⟨v1, rfl, hown, hnn, hbel⟩
       obtain ⟨g, cap, rfl, hbg, hgl, hncap, hcm, hlen, hH⟩ := Lib.holds_of_ownsRow hown hnn
       have hsort := Try.slices_Sort_int g 0 cap ss w1 hH hgl (by omega)
       rw [hlen] at hsort
       have X : Aside (Below w.heap.size w w1 ∧ w.heap.size ≤ g ∧ g < w1.heap.size ∧ n ≤ cap ∧ ss.length = n ∧ Holds (Value.int .i64) w1 g 0 ss.toArray) := ⟨hbel, hbg, hgl, hncap, hlen, hH⟩
       clear hown hbel hH hnn)
    | (go_at_call 148; refine hsort.mono ?_; rintro e w2 ⟨rfl, nn, os, rfl⟩
       have hl2 : (ss.mergeSort fun x y => decide (x ≤ y)).length = n := by rw [List.length_mergeSort]; exact X.out.2.2.2.2.1
       have hH2 : Holds (Value.int .i64) (grow (putRow (Value.int .i64) (Sort.ahead w1 nn) g 0 (ss.mergeSort fun x y => decide (x ≤ y)).toArray) os) g 0 (ss.mergeSort fun x y => decide (x ≤ y)).toArray :=
         holds_grow (Value.int .i64) _ os g 0 _ (by simpa [putRow, mapBlock, Sort.ahead] using X.out.2.2.1) (holds_putRow (Value.int .i64) _ g 0 _ _ (holds_ahead (Value.int .i64) w1 nn g 0 _ X.out.2.2.2.2.2) (by simp))
       have hcomp := Try.slices_Compact_int g 0 cap (ss.mergeSort fun x y => decide (x ≤ y)) _ hH2 (by omega) (by have := X.out.2.2.2.1; omega)
       rw [hl2] at hcomp
       clear hH2 hsort)
    | (go_at_call 138; refine hcomp.mono ?_; rintro e w3 ⟨rfl, q, rfl⟩))
  go_ret
  exact ⟨rfl, Lib.below_putRow (X.out.1.grown (grownBy_sortedI _) X.out.1.size (fun j hj => by cases hj; exact X.out.2.1)) X.out.2.1⟩

set_option maxHeartbeats 2000000 in
theorem img_nil_c (c : Nat) (w : World) : Calls Try.prog 123 #[.slice none 0 c] w fun e w' => e = .returned (.int .i64 0) ∧ w' = w := by
  go_enter Try.func123, Try.ntmps123
  go_wp2_with (first
    | (go_at_call 78; refine (Try.slices_Clone_int_nil 0 c _).mono ?_; rintro e w' ⟨rfl, rfl⟩)
    | (go_at_call 148; refine (Try.slices_Sort_int_none none 0 _).mono ?_; rintro e w' ⟨rfl, rfl⟩)
    | (go_at_call 138; refine (Try.slices_Compact_int_empty none 0 _).mono ?_; rintro e w' ⟨rfl, rfl⟩))
  go_ret
  exact ⟨rfl, rfl⟩

theorem cell_ltS {w : World} {b o : Nat} {v : Value} (h : w.cell? ⟨b, o, none⟩ = some v) : b < w.heap.size := by
  rcases Nat.lt_or_ge b w.heap.size with h1 | h1
  · exact h1
  · simp [World.cell?, Array.getElem?_eq_none h1] at h
theorem cw_below {C : CMap} {w w' : World} (hC : CW C w) (hb : Below w.heap.size w w') : CW C w' := fun b o v h =>
  ⟨by rw [hb.cell (p := ⟨b, o, none⟩) (cell_ltS (hC b o v h).1)]; exact (hC b o v h).1, (hC b o v h).2⟩
theorem intl_cells {C : CMap} {w : World} {v : Value} {l : List Int} {ρ : RMap} {τ : TMap} (hC : CW C w) (h : RV C ρ τ v (lv l)) :
    ∃ A c, v = .slice A l.length c ∧ l.length ≤ c ∧ (l ≠ [] → ∃ b o, A = some ⟨b, o, none⟩ ∧ ∀ j, j < l.length → w.cell? ⟨b, o + j, none⟩ = some (.int .i64 (l.getD j 0))) := by
  obtain ⟨A, c, cv, rfl, hc, hm, hcell, hrv, _⟩ := rv_list h
  have hlen : (l.map fun n => [iv n]).length = l.length := by simp
  refine ⟨A, c, by rw [hlen], by rw [← hlen]; exact hc, fun hne => ?_⟩
  have hpos : 0 < l.length := List.length_pos_iff.2 hne
  obtain ⟨_, b, o, hA, _⟩ := hcell 0 _ (List.getElem?_eq_getElem (by simp; exact hpos))
  refine ⟨b, o, hA, fun j hj => ?_⟩
  have hx : (l.map fun n => [iv n])[j]? = some [iv l[j]] := by simp [hj]
  obtain ⟨_, b', o', hA', hC'⟩ := hcell j _ hx
  rw [hA] at hA'
  injection hA' with hA'
  injection hA' with h1 h2
  subst h1; subst h2
  have h3 := (hC _ _ _ (hC' 0 (by omega))).1
  have h4 := rv_v (hrv j _ 0 _ hx rfl)
  rw [h4.1] at h3
  rw [getD_at hj]
  simpa using h3
set_option maxRecDepth 10000 in
theorem c123 (l : List Int) (h : l.length ≤ 1000000) : Con Try.prog 123 [lv l] 0 (iv (sq l).length) := by
  refine ⟨(enters_of Try.func123 (by kernel_rfl) rfl), fun C w vs hC hsz hrv => ?_⟩
  obtain ⟨vl⟩ := vs
  match vl, hsz with
  | [v], _ =>
    have hv := hrv 0 v (lv l) rfl rfl
    obtain ⟨A, c, rfl, _, hcell⟩ := intl_cells hC hv
    have fin : ∀ e w', (e = .returned (.int .i64 ((sq l).length : Int)) ∧ Below w.heap.size w w') → ∃ v C' τ', e = Ending.returned v ∧ Below w.heap.size w w' ∧ (∀ b o v, C b o = some v → C' b o = some v) ∧ (∀ b o v, C' b o = some v → C b o = some v ∨ w.heap.size ≤ b) ∧
        CW C' w' ∧ RV C' noρ τ' v (iv (sq l).length) ∧ Toks C' w' τ' 0 w.heap.size := fun e w' ⟨he, hb⟩ =>
      ⟨_, C, noτ, he, hb, fun _ _ _ h => h, fun _ _ _ h => .inl h, cw_below hC hb, .v _ rfl, ⟨fun _ _ h => (by cases h), fun _ _ _ h => (by cases h), fun _ _ _ _ _ _ _ h => (by cases h)⟩⟩
    by_cases hl : l = []
    · subst hl
      have e0 : (sq []).length = 0 := by have := sq_len []; simpa using this
      cases A with
      | none =>
        refine (img_nil_c c w).mono fun e w' hq => fin e w' ⟨by rw [hq.1, e0]; rfl, by rw [hq.2]; exact Below.refl _ _⟩
      | some a => exact (img_tail 0 _ [] w (by omega) (Try.slices_Clone_int_zero a c w)).mono fin
    · obtain ⟨b, o, rfl, hc2⟩ := hcell hl
      have hcl := Try.slices_Clone_int b o l.length c l w (Nat.le_refl _) (by omega) hc2
      rw [List.take_length] at hcl
      exact (img_tail l.length _ l w h hcl).mono fin
end Go.Sy
