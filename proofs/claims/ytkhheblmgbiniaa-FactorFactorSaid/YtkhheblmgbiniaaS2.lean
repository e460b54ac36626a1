/- A list's different numbers, ascending, as the program lists them: an iterator over the list, collected, sorted and compacted. -/
import Derived.Test.YtkhheblmgbiniaaS1
import Derived.RangeFuncBox
import Derived.RangeFuncLeaves
import Derived.Shelf.Abstract
import Derived.WalkKit
import Derived.OwnWalkIn
import Derived.TacticsInMore
import Derived.LoopNIn
import Derived.LoopIn
import Derived.Maps.AppendAt
namespace Go.Sy
open Go Go.RowKit Go.Sort Go.Proofs Go.Shelf

attribute [local go_sem] Oper.semAt_some

def upto {α : Type} (f : Nat → α) (k : Nat) : List α := (List.range k).map f
theorem upto_succ {α : Type} (f : Nat → α) (k : Nat) : upto f (k + 1) = upto f k ++ [f k] := by simp [upto, List.range_succ]
theorem upto_length {α : Type} (f : Nat → α) (k : Nat) : (upto f k).length = k := by simp [upto]
theorem upto_all (zs : List Int) : upto (fun j => zs[j]?.getD 0) zs.length = zs := by
  apply List.ext_getElem
  · simp [upto]
  · intro i h1 h2
    simp [upto, h2]
theorem upto_take (zs : List Int) {k : Nat} (hk : k ≤ zs.length) : upto (fun j => zs[j]?.getD 0) k = zs.take k := by
  apply List.ext_getElem
  · simp [upto, hk]
  · intro i h1 h2
    have : i < zs.length := by simp [upto] at h1; omega
    simp [upto, this]

set_option maxRecDepth 100000 in
set_option maxHeartbeats 2000000 in
/-- The iterator over a list, for every loop body that keeps what lay below n₀. -/
theorem vals1_in (F : Fence) (n : Nat) (h7 : F.fn 156) (hro : F.round = none) (hn : 1 ≤ n) (l Bs n₀ b off len cap : Nat) (zs : List Int) (hreach : len * 8 ≤ 140737488351232) (hb : b < n₀) (J Jx : List Int → World → Prop)
    (hY : ∀ pre x W, J pre W → pre.length < len → YieldAt F (n - 1) Try.prog l #[.int .i64 x] W fun e W' =>
      (e = .returned (.bool true) ∧ J (pre ++ [x]) W' ∧ Below n₀ W W') ∨ (e = .returned (.bool false) ∧ Jx (pre ++ [x]) W'))
    (W : World) (hBs : W.cell? ⟨Bs, 0, none⟩ = some (.slice (some ⟨b, off, none⟩) len cap)) (hc : ∀ j, j < len → W.cell? ⟨b, off + j, none⟩ = some (.int .i64 (zs[j]?.getD 0))) (h0 : J [] W) :
    CallsIn F n Try.prog 156 #[.func (.yield l) #[] #[], .pointer (some ⟨Bs, 0, none⟩)] W fun e W' => (∃ v, e = .returned v) ∧
      ((∃ ys, ys = upto (fun j => zs[j]?.getD 0) len ∧ J ys W') ∨ (∃ pre, (∃ k, k ≤ len ∧ pre = upto (fun j => zs[j]?.getD 0) k) ∧ Jx pre W')) := by
  refine callsIn_of_wp Try.func156 rfl h7 ?_ hro
  simp only [Try.ntmps156, List.size_toArray, List.length_cons, List.length_nil, Nat.reduceAdd, Nat.reduceSub, Array.replicate_succ, Array.replicate_zero, List.push_toArray, List.append_toArray, List.nil_append, List.cons_append]
  gi_wp2
  gi_loopw [7] (fun i wr => ∃ k : Nat, k ≤ len ∧ i = .int .i64 k ∧ J (upto (fun j => zs[j]?.getD 0) k) wr ∧ Below n₀ W wr)
    (fun i _ => len - (RowKit.intOf i).toNat)
  case atStart => exact ⟨0, Nat.zero_le _, rfl, h0, Below.refl _ _⟩
  case round =>
    obtain ⟨k, hk, rfl, hJs, hnx⟩ := hrel
    have hcx : k < len → wr.cell? ⟨b, off + k, none⟩ = some (.int .i64 (zs[k]?.getD 0)) := fun h => (hnx.cell (p := ⟨b, off + k, none⟩) hb).trans (hc k h)
    by_cases hlt : k < len
    · obtain ⟨fn, tmps, assign, body, hy, hR⟩ := hY _ (zs[k]?.getD 0) wr hJs (by rw [upto_length]; exact hlt)
      have hcx' := hcx hlt
      gi_wp2
      refine hR.mono ?_
      rintro e W3 (⟨rfl, hJ3, hk3⟩ | ⟨rfl, hJx3⟩)
      · gi_wp2
        go_roundw
        case rel => exact ⟨k + 1, by omega, by simp, by rw [upto_succ]; exact hJ3, hnx.trans hk3⟩
        case measure => simp [RowKit.intOf]; omega
      · gi_wp2
        refine bodyPost_ret (results_none rfl _ _ _) rfl ?_
        exact ⟨⟨_, rfl⟩, .inr ⟨_, ⟨k + 1, by omega, (upto_succ _ _).symm⟩, hJx3⟩⟩
    · obtain rfl : k = len := by omega
      gi_wp2
      go_end0
      exact ⟨⟨_, rfl⟩, .inl ⟨_, rfl, hJs⟩⟩
set_option maxRecDepth 100000 in
set_option maxHeartbeats 1000000 in
theorem vals1_nil_in (F : Fence) (n : Nat) (h7 : F.fn 156) (hro : F.round = none) (l Bs : Nat) (a : Option Addr) (c : Nat) (J : List Int → World → Prop) (W : World) (hBs : W.cell? ⟨Bs, 0, none⟩ = some (.slice a 0 c)) (h0 : J [] W) :
    CallsIn F n Try.prog 156 #[.func (.yield l) #[] #[], .pointer (some ⟨Bs, 0, none⟩)] W fun e W' => (∃ v, e = .returned v) ∧ J [] W' := by
  refine callsIn_of_wp Try.func156 rfl h7 ?_ hro
  simp only [Try.ntmps156, List.size_toArray, List.length_cons, List.length_nil, Nat.reduceAdd, Nat.reduceSub, Array.replicate_succ, Array.replicate_zero, List.push_toArray, List.append_toArray, List.nil_append, List.cons_append]
  gi_wp2
  gi_loopw [7] (fun i wr => i = .int .i64 0 ∧ J [] wr) (fun _ _ => 0)
  case atStart => exact ⟨rfl, h0⟩
  case round =>
    obtain ⟨rfl, hJs⟩ := hrel
    gi_wp2
    go_end0
    exact ⟨⟨_, rfl⟩, hJs⟩
/-- The slice value sv holds the ints zs, in a block below n₀; or there are none. -/
def IntsAt (n₀ : Nat) (W : World) (sv : Value) (zs : List Int) : Prop :=
  (∃ a c, sv = .slice a 0 c ∧ zs = []) ∨ ∃ b off cap, sv = .slice (some ⟨b, off, none⟩) zs.length cap ∧ b < n₀ ∧ ∀ j, j < zs.length → W.cell? ⟨b, off + j, none⟩ = some (.int .i64 (zs[j]?.getD 0))
theorem IntsAt.below {n₀ : Nat} {A B : World} (h : Below n₀ A B) {sv : Value} {zs : List Int} : IntsAt n₀ A sv zs → IntsAt n₀ B sv zs
  | .inl e => .inl e
  | .inr ⟨b, off, cap, e, hb, hc⟩ => .inr ⟨b, off, cap, e, hb, fun j hj => (h.cell (p := ⟨b, off + j, none⟩) hb).trans (hc j hj)⟩
set_option maxHeartbeats 1000000 in
theorem vals_at (a : Option Addr) (len cap : Nat) (w : World) :
    Calls Try.prog 140 #[.slice a len cap] w fun e w' => e = .returned (.func (.func 156) #[] #[.pointer (some ⟨w.heap.size, 0, none⟩)]) ∧ w' = w.alloc (.cells #[.slice a len cap] 22) := by
  go_enter Try.func140, Try.ntmps140
  go_wp2
  go_ret
  exact ⟨rfl, rfl⟩
theorem vals_stops (F : Fence) (n : Nat) (h7 : F.fn 156) (hro : F.round = none) (hn : 1 ≤ n) (Bs n₀ : Nat) (sv : Value) (zs : List Int) (hreach : zs.length * 8 ≤ 140737488351232) (w : World) (hBs : Bs < w.heap.size) (hn₀ : n₀ ≤ w.heap.size)
    (hc : w.cell? ⟨Bs, 0, none⟩ = some sv) (hI : IntsAt n₀ w sv zs) :
    SeqStopsK F n Try.prog 156 #[.pointer (some ⟨Bs, 0, none⟩)] (fun x : Int => #[Value.int .i64 x]) (Below n₀) (fun ys => ys = zs) (fun pre => pre <+: zs) zs.length w := fun l J Jx W hW _ _ hY h0 => by
  have hc' := (hW.cell (p := ⟨Bs, 0, none⟩) hBs).trans hc
  rcases hI.below (hW.mono hn₀) with ⟨a, c, rfl, rfl⟩ | ⟨b, off, cap, rfl, hb, hcs⟩
  · exact (vals1_nil_in F n h7 hro l Bs a c J W hc' h0).mono fun e W' ⟨he, hj⟩ => ⟨he, .inl ⟨_, rfl, hj⟩⟩
  · refine (vals1_in F n h7 hro hn l Bs n₀ b off zs.length cap zs hreach hb J Jx hY W hc' hcs h0).mono ?_
    rintro e W' ⟨he, ⟨ys, rfl, hj⟩ | ⟨pre, ⟨k, hk, rfl⟩, hj⟩⟩
    · exact ⟨he, .inl ⟨_, upto_all zs, hj⟩⟩
    · exact ⟨he, .inr ⟨_, by rw [upto_take zs hk]; exact List.take_prefix _ _, hj⟩⟩
theorem info3 : (Try.prog.info? 3).map (fun i => (i.zero, i.size, i.bytes)) = some (some (.int .i64 0), 1, 8) := by kernel_rfl
set_option maxRecDepth 100000 in
set_option maxHeartbeats 2000000 in
/-- What the iterator gives, appended to nothing. -/
theorem appSeq_in (F : Fence) (n : Nat) (h3 : F.fn 166) (h5 : F.fn 156) (hro : F.round = none) (hn : 3 ≤ n) (Bs : Nat) (sv : Value) (zs : List Int) (hz : zs.length ≤ 1000000) (w : World) (hBs : w.cell? ⟨Bs, 0, none⟩ = some sv) (hI : IntsAt w.heap.size w sv zs) :
    CallsIn F n Try.prog 166 #[.slice none 0 0, .func (.func 156) #[] #[.pointer (some ⟨Bs, 0, none⟩)]] w fun e W' => ∃ v, e = .returned v ∧ W'.ownsRow w.heap.size 3 1 v zs.length (zs.map (Value.int .i64)) ∧ (v = .slice none 0 0 ↔ zs = []) ∧ Below w.heap.size w W' := by
  have h1 : 1 ≤ n := by omega
  have hm : (1000000 : Nat) ≤ maxLen := by decide
  obtain ⟨i0, hi, hz0, hz1, hz2⟩ := info_parts info3
  have hbs := cell_lt hBs
  refine callsIn_of_wp_marks Try.func166 rfl h3 ?_ hro
  simp only [Try.ntmps166, List.size_toArray, List.length_cons, List.length_nil, Nat.reduceAdd, Nat.reduceSub, Array.replicate_succ, Array.replicate_zero, List.push_toArray, List.append_toArray, List.nil_append, List.cons_append]
  gi_wp2
  have bO := Boxed.new w 22 (.slice none 0 0)
  have hB0 : Below w.heap.size w (w.alloc (.cells #[.slice none 0 0] 22)) := (Below.refl _ w).alloc (Nat.le_refl _) _
  refine wpIn_rangeFunc_ownG hro h1 (gf := 156) (lb := #[.pointer (some ⟨Bs, 0, none⟩)]) rfl h5 (enters_of Try.func156 (by kernel_rfl) rfl)
    (vals_stops F (n - 1) h5 hro (by omega) Bs w.heap.size sv zs (by omega) _ (by simp; omega) (by simp) ((hB0.cell (p := ⟨Bs, 0, none⟩) hbs).trans hBs) (hI.below hB0)) belowK_t (belowK_b (by simp)) (Below.refl _ _) (fun _ => rfl)
    (fun pre W => (∃ v, Boxed W w.heap.size 22 v ∧ W.ownsRow w.heap.size 3 1 v pre.length (pre.map (Value.int .i64)) ∧ (v = .slice none 0 0 ↔ pre = [])) ∧ Below w.heap.size w W)
    (fun _ _ _ => False)
    (OwnFrom.and (Own.from (holdsRow_own w.heap.size w.heap.size 22 3 1 (fun pre => pre.length) (fun pre => pre.map (Value.int .i64)) (fun pre v => v = .slice none 0 0 ↔ pre = [])) _) (ownFrom_below (Nat.le_refl _) (by simp)))
    (fun _ _ _ _ _ hs _ _ => hs)
    ⟨⟨_, bO, World.ownsRow_nil _ _ _ _, by simp⟩, hB0⟩
    (fun x => { tmps := #[.slice none 0 0, .func (.func 156) #[] #[.pointer (some ⟨Bs, 0, none⟩)], .pointer (some ⟨w.heap.size, 0, none⟩), undef, .slice none 0 0, .int .i64 x, .func (.func 156) #[] #[.pointer (some ⟨Bs, 0, none⟩)], .int .i64 x, undef, undef, undef, undef, undef], defers := [] }) ?assign ?body ?done ?stop
  case assign =>
    intro l x W K hK
    gi_wp2
    exact hK
  case body =>
    rintro l pre x W ⟨⟨v, hv, hrow, hnil⟩, hB⟩ hlt
    have hc := hv.cell
    gi_wp2_with (gi_at_builtin; refine wpListIn_append_own _ rfl _ _ 22 rfl w.heap.size 3 i0 (.int .i64 0) 1 8 Try.underlying22 hi hz0 hz1 hz2 rfl (by decide) _ _ _ rfl (hrow.alloc _) ⟨W.heap.size, 0, none⟩ 1 1 [.int .i64 x] rfl rfl (cell_one_new _ _ _) (by simp [Value.oneCell']) (by omega) (by omega) (by have := hB.size; simp; omega) ?_; intro v' w1 hown' hgrow _; obtain ⟨g', cap', rfl⟩ := ownsRow_succ hown'; obtain ⟨hv1, hv2, hr2, hk2, hb2⟩ := hv.appended (by decide) hrow hB.size (Nat.le_refl _) hown' hgrow; have hc1 := hv1.cell; have hf1 := hv1.frozen)
    exact ⟨hk2.from _, hb2, ⟨_, hv2, by simpa using hr2, by simp⟩, hB.trans hb2⟩
  case done =>
    rintro D ys W hD rfl ⟨⟨v, hv, hrow, hnil⟩, hB⟩ hK
    have hc := hv.cell
    gi_wp2
    refine ⟨by simp, .inl ⟨_, _, rfl, run_takeDeferred hK, ?_⟩⟩
    exact ⟨_, results_tmp rfl _ _ _, v, rfl, ownsRow_putObj hrow _ hK rfl, hnil, hB.trans (belowK_b (w := w) (Nat.le_refl _) W D _ _ (by simp at hD; omega) hK rfl rfl)⟩
  case stop =>
    rintro D c pre W _ _ h _
    exact h.elim
/-- What a call leaves that hands back a list of its own. -/
theorem ret_list {C : CMap} {w w' : World} {v : Value} {zs : List Int} (hC : CW C w) (hb : Below w.heap.size w w') (ho : w'.ownsRow w.heap.size 3 1 v zs.length (zs.map (Value.int .i64))) :
    ∃ v' C' τ', Ending.returned v = .returned v' ∧ Below w.heap.size w w' ∧ (∀ b o v, C b o = some v → C' b o = some v) ∧ (∀ b o v, C' b o = some v → C b o = some v ∨ w.heap.size ≤ b) ∧ CW C' w' ∧ RV C' noρ τ' v' (lv zs) ∧ Toks C' w' τ' 0 w.heap.size := by
  have hC' := cw_below hC hb
  rcases ho.2 with ⟨rfl, hn⟩ | ⟨g, cap, cur, rfl, hbase, hg, r1, r2, r3, r4⟩
  · have hz : zs = [] := List.eq_nil_of_length_eq_zero hn
    subst hz
    exact ⟨_, C, noτ, rfl, hb, fun _ _ _ h => h, fun _ _ _ h => .inl h, hC', .list 1 [] .no none 0 0 (fun _ _ => default) rfl (Nat.le_refl _) (by decide) (fun i x h => by simp at h) (fun i x j a h => by simp at h) trivial,
      ⟨fun _ _ h => (by cases h), fun _ _ _ h => (by cases h), fun _ _ _ _ _ _ _ h => (by cases h)⟩⟩
  · have hnew : ∀ o, C g o = none := fun o => by
      cases h : C g o with
      | none => rfl
      | some u => have := cell_lt (hC g o u h).1; omega
    have hcell : ∀ j, j < zs.length → w'.cell? ⟨g, j, none⟩ = some (.int .i64 (zs.getD j 0)) := fun j hj => by
      have e1 : (cur.toList.take (zs.length * 1))[j]? = (zs.map (Value.int .i64))[j]? := by rw [r4]
      rw [List.getElem?_take, if_pos (by omega), Array.getElem?_toList, List.getElem?_map, List.getElem?_eq_getElem hj] at e1
      simp only [World.cell?, hg]
      simp only [Option.isSome_none, Bool.false_eq_true, if_false]
      rw [e1, getD_at hj]
      rfl
    refine ⟨_, fun b o => if b = g then (if o < zs.length then some (.int .i64 (zs.getD o 0)) else none) else C b o, noτ, rfl, hb, fun b o v h => ?_, fun b o v h => ?_, fun b o v h => ?_, ?_, ⟨fun _ _ h => (by cases h), fun _ _ _ h => (by cases h), fun _ _ _ _ _ _ _ h => (by cases h)⟩⟩
    · show (if b = g then _ else C b o) = some v
      by_cases hbg : b = g
      · rw [hbg, hnew] at h; cases h
      · rw [if_neg hbg]; exact h
    · have h : (if b = g then (if o < zs.length then some (Value.int .i64 (zs.getD o 0)) else none) else C b o) = some v := h
      by_cases hbg : b = g
      · exact .inr (by omega)
      · rw [if_neg hbg] at h; exact .inl h
    · have h : (if b = g then (if o < zs.length then some (Value.int .i64 (zs.getD o 0)) else none) else C b o) = some v := h
      by_cases hbg : b = g
      · rw [if_pos hbg] at h
        by_cases ho' : o < zs.length
        · rw [if_pos ho'] at h
          cases h
          rw [hbg]
          exact ⟨hcell o ho', rfl⟩
        · rw [if_neg ho'] at h; cases h
      · rw [if_neg hbg] at h; exact hC' b o v h
    · have hl : (zs.map fun n => [iv n]).length = zs.length := by simp
      refine .list 1 _ .no _ _ cap (fun i _ => .int .i64 (zs.getD i 0)) hl r1 r2 (fun i x hx => ?_) (fun i x j a hx ha => ?_) trivial
      · have hi : i < zs.length := by
          have := (List.getElem?_eq_some_iff.1 hx).1
          simpa using this
        rw [List.getElem?_map, List.getElem?_eq_getElem hi] at hx
        cases hx
        refine ⟨rfl, g, 0, rfl, fun j hj => ?_⟩
        show (if g = g then (if 0 + i * 1 + j < zs.length then some (Value.int .i64 (zs.getD (0 + i * 1 + j) 0)) else none) else C g (0 + i * 1 + j)) = _
        have e : 0 + i * 1 + j = i := by omega
        rw [if_pos rfl, e, if_pos hi]
      · have hi : i < zs.length := by
          have := (List.getElem?_eq_some_iff.1 hx).1
          simpa using this
        rw [List.getElem?_map, List.getElem?_eq_getElem hi] at hx
        cases hx
        cases j with
        | zero =>
          cases ha
          rw [getD_at hi]
          exact .v _ rfl
        | succ j => simp at ha
theorem appSeq (Bs : Nat) (sv : Value) (zs : List Int) (hz : zs.length ≤ 1000000) (w : World) (hBs : w.cell? ⟨Bs, 0, none⟩ = some sv) (hI : IntsAt w.heap.size w sv zs) :
    Calls Try.prog 166 #[.slice none 0 0, .func (.func 156) #[] #[.pointer (some ⟨Bs, 0, none⟩)]] w fun e W' => ∃ v, e = .returned v ∧ W'.ownsRow w.heap.size 3 1 v zs.length (zs.map (Value.int .i64)) ∧ (v = .slice none 0 0 ↔ zs = []) ∧ Below w.heap.size w W' :=
  (callsIn_wide (n := 3)).1 (appSeq_in Fence.wide 3 trivial trivial rfl (Nat.le_refl _) Bs sv zs hz w hBs hI)
set_option maxHeartbeats 1000000 in
theorem collect_at (Bs : Nat) (sv : Value) (zs : List Int) (hz : zs.length ≤ 1000000) (w : World) (hBs : w.cell? ⟨Bs, 0, none⟩ = some sv) (hI : IntsAt w.heap.size w sv zs) :
    Calls Try.prog 155 #[.func (.func 156) #[] #[.pointer (some ⟨Bs, 0, none⟩)]] w fun e W' => ∃ v, e = .returned v ∧ W'.ownsRow w.heap.size 3 1 v zs.length (zs.map (Value.int .i64)) ∧ (v = .slice none 0 0 ↔ zs = []) ∧ Below w.heap.size w W' := by
  go_enter Try.func155, Try.ntmps155
  go_wp2_with (go_at_call 166; refine (appSeq Bs sv zs hz w hBs hI).mono ?_; rintro e w' ⟨v, rfl, h⟩)
  go_ret
  exact ⟨v, rfl, h⟩
/-- What is sorted: the list lies in a slice of the call's own. -/
theorem own_sorted {w w1 : World} {g cap n nn : Nat} {os : Array Obj} {zs : List Int} (ho : w1.ownsRow w.heap.size 3 1 (.slice (some ⟨g, 0, none⟩) n cap) n (zs.map (Value.int .i64))) (hb : Below w.heap.size w w1) (hg : w.heap.size ≤ g) (hl : zs.length = n) :
    (grow (putRow (Value.int .i64) (Sort.ahead w1 nn) g 0 (zs.mergeSort fun x y => decide (x ≤ y)).toArray) os).ownsRow w.heap.size 3 1 (.slice (some ⟨g, 0, none⟩) n cap) n ((zs.mergeSort fun x y => decide (x ≤ y)).map (Value.int .i64)) ∧
    Below w.heap.size w (grow (putRow (Value.int .i64) (Sort.ahead w1 nn) g 0 (zs.mergeSort fun x y => decide (x ≤ y)).toArray) os) := by
  subst hl
  rcases ho.2 with ⟨h0, _⟩ | ⟨g', cap', cur, hv, hbase, hb', h1, h2, h3, h4⟩
  · cases h0
  cases hv
  exact ⟨ownsRow_sortedI (by rw [List.length_mergeSort]) hbase hb' h1 h2 h3, hb.grown (grownBy_sortedI _) hb.size (fun j hj => by cases hj; exact hg)⟩
set_option maxHeartbeats 2000000 in
theorem sorted_at (Bs : Nat) (sv : Value) (zs : List Int) (hz : zs.length ≤ 1000000) (w : World) (hBs : w.cell? ⟨Bs, 0, none⟩ = some sv) (hI : IntsAt w.heap.size w sv zs) :
    Calls Try.prog 139 #[.func (.func 156) #[] #[.pointer (some ⟨Bs, 0, none⟩)]] w fun e W' => ∃ v, e = .returned v ∧ W'.ownsRow w.heap.size 3 1 v zs.length ((zs.mergeSort fun x y => decide (x ≤ y)).map (Value.int .i64)) ∧ (v = .slice none 0 0 ↔ zs = []) ∧ Below w.heap.size w W' := by
  go_enter Try.func139, Try.ntmps139
  by_cases hz0 : zs = []
  · subst hz0
    go_wp2_with (first
      | (go_at_call 155; refine (collect_at Bs sv [] hz w hBs hI).mono ?_; rintro e w1 ⟨v, rfl, hown, hnil, hbel⟩
         obtain rfl := hnil.2 (by first | exact rfl | trivial)
         have X : Aside (w1.ownsRow w.heap.size 3 1 (.slice none 0 0) 0 [] ∧ Below w.heap.size w w1) := ⟨hown, hbel⟩
         clear hown hbel hnil)
      | (go_at_call 148; refine (Try.slices_Sort_int_none none 0 _).mono ?_; rintro e w' ⟨rfl, rfl⟩))
    go_ret
    exact ⟨_, rfl, X.out.1, by simp, X.out.2⟩
  · go_wp2_with (first
      | (go_at_call 155; refine (collect_at Bs sv zs hz w hBs hI).mono ?_; rintro e w1 ⟨v, rfl, hown, hnil, hbel⟩
         have hnn : v ≠ .slice none 0 0 := fun e => hz0 (hnil.1 e)
         obtain ⟨g, cap, rfl, hbg, hgl, hncap, hcm, hlen, hH⟩ := Lib.holds_of_ownsRow hown hnn
         have hsort := Try.slices_Sort_int g 0 cap zs w1 hH hgl (by omega)
         have X : Aside (w1.ownsRow w.heap.size 3 1 (.slice (some ⟨g, 0, none⟩) zs.length cap) zs.length (zs.map (Value.int .i64)) ∧ Below w.heap.size w w1 ∧ w.heap.size ≤ g) := ⟨hown, hbel, hbg⟩
         clear hown hbel hH hnn hnil)
      | (go_at_call 148; refine hsort.mono ?_; rintro e w2 ⟨rfl, nn, os, rfl⟩))
    go_ret
    obtain ⟨r1, r2⟩ := own_sorted (nn := nn) (os := os) X.out.1 X.out.2.1 X.out.2.2 rfl
    exact ⟨_, rfl, r1, by simp [hz0], r2⟩
set_option maxHeartbeats 2000000 in
theorem images_at (a : Option Addr) (len cap : Nat) (zs : List Int) (hz : zs.length ≤ 1000000) (w : World) (hI : IntsAt w.heap.size w (.slice a len cap) zs) :
    Calls Try.prog 91 #[.slice a len cap] w fun e W' => ∃ v, e = .returned v ∧ W'.ownsRow w.heap.size 3 1 v (sq zs).length ((sq zs).map (Value.int .i64)) ∧ Below w.heap.size w W' := by
  have hB0 : Below w.heap.size w (w.alloc (.cells #[.slice a len cap] 22)) := (Below.refl _ w).alloc (Nat.le_refl _) _
  have hso := sorted_at w.heap.size (.slice a len cap) zs hz (w.alloc (.cells #[.slice a len cap] 22)) (by have := (Boxed.new w 22 (.slice a len cap)).cell; exact this) (by
    rcases hI.below hB0 with ⟨a, c, e, e2⟩ | ⟨b, off, cap', e, hb, hc⟩
    · exact .inl ⟨a, c, e, e2⟩
    · exact .inr ⟨b, off, cap', e, by simp; omega, hc⟩)
  clear hI
  go_enter Try.func91, Try.ntmps91
  by_cases hz0 : zs = []
  · subst hz0
    go_wp2_with (first
      | (go_at_call 140; refine (vals_at a len cap w).mono ?_; rintro e w1 ⟨rfl, rfl⟩)
      | (go_at_call 139; refine hso.mono ?_; rintro e w1 ⟨v, rfl, hown, hnil, hbel⟩
         obtain rfl := hnil.2 (by first | exact rfl | trivial)
         have X : Aside (Below (w.alloc (.cells #[.slice a len cap] 22)).heap.size (w.alloc (.cells #[.slice a len cap] 22)) w1) := hbel
         clear hown hbel hnil hso)
      | (go_at_call 138; refine (Try.slices_Compact_int_empty none 0 _).mono ?_; rintro e w' ⟨rfl, rfl⟩))
    go_ret
    have e0 : sq [] = [] := List.eq_nil_of_length_eq_zero (by have := sq_len []; simpa using this)
    rw [e0]
    exact ⟨_, rfl, World.ownsRow_nil _ _ _ _, hB0.trans (X.out.mono (by simp))⟩
  · go_wp2_with (first
      | (go_at_call 140; refine (vals_at a len cap w).mono ?_; rintro e w1 ⟨rfl, rfl⟩)
      | (go_at_call 139; refine hso.mono ?_; rintro e w1 ⟨v, rfl, hown, hnil, hbel⟩
         have hnn : v ≠ .slice none 0 0 := fun e => hz0 (hnil.1 e)
         obtain ⟨g, cap2, rfl, hbg, hgl, hncap, hcm, hlen, hH⟩ := Lib.holds_of_ownsRow hown hnn
         have hcomp := Try.slices_Compact_int g 0 cap2 (zs.mergeSort fun x y => decide (x ≤ y)) w1 hH (by omega) (by omega)
         rw [hlen] at hcomp
         have X : Aside (w1.ownsRow (w.alloc (.cells #[.slice a len cap] 22)).heap.size 3 1 (.slice (some ⟨g, 0, none⟩) zs.length cap2) zs.length ((zs.mergeSort fun x y => decide (x ≤ y)).map (Value.int .i64)) ∧ Below (w.alloc (.cells #[.slice a len cap] 22)).heap.size (w.alloc (.cells #[.slice a len cap] 22)) w1 ∧ (w.alloc (.cells #[.slice a len cap] 22)).heap.size ≤ g) := ⟨hown, hbel, hbg⟩
         clear hown hbel hH hnn hnil hso)
      | (go_at_call 138; refine hcomp.mono ?_; rintro e w2 ⟨rfl, q, rfl⟩))
    go_ret
    have hle := sq_len zs
    have r1 := Lib.ownsRow_putRow (q := q) (k := (sq zs).length) (ys := sq zs ++ List.replicate (zs.length - (sq zs).length) 0) X.out.1 (by simp; omega) hle
    rw [List.take_left] at r1
    have hsz : w.heap.size ≤ (w.alloc (.cells #[.slice a len cap] 22)).heap.size := by simp
    refine ⟨_, rfl, ?_, Lib.below_putRow (hB0.trans (X.out.2.1.mono hsz)) (Nat.le_trans hsz X.out.2.2)⟩
    rcases r1.2 with ⟨h0, _⟩ | ⟨g', cap', cur, hv, hbase, rest⟩
    · cases h0
    · exact ⟨r1.1, .inr ⟨g', cap', cur, hv, Nat.le_trans hsz hbase, rest⟩⟩
set_option maxRecDepth 10000 in
theorem c91 (l : List Int) (h : l.length ≤ 1000000) : Con Try.prog 91 [lv l] 0 (lv (sq l)) := by
  refine ⟨(enters_of Try.func91 (by kernel_rfl) rfl), fun C w vs hC hsz hrv => ?_⟩
  obtain ⟨vl⟩ := vs
  match vl, hsz with
  | [v], _ =>
    have hv := hrv 0 v (lv l) rfl rfl
    obtain ⟨A, c, rfl, _, hcell⟩ := intl_cells hC hv
    refine (images_at A l.length c l h w ?_).mono fun e w' ⟨v, he, ho, hb⟩ => ?_
    · by_cases hl : l = []
      · subst hl
        exact .inl ⟨A, c, rfl, rfl⟩
      · obtain ⟨b, o, rfl, hc2⟩ := hcell hl
        refine .inr ⟨b, o, c, rfl, ?_, fun j hj => ?_⟩
        · exact cell_lt (hc2 0 (List.length_pos_iff.2 hl))
        · rw [hc2 j hj, List.getD_eq_getElem?_getD]
    · obtain ⟨v', C', τ', h1, h2⟩ := ret_list hC hb ho
      exact ⟨v', C', τ', he.trans h1, h2⟩
end Go.Sy
