/- Plain law: a list's different numbers, ascending; there are as many as it has places just where no number occurs twice. -/
import Derived.Lib.SlicesCompact
import Derived.Lib.RowBridge
import Derived.Test.YtkhheblmgbiniaaWP
namespace Go.Sy
open Go Go.Proofs

/-- The different numbers, ascending. -/
def sq (l : List Int) : List Int := Lib.compact (l.mergeSort fun x y => decide (x ≤ y))

theorem sq_len (l : List Int) : (sq l).length ≤ l.length := by
  have := Lib.compact_length_le (l.mergeSort fun x y => decide (x ≤ y))
  rw [List.length_mergeSort] at this
  exact this

theorem cu_spec {d : Array Int} (hs : ∀ i j, i ≤ j → j < d.size → d[i]! ≤ d[j]!) : ∀ m, m ≤ d.size →
    (Lib.compactUpTo d m).Pairwise (· < ·) ∧ (∀ x, x ∈ Lib.compactUpTo d m ↔ ∃ j, j < m ∧ d[j]! = x) ∧ (Lib.compactUpTo d m).length ≤ m ∧ ((Lib.compactUpTo d m).length = m → ∀ i j, i < j → j < m → d[i]! < d[j]!)
  | 0, _ => by
    refine ⟨by simp [Lib.compactUpTo], fun x => ?_, by simp [Lib.compactUpTo], fun _ i j _ h => by omega⟩
    simp [Lib.compactUpTo]
  | m + 1, hm => by
    obtain ⟨h1, h2, h3, h4⟩ := cu_spec hs m (by omega)
    rw [Lib.compactUpTo_succ]
    by_cases hk : Lib.keeps d m = true
    · rw [if_pos hk]
      have hlt : ∀ j, j < m → d[j]! < d[m]! := by
        intro j hj
        have hk' : m = 0 ∨ d[m]! ≠ d[m - 1]! := by simpa [Lib.keeps] using hk
        have a1 := hs j (m - 1) (by omega) (by omega)
        have a2 := hs (m - 1) m (by omega) (by omega)
        rcases hk' with h | h
        · omega
        · omega
      refine ⟨?_, fun x => ?_, by simp; omega, fun hl i j hij hj => ?_⟩
      · rw [List.pairwise_append]
        refine ⟨h1, by simp, fun x hx y hy => ?_⟩
        obtain ⟨j, hj, rfl⟩ := (h2 x).1 hx
        rw [List.mem_singleton.1 hy]
        exact hlt j hj
      · rw [List.mem_append, h2, List.mem_singleton]
        constructor
        · rintro (⟨j, hj, rfl⟩ | rfl)
          · exact ⟨j, by omega, rfl⟩
          · exact ⟨m, by omega, rfl⟩
        · rintro ⟨j, hj, rfl⟩
          by_cases hjm : j = m
          · exact .inr (by rw [hjm])
          · exact .inl ⟨j, by omega, rfl⟩
      · by_cases hjm : j = m
        · rw [hjm]; exact hlt i (by omega)
        · exact h4 (by simpa using hl) i j hij (by omega)
    · have hk0 : Lib.keeps d m = false := by simpa using hk
      rw [if_neg hk, List.append_nil]
      have hk' : ¬ (m = 0 ∨ d[m]! ≠ d[m - 1]!) := by
        intro h
        apply hk
        simp [Lib.keeps, h]
      have hm0 : m ≠ 0 := fun h => hk' (.inl h)
      have he : d[m]! = d[m - 1]! := Decidable.not_not.1 fun h => hk' (.inr h)
      refine ⟨h1, fun x => ?_, by omega, fun hl => by omega⟩
      rw [h2]
      constructor
      · rintro ⟨j, hj, rfl⟩; exact ⟨j, by omega, rfl⟩
      · rintro ⟨j, hj, rfl⟩
        by_cases hjm : j = m
        · exact ⟨m - 1, by omega, by rw [hjm, he]⟩
        · exact ⟨j, by omega, rfl⟩

theorem bang_at {s : List Int} {j : Nat} (h : j < s.length) : s.toArray[j]! = s[j] := by
  rw [getElem!_pos s.toArray j (show j < s.toArray.size by simpa using h)]
  simp
theorem ms_sorted (l : List Int) : ∀ i j, i ≤ j → j < (l.mergeSort fun x y => decide (x ≤ y)).toArray.size → (l.mergeSort fun x y => decide (x ≤ y)).toArray[i]! ≤ (l.mergeSort fun x y => decide (x ≤ y)).toArray[j]! := by
  intro i j hij hj
  have hp := List.pairwise_mergeSort (le := fun x y : Int => decide (x ≤ y)) (fun a b c h1 h2 => by simp at h1 h2 ⊢; omega) (fun a b => by simp; omega) l
  generalize l.mergeSort (fun x y => decide (x ≤ y)) = s at *
  have hj' : j < s.length := by simpa using hj
  by_cases h : i = j
  · rw [h]; exact Int.le_refl _
  · have := (List.pairwise_iff_getElem.1 hp) i j (by omega) hj' (by omega)
    simp only [decide_eq_true_eq] at this
    simpa [getElem!_pos, hj', show i < s.length by omega] using this

theorem sq_pw (l : List Int) : (sq l).Pairwise (· < ·) := (cu_spec (ms_sorted l) _ (by simp)).1
theorem mem_sq (l : List Int) (x : Int) : x ∈ sq l ↔ x ∈ l := by
  have h := (cu_spec (ms_sorted l) (l.mergeSort fun x y => decide (x ≤ y)).length (by simp)).2.1 x
  refine Iff.trans h ?_
  rw [← (List.mergeSort_perm l fun x y => decide (x ≤ y)).mem_iff, List.mem_iff_getElem]
  constructor
  · rintro ⟨j, hj, h1⟩
    exact ⟨j, hj, by rw [← bang_at hj]; exact h1⟩
  · rintro ⟨j, hj, h1⟩
    exact ⟨j, hj, by rw [bang_at hj]; exact h1⟩

theorem dist_nodup (l : List Int) : dist l = true ↔ l.Nodup := by
  constructor
  · intro h
    have h := List.all_eq_true.1 h
    refine List.pairwise_iff_getElem.2 fun i j hi hj hij e => ?_
    have h1 := List.all_eq_true.1 (h j (List.mem_range.2 hj)) i (List.mem_range.2 hij)
    simp only [decide_eq_true_eq] at h1
    exact h1 (by rw [getD_at hi, getD_at hj, e])
  · intro h
    refine dist_yes fun i hi k hk => ?_
    rw [getD_at hi, getD_at (show k < l.length by omega)]
    exact fun e => List.pairwise_iff_getElem.1 h k i (by omega) hi hk e.symm

theorem sq_dist (l : List Int) : (sq l).length = l.length ↔ dist l = true := by
  rw [dist_nodup, ← (List.mergeSort_perm l fun x y => decide (x ≤ y)).nodup_iff]
  have hsl : (l.mergeSort fun x y => decide (x ≤ y)).length = l.length := List.length_mergeSort l
  constructor
  · intro h
    have h4 := (cu_spec (ms_sorted l) (l.mergeSort fun x y => decide (x ≤ y)).length (by simp)).2.2.2 (by rw [show Lib.compactUpTo (l.mergeSort fun x y => decide (x ≤ y)).toArray (l.mergeSort fun x y => decide (x ≤ y)).length = sq l from rfl, hsl]; exact h)
    refine List.pairwise_iff_getElem.2 fun i j hi hj hij e => ?_
    have := h4 i j hij hj
    rw [bang_at hi, bang_at hj] at this
    omega
  · intro h
    have : sq l = l.mergeSort fun x y => decide (x ≤ y) := by
      refine Lib.compact_all _ fun j hj => ?_
      by_cases h0 : j = 0
      · subst h0; simp [Lib.keeps]
      · refine Lib.keeps_pos fun e => ?_
        have h1 := List.pairwise_iff_getElem.1 h (j - 1) j (by omega) hj (by omega)
        apply h1
        have hj' : j - 1 < (l.mergeSort fun x y => decide (x ≤ y)).length := by omega
        rw [bang_at hj, bang_at hj'] at e
        exact e.symm
    rw [this, hsl]
end Go.Sy
