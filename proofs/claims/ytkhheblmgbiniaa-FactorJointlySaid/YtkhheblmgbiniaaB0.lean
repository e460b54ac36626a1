/- What a walk may take for granted about its arguments; indexing. -/
import Derived.Test.YtkhheblmgbiniaaB6
import Derived.IntWalk
namespace Go.Sy
open Go Go.RowKit
variable {P : Program} {C : CMap} {ρ : RMap} {τ : TMap}

/-- The lists in a value are no longer than a list can be. -/
def bnd : Nat → AV → Prop
  | 0, _ => True
  | n + 1, .list _ xs _ => (xs.length : Int) ≤ 9223372036854775807 ∧ ∀ x ∈ xs, ∀ a ∈ x, bnd n a
  | n + 1, .agg l => ∀ a ∈ l, bnd n a
  | n + 1, .ptr l => ∀ a ∈ l, bnd n a
  | _ + 1, _ => True

theorem rv_bnd : ∀ (n : Nat) (v : Value) (x : AV) (ρ : RMap) (τ : TMap), RV C ρ τ v x → bnd n x
  | 0, _, _, _, _, _ => trivial
  | n + 1, v, x, ρ, τ, h => by
    cases x with
    | list sz xs tk =>
      obtain ⟨A, c, cv, _, h1, h2, h3, h4, _⟩ := rv_list h
      refine ⟨?_, ?_⟩
      · have : maxLen ≤ 9223372036854775807 := by decide
        omega
      · intro x hx a ha
        obtain ⟨i, hi⟩ := List.getElem?_of_mem hx
        obtain ⟨j, hj⟩ := List.getElem?_of_mem ha
        exact rv_bnd n _ _ _ _ (h4 i x j a hi hj)
    | agg l =>
      obtain ⟨cs, _, h1, h2, _⟩ := rv_agg h
      intro a ha
      obtain ⟨j, hj⟩ := List.getElem?_of_mem ha
      have hlt : j < cs.size := by rw [h1]; exact (List.getElem?_eq_some_iff.1 hj).1
      exact rv_bnd n _ _ _ _ (h2 j cs[j] a (by simp [hlt]) hj)
    | ptr l =>
      obtain ⟨b, o, cv, _, _, h2⟩ := rv_ptr h
      intro a ha
      obtain ⟨j, hj⟩ := List.getElem?_of_mem ha
      exact rv_bnd n _ _ _ _ (h2 j a hj)
    | _ => trivial

theorem Con.assume {f : FuncId} {args : List AV} {n : Nat} {r : AV} (he : Enters P f) (h : (∀ x ∈ args, bnd 9 x) → Con P f args n r) : Con P f args n r := by
  refine ⟨he, fun C w vs hC hl hv => (h ?_).calls C w vs hC hl hv⟩
  intro x hx
  obtain ⟨i, hi⟩ := List.getElem?_of_mem hx
  have hlt : i < vs.size := by rw [hl]; exact (List.getElem?_eq_some_iff.1 hi).1
  exact rv_bnd 9 vs[i] x noρ noτ (hv i vs[i] x (by simp [hlt]) hi)

theorem ECon.assume {f : FuncId} {args pre pre' : List AV} {x x' r : AV} (he : Enters P f) (h : (∀ x ∈ args, bnd 9 x) → (∀ y ∈ pre, bnd 9 y) → bnd 9 x → ECon P f args pre x r pre' x') : ECon P f args pre x r pre' x' := by
  refine ⟨he, fun C w b τ vs hC hB hT hl hv => ?_⟩
  obtain ⟨cs, ty, g1, g2, g3, g4, g5⟩ := hB.ex
  refine (h ?_ ?_ ?_).calls C w b τ vs hC hB hT hl hv
  · intro x hx
    obtain ⟨i, hi⟩ := List.getElem?_of_mem hx
    have hlt : i < vs.size := by rw [hl]; exact (List.getElem?_eq_some_iff.1 hi).1
    exact rv_bnd 9 vs[i] x noρ noτ (hv i vs[i] x (by simp [hlt]) hi)
  · intro y hy
    obtain ⟨i, hi⟩ := List.getElem?_of_mem hy
    have hlt : i < cs.size := by rw [g2]; have := (List.getElem?_eq_some_iff.1 hi).1; omega
    exact rv_bnd 9 cs[i] y noρ noτ (g4 i cs[i] y (by simp [hlt]) hi)
  · have hlt : pre.length < cs.size := by rw [g2]; omega
    exact rv_bnd 9 cs[pre.length] x noρ τ (g5 _ (by simp [hlt]))

theorem idx_nat (t : TypeId) (sz : Nat) (xs : List (List AV)) (tk : Tok) (k : IntKind) (i : Nat) (h : i < xs.length) : idxAV P t (.list sz xs tk) (.v (.int k (i : Int))) = if slT P t = true ∧ sz = esz P t then some (.ptr xs[i]) else none := by
  simp only [idxAV]
  have h1 : (0 : Int) ≤ (i : Int) := by omega
  have h2 : (i : Int) < xs.length := by omega
  simp [h]
theorem idx_int (t : TypeId) (sz : Nat) (xs : List (List AV)) (tk : Tok) (k : IntKind) (i : Int) (h0 : 0 ≤ i) (h : i.toNat < xs.length) : idxAV P t (.list sz xs tk) (.v (.int k i)) = if slT P t = true ∧ sz = esz P t then some (.ptr xs[i.toNat]) else none := by
  simp only [idxAV]
  have h2 : i < xs.length := by omega
  simp [h, h0, h2]
theorem wrap_i64 (n : Int) (h0 : -9223372036854775808 ≤ n) (h1 : n ≤ 9223372036854775807) : IntKind.i64.wrap n = n := IntWalk.i64_in n ⟨h0, h1⟩
theorem finK {s : St} {x r : AV} (h : finC x = true ∧ r = finF x) : fin s x r := fin_of h.1 h.2
end Go.Sy
