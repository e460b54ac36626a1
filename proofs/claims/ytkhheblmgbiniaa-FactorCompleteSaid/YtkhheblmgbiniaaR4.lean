/- Types of arguments: numbers of bits; lists of bytes. -/
import Derived.Test.YtkhheblmgbiniaaR3
import Derived.WideShapes
import Derived.Test.YtkhheblmgbiniaaSE
namespace Go.Sy
open Go Go.Proofs Go.RowKit Go.Proofs.Ytkhheblmgbiniaa Go.WideShapes Go.ChangeShapes
variable {H : Type} {enc : TypeId × Value → H} {W : World} {sp : Nat → Bool} {held : Bool}

set_option maxRecDepth 20000 in
theorem open_one {β : Type} {f : β → AV} {t : TypeId} {v : Value} {d : DataW H} {p : List MemPlace} (hc : v.cells = #[v]) (ho : Opens Try.prog t (fun x => ∃ b, x = [f b])) (h : DataW.Trod enc Try.prog W 0 sp held t v d p) : ∃ b, RV (cmap W) noρ noτ v (f b) := by
  obtain ⟨fuel, h⟩ := h
  obtain ⟨x, ⟨b, rfl⟩, q2, q3, q4, q5⟩ := ho.get enc W sp held fuel _ _ h
  exact ⟨b, q5 0 v (f b) (by rw [hc]; rfl) rfl⟩
set_option maxRecDepth 20000 in
theorem open_i {β : Type} {f : β → AV} {t : TypeId} {k : IntKind} {base : Nat} {v : Value} {d : DataW H} {p : List MemPlace} (hu : Try.prog.underlying t = some (.int k)) (ho : Opens Try.prog t (fun x => ∃ b, x = [f b])) (hval : Value.okWide Try.prog W .any base t v)
    (h : DataW.Trod enc Try.prog W 0 sp held t v d p) : ∃ b, RV (cmap W) noρ noτ v (f b) := by
  obtain ⟨n, rfl⟩ := okWide_int hu hval
  exact open_one rfl ho h
set_option maxRecDepth 20000 in
theorem open_s {β : Type} {f : β → AV} {t e : TypeId} {base : Nat} {v : Value} {d : DataW H} {p : List MemPlace} (hu : Try.prog.underlying t = some (.slice e)) (ho : Opens Try.prog t (fun x => ∃ b, x = [f b])) (hval : Value.okWide Try.prog W .any base t v)
    (h : DataW.Trod enc Try.prog W 0 sp held t v d p) : ∃ b, RV (cmap W) noρ noτ v (f b) := by
  obtain ⟨a, n, c, rfl⟩ := okWide_slice hu hval
  exact open_one rfl ho h
theorem opensU16 : Opens Try.prog 79 (fun x => ∃ n : Int, x = [u16 n]) := (opens_int (k := .u16) (by kernel_rfl) (by kernel_rfl)).mono fun x ⟨n, _, h⟩ => ⟨n, h⟩
structure BytesP where
  l : List Int
  ok : ∀ n ∈ l, byte n
def byv (l : List Int) : AV := .list 1 (l.map fun n => [u8 n]) .no
theorem opensBy : Opens Try.prog 47 (fun x => ∃ b : BytesP, x = [byv b.l]) := opensBytes.mono fun x ⟨l, h, hx⟩ => ⟨⟨l, h⟩, hx⟩
end Go.Sy
