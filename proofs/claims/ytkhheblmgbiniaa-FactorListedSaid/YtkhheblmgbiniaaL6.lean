/- All standard overlaps are injective on both sides and jointly surjective, and no two that follow each other are equal; those of b and a are as many. No condition. -/
import Derived.Test.YtkhheblmgbiniaaR3
import Derived.Test.YtkhheblmgbiniaaWQ
namespace Go.Proofs.Ytkhheblmgbiniaa
open Go.Sy Go.ChangeShapes Go.WideShapes Go.ChangeAt Go.RowKit
theorem Try.own : ownKnob Try.prog.godebug = none := by kernel_rfl
theorem Try.laidOut : laidOutB Try.prog = true := by kernel_rfl
set_option maxRecDepth 100000 in
theorem factorListed_lifted (os : Os) (started : os.Started) (H : Type) (enc : TypeId × Value → H) :
    ReturnsInHanded {} Try.checked os 6 .any (Rows.factorListedSpec.pre6 enc Try.prog Try.f6 Rows.factorListedRow.domain false) (Rows.factorListedSpec.post enc Try.prog Try.f6 false true false false) := by
  refine returnsInHanded_of_change (C := Try.checked) Try.own started (by kernel_rfl) Try.func6
    (ChangeSpec.witness6 (enc := enc) (C := Try.checked) false ⟨#[], #[.agg #[.slice none 0 0, .slice none 0 0], .agg #[.slice none 0 0, .slice none 0 0]], []⟩ 8 (by kernel_rfl) (by kernel_rfl) (by kernel_rfl) (by kernel_rfl)) ?_
  intro W base args ds gs before hval0 hW hcnd _
  have hval : ∀ (j : Nat) t v, Try.f6.params[j]? = some t → args[j]? = some v → Value.okWide Try.prog W .any base t v := hval0
  have hW' := hW
  obtain ⟨p, q, hA0, hV, rfl, hfz, hnd⟩ := hW
  have hA : DataW.TrodAll enc Try.prog W 0 (fun _ => true) true Try.f6.params.toList args.toList ds p := hA0
  rw [Try.params6] at hA hval
  obtain ⟨v0, v1, d0, d1, p0, p1, rfl, rfl, rfl, h0, h1⟩ := trodAll_two hA
  obtain ⟨rfl, rfl⟩ := trodVars_none hV
  obtain ⟨_, ⟨a, rfl⟩, r0⟩ := open_agg Try.underlying50 opensDraft (hval 0 50 v0 rfl rfl) h0
  obtain ⟨_, ⟨b, rfl⟩, r1⟩ := open_agg Try.underlying50 opensDraft (hval 1 50 v1 rfl rfl) h1
  refine law_post Try.laidOut (by kernel_rfl) hW' rfl rfl rfl (by kernel_rfl) (c6 a.d b.d a.ok b.ok) rfl ?_
  intro i v x hv hx
  match i, hv, hx with
  | 0, hv, hx => cases hv; cases hx; exact r0
  | 1, hv, hx => cases hv; cases hx; exact r1
theorem factorListed_holds : Rows.FactorListedSaid :=
  OpenClaim.holds_of_wide 6 Try.f6 rfl rfl rfl rfl rfl rfl rfl ⟨rfl, rfl, rfl, rfl, rfl⟩ rfl rfl rfl rfl rfl (by kernel_rfl) Try.func6 (by kernel_rfl)
    (of_decide_eq_true (by kernel_rfl)) (by unfold Func.isWrapper; first | (rw [if_pos (by decide +kernel)]; kernel_rfl) | (rw [if_neg (by decide +kernel)]; exact ⟨rfl, rfl⟩))
    (fun os started H enc _ => factorListed_lifted os started H enc)
end Go.Proofs.Ytkhheblmgbiniaa
