/- Jointly decides about any two morphisms into one graph. No condition. -/
import Derived.Test.YtkhheblmgbiniaaR2
import Derived.Test.YtkhheblmgbiniaaWO
namespace Go.Proofs.Ytkhheblmgbiniaa
open Go.Sy Go.ChangeShapes Go.WideShapes Go.ChangeAt Go.RowKit
theorem Try.own : ownKnob Try.prog.godebug = none := by kernel_rfl
theorem Try.laidOut : laidOutB Try.prog = true := by kernel_rfl
set_option maxRecDepth 100000 in
theorem factorJointly_lifted (os : Os) (started : os.Started) (H : Type) (enc : TypeId × Value → H) :
    ReturnsInHanded {} Try.checked os 5 .any (Rows.factorJointlySpec.pre6 enc Try.prog Try.f5 Rows.factorJointlyRow.domain false) (Rows.factorJointlySpec.post enc Try.prog Try.f5 false true false false) := by
  refine returnsInHanded_of_change (C := Try.checked) Try.own started (by kernel_rfl) Try.func5
    (ChangeSpec.witness6 (enc := enc) (C := Try.checked) false ⟨#[], #[.agg #[.slice none 0 0, .slice none 0 0], .agg #[.slice none 0 0, .slice none 0 0], .agg #[.slice none 0 0, .slice none 0 0, .slice none 0 0, .slice none 0 0, .slice none 0 0, .slice none 0 0]], []⟩ 8 (by kernel_rfl) (by kernel_rfl) (by kernel_rfl) (by kernel_rfl)) ?_
  intro W base args ds gs before hval0 hW hcnd _
  have hval : ∀ (j : Nat) t v, Try.f5.params[j]? = some t → args[j]? = some v → Value.okWide Try.prog W .any base t v := hval0
  have hW' := hW
  obtain ⟨p, q, hA0, hV, rfl, hfz, hnd⟩ := hW
  have hA : DataW.TrodAll enc Try.prog W 0 (fun _ => true) true Try.f5.params.toList args.toList ds p := hA0
  rw [Try.params5] at hA hval
  obtain ⟨v0, v1, v2, d0, d1, d2, p0, p1, p2, rfl, rfl, rfl, h0, h1, h2⟩ := trodAll_three hA
  obtain ⟨rfl, rfl⟩ := trodVars_none hV
  obtain ⟨_, ⟨a, rfl⟩, r0⟩ := open_agg Try.underlying25 opensGraph (hval 0 25 v0 rfl rfl) h0
  obtain ⟨_, ⟨b, rfl⟩, r1⟩ := open_agg Try.underlying25 opensGraph (hval 1 25 v1 rfl rfl) h1
  obtain ⟨_, ⟨c, rfl⟩, r2⟩ := open_agg Try.underlying43 opensOv (hval 2 43 v2 rfl rfl) h2
  refine law_post Try.laidOut (by kernel_rfl) hW' rfl rfl rfl (by kernel_rfl) (c5 a b c) rfl ?_
  intro i v x hv hx
  match i, hv, hx with
  | 0, hv, hx => cases hv; cases hx; exact r0
  | 1, hv, hx => cases hv; cases hx; exact r1
  | 2, hv, hx => cases hv; cases hx; exact r2
theorem factorJointly_holds : Rows.FactorJointlySaid :=
  OpenClaim.holds_of_wide 5 Try.f5 rfl rfl rfl rfl rfl rfl rfl ⟨rfl, rfl, rfl, rfl, rfl⟩ rfl rfl rfl rfl rfl (by kernel_rfl) Try.func5 (by kernel_rfl)
    (of_decide_eq_true (by kernel_rfl)) (by unfold Func.isWrapper; first | (rw [if_pos (by decide +kernel)]; kernel_rfl) | (rw [if_neg (by decide +kernel)]; exact ⟨rfl, rfl⟩))
    (fun os started H enc _ => factorJointly_lifted os started H enc)
end Go.Proofs.Ytkhheblmgbiniaa
