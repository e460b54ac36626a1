/- Through returns the standard overlap for any two morphisms, and the rest, or the error; both go through it. No condition. -/
import Derived.Test.YtkhheblmgbiniaaR2
import Derived.Test.YtkhheblmgbiniaaQ0
import Derived.Test.YtkhheblmgbiniaaSD
namespace Go.Proofs.Ytkhheblmgbiniaa
open Go.Sy Go.ChangeShapes Go.WideShapes Go.ChangeAt Go.RowKit
theorem factorThrough_k1 : Rows.factorThroughRow.wf (OpenSpec.ofChange Rows.factorThroughSpec) = true := by kernel_rfl
theorem factorThrough_k5 : namedTie Try.prog Rows.factorThroughRow.named Rows.factorThroughSpec.vars = true := by kernel_rfl
theorem factorThrough_k10 : (Rows.factorThroughRow.inPlace == Try.prog.inPlace 7) = true := by kernel_rfl
theorem factorThrough_k11 : (Rows.factorThroughRow.unfollowed == Try.prog.unfollowed 7) = true := by kernel_rfl
theorem factorThrough_k12 : (Rows.factorThroughRow.recurses == Try.prog.recurses 7) = true := by kernel_rfl
theorem factorThrough_k13 : (Rows.factorThroughRow.named == Try.prog.varsNamed 7) = true := by kernel_rfl
theorem factorThrough_k23 : (Rows.factorThroughRow.plainKeys == Try.prog.plainKeys) = true := by kernel_rfl
theorem factorThrough_k31 : (Rows.factorThroughRow.veiled == (Try.f7.params.toList ++ Rows.factorThroughSpec.plain.varTypes Try.prog ++ Try.f7.resultTypes.toList).any (Try.prog.veiledRec ·)) = true := by kernel_rfl
theorem factorThrough_k32 : Rows.factorThroughRow.veiledFits Try.prog Try.f7.params.toList (Try.f7.params.toList ++ Rows.factorThroughSpec.plain.varTypes Try.prog ++ Try.f7.resultTypes.toList) = true := by kernel_rfl
theorem factorThrough_fn : Try.prog.funcNamed Rows.factorThroughRow.func = some 7 := by kernel_rfl
theorem factorThrough_facts : joinedFacts Try.prog 7 Try.f7 Rows.factorThroughSpec Rows.factorThroughRow = true :=
  joined_mk factorThrough_k1 factorThrough_k5 factorThrough_k10 factorThrough_k11 factorThrough_k12 factorThrough_k13 factorThrough_k23 factorThrough_k31 factorThrough_k32 (by kernel_rfl) (by kernel_rfl) (by kernel_rfl) (by kernel_rfl) (by kernel_rfl) (by kernel_rfl) (by kernel_rfl) (by kernel_rfl) (by kernel_rfl) (by kernel_rfl) (by kernel_rfl) (by kernel_rfl) (by kernel_rfl) (by kernel_rfl) (by kernel_rfl) (by kernel_rfl)
set_option maxRecDepth 100000 in
theorem factorThrough_lifted (os : Os) (started : os.Started) (H : Type) (enc : TypeId × Value → H) :
    ReturnsInHanded {} Try.checked os 7 .any (Rows.factorThroughSpec.pre6 enc Try.prog Try.f7 Rows.factorThroughRow.domain false) (Rows.factorThroughSpec.post enc Try.prog Try.f7 false true false false) := by
  refine returnsInHanded_of_change (C := Try.checked) Try.own started (by kernel_rfl) Try.func7
    (ChangeSpec.witness6 (enc := enc) (C := Try.checked) false ⟨#[], #[.agg #[.slice none 0 0, .slice none 0 0], .agg #[.slice none 0 0, .slice none 0 0], .agg #[.slice none 0 0, .slice none 0 0, .slice none 0 0, .slice none 0 0, .slice none 0 0, .slice none 0 0]], []⟩ 8 (by kernel_rfl) (by kernel_rfl) (by kernel_rfl) (by kernel_rfl)) ?_
  intro W base args ds gs before hval0 hW hcnd _
  have hval : ∀ (j : Nat) t v, Try.f7.params[j]? = some t → args[j]? = some v → Value.okWide Try.prog W .any base t v := hval0
  have hW' := hW
  obtain ⟨p, q, hA0, hV, rfl, hfz, hnd⟩ := hW
  have hA : DataW.TrodAll enc Try.prog W 0 (fun _ => true) true Try.f7.params.toList args.toList ds p := hA0
  rw [Try.params7] at hA hval
  obtain ⟨v0, v1, v2, d0, d1, d2, p0, p1, p2, rfl, rfl, rfl, h0, h1, h2⟩ := trodAll_three hA
  obtain ⟨rfl, rfl⟩ := trodVars_none hV
  obtain ⟨_, ⟨a, rfl⟩, r0⟩ := open_agg Try.underlying25 opensGraph (hval 0 25 v0 rfl rfl) h0
  obtain ⟨_, ⟨b, rfl⟩, r1⟩ := open_agg Try.underlying25 opensGraph (hval 1 25 v1 rfl rfl) h1
  obtain ⟨_, ⟨c, rfl⟩, r2⟩ := open_agg Try.underlying43 opensOv (hval 2 43 v2 rfl rfl) h2
  refine law_post Try.laidOut (by kernel_rfl) hW' rfl rfl rfl (by kernel_rfl) (c7 a b c) rfl ?_
  intro i v x hv hx
  match i, hv, hx with
  | 0, hv, hx => cases hv; cases hx; exact r0
  | 1, hv, hx => cases hv; cases hx; exact r1
  | 2, hv, hx => cases hv; cases hx; exact r2
theorem factorThrough_holds : Rows.FactorThroughSaid :=
  OpenClaim.holds_of_wide 7 Try.f7 rfl rfl rfl rfl rfl rfl rfl ⟨rfl, rfl, rfl, rfl, rfl⟩ rfl rfl rfl rfl rfl factorThrough_fn Try.func7 factorThrough_facts
    (of_decide_eq_true (by kernel_rfl)) (by unfold Func.isWrapper; first | (rw [if_pos (by decide +kernel)]; kernel_rfl) | (rw [if_neg (by decide +kernel)]; exact ⟨rfl, rfl⟩))
    (fun os started H enc _ => factorThrough_lifted os started H enc)
end Go.Proofs.Ytkhheblmgbiniaa
