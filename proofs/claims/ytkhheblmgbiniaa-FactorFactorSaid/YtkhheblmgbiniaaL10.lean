/- Factor returns the factorization of any morphism, or the error; the factors compose to it. No condition. -/
import Derived.Test.YtkhheblmgbiniaaR5
import Derived.Test.YtkhheblmgbiniaaQ0
import Derived.Test.YtkhheblmgbiniaaSH
namespace Go.Proofs.Ytkhheblmgbiniaa
open Go.Sy Go.ChangeShapes Go.WideShapes Go.ChangeAt Go.RowKit
theorem factorFactor_k1 : Rows.factorFactorRow.wf (OpenSpec.ofChange Rows.factorFactorSpec) = true := by kernel_rfl
theorem factorFactor_k5 : namedTie Try.prog Rows.factorFactorRow.named Rows.factorFactorSpec.vars = true := by kernel_rfl
theorem factorFactor_k10 : (Rows.factorFactorRow.inPlace == Try.prog.inPlace 10) = true := by kernel_rfl
theorem factorFactor_k11 : (Rows.factorFactorRow.unfollowed == Try.prog.unfollowed 10) = true := by kernel_rfl
theorem factorFactor_k12 : (Rows.factorFactorRow.recurses == Try.prog.recurses 10) = true := by kernel_rfl
theorem factorFactor_k13 : (Rows.factorFactorRow.named == Try.prog.varsNamed 10) = true := by kernel_rfl
theorem factorFactor_k23 : (Rows.factorFactorRow.plainKeys == Try.prog.plainKeys) = true := by kernel_rfl
theorem factorFactor_k31 : (Rows.factorFactorRow.veiled == (Try.f10.params.toList ++ Rows.factorFactorSpec.plain.varTypes Try.prog ++ Try.f10.resultTypes.toList).any (Try.prog.veiledRec ·)) = true := by kernel_rfl
theorem factorFactor_k32 : Rows.factorFactorRow.veiledFits Try.prog Try.f10.params.toList (Try.f10.params.toList ++ Rows.factorFactorSpec.plain.varTypes Try.prog ++ Try.f10.resultTypes.toList) = true := by kernel_rfl
theorem factorFactor_fn : Try.prog.funcNamed Rows.factorFactorRow.func = some 10 := by kernel_rfl
theorem factorFactor_facts : joinedFacts Try.prog 10 Try.f10 Rows.factorFactorSpec Rows.factorFactorRow = true :=
  joined_mk factorFactor_k1 factorFactor_k5 factorFactor_k10 factorFactor_k11 factorFactor_k12 factorFactor_k13 factorFactor_k23 factorFactor_k31 factorFactor_k32 (by kernel_rfl) (by kernel_rfl) (by kernel_rfl) (by kernel_rfl) (by kernel_rfl) (by kernel_rfl) (by kernel_rfl) (by kernel_rfl) (by kernel_rfl) (by kernel_rfl) (by kernel_rfl) (by kernel_rfl) (by kernel_rfl) (by kernel_rfl) (by kernel_rfl) (by kernel_rfl)
set_option maxRecDepth 100000 in
theorem factorFactor_lifted (os : Os) (started : os.Started) (H : Type) (enc : TypeId × Value → H) :
    ReturnsInHanded {} Try.checked os 10 .any (Rows.factorFactorSpec.pre6 enc Try.prog Try.f10 Rows.factorFactorRow.domain false) (Rows.factorFactorSpec.post enc Try.prog Try.f10 false true false false) := by
  refine returnsInHanded_of_change (C := Try.checked) Try.own started (by kernel_rfl) Try.func10
    (ChangeSpec.witness6 (enc := enc) (C := Try.checked) false ⟨#[], #[.agg #[.slice none 0 0, .slice none 0 0], .agg #[.slice none 0 0, .slice none 0 0, .slice none 0 0, .slice none 0 0]], []⟩ 8 (by kernel_rfl) (by kernel_rfl) (by kernel_rfl) (by kernel_rfl)) ?_
  intro W base args ds gs before hval0 hW hcnd _
  have hval : ∀ (j : Nat) t v, Try.f10.params[j]? = some t → args[j]? = some v → Value.okWide Try.prog W .any base t v := hval0
  have hW' := hW
  obtain ⟨p, q, hA0, hV, rfl, hfz, hnd⟩ := hW
  have hA : DataW.TrodAll enc Try.prog W 0 (fun _ => true) true Try.f10.params.toList args.toList ds p := hA0
  rw [Try.params10] at hA hval
  obtain ⟨v0, v1, d0, d1, p0, p1, rfl, rfl, rfl, h0, h1⟩ := trodAll_two hA
  obtain ⟨rfl, rfl⟩ := trodVars_none hV
  obtain ⟨_, ⟨a, rfl⟩, r0⟩ := open_agg Try.underlying25 opensGraph (hval 0 25 v0 rfl rfl) h0
  obtain ⟨_, ⟨b, rfl⟩, r1⟩ := open_agg Try.underlying86 opensArrow (hval 1 86 v1 rfl rfl) h1
  refine law_post Try.laidOut (by kernel_rfl) hW' rfl rfl rfl (by kernel_rfl) (c10 a b) rfl ?_
  intro i v x hv hx
  match i, hv, hx with
  | 0, hv, hx => cases hv; cases hx; exact r0
  | 1, hv, hx => cases hv; cases hx; exact r1
theorem factorFactor_holds : Rows.FactorFactorSaid :=
  OpenClaim.holds_of_wide 10 Try.f10 rfl rfl rfl rfl rfl rfl rfl ⟨rfl, rfl, rfl, rfl, rfl⟩ rfl rfl rfl rfl rfl factorFactor_fn Try.func10 factorFactor_facts
    (of_decide_eq_true (by kernel_rfl)) (by unfold Func.isWrapper; first | (rw [if_pos (by decide +kernel)]; kernel_rfl) | (rw [if_neg (by decide +kernel)]; exact ⟨rfl, rfl⟩))
    (fun os started H enc _ => factorFactor_lifted os started H enc)
end Go.Proofs.Ytkhheblmgbiniaa
