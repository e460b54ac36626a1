/- Each pair of injective morphisms into one graph goes through an overlap that is listed. No condition. -/
import Derived.Test.YtkhheblmgbiniaaR4
import Derived.Test.YtkhheblmgbiniaaQ0
import Derived.Test.YtkhheblmgbiniaaSF
namespace Go.Proofs.Ytkhheblmgbiniaa
open Go.Sy Go.ChangeShapes Go.WideShapes Go.ChangeAt Go.RowKit
theorem factorComplete_k1 : Rows.factorCompleteRow.wf (OpenSpec.ofChange Rows.factorCompleteSpec) = true := by kernel_rfl
theorem factorComplete_k5 : namedTie Try.prog Rows.factorCompleteRow.named Rows.factorCompleteSpec.vars = true := by kernel_rfl
theorem factorComplete_k10 : (Rows.factorCompleteRow.inPlace == Try.prog.inPlace 9) = true := by kernel_rfl
theorem factorComplete_k11 : (Rows.factorCompleteRow.unfollowed == Try.prog.unfollowed 9) = true := by kernel_rfl
theorem factorComplete_k12 : (Rows.factorCompleteRow.recurses == Try.prog.recurses 9) = true := by kernel_rfl
theorem factorComplete_k13 : (Rows.factorCompleteRow.named == Try.prog.varsNamed 9) = true := by kernel_rfl
theorem factorComplete_k23 : (Rows.factorCompleteRow.plainKeys == Try.prog.plainKeys) = true := by kernel_rfl
theorem factorComplete_k31 : (Rows.factorCompleteRow.veiled == (Try.f9.params.toList ++ Rows.factorCompleteSpec.plain.varTypes Try.prog ++ Try.f9.resultTypes.toList).any (Try.prog.veiledRec ·)) = true := by kernel_rfl
theorem factorComplete_k32 : Rows.factorCompleteRow.veiledFits Try.prog Try.f9.params.toList (Try.f9.params.toList ++ Rows.factorCompleteSpec.plain.varTypes Try.prog ++ Try.f9.resultTypes.toList) = true := by kernel_rfl
theorem factorComplete_fn : Try.prog.funcNamed Rows.factorCompleteRow.func = some 9 := by kernel_rfl
theorem factorComplete_facts : joinedFacts Try.prog 9 Try.f9 Rows.factorCompleteSpec Rows.factorCompleteRow = true :=
  joined_mk factorComplete_k1 factorComplete_k5 factorComplete_k10 factorComplete_k11 factorComplete_k12 factorComplete_k13 factorComplete_k23 factorComplete_k31 factorComplete_k32 (by kernel_rfl) (by kernel_rfl) (by kernel_rfl) (by kernel_rfl) (by kernel_rfl) (by kernel_rfl) (by kernel_rfl) (by kernel_rfl) (by kernel_rfl) (by kernel_rfl) (by kernel_rfl) (by kernel_rfl) (by kernel_rfl) (by kernel_rfl) (by kernel_rfl) (by kernel_rfl)
set_option maxRecDepth 100000 in
theorem factorComplete_lifted (os : Os) (started : os.Started) (H : Type) (enc : TypeId × Value → H) :
    ReturnsInHanded {} Try.checked os 9 .any (Rows.factorCompleteSpec.pre6 enc Try.prog Try.f9 Rows.factorCompleteRow.domain false) (Rows.factorCompleteSpec.post enc Try.prog Try.f9 false true false false) := by
  refine returnsInHanded_of_change (C := Try.checked) Try.own started (by kernel_rfl) Try.func9
    (ChangeSpec.witness6 (enc := enc) (C := Try.checked) false ⟨#[], #[.agg #[.slice none 0 0, .slice none 0 0], .int .u16 0, .int .u16 0], []⟩ 8 (by kernel_rfl) (by kernel_rfl) (by kernel_rfl) (by kernel_rfl)) ?_
  intro W base args ds gs before hval0 hW hcnd _
  have hval : ∀ (j : Nat) t v, Try.f9.params[j]? = some t → args[j]? = some v → Value.okWide Try.prog W .any base t v := hval0
  have hW' := hW
  obtain ⟨p, q, hA0, hV, rfl, hfz, hnd⟩ := hW
  have hA : DataW.TrodAll enc Try.prog W 0 (fun _ => true) true Try.f9.params.toList args.toList ds p := hA0
  rw [Try.params9] at hA hval
  obtain ⟨v0, v1, v2, d0, d1, d2, p0, p1, p2, rfl, rfl, rfl, h0, h1, h2⟩ := trodAll_three hA
  obtain ⟨rfl, rfl⟩ := trodVars_none hV
  obtain ⟨_, ⟨a, rfl⟩, r0⟩ := open_agg Try.underlying50 opensDraft (hval 0 50 v0 rfl rfl) h0
  obtain ⟨b, r1⟩ := open_i Try.underlying79 opensU16 (hval 1 79 v1 rfl rfl) h1
  obtain ⟨c, r2⟩ := open_i Try.underlying79 opensU16 (hval 2 79 v2 rfl rfl) h2
  refine law_post Try.laidOut (by kernel_rfl) hW' rfl rfl rfl (by kernel_rfl) (c9 a.d b c a.ok) rfl ?_
  intro i v x hv hx
  match i, hv, hx with
  | 0, hv, hx => cases hv; cases hx; exact r0
  | 1, hv, hx => cases hv; cases hx; exact r1
  | 2, hv, hx => cases hv; cases hx; exact r2
theorem factorComplete_holds : Rows.FactorCompleteSaid :=
  OpenClaim.holds_of_wide 9 Try.f9 rfl rfl rfl rfl rfl rfl rfl ⟨rfl, rfl, rfl, rfl, rfl⟩ rfl rfl rfl rfl rfl factorComplete_fn Try.func9 factorComplete_facts
    (of_decide_eq_true (by kernel_rfl)) (by unfold Func.isWrapper; first | (rw [if_pos (by decide +kernel)]; kernel_rfl) | (rw [if_neg (by decide +kernel)]; exact ⟨rfl, rfl⟩))
    (fun os started H enc _ => factorComplete_lifted os started H enc)
end Go.Proofs.Ytkhheblmgbiniaa
