/- The surjective factor of a morphism identifies the same elements as one standard quotient. No condition. -/
import Derived.Test.YtkhheblmgbiniaaOntoG5
import Derived.Test.YtkhheblmgbiniaaOntoG6
namespace Go.Proofs.Ytkhheblmgbiniaa
open Go.Sy Go.ChangeShapes Go.WideShapes Go.ChangeAt Go.RowKit
theorem factorOnto_k1 : Rows.factorOntoRow.wf (OpenSpec.ofChange Rows.factorOntoSpec) = true := by kernel_rfl
theorem factorOnto_k5 : namedTie Try.prog Rows.factorOntoRow.named Rows.factorOntoSpec.vars = true := by kernel_rfl
theorem factorOnto_k10 : (Rows.factorOntoRow.inPlace == Try.prog.inPlace 11) = true := by kernel_rfl
theorem factorOnto_k11 : (Rows.factorOntoRow.unfollowed == Try.prog.unfollowed 11) = true := by kernel_rfl
theorem factorOnto_k12 : (Rows.factorOntoRow.recurses == Try.prog.recurses 11) = true := by kernel_rfl
theorem factorOnto_k13 : (Rows.factorOntoRow.named == Try.prog.varsNamed 11) = true := by kernel_rfl
theorem factorOnto_k23 : (Rows.factorOntoRow.plainKeys == Try.prog.plainKeys) = true := by kernel_rfl
theorem factorOnto_k31 : (Rows.factorOntoRow.veiled == (Try.f11.params.toList ++ Rows.factorOntoSpec.plain.varTypes Try.prog ++ Try.f11.resultTypes.toList).any (Try.prog.veiledRec ·)) = true := by kernel_rfl
theorem factorOnto_k32 : Rows.factorOntoRow.veiledFits Try.prog Try.f11.params.toList (Try.f11.params.toList ++ Rows.factorOntoSpec.plain.varTypes Try.prog ++ Try.f11.resultTypes.toList) = true := by kernel_rfl
theorem factorOnto_fn : Try.prog.funcNamed Rows.factorOntoRow.func = some 11 := by kernel_rfl
theorem factorOnto_facts : joinedFacts Try.prog 11 Try.f11 Rows.factorOntoSpec Rows.factorOntoRow = true :=
  joined_mk factorOnto_k1 factorOnto_k5 factorOnto_k10 factorOnto_k11 factorOnto_k12 factorOnto_k13 factorOnto_k23 factorOnto_k31 factorOnto_k32 (by kernel_rfl) (by kernel_rfl) (by kernel_rfl) (by kernel_rfl) (by kernel_rfl) (by kernel_rfl) (by kernel_rfl) (by kernel_rfl) (by kernel_rfl) (by kernel_rfl) (by kernel_rfl) (by kernel_rfl) (by kernel_rfl) (by kernel_rfl) (by kernel_rfl) (by kernel_rfl)
set_option maxRecDepth 100000 in
theorem factorOnto_lifted (os : Os) (started : os.Started) (H : Type) (enc : TypeId × Value → H) :
    ReturnsInHanded {} Try.checked os 11 .any (Rows.factorOntoSpec.pre6 enc Try.prog Try.f11 Rows.factorOntoRow.domain false) (Rows.factorOntoSpec.post enc Try.prog Try.f11 false true false false) := by
  refine returnsInHanded_of_change (C := Try.checked) Try.own started (by kernel_rfl) Try.func11
    (ChangeSpec.witness6 (enc := enc) (C := Try.checked) false ⟨#[], #[.agg #[.slice none 0 0, .slice none 0 0], .slice none 0 0], []⟩ 8 (by kernel_rfl) (by kernel_rfl) (by kernel_rfl) (by kernel_rfl)) ?_
  intro W base args ds gs before hval0 hW hcnd _
  have hval : ∀ (j : Nat) t v, Try.f11.params[j]? = some t → args[j]? = some v → Value.okWide Try.prog W .any base t v := hval0
  have hW' := hW
  obtain ⟨p, q, hA0, hV, rfl, hfz, hnd⟩ := hW
  have hA : DataW.TrodAll enc Try.prog W 0 (fun _ => true) true Try.f11.params.toList args.toList ds p := hA0
  rw [Try.params11] at hA hval
  obtain ⟨v0, v1, d0, d1, p0, p1, rfl, rfl, rfl, h0, h1⟩ := trodAll_two hA
  obtain ⟨rfl, rfl⟩ := trodVars_none hV
  obtain ⟨_, ⟨a, rfl⟩, r0⟩ := open_agg Try.underlying50 opensDraft (hval 0 50 v0 rfl rfl) h0
  obtain ⟨b, r1⟩ := open_s Try.underlying47 opensBy (hval 1 47 v1 rfl rfl) h1
  refine law_post Try.laidOut (by kernel_rfl) hW' rfl rfl rfl (by kernel_rfl) (c11 a.d b.l a.ok b.ok) rfl ?_
  intro i v x hv hx
  match i, hv, hx with
  | 0, hv, hx => cases hv; cases hx; exact r0
  | 1, hv, hx => cases hv; cases hx; exact r1
theorem factorOnto_holds : Rows.FactorOntoSaid :=
  OpenClaim.holds_of_wide 11 Try.f11 rfl rfl rfl rfl rfl rfl rfl ⟨rfl, rfl, rfl, rfl, rfl⟩ rfl rfl rfl rfl rfl factorOnto_fn Try.func11 factorOnto_facts
    (of_decide_eq_true (by kernel_rfl)) (by unfold Func.isWrapper; first | (rw [if_pos (by decide +kernel)]; kernel_rfl) | (rw [if_neg (by decide +kernel)]; exact ⟨rfl, rfl⟩))
    (fun os started H enc _ => factorOnto_lifted os started H enc)
end Go.Proofs.Ytkhheblmgbiniaa
