/- ShiftValid: the row. No condition. -/
import Derived.Test.YtkhheblmgbiniaaVG5
import Derived.Test.YtkhheblmgbiniaaVG6
namespace Go.Proofs.Ytkhheblmgbiniaa
open Go.Sy Go.ChangeShapes Go.WideShapes Go.ChangeAt Go.RowKit
theorem shiftValid_k1 : Rows.shiftValidRow.wf (OpenSpec.ofChange Rows.shiftValidSpec) = true := by kernel_rfl
theorem shiftValid_k5 : namedTie Try.prog Rows.shiftValidRow.named Rows.shiftValidSpec.vars = true := by kernel_rfl
theorem shiftValid_k10 : (Rows.shiftValidRow.inPlace == Try.prog.inPlace 12) = true := by kernel_rfl
theorem shiftValid_k11 : (Rows.shiftValidRow.unfollowed == Try.prog.unfollowed 12) = true := by kernel_rfl
theorem shiftValid_k12 : (Rows.shiftValidRow.recurses == Try.prog.recurses 12) = true := by kernel_rfl
theorem shiftValid_k13 : (Rows.shiftValidRow.named == Try.prog.varsNamed 12) = true := by kernel_rfl
theorem shiftValid_k23 : (Rows.shiftValidRow.plainKeys == Try.prog.plainKeys) = true := by kernel_rfl
theorem shiftValid_k31 : (Rows.shiftValidRow.veiled == (Try.f12.params.toList ++ Rows.shiftValidSpec.plain.varTypes Try.prog ++ Try.f12.resultTypes.toList).any (Try.prog.veiledRec ·)) = true := by kernel_rfl
theorem shiftValid_k32 : Rows.shiftValidRow.veiledFits Try.prog Try.f12.params.toList (Try.f12.params.toList ++ Rows.shiftValidSpec.plain.varTypes Try.prog ++ Try.f12.resultTypes.toList) = true := by kernel_rfl
theorem shiftValid_fn : Try.prog.funcNamed Rows.shiftValidRow.func = some 12 := by kernel_rfl
theorem shiftValid_facts : joinedFacts Try.prog 12 Try.f12 Rows.shiftValidSpec Rows.shiftValidRow = true :=
  joined_mk shiftValid_k1 shiftValid_k5 shiftValid_k10 shiftValid_k11 shiftValid_k12 shiftValid_k13 shiftValid_k23 shiftValid_k31 shiftValid_k32 (by kernel_rfl) (by kernel_rfl) (by kernel_rfl) (by kernel_rfl) (by kernel_rfl) (by kernel_rfl) (by kernel_rfl) (by kernel_rfl) (by kernel_rfl) (by kernel_rfl) (by kernel_rfl) (by kernel_rfl) (by kernel_rfl) (by kernel_rfl) (by kernel_rfl) (by kernel_rfl)
set_option maxRecDepth 100000 in
theorem shiftValid_lifted (os : Os) (started : os.Started) (H : Type) (enc : TypeId × Value → H) :
    ReturnsInHanded {} Try.checked os 12 .any (Rows.shiftValidSpec.pre6 enc Try.prog Try.f12 Rows.shiftValidRow.domain false) (Rows.shiftValidSpec.post enc Try.prog Try.f12 false true false false) := by
  refine returnsInHanded_of_change (C := Try.checked) Try.own started (by kernel_rfl) Try.func12
    (ChangeSpec.witness6 (enc := enc) (C := Try.checked) false ⟨#[], #[.agg #[.slice none 0 0, .slice none 0 0], .agg #[.int .i64 0, .slice none 0 0, .slice none 0 0, .slice none 0 0, .slice none 0 0, .slice none 0 0, .slice none 0 0, .int .i64 0, .slice none 0 0]], []⟩ 8 (by kernel_rfl) (by kernel_rfl) (by kernel_rfl) (by kernel_rfl)) ?_
  intro W base args ds gs before hval0 hW hcnd _
  have hval : ∀ (j : Nat) t v, Try.f12.params[j]? = some t → args[j]? = some v → Value.okWide Try.prog W .any base t v := hval0
  have hW' := hW
  obtain ⟨p, q, hA0, hV, rfl, hfz, hnd⟩ := hW
  have hA : DataW.TrodAll enc Try.prog W 0 (fun _ => true) true Try.f12.params.toList args.toList ds p := hA0
  rw [Try.params12] at hA hval
  obtain ⟨v0, v1, d0, d1, p0, p1, rfl, rfl, rfl, h0, h1⟩ := trodAll_two hA
  obtain ⟨rfl, rfl⟩ := trodVars_none hV
  obtain ⟨_, ⟨a, rfl⟩, r0⟩ := open_agg Try.underlying25 opensGraph (hval 0 25 v0 rfl rfl) h0
  obtain ⟨_, ⟨b, rfl⟩, r1⟩ := open_agg Try.underlying69 opensCond (hval 1 69 v1 rfl rfl) h1
  refine law_post Try.laidOut (by kernel_rfl) hW' rfl rfl rfl (by kernel_rfl) (c12 a b) rfl ?_
  intro i v x hv hx
  match i, hv, hx with
  | 0, hv, hx => cases hv; cases hx; exact r0
  | 1, hv, hx => cases hv; cases hx; exact r1
theorem shiftValid_holds : Rows.ShiftValidSaid :=
  OpenClaim.holds_of_wide 12 Try.f12 rfl rfl rfl rfl rfl rfl rfl ⟨rfl, rfl, rfl, rfl, rfl⟩ rfl rfl rfl rfl rfl shiftValid_fn Try.func12 shiftValid_facts
    (of_decide_eq_true (by kernel_rfl)) (by unfold Func.isWrapper; first | (rw [if_pos (by decide +kernel)]; kernel_rfl) | (rw [if_neg (by decide +kernel)]; exact ⟨rfl, rfl⟩))
    (fun os started H enc _ => shiftValid_lifted os started H enc)
end Go.Proofs.Ytkhheblmgbiniaa
