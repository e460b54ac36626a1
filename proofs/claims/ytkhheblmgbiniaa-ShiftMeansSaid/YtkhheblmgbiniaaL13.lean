/- ShiftMeans: the row. No condition. -/
import Derived.Test.YtkhheblmgbiniaaMG6
namespace Go.Proofs.Ytkhheblmgbiniaa
open Go.Sy Go.ChangeShapes Go.WideShapes Go.ChangeAt Go.RowKit
theorem shiftMeans_k1 : Rows.shiftMeansRow.wf (OpenSpec.ofChange Rows.shiftMeansSpec) = true := by kernel_rfl
theorem shiftMeans_k5 : namedTie Try.prog Rows.shiftMeansRow.named Rows.shiftMeansSpec.vars = true := by kernel_rfl
theorem shiftMeans_k10 : (Rows.shiftMeansRow.inPlace == Try.prog.inPlace 13) = true := by kernel_rfl
theorem shiftMeans_k11 : (Rows.shiftMeansRow.unfollowed == Try.prog.unfollowed 13) = true := by kernel_rfl
theorem shiftMeans_k12 : (Rows.shiftMeansRow.recurses == Try.prog.recurses 13) = true := by kernel_rfl
theorem shiftMeans_k13 : (Rows.shiftMeansRow.named == Try.prog.varsNamed 13) = true := by kernel_rfl
theorem shiftMeans_k23 : (Rows.shiftMeansRow.plainKeys == Try.prog.plainKeys) = true := by kernel_rfl
theorem shiftMeans_k31 : (Rows.shiftMeansRow.veiled == (Try.f13.params.toList ++ Rows.shiftMeansSpec.plain.varTypes Try.prog ++ Try.f13.resultTypes.toList).any (Try.prog.veiledRec ·)) = true := by kernel_rfl
theorem shiftMeans_k32 : Rows.shiftMeansRow.veiledFits Try.prog Try.f13.params.toList (Try.f13.params.toList ++ Rows.shiftMeansSpec.plain.varTypes Try.prog ++ Try.f13.resultTypes.toList) = true := by kernel_rfl
theorem shiftMeans_fn : Try.prog.funcNamed Rows.shiftMeansRow.func = some 13 := by kernel_rfl
theorem shiftMeans_facts : joinedFacts Try.prog 13 Try.f13 Rows.shiftMeansSpec Rows.shiftMeansRow = true :=
  joined_mk shiftMeans_k1 shiftMeans_k5 shiftMeans_k10 shiftMeans_k11 shiftMeans_k12 shiftMeans_k13 shiftMeans_k23 shiftMeans_k31 shiftMeans_k32 (by kernel_rfl) (by kernel_rfl) (by kernel_rfl) (by kernel_rfl) (by kernel_rfl) (by kernel_rfl) (by kernel_rfl) (by kernel_rfl) (by kernel_rfl) (by kernel_rfl) (by kernel_rfl) (by kernel_rfl) (by kernel_rfl) (by kernel_rfl) (by kernel_rfl) (by kernel_rfl)
set_option maxRecDepth 100000 in
theorem shiftMeans_lifted (os : Os) (started : os.Started) (H : Type) (enc : TypeId × Value → H) :
    ReturnsInHanded {} Try.checked os 13 .any (Rows.shiftMeansSpec.pre6 enc Try.prog Try.f13 Rows.shiftMeansRow.domain false) (Rows.shiftMeansSpec.post enc Try.prog Try.f13 false true false false) := by
  refine returnsInHanded_of_change (C := Try.checked) Try.own started (by kernel_rfl) Try.func13
    (ChangeSpec.witness6 (enc := enc) (C := Try.checked) false ⟨#[], #[.agg #[.slice none 0 0, .slice none 0 0, .slice none 0 0, .slice none 0 0, .slice none 0 0]], []⟩ 8 (by kernel_rfl) (by kernel_rfl) (by kernel_rfl) (by kernel_rfl)) ?_
  intro W base args ds gs before hval0 hW hcnd _
  have hval : ∀ (j : Nat) t v, Try.f13.params[j]? = some t → args[j]? = some v → Value.okWide Try.prog W .any base t v := hval0
  have hW' := hW
  obtain ⟨p, q, hA0, hV, rfl, hfz, hnd⟩ := hW
  have hA : DataW.TrodAll enc Try.prog W 0 (fun _ => true) true Try.f13.params.toList args.toList ds p := hA0
  rw [Try.params13] at hA hval
  obtain ⟨v0, d0, rfl, rfl, h0⟩ := trodAll_one hA
  obtain ⟨rfl, rfl⟩ := trodVars_none hV
  obtain ⟨_, ⟨a, rfl⟩, r0⟩ := open_agg Try.underlying62 opensChain (hval 0 62 v0 rfl rfl) h0
  refine law_post Try.laidOut (by kernel_rfl) hW' rfl rfl rfl (by kernel_rfl) (c13' a.x a.ok) rfl ?_
  intro i v x hv hx
  match i, hv, hx with
  | 0, hv, hx => cases hv; cases hx; exact r0
theorem shiftMeans_holds : Rows.ShiftMeansSaid :=
  OpenClaim.holds_of_wide 13 Try.f13 rfl rfl rfl rfl rfl rfl rfl ⟨rfl, rfl, rfl, rfl, rfl⟩ rfl rfl rfl rfl rfl shiftMeans_fn Try.func13 shiftMeans_facts
    (of_decide_eq_true (by kernel_rfl)) (by unfold Func.isWrapper; first | (rw [if_pos (by decide +kernel)]; kernel_rfl) | (rw [if_neg (by decide +kernel)]; exact ⟨rfl, rfl⟩))
    (fun os started H enc _ => shiftMeans_lifted os started H enc)
end Go.Proofs.Ytkhheblmgbiniaa
