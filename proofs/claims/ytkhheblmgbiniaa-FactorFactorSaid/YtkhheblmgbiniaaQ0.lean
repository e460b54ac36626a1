/- What every row asks of the program alone, and how a row's closed facts are put together. -/
import Derived.Test.YtkhheblmgbiniaaR0
namespace Go.Proofs.Ytkhheblmgbiniaa
open Go.Sy Go.ChangeShapes Go.WideShapes Go.ChangeAt Go.RowKit
theorem Try.own : ownKnob Try.prog.godebug = none := by kernel_rfl
theorem Try.laidOut : laidOutB Try.prog = true := by kernel_rfl
theorem Try.mapsRowed : mapsRowed Try.prog = true := by kernel_rfl
theorem Try.heard : Try.prog.stopsHeard = true := by kernel_rfl
theorem Try.may : Try.prog.mayEnter = true := by kernel_rfl
theorem and_mk {a b : Bool} (h1 : a = true) (h2 : b = true) : (a && b) = true := by rw [h1, h2]; rfl
set_option maxRecDepth 20000 in
/-- The closed facts of a row, each by itself. -/
theorem joined_mk {f : FuncId} {fn : Func} {s : ChangeSpec} {c : OpenClaim} (k1 : c.wf (OpenSpec.ofChange s) = true) (k5 : namedTie Try.prog c.named s.vars = true)
    (k10 : (c.inPlace == Try.prog.inPlace f) = true) (k11 : (c.unfollowed == Try.prog.unfollowed f) = true) (k12 : (c.recurses == Try.prog.recurses f) = true) (k13 : (c.named == Try.prog.varsNamed f) = true)
    (k23 : (c.plainKeys == Try.prog.plainKeys) = true) (k31 : (c.veiled == (fn.params.toList ++ s.plain.varTypes Try.prog ++ fn.resultTypes.toList).any (Try.prog.veiledRec ·)) = true)
    (k32 : c.veiledFits Try.prog fn.params.toList (fn.params.toList ++ s.plain.varTypes Try.prog ++ fn.resultTypes.toList) = true)
    (k4 : (fn.params.all (Try.prog.readableRec ·)) = true) (k69 : ((c.stops == []) && (Try.prog.stops == []) && (c.knobs == []) && (Try.prog.stopKnobs == [])) = true)
    (k14 : (c.maps == (fn.params.toList ++ s.plain.varTypes Try.prog).any (Try.prog.mapsRec ·)) = true) (k15 : (c.ifaces == (fn.params.toList ++ s.plain.varTypes Try.prog).any (Try.prog.ifacesRec ·)) = true)
    (k16 : (c.mapsOut == Try.prog.mapsAmong fn.resultTypes.toList) = true) (k17 : (c.loops == (fn.params.toList ++ s.plain.varTypes Try.prog).any (Try.prog.loopsFrom ·)) = true)
    (k18 : (c.wideKeys == (fn.params.toList ++ s.plain.varTypes Try.prog ++ fn.resultTypes.toList).any (Try.prog.wideKeysFrom ·)) = true) (k19 : (s.vars.all (Try.prog.varReadable ·)) = true)
    (k20 : (fn.resultTypes.all (fun t => Try.prog.readableRec t && decide (t < Try.prog.types.size))) = true) (k21 : (c.ifacesOut == fn.resultTypes.toList.any (Try.prog.ifacesRec ·)) = true) (k22 : (c.loopsOut == fn.resultTypes.toList.any (Try.prog.loopsFrom ·)) = true)
    (k24 : c.shortTexts.isNone = true) (k27 : (c.lifted == Try.prog.liftsFinal) = true) (k28 : (Try.prog.make == some c.make) = true)
    (k29 : (c.kinds == (if c.domain.isEmpty then [] else fn.params.toList.map fun t => match Try.prog.underlying t with | some (.int k) => some k | _ => none)) = true) (k30 : (c.pinned == c.pinnedBy) = true) :
    joinedFacts Try.prog f fn s c = true := by
  simp only [Bool.and_eq_true] at k69
  unfold joinedFacts
  exact and_mk (and_mk (and_mk (and_mk (and_mk (and_mk (and_mk (and_mk (and_mk (and_mk (and_mk (and_mk (and_mk (and_mk (and_mk (and_mk (and_mk (and_mk (and_mk (and_mk (and_mk (and_mk (and_mk (and_mk (and_mk (and_mk (and_mk (and_mk (and_mk (and_mk (and_mk k1 Try.laidOut) Try.mapsRowed) k4) k5) k69.1.1.1) k69.1.1.2) k69.1.2) k69.2) k10) k11) k12) k13) k14) k15) k16) k17) k18) k19) k20) k21) k22) k23) k24) Try.heard) Try.may) k27) k28) k29) k30) k31) k32
end Go.Proofs.Ytkhheblmgbiniaa
