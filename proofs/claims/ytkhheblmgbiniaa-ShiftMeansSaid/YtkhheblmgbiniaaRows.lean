/-
  NARROWER THAN 'FOR EVERY INPUT', by the rows' own cells (each row's printed sentence says how): ShiftValid: loops.
  DERIVED. THE GIVEN ROWS OF THIS SEAT. 13 by the template 'for every input the law returns true; each argument reads behind the call as it read before'; 0 by the template 'total and deterministic' (their statements: YtkhheblmgbiniaaTotals.lean).
  GIVEN WITH THE SEED: the statements are not yours to turn. If you find one false, say at which input.
  Laid BY PROGRAM, IN A SANDBOX (cutbox-rows.mjs): the forced cells as the released guide's own fill.sh prints them over the translation d3935d542e7b21a1… (all of the seat's roots in one cut). By AI agents, Wed Nov 11 2026. No macro, syntax, notation, axiom, sorry.
-/
import Derived.Test.YtkhheblmgbiniaaChecked
import GoSem.Claim
import GoSem.ClaimJoined
import GoSem.ClaimMapViews
import Derived.JoinedTies
import Derived.KernelRfl
namespace Go.Proofs.Ytkhheblmgbiniaa
/- THE CELL 'sum', in the pinned program and in every row, IS THE sha256 OF THE DUMP (.gsa) THAT YtkhheblmgbiniaaProg.lean LOADS. Nothing in Lean hashes anything: it is a label: what it is worth is what the hold of that sum in a sandbox is worth. -/
noncomputable def Try.pinned : Pinned := { name := "ytkhheblmgbiniaa", sum := "d3935d542e7b21a10eddf2b50cab4dfba3f62decfb1f8f29dae368b2db597e86", checked := Try.checked }
namespace Rows
def none {H : Type} : Left H := { results := [], args := [] }

/-- 'scarfjointlaw13.FactorOverlaps': WHATEVER THE INPUT: true; the input reads as it did. -/
def factorOverlapsSpec : ChangeSpec := { name := "factorOverlaps", fn := fun _ => fun
  | [d1, d2] => { results := [.lit (.bool true)], args := [d1, d2] }
  | _ => none }
def factorOverlapsRow : OpenClaim := { program := "ytkhheblmgbiniaa", sum := "d3935d542e7b21a10eddf2b50cab4dfba3f62decfb1f8f29dae368b2db597e86", func := "scarfjoint/scarfjointlaw13.FactorOverlaps", spec := "factorOverlaps", unfollowed := true, recurses := true, apart := false }
def FactorOverlapsSaid : Prop := factorOverlapsRow.holds Try.pinned (OpenSpec.ofChange factorOverlapsSpec)

/-- ITS FALSE NEIGHBOUR: 'it returns false'. Refute it at one input. -/
def factorOverlapsWrong : ChangeSpec := { name := "factorOverlaps", fn := fun _ => fun
  | [d1, d2] => { results := [.lit (.bool false)], args := [d1, d2] }
  | _ => none }
def FactorOverlapsWrongFalsely : Prop := factorOverlapsRow.holds Try.pinned (OpenSpec.ofChange factorOverlapsWrong)

/-- 'scarfjointlaw13.FactorQuotients': WHATEVER THE INPUT: true; the input reads as it did. -/
def factorQuotientsSpec : ChangeSpec := { name := "factorQuotients", fn := fun _ => fun
  | [d] => { results := [.lit (.bool true)], args := [d] }
  | _ => none }
def factorQuotientsRow : OpenClaim := { program := "ytkhheblmgbiniaa", sum := "d3935d542e7b21a10eddf2b50cab4dfba3f62decfb1f8f29dae368b2db597e86", func := "scarfjoint/scarfjointlaw13.FactorQuotients", spec := "factorQuotients", unfollowed := true, recurses := true, apart := false }
def FactorQuotientsSaid : Prop := factorQuotientsRow.holds Try.pinned (OpenSpec.ofChange factorQuotientsSpec)

/-- ITS FALSE NEIGHBOUR: 'it returns false'. Refute it at one input. -/
def factorQuotientsWrong : ChangeSpec := { name := "factorQuotients", fn := fun _ => fun
  | [d] => { results := [.lit (.bool false)], args := [d] }
  | _ => none }
def FactorQuotientsWrongFalsely : Prop := factorQuotientsRow.holds Try.pinned (OpenSpec.ofChange factorQuotientsWrong)

/-- 'scarfjointlaw13.FactorJointly': WHATEVER THE INPUT: true; the input reads as it did. -/
def factorJointlySpec : ChangeSpec := { name := "factorJointly", fn := fun _ => fun
  | [d1, d2, d3] => { results := [.lit (.bool true)], args := [d1, d2, d3] }
  | _ => none }
def factorJointlyRow : OpenClaim := { program := "ytkhheblmgbiniaa", sum := "d3935d542e7b21a10eddf2b50cab4dfba3f62decfb1f8f29dae368b2db597e86", func := "scarfjoint/scarfjointlaw13.FactorJointly", spec := "factorJointly", unfollowed := true, recurses := true, apart := false }
def FactorJointlySaid : Prop := factorJointlyRow.holds Try.pinned (OpenSpec.ofChange factorJointlySpec)

/-- ITS FALSE NEIGHBOUR: 'it returns false'. Refute it at one input. -/
def factorJointlyWrong : ChangeSpec := { name := "factorJointly", fn := fun _ => fun
  | [d1, d2, d3] => { results := [.lit (.bool false)], args := [d1, d2, d3] }
  | _ => none }
def FactorJointlyWrongFalsely : Prop := factorJointlyRow.holds Try.pinned (OpenSpec.ofChange factorJointlyWrong)

/-- 'scarfjointlaw13.FactorListed': WHATEVER THE INPUT: true; the input reads as it did. -/
def factorListedSpec : ChangeSpec := { name := "factorListed", fn := fun _ => fun
  | [d1, d2] => { results := [.lit (.bool true)], args := [d1, d2] }
  | _ => none }
def factorListedRow : OpenClaim := { program := "ytkhheblmgbiniaa", sum := "d3935d542e7b21a10eddf2b50cab4dfba3f62decfb1f8f29dae368b2db597e86", func := "scarfjoint/scarfjointlaw13.FactorListed", spec := "factorListed", unfollowed := true, recurses := true, apart := false }
def FactorListedSaid : Prop := factorListedRow.holds Try.pinned (OpenSpec.ofChange factorListedSpec)

/-- ITS FALSE NEIGHBOUR: 'it returns false'. Refute it at one input. -/
def factorListedWrong : ChangeSpec := { name := "factorListed", fn := fun _ => fun
  | [d1, d2] => { results := [.lit (.bool false)], args := [d1, d2] }
  | _ => none }
def FactorListedWrongFalsely : Prop := factorListedRow.holds Try.pinned (OpenSpec.ofChange factorListedWrong)

/-- 'scarfjointlaw13.FactorThrough': WHATEVER THE INPUT: true; the input reads as it did. -/
def factorThroughSpec : ChangeSpec := { name := "factorThrough", fn := fun _ => fun
  | [d1, d2, d3] => { results := [.lit (.bool true)], args := [d1, d2, d3] }
  | _ => none }
def factorThroughRow : OpenClaim := { program := "ytkhheblmgbiniaa", sum := "d3935d542e7b21a10eddf2b50cab4dfba3f62decfb1f8f29dae368b2db597e86", func := "scarfjoint/scarfjointlaw13.FactorThrough", spec := "factorThrough", unfollowed := true, recurses := true, apart := false }
def FactorThroughSaid : Prop := factorThroughRow.holds Try.pinned (OpenSpec.ofChange factorThroughSpec)

/-- ITS FALSE NEIGHBOUR: 'it returns false'. Refute it at one input. -/
def factorThroughWrong : ChangeSpec := { name := "factorThrough", fn := fun _ => fun
  | [d1, d2, d3] => { results := [.lit (.bool false)], args := [d1, d2, d3] }
  | _ => none }
def FactorThroughWrongFalsely : Prop := factorThroughRow.holds Try.pinned (OpenSpec.ofChange factorThroughWrong)

/-- 'scarfjointlaw33.ShiftGlobal': WHATEVER THE INPUT: true; the input reads as it did. -/
def shiftGlobalSpec : ChangeSpec := { name := "shiftGlobal", fn := fun _ => fun
  | [d] => { results := [.lit (.bool true)], args := [d] }
  | _ => none }
def shiftGlobalRow : OpenClaim := { program := "ytkhheblmgbiniaa", sum := "d3935d542e7b21a10eddf2b50cab4dfba3f62decfb1f8f29dae368b2db597e86", func := "scarfjoint/scarfjointlaw33.ShiftGlobal", spec := "shiftGlobal", unfollowed := true, recurses := true, apart := false }
def ShiftGlobalSaid : Prop := shiftGlobalRow.holds Try.pinned (OpenSpec.ofChange shiftGlobalSpec)

/-- ITS FALSE NEIGHBOUR: 'it returns false'. Refute it at one input. -/
def shiftGlobalWrong : ChangeSpec := { name := "shiftGlobal", fn := fun _ => fun
  | [d] => { results := [.lit (.bool false)], args := [d] }
  | _ => none }
def ShiftGlobalWrongFalsely : Prop := shiftGlobalRow.holds Try.pinned (OpenSpec.ofChange shiftGlobalWrong)

/-- 'scarfjointlaw13.FactorComplete': WHATEVER THE INPUT: true; the input reads as it did. -/
def factorCompleteSpec : ChangeSpec := { name := "factorComplete", fn := fun _ => fun
  | [d1, d2, d3] => { results := [.lit (.bool true)], args := [d1, d2, d3] }
  | _ => none }
def factorCompleteRow : OpenClaim := { program := "ytkhheblmgbiniaa", sum := "d3935d542e7b21a10eddf2b50cab4dfba3f62decfb1f8f29dae368b2db597e86", func := "scarfjoint/scarfjointlaw13.FactorComplete", spec := "factorComplete", unfollowed := true, recurses := true, apart := false }
def FactorCompleteSaid : Prop := factorCompleteRow.holds Try.pinned (OpenSpec.ofChange factorCompleteSpec)

/-- ITS FALSE NEIGHBOUR: 'it returns false'. Refute it at one input. -/
def factorCompleteWrong : ChangeSpec := { name := "factorComplete", fn := fun _ => fun
  | [d1, d2, d3] => { results := [.lit (.bool false)], args := [d1, d2, d3] }
  | _ => none }
def FactorCompleteWrongFalsely : Prop := factorCompleteRow.holds Try.pinned (OpenSpec.ofChange factorCompleteWrong)

/-- 'scarfjointlaw13.FactorFactor': WHATEVER THE INPUT: true; the input reads as it did. -/
def factorFactorSpec : ChangeSpec := { name := "factorFactor", fn := fun _ => fun
  | [d1, d2] => { results := [.lit (.bool true)], args := [d1, d2] }
  | _ => none }
def factorFactorRow : OpenClaim := { program := "ytkhheblmgbiniaa", sum := "d3935d542e7b21a10eddf2b50cab4dfba3f62decfb1f8f29dae368b2db597e86", func := "scarfjoint/scarfjointlaw13.FactorFactor", spec := "factorFactor", unfollowed := true, recurses := true, apart := false }
def FactorFactorSaid : Prop := factorFactorRow.holds Try.pinned (OpenSpec.ofChange factorFactorSpec)

/-- ITS FALSE NEIGHBOUR: 'it returns false'. Refute it at one input. -/
def factorFactorWrong : ChangeSpec := { name := "factorFactor", fn := fun _ => fun
  | [d1, d2] => { results := [.lit (.bool false)], args := [d1, d2] }
  | _ => none }
def FactorFactorWrongFalsely : Prop := factorFactorRow.holds Try.pinned (OpenSpec.ofChange factorFactorWrong)

/-- 'scarfjointlaw13.FactorOnto': WHATEVER THE INPUT: true; the input reads as it did. -/
def factorOntoSpec : ChangeSpec := { name := "factorOnto", fn := fun _ => fun
  | [d1, d2] => { results := [.lit (.bool true)], args := [d1, d2] }
  | _ => none }
def factorOntoRow : OpenClaim := { program := "ytkhheblmgbiniaa", sum := "d3935d542e7b21a10eddf2b50cab4dfba3f62decfb1f8f29dae368b2db597e86", func := "scarfjoint/scarfjointlaw13.FactorOnto", spec := "factorOnto", unfollowed := true, recurses := true, apart := false }
def FactorOntoSaid : Prop := factorOntoRow.holds Try.pinned (OpenSpec.ofChange factorOntoSpec)

/-- ITS FALSE NEIGHBOUR: 'it returns false'. Refute it at one input. -/
def factorOntoWrong : ChangeSpec := { name := "factorOnto", fn := fun _ => fun
  | [d1, d2] => { results := [.lit (.bool false)], args := [d1, d2] }
  | _ => none }
def FactorOntoWrongFalsely : Prop := factorOntoRow.holds Try.pinned (OpenSpec.ofChange factorOntoWrong)

/-- 'scarfjointlaw33.ShiftValid': WHATEVER THE INPUT: true; the input reads as it did. -/
def shiftValidSpec : ChangeSpec := { name := "shiftValid", fn := fun _ => fun
  | [d1, d2] => { results := [.lit (.bool true)], args := [d1, d2] }
  | _ => none }
def shiftValidRow : OpenClaim := { program := "ytkhheblmgbiniaa", sum := "d3935d542e7b21a10eddf2b50cab4dfba3f62decfb1f8f29dae368b2db597e86", func := "scarfjoint/scarfjointlaw33.ShiftValid", spec := "shiftValid", unfollowed := true, recurses := true, loops := true, apart := false }
def ShiftValidSaid : Prop := shiftValidRow.holds Try.pinned (OpenSpec.ofChange shiftValidSpec)

/-- ITS FALSE NEIGHBOUR: 'it returns false'. Refute it at one input. -/
def shiftValidWrong : ChangeSpec := { name := "shiftValid", fn := fun _ => fun
  | [d1, d2] => { results := [.lit (.bool false)], args := [d1, d2] }
  | _ => none }
def ShiftValidWrongFalsely : Prop := shiftValidRow.holds Try.pinned (OpenSpec.ofChange shiftValidWrong)

/-- 'scarfjointlaw33.ShiftMeans': WHATEVER THE INPUT: true; the input reads as it did. -/
def shiftMeansSpec : ChangeSpec := { name := "shiftMeans", fn := fun _ => fun
  | [d] => { results := [.lit (.bool true)], args := [d] }
  | _ => none }
def shiftMeansRow : OpenClaim := { program := "ytkhheblmgbiniaa", sum := "d3935d542e7b21a10eddf2b50cab4dfba3f62decfb1f8f29dae368b2db597e86", func := "scarfjoint/scarfjointlaw33.ShiftMeans", spec := "shiftMeans", unfollowed := true, recurses := true, apart := false }
def ShiftMeansSaid : Prop := shiftMeansRow.holds Try.pinned (OpenSpec.ofChange shiftMeansSpec)

/-- ITS FALSE NEIGHBOUR: 'it returns false'. Refute it at one input. -/
def shiftMeansWrong : ChangeSpec := { name := "shiftMeans", fn := fun _ => fun
  | [d] => { results := [.lit (.bool false)], args := [d] }
  | _ => none }
def ShiftMeansWrongFalsely : Prop := shiftMeansRow.holds Try.pinned (OpenSpec.ofChange shiftMeansWrong)

/-- 'scarfjointlaw33.ShiftTwice': WHATEVER THE INPUT: true; the input reads as it did. -/
def shiftTwiceSpec : ChangeSpec := { name := "shiftTwice", fn := fun _ => fun
  | [d1, d2] => { results := [.lit (.bool true)], args := [d1, d2] }
  | _ => none }
def shiftTwiceRow : OpenClaim := { program := "ytkhheblmgbiniaa", sum := "d3935d542e7b21a10eddf2b50cab4dfba3f62decfb1f8f29dae368b2db597e86", func := "scarfjoint/scarfjointlaw33.ShiftTwice", spec := "shiftTwice", unfollowed := true, recurses := true, apart := false }
def ShiftTwiceSaid : Prop := shiftTwiceRow.holds Try.pinned (OpenSpec.ofChange shiftTwiceSpec)

/-- ITS FALSE NEIGHBOUR: 'it returns false'. Refute it at one input. -/
def shiftTwiceWrong : ChangeSpec := { name := "shiftTwice", fn := fun _ => fun
  | [d1, d2] => { results := [.lit (.bool false)], args := [d1, d2] }
  | _ => none }
def ShiftTwiceWrongFalsely : Prop := shiftTwiceRow.holds Try.pinned (OpenSpec.ofChange shiftTwiceWrong)

/-- 'scarfjointlaw33.ShiftIdentity': WHATEVER THE INPUT: true; the input reads as it did. -/
def shiftIdentitySpec : ChangeSpec := { name := "shiftIdentity", fn := fun _ => fun
  | [d] => { results := [.lit (.bool true)], args := [d] }
  | _ => none }
def shiftIdentityRow : OpenClaim := { program := "ytkhheblmgbiniaa", sum := "d3935d542e7b21a10eddf2b50cab4dfba3f62decfb1f8f29dae368b2db597e86", func := "scarfjoint/scarfjointlaw33.ShiftIdentity", spec := "shiftIdentity", unfollowed := true, recurses := true, apart := false }
def ShiftIdentitySaid : Prop := shiftIdentityRow.holds Try.pinned (OpenSpec.ofChange shiftIdentitySpec)

/-- ITS FALSE NEIGHBOUR: 'it returns false'. Refute it at one input. -/
def shiftIdentityWrong : ChangeSpec := { name := "shiftIdentity", fn := fun _ => fun
  | [d] => { results := [.lit (.bool false)], args := [d] }
  | _ => none }
def ShiftIdentityWrongFalsely : Prop := shiftIdentityRow.holds Try.pinned (OpenSpec.ofChange shiftIdentityWrong)

/- THE SECOND FORM. 'bulk': how many values and letters a reading holds, each counted each time it is reached (what is shared counts as often as it is met; a slice's spare places count too). A statement '..UptoSaid' is the law's where the arguments, and the package variables that the reading takes, are together of bulk at most 1048576: NARROWER than '..Said'. Prove '..Said' where nothing that the law and all that it calls make is longer than what came in: it says more and counts as full. Else prove '..UptoSaid'. A law counts once. -/
mutual
def uptoBulk {H : Type} : DataW H → Nat
  | .lit (.string bytes) => bytes.length + 1
  | .lit _ => 1
  | .nil => 1
  | .ptr d => uptoBulk d + 1
  | .slice elems spare => uptoBulkAll elems + uptoBulkAll spare + 1
  | .agg parts => uptoBulkAll parts + 1
  | .iface _ d => uptoBulk d + 1
  | .map entries => uptoBulkEntries entries + 1
  | .held _ => 1
def uptoBulkAll {H : Type} : List (DataW H) → Nat
  | [] => 0
  | d :: r => uptoBulk d + uptoBulkAll r
def uptoBulkEntries {H : Type} : List (Lit × DataW H) → Nat
  | [] => 0
  | x :: r => uptoBulkEntry x + uptoBulkEntries r
def uptoBulkEntry {H : Type} : Lit × DataW H → Nat
  | (.string bytes, d) => bytes.length + uptoBulk d + 1
  | (_, d) => uptoBulk d + 1
 end
def uptoSmall : (H : Type) → List (DataW H) → Bool := fun _ ds => decide (uptoBulkAll ds ≤ 1048576)
def OpenSpec.upto (s : _root_.Go.ChangeSpec) : _root_.Go.OpenSpec := { _root_.Go.OpenSpec.ofChange s with cond := some uptoSmall }

/-- 'scarfjointlaw13.FactorOverlaps', WHERE WHAT IT READS IS OF BULK AT MOST 1048576: true; the input reads as it did. -/
def factorOverlapsUptoRow : OpenClaim := { program := "ytkhheblmgbiniaa", sum := "d3935d542e7b21a10eddf2b50cab4dfba3f62decfb1f8f29dae368b2db597e86", func := "scarfjoint/scarfjointlaw13.FactorOverlaps", spec := "factorOverlaps", unfollowed := true, recurses := true, apart := false, narrowed := true }
def FactorOverlapsUptoSaid : Prop := factorOverlapsUptoRow.holds Try.pinned (OpenSpec.upto factorOverlapsSpec)

/-- 'scarfjointlaw13.FactorQuotients', WHERE WHAT IT READS IS OF BULK AT MOST 1048576: true; the input reads as it did. -/
def factorQuotientsUptoRow : OpenClaim := { program := "ytkhheblmgbiniaa", sum := "d3935d542e7b21a10eddf2b50cab4dfba3f62decfb1f8f29dae368b2db597e86", func := "scarfjoint/scarfjointlaw13.FactorQuotients", spec := "factorQuotients", unfollowed := true, recurses := true, apart := false, narrowed := true }
def FactorQuotientsUptoSaid : Prop := factorQuotientsUptoRow.holds Try.pinned (OpenSpec.upto factorQuotientsSpec)

/-- 'scarfjointlaw13.FactorJointly', WHERE WHAT IT READS IS OF BULK AT MOST 1048576: true; the input reads as it did. -/
def factorJointlyUptoRow : OpenClaim := { program := "ytkhheblmgbiniaa", sum := "d3935d542e7b21a10eddf2b50cab4dfba3f62decfb1f8f29dae368b2db597e86", func := "scarfjoint/scarfjointlaw13.FactorJointly", spec := "factorJointly", unfollowed := true, recurses := true, apart := false, narrowed := true }
def FactorJointlyUptoSaid : Prop := factorJointlyUptoRow.holds Try.pinned (OpenSpec.upto factorJointlySpec)

/-- 'scarfjointlaw13.FactorListed', WHERE WHAT IT READS IS OF BULK AT MOST 1048576: true; the input reads as it did. -/
def factorListedUptoRow : OpenClaim := { program := "ytkhheblmgbiniaa", sum := "d3935d542e7b21a10eddf2b50cab4dfba3f62decfb1f8f29dae368b2db597e86", func := "scarfjoint/scarfjointlaw13.FactorListed", spec := "factorListed", unfollowed := true, recurses := true, apart := false, narrowed := true }
def FactorListedUptoSaid : Prop := factorListedUptoRow.holds Try.pinned (OpenSpec.upto factorListedSpec)

/-- 'scarfjointlaw13.FactorThrough', WHERE WHAT IT READS IS OF BULK AT MOST 1048576: true; the input reads as it did. -/
def factorThroughUptoRow : OpenClaim := { program := "ytkhheblmgbiniaa", sum := "d3935d542e7b21a10eddf2b50cab4dfba3f62decfb1f8f29dae368b2db597e86", func := "scarfjoint/scarfjointlaw13.FactorThrough", spec := "factorThrough", unfollowed := true, recurses := true, apart := false, narrowed := true }
def FactorThroughUptoSaid : Prop := factorThroughUptoRow.holds Try.pinned (OpenSpec.upto factorThroughSpec)

/-- 'scarfjointlaw33.ShiftGlobal', WHERE WHAT IT READS IS OF BULK AT MOST 1048576: true; the input reads as it did. -/
def shiftGlobalUptoRow : OpenClaim := { program := "ytkhheblmgbiniaa", sum := "d3935d542e7b21a10eddf2b50cab4dfba3f62decfb1f8f29dae368b2db597e86", func := "scarfjoint/scarfjointlaw33.ShiftGlobal", spec := "shiftGlobal", unfollowed := true, recurses := true, apart := false, narrowed := true }
def ShiftGlobalUptoSaid : Prop := shiftGlobalUptoRow.holds Try.pinned (OpenSpec.upto shiftGlobalSpec)

/-- 'scarfjointlaw13.FactorComplete', WHERE WHAT IT READS IS OF BULK AT MOST 1048576: true; the input reads as it did. -/
def factorCompleteUptoRow : OpenClaim := { program := "ytkhheblmgbiniaa", sum := "d3935d542e7b21a10eddf2b50cab4dfba3f62decfb1f8f29dae368b2db597e86", func := "scarfjoint/scarfjointlaw13.FactorComplete", spec := "factorComplete", unfollowed := true, recurses := true, apart := false, narrowed := true }
def FactorCompleteUptoSaid : Prop := factorCompleteUptoRow.holds Try.pinned (OpenSpec.upto factorCompleteSpec)

/-- 'scarfjointlaw13.FactorFactor', WHERE WHAT IT READS IS OF BULK AT MOST 1048576: true; the input reads as it did. -/
def factorFactorUptoRow : OpenClaim := { program := "ytkhheblmgbiniaa", sum := "d3935d542e7b21a10eddf2b50cab4dfba3f62decfb1f8f29dae368b2db597e86", func := "scarfjoint/scarfjointlaw13.FactorFactor", spec := "factorFactor", unfollowed := true, recurses := true, apart := false, narrowed := true }
def FactorFactorUptoSaid : Prop := factorFactorUptoRow.holds Try.pinned (OpenSpec.upto factorFactorSpec)

/-- 'scarfjointlaw13.FactorOnto', WHERE WHAT IT READS IS OF BULK AT MOST 1048576: true; the input reads as it did. -/
def factorOntoUptoRow : OpenClaim := { program := "ytkhheblmgbiniaa", sum := "d3935d542e7b21a10eddf2b50cab4dfba3f62decfb1f8f29dae368b2db597e86", func := "scarfjoint/scarfjointlaw13.FactorOnto", spec := "factorOnto", unfollowed := true, recurses := true, apart := false, narrowed := true }
def FactorOntoUptoSaid : Prop := factorOntoUptoRow.holds Try.pinned (OpenSpec.upto factorOntoSpec)

/-- 'scarfjointlaw33.ShiftValid', WHERE WHAT IT READS IS OF BULK AT MOST 1048576: true; the input reads as it did. -/
def shiftValidUptoRow : OpenClaim := { program := "ytkhheblmgbiniaa", sum := "d3935d542e7b21a10eddf2b50cab4dfba3f62decfb1f8f29dae368b2db597e86", func := "scarfjoint/scarfjointlaw33.ShiftValid", spec := "shiftValid", unfollowed := true, recurses := true, loops := true, apart := false, narrowed := true }
def ShiftValidUptoSaid : Prop := shiftValidUptoRow.holds Try.pinned (OpenSpec.upto shiftValidSpec)

/-- 'scarfjointlaw33.ShiftMeans', WHERE WHAT IT READS IS OF BULK AT MOST 1048576: true; the input reads as it did. -/
def shiftMeansUptoRow : OpenClaim := { program := "ytkhheblmgbiniaa", sum := "d3935d542e7b21a10eddf2b50cab4dfba3f62decfb1f8f29dae368b2db597e86", func := "scarfjoint/scarfjointlaw33.ShiftMeans", spec := "shiftMeans", unfollowed := true, recurses := true, apart := false, narrowed := true }
def ShiftMeansUptoSaid : Prop := shiftMeansUptoRow.holds Try.pinned (OpenSpec.upto shiftMeansSpec)

/-- 'scarfjointlaw33.ShiftTwice', WHERE WHAT IT READS IS OF BULK AT MOST 1048576: true; the input reads as it did. -/
def shiftTwiceUptoRow : OpenClaim := { program := "ytkhheblmgbiniaa", sum := "d3935d542e7b21a10eddf2b50cab4dfba3f62decfb1f8f29dae368b2db597e86", func := "scarfjoint/scarfjointlaw33.ShiftTwice", spec := "shiftTwice", unfollowed := true, recurses := true, apart := false, narrowed := true }
def ShiftTwiceUptoSaid : Prop := shiftTwiceUptoRow.holds Try.pinned (OpenSpec.upto shiftTwiceSpec)

/-- 'scarfjointlaw33.ShiftIdentity', WHERE WHAT IT READS IS OF BULK AT MOST 1048576: true; the input reads as it did. -/
def shiftIdentityUptoRow : OpenClaim := { program := "ytkhheblmgbiniaa", sum := "d3935d542e7b21a10eddf2b50cab4dfba3f62decfb1f8f29dae368b2db597e86", func := "scarfjoint/scarfjointlaw33.ShiftIdentity", spec := "shiftIdentity", unfollowed := true, recurses := true, apart := false, narrowed := true }
def ShiftIdentityUptoSaid : Prop := shiftIdentityUptoRow.holds Try.pinned (OpenSpec.upto shiftIdentitySpec)

end Rows
end Go.Proofs.Ytkhheblmgbiniaa
