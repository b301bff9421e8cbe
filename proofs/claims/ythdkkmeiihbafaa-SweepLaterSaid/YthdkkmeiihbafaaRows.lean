/-
  No cell of these rows narrows 'for every input' (looked for: loops, veiled, ifaces, maps, wideKeys, modest, calm, conditions, laid).
  DERIVED. THE GIVEN ROWS OF THIS SEAT. 19 by the template 'for every input the law returns true; each argument reads behind the call as it read before'; 0 by the template 'total and deterministic' (their statements: YthdkkmeiihbafaaTotals.lean).
  GIVEN WITH THE SEED: the statements are not yours to turn. If you find one false, say at which input.
  Laid BY PROGRAM, IN A SANDBOX (cutbox-rows.mjs): the forced cells as the released guide's own fill.sh prints them over the translation c83ede8f91a9c087… (all of the seat's roots in one cut). By AI agents, Wed Nov 11 2026. No macro, syntax, notation, axiom, sorry.
-/
import Derived.Test.YthdkkmeiihbafaaChecked
import GoSem.Claim
import GoSem.ClaimJoined
import GoSem.ClaimMapViews
import Derived.JoinedTies
import Derived.KernelRfl
namespace Go.Proofs.Ythdkkmeiihbafaa
/- THE CELL 'sum', in the pinned program and in every row, IS THE sha256 OF THE DUMP (.gsa) THAT YthdkkmeiihbafaaProg.lean LOADS. Nothing in Lean hashes anything: it is a label: what it is worth is what the hold of that sum in a sandbox is worth. -/
noncomputable def Try.pinned : Pinned := { name := "ythdkkmeiihbafaa", sum := "c83ede8f91a9c08780bc6b347847ec20ecb57a6242a49545d77edd8fafca76b4", checked := Try.checked }
namespace Rows
def none {H : Type} : Left H := { results := [], args := [] }

/-- 'gangplanklaw11.ProbeTells': WHATEVER THE INPUT: true; the input reads as it did. -/
def probeTellsSpec : ChangeSpec := { name := "probeTells", fn := fun _ => fun
  | [d1, d2, d3, d4, d5] => { results := [.lit (.bool true)], args := [d1, d2, d3, d4, d5] }
  | _ => none }
def probeTellsRow : OpenClaim := { program := "ythdkkmeiihbafaa", sum := "c83ede8f91a9c08780bc6b347847ec20ecb57a6242a49545d77edd8fafca76b4", func := "gangplank/gangplanklaw11.ProbeTells", spec := "probeTells", unfollowed := true, recurses := true, apart := false }
def ProbeTellsSaid : Prop := probeTellsRow.holds Try.pinned (OpenSpec.ofChange probeTellsSpec)

/-- ITS FALSE NEIGHBOUR: 'it returns false'. Refute it at one input. -/
def probeTellsWrong : ChangeSpec := { name := "probeTells", fn := fun _ => fun
  | [d1, d2, d3, d4, d5] => { results := [.lit (.bool false)], args := [d1, d2, d3, d4, d5] }
  | _ => none }
def ProbeTellsWrongFalsely : Prop := probeTellsRow.holds Try.pinned (OpenSpec.ofChange probeTellsWrong)

/-- 'gangplanklaw11.ProbeFinds': WHATEVER THE INPUT: true; the input reads as it did. -/
def probeFindsSpec : ChangeSpec := { name := "probeFinds", fn := fun _ => fun
  | [d1, d2] => { results := [.lit (.bool true)], args := [d1, d2] }
  | _ => none }
def probeFindsRow : OpenClaim := { program := "ythdkkmeiihbafaa", sum := "c83ede8f91a9c08780bc6b347847ec20ecb57a6242a49545d77edd8fafca76b4", func := "gangplank/gangplanklaw11.ProbeFinds", spec := "probeFinds", unfollowed := true, recurses := true, apart := false }
def ProbeFindsSaid : Prop := probeFindsRow.holds Try.pinned (OpenSpec.ofChange probeFindsSpec)

/-- ITS FALSE NEIGHBOUR: 'it returns false'. Refute it at one input. -/
def probeFindsWrong : ChangeSpec := { name := "probeFinds", fn := fun _ => fun
  | [d1, d2] => { results := [.lit (.bool false)], args := [d1, d2] }
  | _ => none }
def ProbeFindsWrongFalsely : Prop := probeFindsRow.holds Try.pinned (OpenSpec.ofChange probeFindsWrong)

/-- 'gangplanklaw11.ProbePuts': WHATEVER THE INPUT: true; the input reads as it did. -/
def probePutsSpec : ChangeSpec := { name := "probePuts", fn := fun _ => fun
  | [d1, d2, d3] => { results := [.lit (.bool true)], args := [d1, d2, d3] }
  | _ => none }
def probePutsRow : OpenClaim := { program := "ythdkkmeiihbafaa", sum := "c83ede8f91a9c08780bc6b347847ec20ecb57a6242a49545d77edd8fafca76b4", func := "gangplank/gangplanklaw11.ProbePuts", spec := "probePuts", unfollowed := true, recurses := true, apart := false }
def ProbePutsSaid : Prop := probePutsRow.holds Try.pinned (OpenSpec.ofChange probePutsSpec)

/-- ITS FALSE NEIGHBOUR: 'it returns false'. Refute it at one input. -/
def probePutsWrong : ChangeSpec := { name := "probePuts", fn := fun _ => fun
  | [d1, d2, d3] => { results := [.lit (.bool false)], args := [d1, d2, d3] }
  | _ => none }
def ProbePutsWrongFalsely : Prop := probePutsRow.holds Try.pinned (OpenSpec.ofChange probePutsWrong)

/-- 'gangplanklaw11.ProbeTombs': WHATEVER THE INPUT: true; the input reads as it did. -/
def probeTombsSpec : ChangeSpec := { name := "probeTombs", fn := fun _ => fun
  | [d1, d2, d3] => { results := [.lit (.bool true)], args := [d1, d2, d3] }
  | _ => none }
def probeTombsRow : OpenClaim := { program := "ythdkkmeiihbafaa", sum := "c83ede8f91a9c08780bc6b347847ec20ecb57a6242a49545d77edd8fafca76b4", func := "gangplank/gangplanklaw11.ProbeTombs", spec := "probeTombs", unfollowed := true, recurses := true, apart := false }
def ProbeTombsSaid : Prop := probeTombsRow.holds Try.pinned (OpenSpec.ofChange probeTombsSpec)

/-- ITS FALSE NEIGHBOUR: 'it returns false'. Refute it at one input. -/
def probeTombsWrong : ChangeSpec := { name := "probeTombs", fn := fun _ => fun
  | [d1, d2, d3] => { results := [.lit (.bool false)], args := [d1, d2, d3] }
  | _ => none }
def ProbeTombsWrongFalsely : Prop := probeTombsRow.holds Try.pinned (OpenSpec.ofChange probeTombsWrong)

/-- 'gangplanklaw11.ProbeWay': WHATEVER THE INPUT: true; the input reads as it did. -/
def probeWaySpec : ChangeSpec := { name := "probeWay", fn := fun _ => fun
  | [d1, d2, d3] => { results := [.lit (.bool true)], args := [d1, d2, d3] }
  | _ => none }
def probeWayRow : OpenClaim := { program := "ythdkkmeiihbafaa", sum := "c83ede8f91a9c08780bc6b347847ec20ecb57a6242a49545d77edd8fafca76b4", func := "gangplank/gangplanklaw11.ProbeWay", spec := "probeWay", unfollowed := true, recurses := true, apart := false }
def ProbeWaySaid : Prop := probeWayRow.holds Try.pinned (OpenSpec.ofChange probeWaySpec)

/-- ITS FALSE NEIGHBOUR: 'it returns false'. Refute it at one input. -/
def probeWayWrong : ChangeSpec := { name := "probeWay", fn := fun _ => fun
  | [d1, d2, d3] => { results := [.lit (.bool false)], args := [d1, d2, d3] }
  | _ => none }
def ProbeWayWrongFalsely : Prop := probeWayRow.holds Try.pinned (OpenSpec.ofChange probeWayWrong)

/-- 'gangplanklaw11.ProbeHome': WHATEVER THE INPUT: true; the input reads as it did. -/
def probeHomeSpec : ChangeSpec := { name := "probeHome", fn := fun _ => fun
  | [d1, d2] => { results := [.lit (.bool true)], args := [d1, d2] }
  | _ => none }
def probeHomeRow : OpenClaim := { program := "ythdkkmeiihbafaa", sum := "c83ede8f91a9c08780bc6b347847ec20ecb57a6242a49545d77edd8fafca76b4", func := "gangplank/gangplanklaw11.ProbeHome", spec := "probeHome", unfollowed := true, recurses := true, apart := false }
def ProbeHomeSaid : Prop := probeHomeRow.holds Try.pinned (OpenSpec.ofChange probeHomeSpec)

/-- ITS FALSE NEIGHBOUR: 'it returns false'. Refute it at one input. -/
def probeHomeWrong : ChangeSpec := { name := "probeHome", fn := fun _ => fun
  | [d1, d2] => { results := [.lit (.bool false)], args := [d1, d2] }
  | _ => none }
def ProbeHomeWrongFalsely : Prop := probeHomeRow.holds Try.pinned (OpenSpec.ofChange probeHomeWrong)

/-- 'gangplanklaw12.FlowsTell': WHATEVER THE INPUT: true; the input reads as it did. -/
def flowsTellSpec : ChangeSpec := { name := "flowsTell", fn := fun _ => fun
  | [d1, d2, d3, d4, d5] => { results := [.lit (.bool true)], args := [d1, d2, d3, d4, d5] }
  | _ => none }
def flowsTellRow : OpenClaim := { program := "ythdkkmeiihbafaa", sum := "c83ede8f91a9c08780bc6b347847ec20ecb57a6242a49545d77edd8fafca76b4", func := "gangplank/gangplanklaw12.FlowsTell", spec := "flowsTell", unfollowed := true, recurses := true, apart := false }
def FlowsTellSaid : Prop := flowsTellRow.holds Try.pinned (OpenSpec.ofChange flowsTellSpec)

/-- ITS FALSE NEIGHBOUR: 'it returns false'. Refute it at one input. -/
def flowsTellWrong : ChangeSpec := { name := "flowsTell", fn := fun _ => fun
  | [d1, d2, d3, d4, d5] => { results := [.lit (.bool false)], args := [d1, d2, d3, d4, d5] }
  | _ => none }
def FlowsTellWrongFalsely : Prop := flowsTellRow.holds Try.pinned (OpenSpec.ofChange flowsTellWrong)

/-- 'gangplanklaw12.FlowsTidy': WHATEVER THE INPUT: true; the input reads as it did. -/
def flowsTidySpec : ChangeSpec := { name := "flowsTidy", fn := fun _ => fun
  | [d1, d2] => { results := [.lit (.bool true)], args := [d1, d2] }
  | _ => none }
def flowsTidyRow : OpenClaim := { program := "ythdkkmeiihbafaa", sum := "c83ede8f91a9c08780bc6b347847ec20ecb57a6242a49545d77edd8fafca76b4", func := "gangplank/gangplanklaw12.FlowsTidy", spec := "flowsTidy", unfollowed := true, recurses := true, apart := false }
def FlowsTidySaid : Prop := flowsTidyRow.holds Try.pinned (OpenSpec.ofChange flowsTidySpec)

/-- ITS FALSE NEIGHBOUR: 'it returns false'. Refute it at one input. -/
def flowsTidyWrong : ChangeSpec := { name := "flowsTidy", fn := fun _ => fun
  | [d1, d2] => { results := [.lit (.bool false)], args := [d1, d2] }
  | _ => none }
def FlowsTidyWrongFalsely : Prop := flowsTidyRow.holds Try.pinned (OpenSpec.ofChange flowsTidyWrong)

/-- 'gangplanklaw12.FlowsOne': WHATEVER THE INPUT: true; the input reads as it did. -/
def flowsOneSpec : ChangeSpec := { name := "flowsOne", fn := fun _ => fun
  | [d1, d2] => { results := [.lit (.bool true)], args := [d1, d2] }
  | _ => none }
def flowsOneRow : OpenClaim := { program := "ythdkkmeiihbafaa", sum := "c83ede8f91a9c08780bc6b347847ec20ecb57a6242a49545d77edd8fafca76b4", func := "gangplank/gangplanklaw12.FlowsOne", spec := "flowsOne", unfollowed := true, recurses := true, apart := false }
def FlowsOneSaid : Prop := flowsOneRow.holds Try.pinned (OpenSpec.ofChange flowsOneSpec)

/-- ITS FALSE NEIGHBOUR: 'it returns false'. Refute it at one input. -/
def flowsOneWrong : ChangeSpec := { name := "flowsOne", fn := fun _ => fun
  | [d1, d2] => { results := [.lit (.bool false)], args := [d1, d2] }
  | _ => none }
def FlowsOneWrongFalsely : Prop := flowsOneRow.holds Try.pinned (OpenSpec.ofChange flowsOneWrong)

/-- 'gangplanklaw12.FlowsBack': WHATEVER THE INPUT: true; the input reads as it did. -/
def flowsBackSpec : ChangeSpec := { name := "flowsBack", fn := fun _ => fun
  | [d1, d2, d3, d4, d5] => { results := [.lit (.bool true)], args := [d1, d2, d3, d4, d5] }
  | _ => none }
def flowsBackRow : OpenClaim := { program := "ythdkkmeiihbafaa", sum := "c83ede8f91a9c08780bc6b347847ec20ecb57a6242a49545d77edd8fafca76b4", func := "gangplank/gangplanklaw12.FlowsBack", spec := "flowsBack", unfollowed := true, recurses := true, apart := false }
def FlowsBackSaid : Prop := flowsBackRow.holds Try.pinned (OpenSpec.ofChange flowsBackSpec)

/-- ITS FALSE NEIGHBOUR: 'it returns false'. Refute it at one input. -/
def flowsBackWrong : ChangeSpec := { name := "flowsBack", fn := fun _ => fun
  | [d1, d2, d3, d4, d5] => { results := [.lit (.bool false)], args := [d1, d2, d3, d4, d5] }
  | _ => none }
def FlowsBackWrongFalsely : Prop := flowsBackRow.holds Try.pinned (OpenSpec.ofChange flowsBackWrong)

/-- 'gangplanklaw12.FlowsMany': WHATEVER THE INPUT: true; the input reads as it did. -/
def flowsManySpec : ChangeSpec := { name := "flowsMany", fn := fun _ => fun
  | [d1, d2, d3] => { results := [.lit (.bool true)], args := [d1, d2, d3] }
  | _ => none }
def flowsManyRow : OpenClaim := { program := "ythdkkmeiihbafaa", sum := "c83ede8f91a9c08780bc6b347847ec20ecb57a6242a49545d77edd8fafca76b4", func := "gangplank/gangplanklaw12.FlowsMany", spec := "flowsMany", unfollowed := true, recurses := true, apart := false }
def FlowsManySaid : Prop := flowsManyRow.holds Try.pinned (OpenSpec.ofChange flowsManySpec)

/-- ITS FALSE NEIGHBOUR: 'it returns false'. Refute it at one input. -/
def flowsManyWrong : ChangeSpec := { name := "flowsMany", fn := fun _ => fun
  | [d1, d2, d3] => { results := [.lit (.bool false)], args := [d1, d2, d3] }
  | _ => none }
def FlowsManyWrongFalsely : Prop := flowsManyRow.holds Try.pinned (OpenSpec.ofChange flowsManyWrong)

/-- 'gangplanklaw12.FlowsPut': WHATEVER THE INPUT: true; the input reads as it did. -/
def flowsPutSpec : ChangeSpec := { name := "flowsPut", fn := fun _ => fun
  | [d1, d2, d3, d4, d5] => { results := [.lit (.bool true)], args := [d1, d2, d3, d4, d5] }
  | _ => none }
def flowsPutRow : OpenClaim := { program := "ythdkkmeiihbafaa", sum := "c83ede8f91a9c08780bc6b347847ec20ecb57a6242a49545d77edd8fafca76b4", func := "gangplank/gangplanklaw12.FlowsPut", spec := "flowsPut", unfollowed := true, recurses := true, apart := false }
def FlowsPutSaid : Prop := flowsPutRow.holds Try.pinned (OpenSpec.ofChange flowsPutSpec)

/-- ITS FALSE NEIGHBOUR: 'it returns false'. Refute it at one input. -/
def flowsPutWrong : ChangeSpec := { name := "flowsPut", fn := fun _ => fun
  | [d1, d2, d3, d4, d5] => { results := [.lit (.bool false)], args := [d1, d2, d3, d4, d5] }
  | _ => none }
def FlowsPutWrongFalsely : Prop := flowsPutRow.holds Try.pinned (OpenSpec.ofChange flowsPutWrong)

/-- 'gangplanklaw12.FlowsDelete': WHATEVER THE INPUT: true; the input reads as it did. -/
def flowsDeleteSpec : ChangeSpec := { name := "flowsDelete", fn := fun _ => fun
  | [d1, d2, d3] => { results := [.lit (.bool true)], args := [d1, d2, d3] }
  | _ => none }
def flowsDeleteRow : OpenClaim := { program := "ythdkkmeiihbafaa", sum := "c83ede8f91a9c08780bc6b347847ec20ecb57a6242a49545d77edd8fafca76b4", func := "gangplank/gangplanklaw12.FlowsDelete", spec := "flowsDelete", unfollowed := true, recurses := true, apart := false }
def FlowsDeleteSaid : Prop := flowsDeleteRow.holds Try.pinned (OpenSpec.ofChange flowsDeleteSpec)

/-- ITS FALSE NEIGHBOUR: 'it returns false'. Refute it at one input. -/
def flowsDeleteWrong : ChangeSpec := { name := "flowsDelete", fn := fun _ => fun
  | [d1, d2, d3] => { results := [.lit (.bool false)], args := [d1, d2, d3] }
  | _ => none }
def FlowsDeleteWrongFalsely : Prop := flowsDeleteRow.holds Try.pinned (OpenSpec.ofChange flowsDeleteWrong)

/-- 'gangplanklaw13.SweepSteps': WHATEVER THE INPUT: true; the input reads as it did. -/
def sweepStepsSpec : ChangeSpec := { name := "sweepSteps", fn := fun _ => fun
  | [d1, d2, d3, d4] => { results := [.lit (.bool true)], args := [d1, d2, d3, d4] }
  | _ => none }
def sweepStepsRow : OpenClaim := { program := "ythdkkmeiihbafaa", sum := "c83ede8f91a9c08780bc6b347847ec20ecb57a6242a49545d77edd8fafca76b4", func := "gangplank/gangplanklaw13.SweepSteps", spec := "sweepSteps", unfollowed := true, recurses := true, apart := false }
def SweepStepsSaid : Prop := sweepStepsRow.holds Try.pinned (OpenSpec.ofChange sweepStepsSpec)

/-- ITS FALSE NEIGHBOUR: 'it returns false'. Refute it at one input. -/
def sweepStepsWrong : ChangeSpec := { name := "sweepSteps", fn := fun _ => fun
  | [d1, d2, d3, d4] => { results := [.lit (.bool false)], args := [d1, d2, d3, d4] }
  | _ => none }
def SweepStepsWrongFalsely : Prop := sweepStepsRow.holds Try.pinned (OpenSpec.ofChange sweepStepsWrong)

/-- 'gangplanklaw13.SweepDue': WHATEVER THE INPUT: true; the input reads as it did. -/
def sweepDueSpec : ChangeSpec := { name := "sweepDue", fn := fun _ => fun
  | [d1, d2, d3] => { results := [.lit (.bool true)], args := [d1, d2, d3] }
  | _ => none }
def sweepDueRow : OpenClaim := { program := "ythdkkmeiihbafaa", sum := "c83ede8f91a9c08780bc6b347847ec20ecb57a6242a49545d77edd8fafca76b4", func := "gangplank/gangplanklaw13.SweepDue", spec := "sweepDue", unfollowed := true, recurses := true, apart := false }
def SweepDueSaid : Prop := sweepDueRow.holds Try.pinned (OpenSpec.ofChange sweepDueSpec)

/-- ITS FALSE NEIGHBOUR: 'it returns false'. Refute it at one input. -/
def sweepDueWrong : ChangeSpec := { name := "sweepDue", fn := fun _ => fun
  | [d1, d2, d3] => { results := [.lit (.bool false)], args := [d1, d2, d3] }
  | _ => none }
def SweepDueWrongFalsely : Prop := sweepDueRow.holds Try.pinned (OpenSpec.ofChange sweepDueWrong)

/-- 'gangplanklaw13.SweepParts': WHATEVER THE INPUT: true; the input reads as it did. -/
def sweepPartsSpec : ChangeSpec := { name := "sweepParts", fn := fun _ => fun
  | [d1, d2, d3, d4, d5] => { results := [.lit (.bool true)], args := [d1, d2, d3, d4, d5] }
  | _ => none }
def sweepPartsRow : OpenClaim := { program := "ythdkkmeiihbafaa", sum := "c83ede8f91a9c08780bc6b347847ec20ecb57a6242a49545d77edd8fafca76b4", func := "gangplank/gangplanklaw13.SweepParts", spec := "sweepParts", unfollowed := true, recurses := true, apart := false }
def SweepPartsSaid : Prop := sweepPartsRow.holds Try.pinned (OpenSpec.ofChange sweepPartsSpec)

/-- ITS FALSE NEIGHBOUR: 'it returns false'. Refute it at one input. -/
def sweepPartsWrong : ChangeSpec := { name := "sweepParts", fn := fun _ => fun
  | [d1, d2, d3, d4, d5] => { results := [.lit (.bool false)], args := [d1, d2, d3, d4, d5] }
  | _ => none }
def SweepPartsWrongFalsely : Prop := sweepPartsRow.holds Try.pinned (OpenSpec.ofChange sweepPartsWrong)

/-- 'gangplanklaw13.SweepKeeps': WHATEVER THE INPUT: true; the input reads as it did. -/
def sweepKeepsSpec : ChangeSpec := { name := "sweepKeeps", fn := fun _ => fun
  | [d1, d2, d3, d4, d5] => { results := [.lit (.bool true)], args := [d1, d2, d3, d4, d5] }
  | _ => none }
def sweepKeepsRow : OpenClaim := { program := "ythdkkmeiihbafaa", sum := "c83ede8f91a9c08780bc6b347847ec20ecb57a6242a49545d77edd8fafca76b4", func := "gangplank/gangplanklaw13.SweepKeeps", spec := "sweepKeeps", unfollowed := true, recurses := true, apart := false }
def SweepKeepsSaid : Prop := sweepKeepsRow.holds Try.pinned (OpenSpec.ofChange sweepKeepsSpec)

/-- ITS FALSE NEIGHBOUR: 'it returns false'. Refute it at one input. -/
def sweepKeepsWrong : ChangeSpec := { name := "sweepKeeps", fn := fun _ => fun
  | [d1, d2, d3, d4, d5] => { results := [.lit (.bool false)], args := [d1, d2, d3, d4, d5] }
  | _ => none }
def SweepKeepsWrongFalsely : Prop := sweepKeepsRow.holds Try.pinned (OpenSpec.ofChange sweepKeepsWrong)

/-- 'gangplanklaw13.SweepAll': WHATEVER THE INPUT: true; the input reads as it did. -/
def sweepAllSpec : ChangeSpec := { name := "sweepAll", fn := fun _ => fun
  | [d1, d2, d3] => { results := [.lit (.bool true)], args := [d1, d2, d3] }
  | _ => none }
def sweepAllRow : OpenClaim := { program := "ythdkkmeiihbafaa", sum := "c83ede8f91a9c08780bc6b347847ec20ecb57a6242a49545d77edd8fafca76b4", func := "gangplank/gangplanklaw13.SweepAll", spec := "sweepAll", unfollowed := true, recurses := true, apart := false }
def SweepAllSaid : Prop := sweepAllRow.holds Try.pinned (OpenSpec.ofChange sweepAllSpec)

/-- ITS FALSE NEIGHBOUR: 'it returns false'. Refute it at one input. -/
def sweepAllWrong : ChangeSpec := { name := "sweepAll", fn := fun _ => fun
  | [d1, d2, d3] => { results := [.lit (.bool false)], args := [d1, d2, d3] }
  | _ => none }
def SweepAllWrongFalsely : Prop := sweepAllRow.holds Try.pinned (OpenSpec.ofChange sweepAllWrong)

/-- 'gangplanklaw13.SweepLater': WHATEVER THE INPUT: true; the input reads as it did. -/
def sweepLaterSpec : ChangeSpec := { name := "sweepLater", fn := fun _ => fun
  | [d1, d2, d3, d4] => { results := [.lit (.bool true)], args := [d1, d2, d3, d4] }
  | _ => none }
def sweepLaterRow : OpenClaim := { program := "ythdkkmeiihbafaa", sum := "c83ede8f91a9c08780bc6b347847ec20ecb57a6242a49545d77edd8fafca76b4", func := "gangplank/gangplanklaw13.SweepLater", spec := "sweepLater", unfollowed := true, recurses := true, apart := false }
def SweepLaterSaid : Prop := sweepLaterRow.holds Try.pinned (OpenSpec.ofChange sweepLaterSpec)

/-- ITS FALSE NEIGHBOUR: 'it returns false'. Refute it at one input. -/
def sweepLaterWrong : ChangeSpec := { name := "sweepLater", fn := fun _ => fun
  | [d1, d2, d3, d4] => { results := [.lit (.bool false)], args := [d1, d2, d3, d4] }
  | _ => none }
def SweepLaterWrongFalsely : Prop := sweepLaterRow.holds Try.pinned (OpenSpec.ofChange sweepLaterWrong)

/- THE SECOND FORM. 'bulk': how many values and letters a reading holds, each counted each time it is reached (what is shared counts as often as it is met; a slice's spare places count too). A statement '..UptoSaid' is the law's where the arguments, and the package variables that the reading takes, are together of bulk at most 1048576: NARROWER than '..Said'. Prove '..Said' where nothing that the law and all that it calls make is longer than what came in: it says more and counts as full. Else prove '..UptoSaid'. A law counts once. -/
mutual
def uptoBulk {H : Type} : DataW H → Nat
  | .lit (.string bytes) => bytes.length + 1
  | .lit _ => 1
  | .nil => 1
  | .ptr d => uptoBulk d + 1
  | .slice elems spare => uptoBulkAll elems + uptoBulkAll spare + 1
  | .agg parts => uptoBulkAll parts + 1
  | .iface _ d => uptoBulk d + 1
  | .map entries => uptoBulkEntries entries + 1
  | .held _ => 1
def uptoBulkAll {H : Type} : List (DataW H) → Nat
  | [] => 0
  | d :: r => uptoBulk d + uptoBulkAll r
def uptoBulkEntries {H : Type} : List (Lit × DataW H) → Nat
  | [] => 0
  | x :: r => uptoBulkEntry x + uptoBulkEntries r
def uptoBulkEntry {H : Type} : Lit × DataW H → Nat
  | (.string bytes, d) => bytes.length + uptoBulk d + 1
  | (_, d) => uptoBulk d + 1
 end
def uptoSmall : (H : Type) → List (DataW H) → Bool := fun _ ds => decide (uptoBulkAll ds ≤ 1048576)
def OpenSpec.upto (s : _root_.Go.ChangeSpec) : _root_.Go.OpenSpec := { _root_.Go.OpenSpec.ofChange s with cond := some uptoSmall }

/-- 'gangplanklaw11.ProbeTells', WHERE WHAT IT READS IS OF BULK AT MOST 1048576: true; the input reads as it did. -/
def probeTellsUptoRow : OpenClaim := { program := "ythdkkmeiihbafaa", sum := "c83ede8f91a9c08780bc6b347847ec20ecb57a6242a49545d77edd8fafca76b4", func := "gangplank/gangplanklaw11.ProbeTells", spec := "probeTells", unfollowed := true, recurses := true, apart := false, narrowed := true }
def ProbeTellsUptoSaid : Prop := probeTellsUptoRow.holds Try.pinned (OpenSpec.upto probeTellsSpec)

/-- 'gangplanklaw11.ProbeFinds', WHERE WHAT IT READS IS OF BULK AT MOST 1048576: true; the input reads as it did. -/
def probeFindsUptoRow : OpenClaim := { program := "ythdkkmeiihbafaa", sum := "c83ede8f91a9c08780bc6b347847ec20ecb57a6242a49545d77edd8fafca76b4", func := "gangplank/gangplanklaw11.ProbeFinds", spec := "probeFinds", unfollowed := true, recurses := true, apart := false, narrowed := true }
def ProbeFindsUptoSaid : Prop := probeFindsUptoRow.holds Try.pinned (OpenSpec.upto probeFindsSpec)

/-- 'gangplanklaw11.ProbePuts', WHERE WHAT IT READS IS OF BULK AT MOST 1048576: true; the input reads as it did. -/
def probePutsUptoRow : OpenClaim := { program := "ythdkkmeiihbafaa", sum := "c83ede8f91a9c08780bc6b347847ec20ecb57a6242a49545d77edd8fafca76b4", func := "gangplank/gangplanklaw11.ProbePuts", spec := "probePuts", unfollowed := true, recurses := true, apart := false, narrowed := true }
def ProbePutsUptoSaid : Prop := probePutsUptoRow.holds Try.pinned (OpenSpec.upto probePutsSpec)

/-- 'gangplanklaw11.ProbeTombs', WHERE WHAT IT READS IS OF BULK AT MOST 1048576: true; the input reads as it did. -/
def probeTombsUptoRow : OpenClaim := { program := "ythdkkmeiihbafaa", sum := "c83ede8f91a9c08780bc6b347847ec20ecb57a6242a49545d77edd8fafca76b4", func := "gangplank/gangplanklaw11.ProbeTombs", spec := "probeTombs", unfollowed := true, recurses := true, apart := false, narrowed := true }
def ProbeTombsUptoSaid : Prop := probeTombsUptoRow.holds Try.pinned (OpenSpec.upto probeTombsSpec)

/-- 'gangplanklaw11.ProbeWay', WHERE WHAT IT READS IS OF BULK AT MOST 1048576: true; the input reads as it did. -/
def probeWayUptoRow : OpenClaim := { program := "ythdkkmeiihbafaa", sum := "c83ede8f91a9c08780bc6b347847ec20ecb57a6242a49545d77edd8fafca76b4", func := "gangplank/gangplanklaw11.ProbeWay", spec := "probeWay", unfollowed := true, recurses := true, apart := false, narrowed := true }
def ProbeWayUptoSaid : Prop := probeWayUptoRow.holds Try.pinned (OpenSpec.upto probeWaySpec)

/-- 'gangplanklaw11.ProbeHome', WHERE WHAT IT READS IS OF BULK AT MOST 1048576: true; the input reads as it did. -/
def probeHomeUptoRow : OpenClaim := { program := "ythdkkmeiihbafaa", sum := "c83ede8f91a9c08780bc6b347847ec20ecb57a6242a49545d77edd8fafca76b4", func := "gangplank/gangplanklaw11.ProbeHome", spec := "probeHome", unfollowed := true, recurses := true, apart := false, narrowed := true }
def ProbeHomeUptoSaid : Prop := probeHomeUptoRow.holds Try.pinned (OpenSpec.upto probeHomeSpec)

/-- 'gangplanklaw12.FlowsTell', WHERE WHAT IT READS IS OF BULK AT MOST 1048576: true; the input reads as it did. -/
def flowsTellUptoRow : OpenClaim := { program := "ythdkkmeiihbafaa", sum := "c83ede8f91a9c08780bc6b347847ec20ecb57a6242a49545d77edd8fafca76b4", func := "gangplank/gangplanklaw12.FlowsTell", spec := "flowsTell", unfollowed := true, recurses := true, apart := false, narrowed := true }
def FlowsTellUptoSaid : Prop := flowsTellUptoRow.holds Try.pinned (OpenSpec.upto flowsTellSpec)

/-- 'gangplanklaw12.FlowsTidy', WHERE WHAT IT READS IS OF BULK AT MOST 1048576: true; the input reads as it did. -/
def flowsTidyUptoRow : OpenClaim := { program := "ythdkkmeiihbafaa", sum := "c83ede8f91a9c08780bc6b347847ec20ecb57a6242a49545d77edd8fafca76b4", func := "gangplank/gangplanklaw12.FlowsTidy", spec := "flowsTidy", unfollowed := true, recurses := true, apart := false, narrowed := true }
def FlowsTidyUptoSaid : Prop := flowsTidyUptoRow.holds Try.pinned (OpenSpec.upto flowsTidySpec)

/-- 'gangplanklaw12.FlowsOne', WHERE WHAT IT READS IS OF BULK AT MOST 1048576: true; the input reads as it did. -/
def flowsOneUptoRow : OpenClaim := { program := "ythdkkmeiihbafaa", sum := "c83ede8f91a9c08780bc6b347847ec20ecb57a6242a49545d77edd8fafca76b4", func := "gangplank/gangplanklaw12.FlowsOne", spec := "flowsOne", unfollowed := true, recurses := true, apart := false, narrowed := true }
def FlowsOneUptoSaid : Prop := flowsOneUptoRow.holds Try.pinned (OpenSpec.upto flowsOneSpec)

/-- 'gangplanklaw12.FlowsBack', WHERE WHAT IT READS IS OF BULK AT MOST 1048576: true; the input reads as it did. -/
def flowsBackUptoRow : OpenClaim := { program := "ythdkkmeiihbafaa", sum := "c83ede8f91a9c08780bc6b347847ec20ecb57a6242a49545d77edd8fafca76b4", func := "gangplank/gangplanklaw12.FlowsBack", spec := "flowsBack", unfollowed := true, recurses := true, apart := false, narrowed := true }
def FlowsBackUptoSaid : Prop := flowsBackUptoRow.holds Try.pinned (OpenSpec.upto flowsBackSpec)

/-- 'gangplanklaw12.FlowsMany', WHERE WHAT IT READS IS OF BULK AT MOST 1048576: true; the input reads as it did. -/
def flowsManyUptoRow : OpenClaim := { program := "ythdkkmeiihbafaa", sum := "c83ede8f91a9c08780bc6b347847ec20ecb57a6242a49545d77edd8fafca76b4", func := "gangplank/gangplanklaw12.FlowsMany", spec := "flowsMany", unfollowed := true, recurses := true, apart := false, narrowed := true }
def FlowsManyUptoSaid : Prop := flowsManyUptoRow.holds Try.pinned (OpenSpec.upto flowsManySpec)

/-- 'gangplanklaw12.FlowsPut', WHERE WHAT IT READS IS OF BULK AT MOST 1048576: true; the input reads as it did. -/
def flowsPutUptoRow : OpenClaim := { program := "ythdkkmeiihbafaa", sum := "c83ede8f91a9c08780bc6b347847ec20ecb57a6242a49545d77edd8fafca76b4", func := "gangplank/gangplanklaw12.FlowsPut", spec := "flowsPut", unfollowed := true, recurses := true, apart := false, narrowed := true }
def FlowsPutUptoSaid : Prop := flowsPutUptoRow.holds Try.pinned (OpenSpec.upto flowsPutSpec)

/-- 'gangplanklaw12.FlowsDelete', WHERE WHAT IT READS IS OF BULK AT MOST 1048576: true; the input reads as it did. -/
def flowsDeleteUptoRow : OpenClaim := { program := "ythdkkmeiihbafaa", sum := "c83ede8f91a9c08780bc6b347847ec20ecb57a6242a49545d77edd8fafca76b4", func := "gangplank/gangplanklaw12.FlowsDelete", spec := "flowsDelete", unfollowed := true, recurses := true, apart := false, narrowed := true }
def FlowsDeleteUptoSaid : Prop := flowsDeleteUptoRow.holds Try.pinned (OpenSpec.upto flowsDeleteSpec)

/-- 'gangplanklaw13.SweepSteps', WHERE WHAT IT READS IS OF BULK AT MOST 1048576: true; the input reads as it did. -/
def sweepStepsUptoRow : OpenClaim := { program := "ythdkkmeiihbafaa", sum := "c83ede8f91a9c08780bc6b347847ec20ecb57a6242a49545d77edd8fafca76b4", func := "gangplank/gangplanklaw13.SweepSteps", spec := "sweepSteps", unfollowed := true, recurses := true, apart := false, narrowed := true }
def SweepStepsUptoSaid : Prop := sweepStepsUptoRow.holds Try.pinned (OpenSpec.upto sweepStepsSpec)

/-- 'gangplanklaw13.SweepDue', WHERE WHAT IT READS IS OF BULK AT MOST 1048576: true; the input reads as it did. -/
def sweepDueUptoRow : OpenClaim := { program := "ythdkkmeiihbafaa", sum := "c83ede8f91a9c08780bc6b347847ec20ecb57a6242a49545d77edd8fafca76b4", func := "gangplank/gangplanklaw13.SweepDue", spec := "sweepDue", unfollowed := true, recurses := true, apart := false, narrowed := true }
def SweepDueUptoSaid : Prop := sweepDueUptoRow.holds Try.pinned (OpenSpec.upto sweepDueSpec)

/-- 'gangplanklaw13.SweepParts', WHERE WHAT IT READS IS OF BULK AT MOST 1048576: true; the input reads as it did. -/
def sweepPartsUptoRow : OpenClaim := { program := "ythdkkmeiihbafaa", sum := "c83ede8f91a9c08780bc6b347847ec20ecb57a6242a49545d77edd8fafca76b4", func := "gangplank/gangplanklaw13.SweepParts", spec := "sweepParts", unfollowed := true, recurses := true, apart := false, narrowed := true }
def SweepPartsUptoSaid : Prop := sweepPartsUptoRow.holds Try.pinned (OpenSpec.upto sweepPartsSpec)

/-- 'gangplanklaw13.SweepKeeps', WHERE WHAT IT READS IS OF BULK AT MOST 1048576: true; the input reads as it did. -/
def sweepKeepsUptoRow : OpenClaim := { program := "ythdkkmeiihbafaa", sum := "c83ede8f91a9c08780bc6b347847ec20ecb57a6242a49545d77edd8fafca76b4", func := "gangplank/gangplanklaw13.SweepKeeps", spec := "sweepKeeps", unfollowed := true, recurses := true, apart := false, narrowed := true }
def SweepKeepsUptoSaid : Prop := sweepKeepsUptoRow.holds Try.pinned (OpenSpec.upto sweepKeepsSpec)

/-- 'gangplanklaw13.SweepAll', WHERE WHAT IT READS IS OF BULK AT MOST 1048576: true; the input reads as it did. -/
def sweepAllUptoRow : OpenClaim := { program := "ythdkkmeiihbafaa", sum := "c83ede8f91a9c08780bc6b347847ec20ecb57a6242a49545d77edd8fafca76b4", func := "gangplank/gangplanklaw13.SweepAll", spec := "sweepAll", unfollowed := true, recurses := true, apart := false, narrowed := true }
def SweepAllUptoSaid : Prop := sweepAllUptoRow.holds Try.pinned (OpenSpec.upto sweepAllSpec)

/-- 'gangplanklaw13.SweepLater', WHERE WHAT IT READS IS OF BULK AT MOST 1048576: true; the input reads as it did. -/
def sweepLaterUptoRow : OpenClaim := { program := "ythdkkmeiihbafaa", sum := "c83ede8f91a9c08780bc6b347847ec20ecb57a6242a49545d77edd8fafca76b4", func := "gangplank/gangplanklaw13.SweepLater", spec := "sweepLater", unfollowed := true, recurses := true, apart := false, narrowed := true }
def SweepLaterUptoSaid : Prop := sweepLaterUptoRow.holds Try.pinned (OpenSpec.upto sweepLaterSpec)

end Rows
end Go.Proofs.Ythdkkmeiihbafaa
