/-
  No cell of these rows narrows 'for every input' (looked for: loops, veiled, ifaces, maps, wideKeys, modest, calm, conditions, laid).
  DERIVED. THE GIVEN ROWS OF THIS SEAT. 4 by the template 'for every input the law returns true; each argument reads behind the call as it read before'; 0 by the template 'total and deterministic' (their statements: YtbbgeobnjdgpfaaTotals.lean).
  GIVEN WITH THE SEED: the statements are not yours to turn. If you find one false, say at which input.
  Laid BY PROGRAM, IN A SANDBOX (cutbox-rows.mjs): the forced cells as the released guide's own fill.sh prints them over the translation 8850a49b5283c474… (all of the seat's roots in one cut). By AI agents, Wed Nov 11 2026. No macro, syntax, notation, axiom, sorry.
-/
import Derived.Test.YtbbgeobnjdgpfaaChecked
import GoSem.Claim
import GoSem.ClaimJoined
import GoSem.ClaimMapViews
import Derived.JoinedTies
import Derived.KernelRfl
namespace Go.Proofs.Ytbbgeobnjdgpfaa
/- THE CELL 'sum', in the pinned program and in every row, IS THE sha256 OF THE DUMP (.gsa) THAT YtbbgeobnjdgpfaaProg.lean LOADS. Nothing in Lean hashes anything: it is a label: what it is worth is what the hold of that sum in a sandbox is worth. -/
noncomputable def Try.pinned : Pinned := { name := "ytbbgeobnjdgpfaa", sum := "8850a49b5283c474be46ccb9695f39cc954451195291df8043c18498092e8e82", checked := Try.checked }
namespace Rows
def none {H : Type} : Left H := { results := [], args := [] }

/-- 'gangplanklaw18.WorldTicks': WHATEVER THE INPUT: true; the input reads as it did. -/
def worldTicksSpec : ChangeSpec := { name := "worldTicks", fn := fun _ => fun
  | [d1, d2] => { results := [.lit (.bool true)], args := [d1, d2] }
  | _ => none }
def worldTicksRow : OpenClaim := { program := "ytbbgeobnjdgpfaa", sum := "8850a49b5283c474be46ccb9695f39cc954451195291df8043c18498092e8e82", func := "gangplank/gangplanklaw18.WorldTicks", spec := "worldTicks", unfollowed := true, recurses := true, apart := false }
def WorldTicksSaid : Prop := worldTicksRow.holds Try.pinned (OpenSpec.ofChange worldTicksSpec)

/-- ITS FALSE NEIGHBOUR: 'it returns false'. Refute it at one input. -/
def worldTicksWrong : ChangeSpec := { name := "worldTicks", fn := fun _ => fun
  | [d1, d2] => { results := [.lit (.bool false)], args := [d1, d2] }
  | _ => none }
def WorldTicksWrongFalsely : Prop := worldTicksRow.holds Try.pinned (OpenSpec.ofChange worldTicksWrong)

/-- 'gangplanklaw18.WorldPins': WHATEVER THE INPUT: true; the input reads as it did. -/
def worldPinsSpec : ChangeSpec := { name := "worldPins", fn := fun _ => fun
  | [d1, d2, d3] => { results := [.lit (.bool true)], args := [d1, d2, d3] }
  | _ => none }
def worldPinsRow : OpenClaim := { program := "ytbbgeobnjdgpfaa", sum := "8850a49b5283c474be46ccb9695f39cc954451195291df8043c18498092e8e82", func := "gangplank/gangplanklaw18.WorldPins", spec := "worldPins", inPlace := ["sync/atomic.AddInt64"], unfollowed := true, recurses := true, apart := false }
def WorldPinsSaid : Prop := worldPinsRow.holds Try.pinned (OpenSpec.ofChange worldPinsSpec)

/-- ITS FALSE NEIGHBOUR: 'it returns false'. Refute it at one input. -/
def worldPinsWrong : ChangeSpec := { name := "worldPins", fn := fun _ => fun
  | [d1, d2, d3] => { results := [.lit (.bool false)], args := [d1, d2, d3] }
  | _ => none }
def WorldPinsWrongFalsely : Prop := worldPinsRow.holds Try.pinned (OpenSpec.ofChange worldPinsWrong)

/-- 'gangplanklaw18.WorldNew': WHATEVER THE INPUT: true; the input reads as it did. -/
def worldNewSpec : ChangeSpec := { name := "worldNew", fn := fun _ => fun
  | [d1, d2] => { results := [.lit (.bool true)], args := [d1, d2] }
  | _ => none }
def worldNewRow : OpenClaim := { program := "ytbbgeobnjdgpfaa", sum := "8850a49b5283c474be46ccb9695f39cc954451195291df8043c18498092e8e82", func := "gangplank/gangplanklaw18.WorldNew", spec := "worldNew", inPlace := ["sync/atomic.AddInt64"], unfollowed := true, recurses := true, apart := false }
def WorldNewSaid : Prop := worldNewRow.holds Try.pinned (OpenSpec.ofChange worldNewSpec)

/-- ITS FALSE NEIGHBOUR: 'it returns false'. Refute it at one input. -/
def worldNewWrong : ChangeSpec := { name := "worldNew", fn := fun _ => fun
  | [d1, d2] => { results := [.lit (.bool false)], args := [d1, d2] }
  | _ => none }
def WorldNewWrongFalsely : Prop := worldNewRow.holds Try.pinned (OpenSpec.ofChange worldNewWrong)

/-- 'gangplanklaw18.WorldLive': WHATEVER THE INPUT: true; the input reads as it did. -/
def worldLiveSpec : ChangeSpec := { name := "worldLive", fn := fun _ => fun
  | [d1, d2, d3] => { results := [.lit (.bool true)], args := [d1, d2, d3] }
  | _ => none }
def worldLiveRow : OpenClaim := { program := "ytbbgeobnjdgpfaa", sum := "8850a49b5283c474be46ccb9695f39cc954451195291df8043c18498092e8e82", func := "gangplank/gangplanklaw18.WorldLive", spec := "worldLive", inPlace := ["sync/atomic.AddInt64"], unfollowed := true, recurses := true, apart := false }
def WorldLiveSaid : Prop := worldLiveRow.holds Try.pinned (OpenSpec.ofChange worldLiveSpec)

/-- ITS FALSE NEIGHBOUR: 'it returns false'. Refute it at one input. -/
def worldLiveWrong : ChangeSpec := { name := "worldLive", fn := fun _ => fun
  | [d1, d2, d3] => { results := [.lit (.bool false)], args := [d1, d2, d3] }
  | _ => none }
def WorldLiveWrongFalsely : Prop := worldLiveRow.holds Try.pinned (OpenSpec.ofChange worldLiveWrong)

/- THE SECOND FORM. 'bulk': how many values and letters a reading holds, each counted each time it is reached (what is shared counts as often as it is met; a slice's spare places count too). A statement '..UptoSaid' is the law's where the arguments, and the package variables that the reading takes, are together of bulk at most 1048576: NARROWER than '..Said'. Prove '..Said' where nothing that the law and all that it calls make is longer than what came in: it says more and counts as full. Else prove '..UptoSaid'. A law counts once. -/
mutual
def uptoBulk {H : Type} : DataW H → Nat
  | .lit (.string bytes) => bytes.length + 1
  | .lit _ => 1
  | .nil => 1
  | .ptr d => uptoBulk d + 1
  | .slice elems spare => uptoBulkAll elems + uptoBulkAll spare + 1
  | .agg parts => uptoBulkAll parts + 1
  | .iface _ d => uptoBulk d + 1
  | .map entries => uptoBulkEntries entries + 1
  | .held _ => 1
def uptoBulkAll {H : Type} : List (DataW H) → Nat
  | [] => 0
  | d :: r => uptoBulk d + uptoBulkAll r
def uptoBulkEntries {H : Type} : List (Lit × DataW H) → Nat
  | [] => 0
  | x :: r => uptoBulkEntry x + uptoBulkEntries r
def uptoBulkEntry {H : Type} : Lit × DataW H → Nat
  | (.string bytes, d) => bytes.length + uptoBulk d + 1
  | (_, d) => uptoBulk d + 1
 end
def uptoSmall : (H : Type) → List (DataW H) → Bool := fun _ ds => decide (uptoBulkAll ds ≤ 1048576)
def OpenSpec.upto (s : _root_.Go.ChangeSpec) : _root_.Go.OpenSpec := { _root_.Go.OpenSpec.ofChange s with cond := some uptoSmall }

/-- 'gangplanklaw18.WorldTicks', WHERE WHAT IT READS IS OF BULK AT MOST 1048576: true; the input reads as it did. -/
def worldTicksUptoRow : OpenClaim := { program := "ytbbgeobnjdgpfaa", sum := "8850a49b5283c474be46ccb9695f39cc954451195291df8043c18498092e8e82", func := "gangplank/gangplanklaw18.WorldTicks", spec := "worldTicks", unfollowed := true, recurses := true, apart := false, narrowed := true }
def WorldTicksUptoSaid : Prop := worldTicksUptoRow.holds Try.pinned (OpenSpec.upto worldTicksSpec)

/-- 'gangplanklaw18.WorldPins', WHERE WHAT IT READS IS OF BULK AT MOST 1048576: true; the input reads as it did. -/
def worldPinsUptoRow : OpenClaim := { program := "ytbbgeobnjdgpfaa", sum := "8850a49b5283c474be46ccb9695f39cc954451195291df8043c18498092e8e82", func := "gangplank/gangplanklaw18.WorldPins", spec := "worldPins", inPlace := ["sync/atomic.AddInt64"], unfollowed := true, recurses := true, apart := false, narrowed := true }
def WorldPinsUptoSaid : Prop := worldPinsUptoRow.holds Try.pinned (OpenSpec.upto worldPinsSpec)

/-- 'gangplanklaw18.WorldNew', WHERE WHAT IT READS IS OF BULK AT MOST 1048576: true; the input reads as it did. -/
def worldNewUptoRow : OpenClaim := { program := "ytbbgeobnjdgpfaa", sum := "8850a49b5283c474be46ccb9695f39cc954451195291df8043c18498092e8e82", func := "gangplank/gangplanklaw18.WorldNew", spec := "worldNew", inPlace := ["sync/atomic.AddInt64"], unfollowed := true, recurses := true, apart := false, narrowed := true }
def WorldNewUptoSaid : Prop := worldNewUptoRow.holds Try.pinned (OpenSpec.upto worldNewSpec)

/-- 'gangplanklaw18.WorldLive', WHERE WHAT IT READS IS OF BULK AT MOST 1048576: true; the input reads as it did. -/
def worldLiveUptoRow : OpenClaim := { program := "ytbbgeobnjdgpfaa", sum := "8850a49b5283c474be46ccb9695f39cc954451195291df8043c18498092e8e82", func := "gangplank/gangplanklaw18.WorldLive", spec := "worldLive", inPlace := ["sync/atomic.AddInt64"], unfollowed := true, recurses := true, apart := false, narrowed := true }
def WorldLiveUptoSaid : Prop := worldLiveUptoRow.holds Try.pinned (OpenSpec.upto worldLiveSpec)

end Rows
end Go.Proofs.Ytbbgeobnjdgpfaa
