/-
  No cell of these rows narrows 'for every input' (looked for: loops, veiled, ifaces, maps, wideKeys, modest, calm, conditions, laid).
  DERIVED. THE GIVEN ROWS OF THIS SEAT. 11 by the template 'for every input the law returns true; each argument reads behind the call as it read before'; 0 by the template 'total and deterministic' (their statements: YthecbaeemmejpaaTotals.lean).
  GIVEN WITH THE SEED: the statements are not yours to turn. If you find one false, say at which input.
  Laid BY PROGRAM, IN A SANDBOX (cutbox-rows.mjs): the forced cells as the released guide's own fill.sh prints them over the translation 3bb8def5a92f35ad… (all of the seat's roots in one cut). By AI agents, Wed Nov 11 2026. No macro, syntax, notation, axiom, sorry.
-/
import Derived.Test.YthecbaeemmejpaaChecked
import GoSem.Claim
import GoSem.ClaimJoined
import GoSem.ClaimMapViews
import Derived.JoinedTies
import Derived.KernelRfl
namespace Go.Proofs.Ythecbaeemmejpaa
/- THE CELL 'sum', in the pinned program and in every row, IS THE sha256 OF THE DUMP (.gsa) THAT YthecbaeemmejpaaProg.lean LOADS. Nothing in Lean hashes anything: it is a label: what it is worth is what the hold of that sum in a sandbox is worth. -/
noncomputable def Try.pinned : Pinned := { name := "ythecbaeemmejpaa", sum := "3bb8def5a92f35ad94fcdbbb9139071aae98ab1bfbfee911e8c713dffeafaa61", checked := Try.checked }
namespace Rows
def none {H : Type} : Left H := { results := [], args := [] }

/-- 'gangplanklaw02.FnvTells': WHATEVER THE INPUT: true; the input reads as it did. -/
def fnvTellsSpec : ChangeSpec := { name := "fnvTells", fn := fun _ => fun
  | [d1, d2, d3] => { results := [.lit (.bool true)], args := [d1, d2, d3] }
  | _ => none }
def fnvTellsRow : OpenClaim := { program := "ythecbaeemmejpaa", sum := "3bb8def5a92f35ad94fcdbbb9139071aae98ab1bfbfee911e8c713dffeafaa61", func := "gangplank/gangplanklaw02.FnvTells", spec := "fnvTells", unfollowed := true, recurses := true, apart := false }
def FnvTellsSaid : Prop := fnvTellsRow.holds Try.pinned (OpenSpec.ofChange fnvTellsSpec)

/-- ITS FALSE NEIGHBOUR: 'it returns false'. Refute it at one input. -/
def fnvTellsWrong : ChangeSpec := { name := "fnvTells", fn := fun _ => fun
  | [d1, d2, d3] => { results := [.lit (.bool false)], args := [d1, d2, d3] }
  | _ => none }
def FnvTellsWrongFalsely : Prop := fnvTellsRow.holds Try.pinned (OpenSpec.ofChange fnvTellsWrong)

/-- 'gangplanklaw02.FnvJoins': WHATEVER THE INPUT: true; the input reads as it did. -/
def fnvJoinsSpec : ChangeSpec := { name := "fnvJoins", fn := fun _ => fun
  | [d1, d2, d3] => { results := [.lit (.bool true)], args := [d1, d2, d3] }
  | _ => none }
def fnvJoinsRow : OpenClaim := { program := "ythecbaeemmejpaa", sum := "3bb8def5a92f35ad94fcdbbb9139071aae98ab1bfbfee911e8c713dffeafaa61", func := "gangplank/gangplanklaw02.FnvJoins", spec := "fnvJoins", unfollowed := true, recurses := true, apart := false }
def FnvJoinsSaid : Prop := fnvJoinsRow.holds Try.pinned (OpenSpec.ofChange fnvJoinsSpec)

/-- ITS FALSE NEIGHBOUR: 'it returns false'. Refute it at one input. -/
def fnvJoinsWrong : ChangeSpec := { name := "fnvJoins", fn := fun _ => fun
  | [d1, d2, d3] => { results := [.lit (.bool false)], args := [d1, d2, d3] }
  | _ => none }
def FnvJoinsWrongFalsely : Prop := fnvJoinsRow.holds Try.pinned (OpenSpec.ofChange fnvJoinsWrong)

/-- 'gangplanklaw02.FnvApart': WHATEVER THE INPUT: true; the input reads as it did. -/
def fnvApartSpec : ChangeSpec := { name := "fnvApart", fn := fun _ => fun
  | [d1, d2, d3] => { results := [.lit (.bool true)], args := [d1, d2, d3] }
  | _ => none }
def fnvApartRow : OpenClaim := { program := "ythecbaeemmejpaa", sum := "3bb8def5a92f35ad94fcdbbb9139071aae98ab1bfbfee911e8c713dffeafaa61", func := "gangplank/gangplanklaw02.FnvApart", spec := "fnvApart", unfollowed := true, recurses := true, apart := false }
def FnvApartSaid : Prop := fnvApartRow.holds Try.pinned (OpenSpec.ofChange fnvApartSpec)

/-- ITS FALSE NEIGHBOUR: 'it returns false'. Refute it at one input. -/
def fnvApartWrong : ChangeSpec := { name := "fnvApart", fn := fun _ => fun
  | [d1, d2, d3] => { results := [.lit (.bool false)], args := [d1, d2, d3] }
  | _ => none }
def FnvApartWrongFalsely : Prop := fnvApartRow.holds Try.pinned (OpenSpec.ofChange fnvApartWrong)

/-- 'gangplanklaw02.FnvBytes': WHATEVER THE INPUT: true; the input reads as it did. -/
def fnvBytesSpec : ChangeSpec := { name := "fnvBytes", fn := fun _ => fun
  | [d1, d2, d3, d4] => { results := [.lit (.bool true)], args := [d1, d2, d3, d4] }
  | _ => none }
def fnvBytesRow : OpenClaim := { program := "ythecbaeemmejpaa", sum := "3bb8def5a92f35ad94fcdbbb9139071aae98ab1bfbfee911e8c713dffeafaa61", func := "gangplank/gangplanklaw02.FnvBytes", spec := "fnvBytes", unfollowed := true, recurses := true, apart := false }
def FnvBytesSaid : Prop := fnvBytesRow.holds Try.pinned (OpenSpec.ofChange fnvBytesSpec)

/-- ITS FALSE NEIGHBOUR: 'it returns false'. Refute it at one input. -/
def fnvBytesWrong : ChangeSpec := { name := "fnvBytes", fn := fun _ => fun
  | [d1, d2, d3, d4] => { results := [.lit (.bool false)], args := [d1, d2, d3, d4] }
  | _ => none }
def FnvBytesWrongFalsely : Prop := fnvBytesRow.holds Try.pinned (OpenSpec.ofChange fnvBytesWrong)

/-- 'gangplanklaw02.FnvLow': WHATEVER THE INPUT: true; the input reads as it did. -/
def fnvLowSpec : ChangeSpec := { name := "fnvLow", fn := fun _ => fun
  | [d1, d2, d3] => { results := [.lit (.bool true)], args := [d1, d2, d3] }
  | _ => none }
def fnvLowRow : OpenClaim := { program := "ythecbaeemmejpaa", sum := "3bb8def5a92f35ad94fcdbbb9139071aae98ab1bfbfee911e8c713dffeafaa61", func := "gangplank/gangplanklaw02.FnvLow", spec := "fnvLow", unfollowed := true, recurses := true, apart := false }
def FnvLowSaid : Prop := fnvLowRow.holds Try.pinned (OpenSpec.ofChange fnvLowSpec)

/-- ITS FALSE NEIGHBOUR: 'it returns false'. Refute it at one input. -/
def fnvLowWrong : ChangeSpec := { name := "fnvLow", fn := fun _ => fun
  | [d1, d2, d3] => { results := [.lit (.bool false)], args := [d1, d2, d3] }
  | _ => none }
def FnvLowWrongFalsely : Prop := fnvLowRow.holds Try.pinned (OpenSpec.ofChange fnvLowWrong)

/-- 'gangplanklaw02.FnvZeros': WHATEVER THE INPUT: true; the input reads as it did. -/
def fnvZerosSpec : ChangeSpec := { name := "fnvZeros", fn := fun _ => fun
  | [d1, d2, d3] => { results := [.lit (.bool true)], args := [d1, d2, d3] }
  | _ => none }
def fnvZerosRow : OpenClaim := { program := "ythecbaeemmejpaa", sum := "3bb8def5a92f35ad94fcdbbb9139071aae98ab1bfbfee911e8c713dffeafaa61", func := "gangplank/gangplanklaw02.FnvZeros", spec := "fnvZeros", unfollowed := true, recurses := true, apart := false }
def FnvZerosSaid : Prop := fnvZerosRow.holds Try.pinned (OpenSpec.ofChange fnvZerosSpec)

/-- ITS FALSE NEIGHBOUR: 'it returns false'. Refute it at one input. -/
def fnvZerosWrong : ChangeSpec := { name := "fnvZeros", fn := fun _ => fun
  | [d1, d2, d3] => { results := [.lit (.bool false)], args := [d1, d2, d3] }
  | _ => none }
def FnvZerosWrongFalsely : Prop := fnvZerosRow.holds Try.pinned (OpenSpec.ofChange fnvZerosWrong)

/-- 'gangplanklaw14.CellsAdds': WHATEVER THE INPUT: true; the input reads as it did. -/
def cellsAddsSpec : ChangeSpec := { name := "cellsAdds", fn := fun _ => fun
  | [d1, d2, d3] => { results := [.lit (.bool true)], args := [d1, d2, d3] }
  | _ => none }
def cellsAddsRow : OpenClaim := { program := "ythecbaeemmejpaa", sum := "3bb8def5a92f35ad94fcdbbb9139071aae98ab1bfbfee911e8c713dffeafaa61", func := "gangplank/gangplanklaw14.CellsAdds", spec := "cellsAdds", inPlace := ["sync/atomic.AddInt64", "sync/atomic.LoadInt64"], apart := false }
def CellsAddsSaid : Prop := cellsAddsRow.holds Try.pinned (OpenSpec.ofChange cellsAddsSpec)

/-- ITS FALSE NEIGHBOUR: 'it returns false'. Refute it at one input. -/
def cellsAddsWrong : ChangeSpec := { name := "cellsAdds", fn := fun _ => fun
  | [d1, d2, d3] => { results := [.lit (.bool false)], args := [d1, d2, d3] }
  | _ => none }
def CellsAddsWrongFalsely : Prop := cellsAddsRow.holds Try.pinned (OpenSpec.ofChange cellsAddsWrong)

/-- 'gangplanklaw14.CellsDo': WHATEVER THE INPUT: true; the input reads as it did. -/
def cellsDoSpec : ChangeSpec := { name := "cellsDo", fn := fun _ => fun
  | [d1, d2, d3] => { results := [.lit (.bool true)], args := [d1, d2, d3] }
  | _ => none }
def cellsDoRow : OpenClaim := { program := "ythecbaeemmejpaa", sum := "3bb8def5a92f35ad94fcdbbb9139071aae98ab1bfbfee911e8c713dffeafaa61", func := "gangplank/gangplanklaw14.CellsDo", spec := "cellsDo", inPlace := ["sync/atomic.AddInt64", "sync/atomic.LoadInt64"], apart := false }
def CellsDoSaid : Prop := cellsDoRow.holds Try.pinned (OpenSpec.ofChange cellsDoSpec)

/-- ITS FALSE NEIGHBOUR: 'it returns false'. Refute it at one input. -/
def cellsDoWrong : ChangeSpec := { name := "cellsDo", fn := fun _ => fun
  | [d1, d2, d3] => { results := [.lit (.bool false)], args := [d1, d2, d3] }
  | _ => none }
def CellsDoWrongFalsely : Prop := cellsDoRow.holds Try.pinned (OpenSpec.ofChange cellsDoWrong)

/-- 'gangplanklaw14.CellsHold': WHATEVER THE INPUT: true; the input reads as it did. -/
def cellsHoldSpec : ChangeSpec := { name := "cellsHold", fn := fun _ => fun
  | [d1, d2, d3, d4, d5] => { results := [.lit (.bool true)], args := [d1, d2, d3, d4, d5] }
  | _ => none }
def cellsHoldRow : OpenClaim := { program := "ythecbaeemmejpaa", sum := "3bb8def5a92f35ad94fcdbbb9139071aae98ab1bfbfee911e8c713dffeafaa61", func := "gangplank/gangplanklaw14.CellsHold", spec := "cellsHold", inPlace := ["sync/atomic.AddInt64", "sync/atomic.LoadInt64"], apart := false }
def CellsHoldSaid : Prop := cellsHoldRow.holds Try.pinned (OpenSpec.ofChange cellsHoldSpec)

/-- ITS FALSE NEIGHBOUR: 'it returns false'. Refute it at one input. -/
def cellsHoldWrong : ChangeSpec := { name := "cellsHold", fn := fun _ => fun
  | [d1, d2, d3, d4, d5] => { results := [.lit (.bool false)], args := [d1, d2, d3, d4, d5] }
  | _ => none }
def CellsHoldWrongFalsely : Prop := cellsHoldRow.holds Try.pinned (OpenSpec.ofChange cellsHoldWrong)

/-- 'gangplanklaw14.CellsLock': WHATEVER THE INPUT: true; the input reads as it did. -/
def cellsLockSpec : ChangeSpec := { name := "cellsLock", fn := fun _ => fun
  | [d1, d2, d3, d4, d5] => { results := [.lit (.bool true)], args := [d1, d2, d3, d4, d5] }
  | _ => none }
def cellsLockRow : OpenClaim := { program := "ythecbaeemmejpaa", sum := "3bb8def5a92f35ad94fcdbbb9139071aae98ab1bfbfee911e8c713dffeafaa61", func := "gangplank/gangplanklaw14.CellsLock", spec := "cellsLock", inPlace := ["sync/atomic.AddInt64", "sync/atomic.LoadInt64"], apart := false }
def CellsLockSaid : Prop := cellsLockRow.holds Try.pinned (OpenSpec.ofChange cellsLockSpec)

/-- ITS FALSE NEIGHBOUR: 'it returns false'. Refute it at one input. -/
def cellsLockWrong : ChangeSpec := { name := "cellsLock", fn := fun _ => fun
  | [d1, d2, d3, d4, d5] => { results := [.lit (.bool false)], args := [d1, d2, d3, d4, d5] }
  | _ => none }
def CellsLockWrongFalsely : Prop := cellsLockRow.holds Try.pinned (OpenSpec.ofChange cellsLockWrong)

/-- 'gangplanklaw14.CellsApart': WHATEVER THE INPUT: true; the input reads as it did. -/
def cellsApartSpec : ChangeSpec := { name := "cellsApart", fn := fun _ => fun
  | [d1, d2, d3] => { results := [.lit (.bool true)], args := [d1, d2, d3] }
  | _ => none }
def cellsApartRow : OpenClaim := { program := "ythecbaeemmejpaa", sum := "3bb8def5a92f35ad94fcdbbb9139071aae98ab1bfbfee911e8c713dffeafaa61", func := "gangplank/gangplanklaw14.CellsApart", spec := "cellsApart", inPlace := ["sync/atomic.AddInt64", "sync/atomic.LoadInt64"], apart := false }
def CellsApartSaid : Prop := cellsApartRow.holds Try.pinned (OpenSpec.ofChange cellsApartSpec)

/-- ITS FALSE NEIGHBOUR: 'it returns false'. Refute it at one input. -/
def cellsApartWrong : ChangeSpec := { name := "cellsApart", fn := fun _ => fun
  | [d1, d2, d3] => { results := [.lit (.bool false)], args := [d1, d2, d3] }
  | _ => none }
def CellsApartWrongFalsely : Prop := cellsApartRow.holds Try.pinned (OpenSpec.ofChange cellsApartWrong)

/- THE SECOND FORM. 'bulk': how many values and letters a reading holds, each counted each time it is reached (what is shared counts as often as it is met; a slice's spare places count too). A statement '..UptoSaid' is the law's where the arguments, and the package variables that the reading takes, are together of bulk at most 1048576: NARROWER than '..Said'. Prove '..Said' where nothing that the law and all that it calls make is longer than what came in: it says more and counts as full. Else prove '..UptoSaid'. A law counts once. -/
mutual
def uptoBulk {H : Type} : DataW H → Nat
  | .lit (.string bytes) => bytes.length + 1
  | .lit _ => 1
  | .nil => 1
  | .ptr d => uptoBulk d + 1
  | .slice elems spare => uptoBulkAll elems + uptoBulkAll spare + 1
  | .agg parts => uptoBulkAll parts + 1
  | .iface _ d => uptoBulk d + 1
  | .map entries => uptoBulkEntries entries + 1
  | .held _ => 1
def uptoBulkAll {H : Type} : List (DataW H) → Nat
  | [] => 0
  | d :: r => uptoBulk d + uptoBulkAll r
def uptoBulkEntries {H : Type} : List (Lit × DataW H) → Nat
  | [] => 0
  | x :: r => uptoBulkEntry x + uptoBulkEntries r
def uptoBulkEntry {H : Type} : Lit × DataW H → Nat
  | (.string bytes, d) => bytes.length + uptoBulk d + 1
  | (_, d) => uptoBulk d + 1
 end
def uptoSmall : (H : Type) → List (DataW H) → Bool := fun _ ds => decide (uptoBulkAll ds ≤ 1048576)
def OpenSpec.upto (s : _root_.Go.ChangeSpec) : _root_.Go.OpenSpec := { _root_.Go.OpenSpec.ofChange s with cond := some uptoSmall }

/-- 'gangplanklaw02.FnvTells', WHERE WHAT IT READS IS OF BULK AT MOST 1048576: true; the input reads as it did. -/
def fnvTellsUptoRow : OpenClaim := { program := "ythecbaeemmejpaa", sum := "3bb8def5a92f35ad94fcdbbb9139071aae98ab1bfbfee911e8c713dffeafaa61", func := "gangplank/gangplanklaw02.FnvTells", spec := "fnvTells", unfollowed := true, recurses := true, apart := false, narrowed := true }
def FnvTellsUptoSaid : Prop := fnvTellsUptoRow.holds Try.pinned (OpenSpec.upto fnvTellsSpec)

/-- 'gangplanklaw02.FnvJoins', WHERE WHAT IT READS IS OF BULK AT MOST 1048576: true; the input reads as it did. -/
def fnvJoinsUptoRow : OpenClaim := { program := "ythecbaeemmejpaa", sum := "3bb8def5a92f35ad94fcdbbb9139071aae98ab1bfbfee911e8c713dffeafaa61", func := "gangplank/gangplanklaw02.FnvJoins", spec := "fnvJoins", unfollowed := true, recurses := true, apart := false, narrowed := true }
def FnvJoinsUptoSaid : Prop := fnvJoinsUptoRow.holds Try.pinned (OpenSpec.upto fnvJoinsSpec)

/-- 'gangplanklaw02.FnvApart', WHERE WHAT IT READS IS OF BULK AT MOST 1048576: true; the input reads as it did. -/
def fnvApartUptoRow : OpenClaim := { program := "ythecbaeemmejpaa", sum := "3bb8def5a92f35ad94fcdbbb9139071aae98ab1bfbfee911e8c713dffeafaa61", func := "gangplank/gangplanklaw02.FnvApart", spec := "fnvApart", unfollowed := true, recurses := true, apart := false, narrowed := true }
def FnvApartUptoSaid : Prop := fnvApartUptoRow.holds Try.pinned (OpenSpec.upto fnvApartSpec)

/-- 'gangplanklaw02.FnvBytes', WHERE WHAT IT READS IS OF BULK AT MOST 1048576: true; the input reads as it did. -/
def fnvBytesUptoRow : OpenClaim := { program := "ythecbaeemmejpaa", sum := "3bb8def5a92f35ad94fcdbbb9139071aae98ab1bfbfee911e8c713dffeafaa61", func := "gangplank/gangplanklaw02.FnvBytes", spec := "fnvBytes", unfollowed := true, recurses := true, apart := false, narrowed := true }
def FnvBytesUptoSaid : Prop := fnvBytesUptoRow.holds Try.pinned (OpenSpec.upto fnvBytesSpec)

/-- 'gangplanklaw02.FnvLow', WHERE WHAT IT READS IS OF BULK AT MOST 1048576: true; the input reads as it did. -/
def fnvLowUptoRow : OpenClaim := { program := "ythecbaeemmejpaa", sum := "3bb8def5a92f35ad94fcdbbb9139071aae98ab1bfbfee911e8c713dffeafaa61", func := "gangplank/gangplanklaw02.FnvLow", spec := "fnvLow", unfollowed := true, recurses := true, apart := false, narrowed := true }
def FnvLowUptoSaid : Prop := fnvLowUptoRow.holds Try.pinned (OpenSpec.upto fnvLowSpec)

/-- 'gangplanklaw02.FnvZeros', WHERE WHAT IT READS IS OF BULK AT MOST 1048576: true; the input reads as it did. -/
def fnvZerosUptoRow : OpenClaim := { program := "ythecbaeemmejpaa", sum := "3bb8def5a92f35ad94fcdbbb9139071aae98ab1bfbfee911e8c713dffeafaa61", func := "gangplank/gangplanklaw02.FnvZeros", spec := "fnvZeros", unfollowed := true, recurses := true, apart := false, narrowed := true }
def FnvZerosUptoSaid : Prop := fnvZerosUptoRow.holds Try.pinned (OpenSpec.upto fnvZerosSpec)

/-- 'gangplanklaw14.CellsAdds', WHERE WHAT IT READS IS OF BULK AT MOST 1048576: true; the input reads as it did. -/
def cellsAddsUptoRow : OpenClaim := { program := "ythecbaeemmejpaa", sum := "3bb8def5a92f35ad94fcdbbb9139071aae98ab1bfbfee911e8c713dffeafaa61", func := "gangplank/gangplanklaw14.CellsAdds", spec := "cellsAdds", inPlace := ["sync/atomic.AddInt64", "sync/atomic.LoadInt64"], apart := false, narrowed := true }
def CellsAddsUptoSaid : Prop := cellsAddsUptoRow.holds Try.pinned (OpenSpec.upto cellsAddsSpec)

/-- 'gangplanklaw14.CellsDo', WHERE WHAT IT READS IS OF BULK AT MOST 1048576: true; the input reads as it did. -/
def cellsDoUptoRow : OpenClaim := { program := "ythecbaeemmejpaa", sum := "3bb8def5a92f35ad94fcdbbb9139071aae98ab1bfbfee911e8c713dffeafaa61", func := "gangplank/gangplanklaw14.CellsDo", spec := "cellsDo", inPlace := ["sync/atomic.AddInt64", "sync/atomic.LoadInt64"], apart := false, narrowed := true }
def CellsDoUptoSaid : Prop := cellsDoUptoRow.holds Try.pinned (OpenSpec.upto cellsDoSpec)

/-- 'gangplanklaw14.CellsHold', WHERE WHAT IT READS IS OF BULK AT MOST 1048576: true; the input reads as it did. -/
def cellsHoldUptoRow : OpenClaim := { program := "ythecbaeemmejpaa", sum := "3bb8def5a92f35ad94fcdbbb9139071aae98ab1bfbfee911e8c713dffeafaa61", func := "gangplank/gangplanklaw14.CellsHold", spec := "cellsHold", inPlace := ["sync/atomic.AddInt64", "sync/atomic.LoadInt64"], apart := false, narrowed := true }
def CellsHoldUptoSaid : Prop := cellsHoldUptoRow.holds Try.pinned (OpenSpec.upto cellsHoldSpec)

/-- 'gangplanklaw14.CellsLock', WHERE WHAT IT READS IS OF BULK AT MOST 1048576: true; the input reads as it did. -/
def cellsLockUptoRow : OpenClaim := { program := "ythecbaeemmejpaa", sum := "3bb8def5a92f35ad94fcdbbb9139071aae98ab1bfbfee911e8c713dffeafaa61", func := "gangplank/gangplanklaw14.CellsLock", spec := "cellsLock", inPlace := ["sync/atomic.AddInt64", "sync/atomic.LoadInt64"], apart := false, narrowed := true }
def CellsLockUptoSaid : Prop := cellsLockUptoRow.holds Try.pinned (OpenSpec.upto cellsLockSpec)

/-- 'gangplanklaw14.CellsApart', WHERE WHAT IT READS IS OF BULK AT MOST 1048576: true; the input reads as it did. -/
def cellsApartUptoRow : OpenClaim := { program := "ythecbaeemmejpaa", sum := "3bb8def5a92f35ad94fcdbbb9139071aae98ab1bfbfee911e8c713dffeafaa61", func := "gangplank/gangplanklaw14.CellsApart", spec := "cellsApart", inPlace := ["sync/atomic.AddInt64", "sync/atomic.LoadInt64"], apart := false, narrowed := true }
def CellsApartUptoSaid : Prop := cellsApartUptoRow.holds Try.pinned (OpenSpec.upto cellsApartSpec)

end Rows
end Go.Proofs.Ythecbaeemmejpaa
