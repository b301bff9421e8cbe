/-
  No cell of these rows narrows 'for every input' (looked for: loops, veiled, ifaces, maps, wideKeys, modest, calm, conditions, laid).
  DERIVED. THE GIVEN ROWS OF THIS SEAT. 11 by the template 'for every input the law returns true; each argument reads behind the call as it read before'; 0 by the template 'total and deterministic' (their statements: YtklngklmeanhcaaTotals.lean).
  GIVEN WITH THE SEED: the statements are not yours to turn. If you find one false, say at which input.
  Laid BY PROGRAM, IN A SANDBOX (cutbox-rows.mjs): the forced cells as the released guide's own fill.sh prints them over the translation d77d53dedfdcf58e… (all of the seat's roots in one cut). By AI agents, Wed Nov 11 2026. No macro, syntax, notation, axiom, sorry.
-/
import Derived.Test.YtklngklmeanhcaaChecked
import GoSem.Claim
import GoSem.ClaimJoined
import GoSem.ClaimMapViews
import Derived.JoinedTies
import Derived.KernelRfl
namespace Go.Proofs.Ytklngklmeanhcaa
/- THE CELL 'sum', in the pinned program and in every row, IS THE sha256 OF THE DUMP (.gsa) THAT YtklngklmeanhcaaProg.lean LOADS. Nothing in Lean hashes anything: it is a label: what it is worth is what the hold of that sum in a sandbox is worth. -/
noncomputable def Try.pinned : Pinned := { name := "ytklngklmeanhcaa", sum := "d77d53dedfdcf58e686f03443da536542b9e5be7047c71654cfd42fc5b75fb62", checked := Try.checked }
namespace Rows
def none {H : Type} : Left H := { results := [], args := [] }

/-- 'gangplanklaw16.SlotsDo': WHATEVER THE INPUT: true; the input reads as it did. -/
def slotsDoSpec : ChangeSpec := { name := "slotsDo", fn := fun _ => fun
  | [d1, d2, d3, d4, d5] => { results := [.lit (.bool true)], args := [d1, d2, d3, d4, d5] }
  | _ => none }
def slotsDoRow : OpenClaim := { program := "ytklngklmeanhcaa", sum := "d77d53dedfdcf58e686f03443da536542b9e5be7047c71654cfd42fc5b75fb62", func := "gangplank/gangplanklaw16.SlotsDo", spec := "slotsDo", unfollowed := true, recurses := true, apart := false }
def SlotsDoSaid : Prop := slotsDoRow.holds Try.pinned (OpenSpec.ofChange slotsDoSpec)

/-- ITS FALSE NEIGHBOUR: 'it returns false'. Refute it at one input. -/
def slotsDoWrong : ChangeSpec := { name := "slotsDo", fn := fun _ => fun
  | [d1, d2, d3, d4, d5] => { results := [.lit (.bool false)], args := [d1, d2, d3, d4, d5] }
  | _ => none }
def SlotsDoWrongFalsely : Prop := slotsDoRow.holds Try.pinned (OpenSpec.ofChange slotsDoWrong)

/-- 'gangplanklaw16.SlotsHas': WHATEVER THE INPUT: true; the input reads as it did. -/
def slotsHasSpec : ChangeSpec := { name := "slotsHas", fn := fun _ => fun
  | [d1, d2, d3] => { results := [.lit (.bool true)], args := [d1, d2, d3] }
  | _ => none }
def slotsHasRow : OpenClaim := { program := "ytklngklmeanhcaa", sum := "d77d53dedfdcf58e686f03443da536542b9e5be7047c71654cfd42fc5b75fb62", func := "gangplank/gangplanklaw16.SlotsHas", spec := "slotsHas", unfollowed := true, recurses := true, apart := false }
def SlotsHasSaid : Prop := slotsHasRow.holds Try.pinned (OpenSpec.ofChange slotsHasSpec)

/-- ITS FALSE NEIGHBOUR: 'it returns false'. Refute it at one input. -/
def slotsHasWrong : ChangeSpec := { name := "slotsHas", fn := fun _ => fun
  | [d1, d2, d3] => { results := [.lit (.bool false)], args := [d1, d2, d3] }
  | _ => none }
def SlotsHasWrongFalsely : Prop := slotsHasRow.holds Try.pinned (OpenSpec.ofChange slotsHasWrong)

/-- 'gangplanklaw16.SlotsNone': WHATEVER THE INPUT: true; the input reads as it did. -/
def slotsNoneSpec : ChangeSpec := { name := "slotsNone", fn := fun _ => fun
  | [d1, d2, d3, d4, d5] => { results := [.lit (.bool true)], args := [d1, d2, d3, d4, d5] }
  | _ => none }
def slotsNoneRow : OpenClaim := { program := "ytklngklmeanhcaa", sum := "d77d53dedfdcf58e686f03443da536542b9e5be7047c71654cfd42fc5b75fb62", func := "gangplank/gangplanklaw16.SlotsNone", spec := "slotsNone", unfollowed := true, recurses := true, apart := false }
def SlotsNoneSaid : Prop := slotsNoneRow.holds Try.pinned (OpenSpec.ofChange slotsNoneSpec)

/-- ITS FALSE NEIGHBOUR: 'it returns false'. Refute it at one input. -/
def slotsNoneWrong : ChangeSpec := { name := "slotsNone", fn := fun _ => fun
  | [d1, d2, d3, d4, d5] => { results := [.lit (.bool false)], args := [d1, d2, d3, d4, d5] }
  | _ => none }
def SlotsNoneWrongFalsely : Prop := slotsNoneRow.holds Try.pinned (OpenSpec.ofChange slotsNoneWrong)

/-- 'gangplanklaw16.SlotsReady': WHATEVER THE INPUT: true; the input reads as it did. -/
def slotsReadySpec : ChangeSpec := { name := "slotsReady", fn := fun _ => fun
  | [d1, d2, d3, d4, d5] => { results := [.lit (.bool true)], args := [d1, d2, d3, d4, d5] }
  | _ => none }
def slotsReadyRow : OpenClaim := { program := "ytklngklmeanhcaa", sum := "d77d53dedfdcf58e686f03443da536542b9e5be7047c71654cfd42fc5b75fb62", func := "gangplank/gangplanklaw16.SlotsReady", spec := "slotsReady", unfollowed := true, recurses := true, apart := false }
def SlotsReadySaid : Prop := slotsReadyRow.holds Try.pinned (OpenSpec.ofChange slotsReadySpec)

/-- ITS FALSE NEIGHBOUR: 'it returns false'. Refute it at one input. -/
def slotsReadyWrong : ChangeSpec := { name := "slotsReady", fn := fun _ => fun
  | [d1, d2, d3, d4, d5] => { results := [.lit (.bool false)], args := [d1, d2, d3, d4, d5] }
  | _ => none }
def SlotsReadyWrongFalsely : Prop := slotsReadyRow.holds Try.pinned (OpenSpec.ofChange slotsReadyWrong)

/-- 'gangplanklaw16.SlotsAnew': WHATEVER THE INPUT: true; the input reads as it did. -/
def slotsAnewSpec : ChangeSpec := { name := "slotsAnew", fn := fun _ => fun
  | [d1, d2, d3, d4, d5] => { results := [.lit (.bool true)], args := [d1, d2, d3, d4, d5] }
  | _ => none }
def slotsAnewRow : OpenClaim := { program := "ytklngklmeanhcaa", sum := "d77d53dedfdcf58e686f03443da536542b9e5be7047c71654cfd42fc5b75fb62", func := "gangplank/gangplanklaw16.SlotsAnew", spec := "slotsAnew", unfollowed := true, recurses := true, apart := false }
def SlotsAnewSaid : Prop := slotsAnewRow.holds Try.pinned (OpenSpec.ofChange slotsAnewSpec)

/-- ITS FALSE NEIGHBOUR: 'it returns false'. Refute it at one input. -/
def slotsAnewWrong : ChangeSpec := { name := "slotsAnew", fn := fun _ => fun
  | [d1, d2, d3, d4, d5] => { results := [.lit (.bool false)], args := [d1, d2, d3, d4, d5] }
  | _ => none }
def SlotsAnewWrongFalsely : Prop := slotsAnewRow.holds Try.pinned (OpenSpec.ofChange slotsAnewWrong)

/-- 'gangplanklaw08.PoolTells': WHATEVER THE INPUT: true; the input reads as it did. -/
def poolTellsSpec : ChangeSpec := { name := "poolTells", fn := fun _ => fun
  | [d1, d2, d3, d4] => { results := [.lit (.bool true)], args := [d1, d2, d3, d4] }
  | _ => none }
def poolTellsRow : OpenClaim := { program := "ytklngklmeanhcaa", sum := "d77d53dedfdcf58e686f03443da536542b9e5be7047c71654cfd42fc5b75fb62", func := "gangplank/gangplanklaw08.PoolTells", spec := "poolTells", unfollowed := true, recurses := true, apart := false }
def PoolTellsSaid : Prop := poolTellsRow.holds Try.pinned (OpenSpec.ofChange poolTellsSpec)

/-- ITS FALSE NEIGHBOUR: 'it returns false'. Refute it at one input. -/
def poolTellsWrong : ChangeSpec := { name := "poolTells", fn := fun _ => fun
  | [d1, d2, d3, d4] => { results := [.lit (.bool false)], args := [d1, d2, d3, d4] }
  | _ => none }
def PoolTellsWrongFalsely : Prop := poolTellsRow.holds Try.pinned (OpenSpec.ofChange poolTellsWrong)

/-- 'gangplanklaw08.PoolWith': WHATEVER THE INPUT: true; the input reads as it did. -/
def poolWithSpec : ChangeSpec := { name := "poolWith", fn := fun _ => fun
  | [d1, d2, d3] => { results := [.lit (.bool true)], args := [d1, d2, d3] }
  | _ => none }
def poolWithRow : OpenClaim := { program := "ytklngklmeanhcaa", sum := "d77d53dedfdcf58e686f03443da536542b9e5be7047c71654cfd42fc5b75fb62", func := "gangplank/gangplanklaw08.PoolWith", spec := "poolWith", unfollowed := true, recurses := true, apart := false }
def PoolWithSaid : Prop := poolWithRow.holds Try.pinned (OpenSpec.ofChange poolWithSpec)

/-- ITS FALSE NEIGHBOUR: 'it returns false'. Refute it at one input. -/
def poolWithWrong : ChangeSpec := { name := "poolWith", fn := fun _ => fun
  | [d1, d2, d3] => { results := [.lit (.bool false)], args := [d1, d2, d3] }
  | _ => none }
def PoolWithWrongFalsely : Prop := poolWithRow.holds Try.pinned (OpenSpec.ofChange poolWithWrong)

/-- 'gangplanklaw08.PoolWithout': WHATEVER THE INPUT: true; the input reads as it did. -/
def poolWithoutSpec : ChangeSpec := { name := "poolWithout", fn := fun _ => fun
  | [d1, d2, d3] => { results := [.lit (.bool true)], args := [d1, d2, d3] }
  | _ => none }
def poolWithoutRow : OpenClaim := { program := "ytklngklmeanhcaa", sum := "d77d53dedfdcf58e686f03443da536542b9e5be7047c71654cfd42fc5b75fb62", func := "gangplank/gangplanklaw08.PoolWithout", spec := "poolWithout", unfollowed := true, recurses := true, apart := false }
def PoolWithoutSaid : Prop := poolWithoutRow.holds Try.pinned (OpenSpec.ofChange poolWithoutSpec)

/-- ITS FALSE NEIGHBOUR: 'it returns false'. Refute it at one input. -/
def poolWithoutWrong : ChangeSpec := { name := "poolWithout", fn := fun _ => fun
  | [d1, d2, d3] => { results := [.lit (.bool false)], args := [d1, d2, d3] }
  | _ => none }
def PoolWithoutWrongFalsely : Prop := poolWithoutRow.holds Try.pinned (OpenSpec.ofChange poolWithoutWrong)

/-- 'gangplanklaw08.PoolSorted': WHATEVER THE INPUT: true; the input reads as it did. -/
def poolSortedSpec : ChangeSpec := { name := "poolSorted", fn := fun _ => fun
  | [d1, d2] => { results := [.lit (.bool true)], args := [d1, d2] }
  | _ => none }
def poolSortedRow : OpenClaim := { program := "ytklngklmeanhcaa", sum := "d77d53dedfdcf58e686f03443da536542b9e5be7047c71654cfd42fc5b75fb62", func := "gangplank/gangplanklaw08.PoolSorted", spec := "poolSorted", unfollowed := true, recurses := true, apart := false }
def PoolSortedSaid : Prop := poolSortedRow.holds Try.pinned (OpenSpec.ofChange poolSortedSpec)

/-- ITS FALSE NEIGHBOUR: 'it returns false'. Refute it at one input. -/
def poolSortedWrong : ChangeSpec := { name := "poolSorted", fn := fun _ => fun
  | [d1, d2] => { results := [.lit (.bool false)], args := [d1, d2] }
  | _ => none }
def PoolSortedWrongFalsely : Prop := poolSortedRow.holds Try.pinned (OpenSpec.ofChange poolSortedWrong)

/-- 'gangplanklaw08.PoolGone': WHATEVER THE INPUT: true; the input reads as it did. -/
def poolGoneSpec : ChangeSpec := { name := "poolGone", fn := fun _ => fun
  | [d1, d2, d3] => { results := [.lit (.bool true)], args := [d1, d2, d3] }
  | _ => none }
def poolGoneRow : OpenClaim := { program := "ytklngklmeanhcaa", sum := "d77d53dedfdcf58e686f03443da536542b9e5be7047c71654cfd42fc5b75fb62", func := "gangplank/gangplanklaw08.PoolGone", spec := "poolGone", unfollowed := true, recurses := true, apart := false }
def PoolGoneSaid : Prop := poolGoneRow.holds Try.pinned (OpenSpec.ofChange poolGoneSpec)

/-- ITS FALSE NEIGHBOUR: 'it returns false'. Refute it at one input. -/
def poolGoneWrong : ChangeSpec := { name := "poolGone", fn := fun _ => fun
  | [d1, d2, d3] => { results := [.lit (.bool false)], args := [d1, d2, d3] }
  | _ => none }
def PoolGoneWrongFalsely : Prop := poolGoneRow.holds Try.pinned (OpenSpec.ofChange poolGoneWrong)

/-- 'gangplanklaw08.PoolOut': WHATEVER THE INPUT: true; the input reads as it did. -/
def poolOutSpec : ChangeSpec := { name := "poolOut", fn := fun _ => fun
  | [d1, d2, d3] => { results := [.lit (.bool true)], args := [d1, d2, d3] }
  | _ => none }
def poolOutRow : OpenClaim := { program := "ytklngklmeanhcaa", sum := "d77d53dedfdcf58e686f03443da536542b9e5be7047c71654cfd42fc5b75fb62", func := "gangplank/gangplanklaw08.PoolOut", spec := "poolOut", unfollowed := true, recurses := true, apart := false }
def PoolOutSaid : Prop := poolOutRow.holds Try.pinned (OpenSpec.ofChange poolOutSpec)

/-- ITS FALSE NEIGHBOUR: 'it returns false'. Refute it at one input. -/
def poolOutWrong : ChangeSpec := { name := "poolOut", fn := fun _ => fun
  | [d1, d2, d3] => { results := [.lit (.bool false)], args := [d1, d2, d3] }
  | _ => none }
def PoolOutWrongFalsely : Prop := poolOutRow.holds Try.pinned (OpenSpec.ofChange poolOutWrong)

/- THE SECOND FORM. 'bulk': how many values and letters a reading holds, each counted each time it is reached (what is shared counts as often as it is met; a slice's spare places count too). A statement '..UptoSaid' is the law's where the arguments, and the package variables that the reading takes, are together of bulk at most 1048576: NARROWER than '..Said'. Prove '..Said' where nothing that the law and all that it calls make is longer than what came in: it says more and counts as full. Else prove '..UptoSaid'. A law counts once. -/
mutual
def uptoBulk {H : Type} : DataW H → Nat
  | .lit (.string bytes) => bytes.length + 1
  | .lit _ => 1
  | .nil => 1
  | .ptr d => uptoBulk d + 1
  | .slice elems spare => uptoBulkAll elems + uptoBulkAll spare + 1
  | .agg parts => uptoBulkAll parts + 1
  | .iface _ d => uptoBulk d + 1
  | .map entries => uptoBulkEntries entries + 1
  | .held _ => 1
def uptoBulkAll {H : Type} : List (DataW H) → Nat
  | [] => 0
  | d :: r => uptoBulk d + uptoBulkAll r
def uptoBulkEntries {H : Type} : List (Lit × DataW H) → Nat
  | [] => 0
  | x :: r => uptoBulkEntry x + uptoBulkEntries r
def uptoBulkEntry {H : Type} : Lit × DataW H → Nat
  | (.string bytes, d) => bytes.length + uptoBulk d + 1
  | (_, d) => uptoBulk d + 1
 end
def uptoSmall : (H : Type) → List (DataW H) → Bool := fun _ ds => decide (uptoBulkAll ds ≤ 1048576)
def OpenSpec.upto (s : _root_.Go.ChangeSpec) : _root_.Go.OpenSpec := { _root_.Go.OpenSpec.ofChange s with cond := some uptoSmall }

/-- 'gangplanklaw16.SlotsDo', WHERE WHAT IT READS IS OF BULK AT MOST 1048576: true; the input reads as it did. -/
def slotsDoUptoRow : OpenClaim := { program := "ytklngklmeanhcaa", sum := "d77d53dedfdcf58e686f03443da536542b9e5be7047c71654cfd42fc5b75fb62", func := "gangplank/gangplanklaw16.SlotsDo", spec := "slotsDo", unfollowed := true, recurses := true, apart := false, narrowed := true }
def SlotsDoUptoSaid : Prop := slotsDoUptoRow.holds Try.pinned (OpenSpec.upto slotsDoSpec)

/-- 'gangplanklaw16.SlotsHas', WHERE WHAT IT READS IS OF BULK AT MOST 1048576: true; the input reads as it did. -/
def slotsHasUptoRow : OpenClaim := { program := "ytklngklmeanhcaa", sum := "d77d53dedfdcf58e686f03443da536542b9e5be7047c71654cfd42fc5b75fb62", func := "gangplank/gangplanklaw16.SlotsHas", spec := "slotsHas", unfollowed := true, recurses := true, apart := false, narrowed := true }
def SlotsHasUptoSaid : Prop := slotsHasUptoRow.holds Try.pinned (OpenSpec.upto slotsHasSpec)

/-- 'gangplanklaw16.SlotsNone', WHERE WHAT IT READS IS OF BULK AT MOST 1048576: true; the input reads as it did. -/
def slotsNoneUptoRow : OpenClaim := { program := "ytklngklmeanhcaa", sum := "d77d53dedfdcf58e686f03443da536542b9e5be7047c71654cfd42fc5b75fb62", func := "gangplank/gangplanklaw16.SlotsNone", spec := "slotsNone", unfollowed := true, recurses := true, apart := false, narrowed := true }
def SlotsNoneUptoSaid : Prop := slotsNoneUptoRow.holds Try.pinned (OpenSpec.upto slotsNoneSpec)

/-- 'gangplanklaw16.SlotsReady', WHERE WHAT IT READS IS OF BULK AT MOST 1048576: true; the input reads as it did. -/
def slotsReadyUptoRow : OpenClaim := { program := "ytklngklmeanhcaa", sum := "d77d53dedfdcf58e686f03443da536542b9e5be7047c71654cfd42fc5b75fb62", func := "gangplank/gangplanklaw16.SlotsReady", spec := "slotsReady", unfollowed := true, recurses := true, apart := false, narrowed := true }
def SlotsReadyUptoSaid : Prop := slotsReadyUptoRow.holds Try.pinned (OpenSpec.upto slotsReadySpec)

/-- 'gangplanklaw16.SlotsAnew', WHERE WHAT IT READS IS OF BULK AT MOST 1048576: true; the input reads as it did. -/
def slotsAnewUptoRow : OpenClaim := { program := "ytklngklmeanhcaa", sum := "d77d53dedfdcf58e686f03443da536542b9e5be7047c71654cfd42fc5b75fb62", func := "gangplank/gangplanklaw16.SlotsAnew", spec := "slotsAnew", unfollowed := true, recurses := true, apart := false, narrowed := true }
def SlotsAnewUptoSaid : Prop := slotsAnewUptoRow.holds Try.pinned (OpenSpec.upto slotsAnewSpec)

/-- 'gangplanklaw08.PoolTells', WHERE WHAT IT READS IS OF BULK AT MOST 1048576: true; the input reads as it did. -/
def poolTellsUptoRow : OpenClaim := { program := "ytklngklmeanhcaa", sum := "d77d53dedfdcf58e686f03443da536542b9e5be7047c71654cfd42fc5b75fb62", func := "gangplank/gangplanklaw08.PoolTells", spec := "poolTells", unfollowed := true, recurses := true, apart := false, narrowed := true }
def PoolTellsUptoSaid : Prop := poolTellsUptoRow.holds Try.pinned (OpenSpec.upto poolTellsSpec)

/-- 'gangplanklaw08.PoolWith', WHERE WHAT IT READS IS OF BULK AT MOST 1048576: true; the input reads as it did. -/
def poolWithUptoRow : OpenClaim := { program := "ytklngklmeanhcaa", sum := "d77d53dedfdcf58e686f03443da536542b9e5be7047c71654cfd42fc5b75fb62", func := "gangplank/gangplanklaw08.PoolWith", spec := "poolWith", unfollowed := true, recurses := true, apart := false, narrowed := true }
def PoolWithUptoSaid : Prop := poolWithUptoRow.holds Try.pinned (OpenSpec.upto poolWithSpec)

/-- 'gangplanklaw08.PoolWithout', WHERE WHAT IT READS IS OF BULK AT MOST 1048576: true; the input reads as it did. -/
def poolWithoutUptoRow : OpenClaim := { program := "ytklngklmeanhcaa", sum := "d77d53dedfdcf58e686f03443da536542b9e5be7047c71654cfd42fc5b75fb62", func := "gangplank/gangplanklaw08.PoolWithout", spec := "poolWithout", unfollowed := true, recurses := true, apart := false, narrowed := true }
def PoolWithoutUptoSaid : Prop := poolWithoutUptoRow.holds Try.pinned (OpenSpec.upto poolWithoutSpec)

/-- 'gangplanklaw08.PoolSorted', WHERE WHAT IT READS IS OF BULK AT MOST 1048576: true; the input reads as it did. -/
def poolSortedUptoRow : OpenClaim := { program := "ytklngklmeanhcaa", sum := "d77d53dedfdcf58e686f03443da536542b9e5be7047c71654cfd42fc5b75fb62", func := "gangplank/gangplanklaw08.PoolSorted", spec := "poolSorted", unfollowed := true, recurses := true, apart := false, narrowed := true }
def PoolSortedUptoSaid : Prop := poolSortedUptoRow.holds Try.pinned (OpenSpec.upto poolSortedSpec)

/-- 'gangplanklaw08.PoolGone', WHERE WHAT IT READS IS OF BULK AT MOST 1048576: true; the input reads as it did. -/
def poolGoneUptoRow : OpenClaim := { program := "ytklngklmeanhcaa", sum := "d77d53dedfdcf58e686f03443da536542b9e5be7047c71654cfd42fc5b75fb62", func := "gangplank/gangplanklaw08.PoolGone", spec := "poolGone", unfollowed := true, recurses := true, apart := false, narrowed := true }
def PoolGoneUptoSaid : Prop := poolGoneUptoRow.holds Try.pinned (OpenSpec.upto poolGoneSpec)

/-- 'gangplanklaw08.PoolOut', WHERE WHAT IT READS IS OF BULK AT MOST 1048576: true; the input reads as it did. -/
def poolOutUptoRow : OpenClaim := { program := "ytklngklmeanhcaa", sum := "d77d53dedfdcf58e686f03443da536542b9e5be7047c71654cfd42fc5b75fb62", func := "gangplank/gangplanklaw08.PoolOut", spec := "poolOut", unfollowed := true, recurses := true, apart := false, narrowed := true }
def PoolOutUptoSaid : Prop := poolOutUptoRow.holds Try.pinned (OpenSpec.upto poolOutSpec)

end Rows
end Go.Proofs.Ytklngklmeanhcaa
