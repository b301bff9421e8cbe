/-
  No cell of these rows narrows 'for every input' (looked for: loops, veiled, ifaces, maps, wideKeys, modest, calm, conditions, laid).
  DERIVED. THE GIVEN ROWS OF THIS SEAT. 13 by the template 'for every input the law returns true; each argument reads behind the call as it read before'; 0 by the template 'total and deterministic' (their statements: YtcekkbimdogboaaTotals.lean).
  GIVEN WITH THE SEED: the statements are not yours to turn. If you find one false, say at which input.
  Laid BY PROGRAM, IN A SANDBOX (cutbox-rows.mjs): the forced cells as the released guide's own fill.sh prints them over the translation d65981c10b807933… (all of the seat's roots in one cut). By AI agents, Wed Nov 11 2026. No macro, syntax, notation, axiom, sorry.
-/
import Derived.Test.YtcekkbimdogboaaChecked
import GoSem.Claim
import GoSem.ClaimJoined
import GoSem.ClaimMapViews
import Derived.JoinedTies
import Derived.KernelRfl
namespace Go.Proofs.Ytcekkbimdogboaa
/- THE CELL 'sum', in the pinned program and in every row, IS THE sha256 OF THE DUMP (.gsa) THAT YtcekkbimdogboaaProg.lean LOADS. Nothing in Lean hashes anything: it is a label: what it is worth is what the hold of that sum in a sandbox is worth. -/
noncomputable def Try.pinned : Pinned := { name := "ytcekkbimdogboaa", sum := "d65981c10b807933dc19b9e7491eb726ec58feead51231ac93c6a53a310e7111", checked := Try.checked }
namespace Rows
def none {H : Type} : Left H := { results := [], args := [] }

/-- 'gangplanklaw09.PointsOf': WHATEVER THE INPUT: true; the input reads as it did. -/
def pointsOfSpec : ChangeSpec := { name := "pointsOf", fn := fun _ => fun
  | [d] => { results := [.lit (.bool true)], args := [d] }
  | _ => none }
def pointsOfRow : OpenClaim := { program := "ytcekkbimdogboaa", sum := "d65981c10b807933dc19b9e7491eb726ec58feead51231ac93c6a53a310e7111", func := "gangplank/gangplanklaw09.PointsOf", spec := "pointsOf", unfollowed := true, recurses := true, apart := false }
def PointsOfSaid : Prop := pointsOfRow.holds Try.pinned (OpenSpec.ofChange pointsOfSpec)

/-- ITS FALSE NEIGHBOUR: 'it returns false'. Refute it at one input. -/
def pointsOfWrong : ChangeSpec := { name := "pointsOf", fn := fun _ => fun
  | [d] => { results := [.lit (.bool false)], args := [d] }
  | _ => none }
def PointsOfWrongFalsely : Prop := pointsOfRow.holds Try.pinned (OpenSpec.ofChange pointsOfWrong)

/-- 'gangplanklaw09.PointsTell': WHATEVER THE INPUT: true; the input reads as it did. -/
def pointsTellSpec : ChangeSpec := { name := "pointsTell", fn := fun _ => fun
  | [d1, d2, d3, d4, d5, d6] => { results := [.lit (.bool true)], args := [d1, d2, d3, d4, d5, d6] }
  | _ => none }
def pointsTellRow : OpenClaim := { program := "ytcekkbimdogboaa", sum := "d65981c10b807933dc19b9e7491eb726ec58feead51231ac93c6a53a310e7111", func := "gangplank/gangplanklaw09.PointsTell", spec := "pointsTell", unfollowed := true, recurses := true, apart := false }
def PointsTellSaid : Prop := pointsTellRow.holds Try.pinned (OpenSpec.ofChange pointsTellSpec)

/-- ITS FALSE NEIGHBOUR: 'it returns false'. Refute it at one input. -/
def pointsTellWrong : ChangeSpec := { name := "pointsTell", fn := fun _ => fun
  | [d1, d2, d3, d4, d5, d6] => { results := [.lit (.bool false)], args := [d1, d2, d3, d4, d5, d6] }
  | _ => none }
def PointsTellWrongFalsely : Prop := pointsTellRow.holds Try.pinned (OpenSpec.ofChange pointsTellWrong)

/-- 'gangplanklaw09.PointsOrder': WHATEVER THE INPUT: true; the input reads as it did. -/
def pointsOrderSpec : ChangeSpec := { name := "pointsOrder", fn := fun _ => fun
  | [d1, d2, d3] => { results := [.lit (.bool true)], args := [d1, d2, d3] }
  | _ => none }
def pointsOrderRow : OpenClaim := { program := "ytcekkbimdogboaa", sum := "d65981c10b807933dc19b9e7491eb726ec58feead51231ac93c6a53a310e7111", func := "gangplank/gangplanklaw09.PointsOrder", spec := "pointsOrder", unfollowed := true, recurses := true, apart := false }
def PointsOrderSaid : Prop := pointsOrderRow.holds Try.pinned (OpenSpec.ofChange pointsOrderSpec)

/-- ITS FALSE NEIGHBOUR: 'it returns false'. Refute it at one input. -/
def pointsOrderWrong : ChangeSpec := { name := "pointsOrder", fn := fun _ => fun
  | [d1, d2, d3] => { results := [.lit (.bool false)], args := [d1, d2, d3] }
  | _ => none }
def PointsOrderWrongFalsely : Prop := pointsOrderRow.holds Try.pinned (OpenSpec.ofChange pointsOrderWrong)

/-- 'gangplanklaw09.PointsEach': WHATEVER THE INPUT: true; the input reads as it did. -/
def pointsEachSpec : ChangeSpec := { name := "pointsEach", fn := fun _ => fun
  | [d1, d2, d3] => { results := [.lit (.bool true)], args := [d1, d2, d3] }
  | _ => none }
def pointsEachRow : OpenClaim := { program := "ytcekkbimdogboaa", sum := "d65981c10b807933dc19b9e7491eb726ec58feead51231ac93c6a53a310e7111", func := "gangplank/gangplanklaw09.PointsEach", spec := "pointsEach", unfollowed := true, recurses := true, apart := false }
def PointsEachSaid : Prop := pointsEachRow.holds Try.pinned (OpenSpec.ofChange pointsEachSpec)

/-- ITS FALSE NEIGHBOUR: 'it returns false'. Refute it at one input. -/
def pointsEachWrong : ChangeSpec := { name := "pointsEach", fn := fun _ => fun
  | [d1, d2, d3] => { results := [.lit (.bool false)], args := [d1, d2, d3] }
  | _ => none }
def PointsEachWrongFalsely : Prop := pointsEachRow.holds Try.pinned (OpenSpec.ofChange pointsEachWrong)

/-- 'gangplanklaw10.RingSucc': WHATEVER THE INPUT: true; the input reads as it did. -/
def ringSuccSpec : ChangeSpec := { name := "ringSucc", fn := fun _ => fun
  | [d1, d2] => { results := [.lit (.bool true)], args := [d1, d2] }
  | _ => none }
def ringSuccRow : OpenClaim := { program := "ytcekkbimdogboaa", sum := "d65981c10b807933dc19b9e7491eb726ec58feead51231ac93c6a53a310e7111", func := "gangplank/gangplanklaw10.RingSucc", spec := "ringSucc", unfollowed := true, recurses := true, apart := false }
def RingSuccSaid : Prop := ringSuccRow.holds Try.pinned (OpenSpec.ofChange ringSuccSpec)

/-- ITS FALSE NEIGHBOUR: 'it returns false'. Refute it at one input. -/
def ringSuccWrong : ChangeSpec := { name := "ringSucc", fn := fun _ => fun
  | [d1, d2] => { results := [.lit (.bool false)], args := [d1, d2] }
  | _ => none }
def RingSuccWrongFalsely : Prop := ringSuccRow.holds Try.pinned (OpenSpec.ofChange ringSuccWrong)

/-- 'gangplanklaw10.RingPicks': WHATEVER THE INPUT: true; the input reads as it did. -/
def ringPicksSpec : ChangeSpec := { name := "ringPicks", fn := fun _ => fun
  | [d1, d2, d3, d4] => { results := [.lit (.bool true)], args := [d1, d2, d3, d4] }
  | _ => none }
def ringPicksRow : OpenClaim := { program := "ytcekkbimdogboaa", sum := "d65981c10b807933dc19b9e7491eb726ec58feead51231ac93c6a53a310e7111", func := "gangplank/gangplanklaw10.RingPicks", spec := "ringPicks", unfollowed := true, recurses := true, apart := false }
def RingPicksSaid : Prop := ringPicksRow.holds Try.pinned (OpenSpec.ofChange ringPicksSpec)

/-- ITS FALSE NEIGHBOUR: 'it returns false'. Refute it at one input. -/
def ringPicksWrong : ChangeSpec := { name := "ringPicks", fn := fun _ => fun
  | [d1, d2, d3, d4] => { results := [.lit (.bool false)], args := [d1, d2, d3, d4] }
  | _ => none }
def RingPicksWrongFalsely : Prop := ringPicksRow.holds Try.pinned (OpenSpec.ofChange ringPicksWrong)

/-- 'gangplanklaw09.PointsWithout': WHATEVER THE INPUT: true; the input reads as it did. -/
def pointsWithoutSpec : ChangeSpec := { name := "pointsWithout", fn := fun _ => fun
  | [d1, d2] => { results := [.lit (.bool true)], args := [d1, d2] }
  | _ => none }
def pointsWithoutRow : OpenClaim := { program := "ytcekkbimdogboaa", sum := "d65981c10b807933dc19b9e7491eb726ec58feead51231ac93c6a53a310e7111", func := "gangplank/gangplanklaw09.PointsWithout", spec := "pointsWithout", unfollowed := true, recurses := true, apart := false }
def PointsWithoutSaid : Prop := pointsWithoutRow.holds Try.pinned (OpenSpec.ofChange pointsWithoutSpec)

/-- ITS FALSE NEIGHBOUR: 'it returns false'. Refute it at one input. -/
def pointsWithoutWrong : ChangeSpec := { name := "pointsWithout", fn := fun _ => fun
  | [d1, d2] => { results := [.lit (.bool false)], args := [d1, d2] }
  | _ => none }
def PointsWithoutWrongFalsely : Prop := pointsWithoutRow.holds Try.pinned (OpenSpec.ofChange pointsWithoutWrong)

/-- 'gangplanklaw09.PointsWith': WHATEVER THE INPUT: true; the input reads as it did. -/
def pointsWithSpec : ChangeSpec := { name := "pointsWith", fn := fun _ => fun
  | [d1, d2] => { results := [.lit (.bool true)], args := [d1, d2] }
  | _ => none }
def pointsWithRow : OpenClaim := { program := "ytcekkbimdogboaa", sum := "d65981c10b807933dc19b9e7491eb726ec58feead51231ac93c6a53a310e7111", func := "gangplank/gangplanklaw09.PointsWith", spec := "pointsWith", unfollowed := true, recurses := true, apart := false }
def PointsWithSaid : Prop := pointsWithRow.holds Try.pinned (OpenSpec.ofChange pointsWithSpec)

/-- ITS FALSE NEIGHBOUR: 'it returns false'. Refute it at one input. -/
def pointsWithWrong : ChangeSpec := { name := "pointsWith", fn := fun _ => fun
  | [d1, d2] => { results := [.lit (.bool false)], args := [d1, d2] }
  | _ => none }
def PointsWithWrongFalsely : Prop := pointsWithRow.holds Try.pinned (OpenSpec.ofChange pointsWithWrong)

/-- 'gangplanklaw10.RingArc': WHATEVER THE INPUT: true; the input reads as it did. -/
def ringArcSpec : ChangeSpec := { name := "ringArc", fn := fun _ => fun
  | [d1, d2, d3] => { results := [.lit (.bool true)], args := [d1, d2, d3] }
  | _ => none }
def ringArcRow : OpenClaim := { program := "ytcekkbimdogboaa", sum := "d65981c10b807933dc19b9e7491eb726ec58feead51231ac93c6a53a310e7111", func := "gangplank/gangplanklaw10.RingArc", spec := "ringArc", unfollowed := true, recurses := true, apart := false }
def RingArcSaid : Prop := ringArcRow.holds Try.pinned (OpenSpec.ofChange ringArcSpec)

/-- ITS FALSE NEIGHBOUR: 'it returns false'. Refute it at one input. -/
def ringArcWrong : ChangeSpec := { name := "ringArc", fn := fun _ => fun
  | [d1, d2, d3] => { results := [.lit (.bool false)], args := [d1, d2, d3] }
  | _ => none }
def RingArcWrongFalsely : Prop := ringArcRow.holds Try.pinned (OpenSpec.ofChange ringArcWrong)

/-- 'gangplanklaw10.RingWith': WHATEVER THE INPUT: true; the input reads as it did. -/
def ringWithSpec : ChangeSpec := { name := "ringWith", fn := fun _ => fun
  | [d1, d2, d3] => { results := [.lit (.bool true)], args := [d1, d2, d3] }
  | _ => none }
def ringWithRow : OpenClaim := { program := "ytcekkbimdogboaa", sum := "d65981c10b807933dc19b9e7491eb726ec58feead51231ac93c6a53a310e7111", func := "gangplank/gangplanklaw10.RingWith", spec := "ringWith", unfollowed := true, recurses := true, apart := false }
def RingWithSaid : Prop := ringWithRow.holds Try.pinned (OpenSpec.ofChange ringWithSpec)

/-- ITS FALSE NEIGHBOUR: 'it returns false'. Refute it at one input. -/
def ringWithWrong : ChangeSpec := { name := "ringWith", fn := fun _ => fun
  | [d1, d2, d3] => { results := [.lit (.bool false)], args := [d1, d2, d3] }
  | _ => none }
def RingWithWrongFalsely : Prop := ringWithRow.holds Try.pinned (OpenSpec.ofChange ringWithWrong)

/-- 'gangplanklaw10.RingMoved': WHATEVER THE INPUT: true; the input reads as it did. -/
def ringMovedSpec : ChangeSpec := { name := "ringMoved", fn := fun _ => fun
  | [d1, d2, d3, d4] => { results := [.lit (.bool true)], args := [d1, d2, d3, d4] }
  | _ => none }
def ringMovedRow : OpenClaim := { program := "ytcekkbimdogboaa", sum := "d65981c10b807933dc19b9e7491eb726ec58feead51231ac93c6a53a310e7111", func := "gangplank/gangplanklaw10.RingMoved", spec := "ringMoved", unfollowed := true, recurses := true, apart := false }
def RingMovedSaid : Prop := ringMovedRow.holds Try.pinned (OpenSpec.ofChange ringMovedSpec)

/-- ITS FALSE NEIGHBOUR: 'it returns false'. Refute it at one input. -/
def ringMovedWrong : ChangeSpec := { name := "ringMoved", fn := fun _ => fun
  | [d1, d2, d3, d4] => { results := [.lit (.bool false)], args := [d1, d2, d3, d4] }
  | _ => none }
def RingMovedWrongFalsely : Prop := ringMovedRow.holds Try.pinned (OpenSpec.ofChange ringMovedWrong)

/-- 'gangplanklaw09.PointsSorted': WHATEVER THE INPUT: true; the input reads as it did. -/
def pointsSortedSpec : ChangeSpec := { name := "pointsSorted", fn := fun _ => fun
  | [d] => { results := [.lit (.bool true)], args := [d] }
  | _ => none }
def pointsSortedRow : OpenClaim := { program := "ytcekkbimdogboaa", sum := "d65981c10b807933dc19b9e7491eb726ec58feead51231ac93c6a53a310e7111", func := "gangplank/gangplanklaw09.PointsSorted", spec := "pointsSorted", unfollowed := true, recurses := true, apart := false }
def PointsSortedSaid : Prop := pointsSortedRow.holds Try.pinned (OpenSpec.ofChange pointsSortedSpec)

/-- ITS FALSE NEIGHBOUR: 'it returns false'. Refute it at one input. -/
def pointsSortedWrong : ChangeSpec := { name := "pointsSorted", fn := fun _ => fun
  | [d] => { results := [.lit (.bool false)], args := [d] }
  | _ => none }
def PointsSortedWrongFalsely : Prop := pointsSortedRow.holds Try.pinned (OpenSpec.ofChange pointsSortedWrong)

/-- 'gangplanklaw10.RingOne': WHATEVER THE INPUT: true; the input reads as it did. -/
def ringOneSpec : ChangeSpec := { name := "ringOne", fn := fun _ => fun
  | [d1, d2, d3] => { results := [.lit (.bool true)], args := [d1, d2, d3] }
  | _ => none }
def ringOneRow : OpenClaim := { program := "ytcekkbimdogboaa", sum := "d65981c10b807933dc19b9e7491eb726ec58feead51231ac93c6a53a310e7111", func := "gangplank/gangplanklaw10.RingOne", spec := "ringOne", unfollowed := true, recurses := true, apart := false }
def RingOneSaid : Prop := ringOneRow.holds Try.pinned (OpenSpec.ofChange ringOneSpec)

/-- ITS FALSE NEIGHBOUR: 'it returns false'. Refute it at one input. -/
def ringOneWrong : ChangeSpec := { name := "ringOne", fn := fun _ => fun
  | [d1, d2, d3] => { results := [.lit (.bool false)], args := [d1, d2, d3] }
  | _ => none }
def RingOneWrongFalsely : Prop := ringOneRow.holds Try.pinned (OpenSpec.ofChange ringOneWrong)

/- THE SECOND FORM. 'bulk': how many values and letters a reading holds, each counted each time it is reached (what is shared counts as often as it is met; a slice's spare places count too). A statement '..UptoSaid' is the law's where the arguments, and the package variables that the reading takes, are together of bulk at most 1048576: NARROWER than '..Said'. Prove '..Said' where nothing that the law and all that it calls make is longer than what came in: it says more and counts as full. Else prove '..UptoSaid'. A law counts once. -/
mutual
def uptoBulk {H : Type} : DataW H → Nat
  | .lit (.string bytes) => bytes.length + 1
  | .lit _ => 1
  | .nil => 1
  | .ptr d => uptoBulk d + 1
  | .slice elems spare => uptoBulkAll elems + uptoBulkAll spare + 1
  | .agg parts => uptoBulkAll parts + 1
  | .iface _ d => uptoBulk d + 1
  | .map entries => uptoBulkEntries entries + 1
  | .held _ => 1
def uptoBulkAll {H : Type} : List (DataW H) → Nat
  | [] => 0
  | d :: r => uptoBulk d + uptoBulkAll r
def uptoBulkEntries {H : Type} : List (Lit × DataW H) → Nat
  | [] => 0
  | x :: r => uptoBulkEntry x + uptoBulkEntries r
def uptoBulkEntry {H : Type} : Lit × DataW H → Nat
  | (.string bytes, d) => bytes.length + uptoBulk d + 1
  | (_, d) => uptoBulk d + 1
 end
def uptoSmall : (H : Type) → List (DataW H) → Bool := fun _ ds => decide (uptoBulkAll ds ≤ 1048576)
def OpenSpec.upto (s : _root_.Go.ChangeSpec) : _root_.Go.OpenSpec := { _root_.Go.OpenSpec.ofChange s with cond := some uptoSmall }

/-- 'gangplanklaw09.PointsOf', WHERE WHAT IT READS IS OF BULK AT MOST 1048576: true; the input reads as it did. -/
def pointsOfUptoRow : OpenClaim := { program := "ytcekkbimdogboaa", sum := "d65981c10b807933dc19b9e7491eb726ec58feead51231ac93c6a53a310e7111", func := "gangplank/gangplanklaw09.PointsOf", spec := "pointsOf", unfollowed := true, recurses := true, apart := false, narrowed := true }
def PointsOfUptoSaid : Prop := pointsOfUptoRow.holds Try.pinned (OpenSpec.upto pointsOfSpec)

/-- 'gangplanklaw09.PointsTell', WHERE WHAT IT READS IS OF BULK AT MOST 1048576: true; the input reads as it did. -/
def pointsTellUptoRow : OpenClaim := { program := "ytcekkbimdogboaa", sum := "d65981c10b807933dc19b9e7491eb726ec58feead51231ac93c6a53a310e7111", func := "gangplank/gangplanklaw09.PointsTell", spec := "pointsTell", unfollowed := true, recurses := true, apart := false, narrowed := true }
def PointsTellUptoSaid : Prop := pointsTellUptoRow.holds Try.pinned (OpenSpec.upto pointsTellSpec)

/-- 'gangplanklaw09.PointsOrder', WHERE WHAT IT READS IS OF BULK AT MOST 1048576: true; the input reads as it did. -/
def pointsOrderUptoRow : OpenClaim := { program := "ytcekkbimdogboaa", sum := "d65981c10b807933dc19b9e7491eb726ec58feead51231ac93c6a53a310e7111", func := "gangplank/gangplanklaw09.PointsOrder", spec := "pointsOrder", unfollowed := true, recurses := true, apart := false, narrowed := true }
def PointsOrderUptoSaid : Prop := pointsOrderUptoRow.holds Try.pinned (OpenSpec.upto pointsOrderSpec)

/-- 'gangplanklaw09.PointsEach', WHERE WHAT IT READS IS OF BULK AT MOST 1048576: true; the input reads as it did. -/
def pointsEachUptoRow : OpenClaim := { program := "ytcekkbimdogboaa", sum := "d65981c10b807933dc19b9e7491eb726ec58feead51231ac93c6a53a310e7111", func := "gangplank/gangplanklaw09.PointsEach", spec := "pointsEach", unfollowed := true, recurses := true, apart := false, narrowed := true }
def PointsEachUptoSaid : Prop := pointsEachUptoRow.holds Try.pinned (OpenSpec.upto pointsEachSpec)

/-- 'gangplanklaw10.RingSucc', WHERE WHAT IT READS IS OF BULK AT MOST 1048576: true; the input reads as it did. -/
def ringSuccUptoRow : OpenClaim := { program := "ytcekkbimdogboaa", sum := "d65981c10b807933dc19b9e7491eb726ec58feead51231ac93c6a53a310e7111", func := "gangplank/gangplanklaw10.RingSucc", spec := "ringSucc", unfollowed := true, recurses := true, apart := false, narrowed := true }
def RingSuccUptoSaid : Prop := ringSuccUptoRow.holds Try.pinned (OpenSpec.upto ringSuccSpec)

/-- 'gangplanklaw10.RingPicks', WHERE WHAT IT READS IS OF BULK AT MOST 1048576: true; the input reads as it did. -/
def ringPicksUptoRow : OpenClaim := { program := "ytcekkbimdogboaa", sum := "d65981c10b807933dc19b9e7491eb726ec58feead51231ac93c6a53a310e7111", func := "gangplank/gangplanklaw10.RingPicks", spec := "ringPicks", unfollowed := true, recurses := true, apart := false, narrowed := true }
def RingPicksUptoSaid : Prop := ringPicksUptoRow.holds Try.pinned (OpenSpec.upto ringPicksSpec)

/-- 'gangplanklaw09.PointsWithout', WHERE WHAT IT READS IS OF BULK AT MOST 1048576: true; the input reads as it did. -/
def pointsWithoutUptoRow : OpenClaim := { program := "ytcekkbimdogboaa", sum := "d65981c10b807933dc19b9e7491eb726ec58feead51231ac93c6a53a310e7111", func := "gangplank/gangplanklaw09.PointsWithout", spec := "pointsWithout", unfollowed := true, recurses := true, apart := false, narrowed := true }
def PointsWithoutUptoSaid : Prop := pointsWithoutUptoRow.holds Try.pinned (OpenSpec.upto pointsWithoutSpec)

/-- 'gangplanklaw09.PointsWith', WHERE WHAT IT READS IS OF BULK AT MOST 1048576: true; the input reads as it did. -/
def pointsWithUptoRow : OpenClaim := { program := "ytcekkbimdogboaa", sum := "d65981c10b807933dc19b9e7491eb726ec58feead51231ac93c6a53a310e7111", func := "gangplank/gangplanklaw09.PointsWith", spec := "pointsWith", unfollowed := true, recurses := true, apart := false, narrowed := true }
def PointsWithUptoSaid : Prop := pointsWithUptoRow.holds Try.pinned (OpenSpec.upto pointsWithSpec)

/-- 'gangplanklaw10.RingArc', WHERE WHAT IT READS IS OF BULK AT MOST 1048576: true; the input reads as it did. -/
def ringArcUptoRow : OpenClaim := { program := "ytcekkbimdogboaa", sum := "d65981c10b807933dc19b9e7491eb726ec58feead51231ac93c6a53a310e7111", func := "gangplank/gangplanklaw10.RingArc", spec := "ringArc", unfollowed := true, recurses := true, apart := false, narrowed := true }
def RingArcUptoSaid : Prop := ringArcUptoRow.holds Try.pinned (OpenSpec.upto ringArcSpec)

/-- 'gangplanklaw10.RingWith', WHERE WHAT IT READS IS OF BULK AT MOST 1048576: true; the input reads as it did. -/
def ringWithUptoRow : OpenClaim := { program := "ytcekkbimdogboaa", sum := "d65981c10b807933dc19b9e7491eb726ec58feead51231ac93c6a53a310e7111", func := "gangplank/gangplanklaw10.RingWith", spec := "ringWith", unfollowed := true, recurses := true, apart := false, narrowed := true }
def RingWithUptoSaid : Prop := ringWithUptoRow.holds Try.pinned (OpenSpec.upto ringWithSpec)

/-- 'gangplanklaw10.RingMoved', WHERE WHAT IT READS IS OF BULK AT MOST 1048576: true; the input reads as it did. -/
def ringMovedUptoRow : OpenClaim := { program := "ytcekkbimdogboaa", sum := "d65981c10b807933dc19b9e7491eb726ec58feead51231ac93c6a53a310e7111", func := "gangplank/gangplanklaw10.RingMoved", spec := "ringMoved", unfollowed := true, recurses := true, apart := false, narrowed := true }
def RingMovedUptoSaid : Prop := ringMovedUptoRow.holds Try.pinned (OpenSpec.upto ringMovedSpec)

/-- 'gangplanklaw09.PointsSorted', WHERE WHAT IT READS IS OF BULK AT MOST 1048576: true; the input reads as it did. -/
def pointsSortedUptoRow : OpenClaim := { program := "ytcekkbimdogboaa", sum := "d65981c10b807933dc19b9e7491eb726ec58feead51231ac93c6a53a310e7111", func := "gangplank/gangplanklaw09.PointsSorted", spec := "pointsSorted", unfollowed := true, recurses := true, apart := false, narrowed := true }
def PointsSortedUptoSaid : Prop := pointsSortedUptoRow.holds Try.pinned (OpenSpec.upto pointsSortedSpec)

/-- 'gangplanklaw10.RingOne', WHERE WHAT IT READS IS OF BULK AT MOST 1048576: true; the input reads as it did. -/
def ringOneUptoRow : OpenClaim := { program := "ytcekkbimdogboaa", sum := "d65981c10b807933dc19b9e7491eb726ec58feead51231ac93c6a53a310e7111", func := "gangplank/gangplanklaw10.RingOne", spec := "ringOne", unfollowed := true, recurses := true, apart := false, narrowed := true }
def RingOneUptoSaid : Prop := ringOneUptoRow.holds Try.pinned (OpenSpec.upto ringOneSpec)

end Rows
end Go.Proofs.Ytcekkbimdogboaa
