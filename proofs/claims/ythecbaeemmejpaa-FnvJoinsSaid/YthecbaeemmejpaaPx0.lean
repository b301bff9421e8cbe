/- Each Go function that the laws reach, as a plain function, with the proof that the machine's call comes to what it says; of a law: its row. Made by a program of this seat (wip/hp.py, over the print). -/
import Derived.Test.YthecbaeemmejpaaProg
import Derived.Below
import Derived.Deep.Draws
import Derived.Deep.AppendLies
import Derived.Maps.AppendAt
import Derived.OwnWalk
import Derived.Laws.BytesArg
import Derived.Laws.MakeOwn
import Derived.Laws.OwnMore
import Derived.Deep.OwnRows
import Derived.Tactics
import Derived.Lib.ConvBytes
import Derived.Laws.Slices
import Derived.WalkKit
import Derived.KernelRfl
import Derived.RowKit3
import Derived.Deep.LoopGhost
import Derived.Deep.QuietTactic
import Derived.BigQuiet
import Derived.WideLaws
import Derived.Deep.DeepCutAuto
import Derived.Deep.CutBlock
import Derived.Deep.RegionHeld3
import Derived.Laws.Rows
import Derived.Lib.AppendStr
import Derived.ArgAppend
import Derived.Laws.IdiomCopy
import Derived.OrdersHeld
import Derived.Laws.BitsLemmas
import Derived.RowKit
import Derived.Test.YthecbaeemmejpaaJoin
import Derived.Test.YthecbaeemmejpaaWWords
import Derived.Test.YthecbaeemmejpaaWLast
import Derived.Test.YthecbaeemmejpaaWTab
import Derived.Test.YthecbaeemmejpaaWFour
import Derived.Test.YthecbaeemmejpaaWQPut
import Derived.Test.YthecbaeemmejpaaWApart
import Derived.Test.YthecbaeemmejpaaWArr
import Derived.Test.YthecbaeemmejpaaWZeros
import Derived.Test.YthecbaeemmejpaaWFoot
import Derived.Test.YthecbaeemmejpaaWKept
import Derived.Test.YthecbaeemmejpaaWShare
import Derived.Test.YthecbaeemmejpaaWN
import Derived.Test.YthecbaeemmejpaaWFootNe
import Derived.Test.YthecbaeemmejpaaWAt
import Derived.Test.YthecbaeemmejpaaWEqStruct
import Derived.Test.YthecbaeemmejpaaWRepsOne
import Derived.Test.YthecbaeemmejpaaWInv
import Derived.Test.YthecbaeemmejpaaWInvWords
import Derived.Test.YthecbaeemmejpaaWGuard
import Derived.Test.YthecbaeemmejpaaWNEv
import Derived.Test.YthecbaeemmejpaaWMore
namespace Go.Proofs.Ythecbaeemmejpaa.P
open Go.RowKit Go.Proofs.YthecbaeemmejpaaW.PrintWords Go.Proofs.YthecbaeemmejpaaW.PrintLast Go.Proofs.YthecbaeemmejpaaW.PrintMore
attribute [local go_sem] max2_int min2_int max_two min_two max_three min_three max_four min_four   -- for this text's walks alone
set_option linter.unusedVariables false
set_option linter.unusedSimpArgs false



def errW : Option Int → Value
  | none => .nilIface
  | some c => .iface 0 (.int .i64 c)
theorem errW_none : errW none = .nilIface := rfl
theorem errW_some (c : Int) : errW (some c) = .iface 0 (.int .i64 c) := rfl

-- the values' own types

end Go.Proofs.Ythecbaeemmejpaa.P
