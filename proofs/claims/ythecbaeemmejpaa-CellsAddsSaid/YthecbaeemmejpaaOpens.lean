/- Each Go function that the laws reach, as a plain function, with the proof that the machine's call comes to what it says; of a law: its row. Made by a program of this seat (wip/hp.py, over the print). -/
import Derived.Test.YthecbaeemmejpaaOpen
import Derived.Test.YthecbaeemmejpaaPx0

import Derived.KernelRfl
set_option linter.unusedVariables false
set_option linter.unusedSimpArgs false
namespace Go.Proofs.Ythecbaeemmejpaa.Open
open Go.RowKit Go.ChangeShapes Go.WideShapes Go.Deep Go.Proofs.YthecbaeemmejpaaW.PrintWords Go.Proofs.Ythecbaeemmejpaa.P
end Go.Proofs.Ythecbaeemmejpaa.Open
