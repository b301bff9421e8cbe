/- Each Go function that the laws reach, as a plain function, with the proof that the machine's call comes to what it says; of a law: its row. Made by a program of this seat (wip/hp.py, over the print). -/
import Derived.Test.YtbbgeobnjdgpfaaPx0
import Derived.Test.YtbbgeobnjdgpfaaPx7
namespace Go.Proofs.Ytbbgeobnjdgpfaa.P
open Go.RowKit Go.Proofs.YtbbgeobnjdgpfaaW.PrintWords Go.Proofs.YtbbgeobnjdgpfaaW.PrintLast Go.Proofs.YtbbgeobnjdgpfaaW.PrintMore
attribute [local go_sem] max2_int min2_int max_two min_two max_three min_three max_four min_four   -- for this text's walks alone
set_option linter.unusedVariables false
set_option linter.unusedSimpArgs false


/-- THE PURE STATEMENT of gangplanklaw18_WorldLive. -/
def gangplanklaw18_WorldLive.Pure : Prop := ∀ (a0_0 : Int) (a0_1 : Int) (a0_2 : Int) (a0_3 : Int) (a0_4 : Int) (l1 : List ByteArray) (l2 : List Int), ((Lit.int .i64 a0_0).wf = true) → ((Lit.int .i64 a0_1).wf = true) → ((Lit.int .i64 a0_2).wf = true) → ((Lit.int .i64 a0_3).wf = true) → ((Lit.int .i64 a0_4).wf = true) → (l1.length ≤ maxLen) → ((∀ x ∈ l1, x.size ≤ maxLen)) → (l2.length ≤ maxLen) → ((∀ x ∈ l2, (Lit.int .i64 x).wf = true)) → gangplanklaw18_WorldLive.f a0_0 a0_1 a0_2 a0_3 a0_4 l1 l2 = some true

end Go.Proofs.Ytbbgeobnjdgpfaa.P
