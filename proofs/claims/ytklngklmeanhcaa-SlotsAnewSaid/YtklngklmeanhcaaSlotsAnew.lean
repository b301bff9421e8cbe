/- The statement SlotsAnew: the walk itself shows it; what came in is of its kind. -/
import Derived.Test.YtklngklmeanhcaaPx5
import Derived.Test.YtklngklmeanhcaaHashLaw
namespace Go.Proofs.Ytklngklmeanhcaa.Pure
open Go.RowKit Go.Proofs.Ytklngklmeanhcaa.P Go.Proofs.YtklngklmeanhcaaW.PrintWords Go.Proofs.YtklngklmeanhcaaW.PrintLast Go.Proofs.Ytklngklmeanhcaa.Hand
theorem SlotsAnew : gangplanklaw16_SlotsAnew.Pure := by
  intro p q _ _ _ _ hok _ hoq _ _
  exact if_pos ⟨List.all_eq_true.2 fun x hx => (hok x hx).1, List.all_eq_true.2 fun x hx => (hoq x hx).1⟩
end Go.Proofs.Ytklngklmeanhcaa.Pure
