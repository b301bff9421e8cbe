/- The statement SlotsNone: the walk itself shows it; what came in is of its kind. -/
import Derived.Test.YtklngklmeanhcaaPx5
import Derived.Test.YtklngklmeanhcaaHashLaw
namespace Go.Proofs.Ytklngklmeanhcaa.Pure
open Go.RowKit Go.Proofs.Ytklngklmeanhcaa.P Go.Proofs.YtklngklmeanhcaaW.PrintWords Go.Proofs.YtklngklmeanhcaaW.PrintLast Go.Proofs.Ytklngklmeanhcaa.Hand
theorem SlotsNone : gangplanklaw16_SlotsNone.Pure := by
  intro _ _ _ _ p _ _ _ _ _ hok
  exact if_pos (.inr (List.all_eq_true.2 fun x hx => (hok x hx).1))
end Go.Proofs.Ytklngklmeanhcaa.Pure
