/- The statement SlotsReady: the walk itself shows it; what came in is of its kind. -/
import Derived.Test.YtklngklmeanhcaaPx5
import Derived.Test.YtklngklmeanhcaaHashLaw
namespace Go.Proofs.Ytklngklmeanhcaa.Pure
open Go.RowKit Go.Proofs.Ytklngklmeanhcaa.P Go.Proofs.YtklngklmeanhcaaW.PrintWords Go.Proofs.YtklngklmeanhcaaW.PrintLast Go.Proofs.Ytklngklmeanhcaa.Hand
theorem SlotsReady : gangplanklaw16_SlotsReady.Pure := by
  intro a0 l1 a2 l3 a4 _ _ hok _ _ hop _
  refine if_pos ⟨fun k hk => ?_, List.all_eq_true.2 fun x hx => (hop x hx).1⟩
  have hx : rd_T33 l1 (k : Int) ∈ l1 := by
    unfold rd_T33
    rw [Int.toNat_natCast, List.getD_eq_getElem?_getD, List.getElem?_eq_getElem hk]
    exact List.getElem_mem hk
  exact List.all_eq_true.2 fun x hx2 => ((hok _ hx).2.2.2 x hx2).1
end Go.Proofs.Ytklngklmeanhcaa.Pure
