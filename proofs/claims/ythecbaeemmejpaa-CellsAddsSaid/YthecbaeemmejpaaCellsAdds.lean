/- The statement CellsAdds, over numbers and lists: the walk has shown that the answer is true. -/
import Derived.Test.YthecbaeemmejpaaPx2
namespace Go.Proofs.Ythecbaeemmejpaa.Pure
open Go.RowKit Go.Proofs.Ythecbaeemmejpaa.P
theorem CellsAdds : gangplanklaw14_CellsAdds.Pure := by
  unfold gangplanklaw14_CellsAdds.Pure
  intros
  rfl
end Go.Proofs.Ythecbaeemmejpaa.Pure
