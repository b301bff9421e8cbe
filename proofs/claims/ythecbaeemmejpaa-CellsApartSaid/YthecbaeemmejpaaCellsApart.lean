/- The statement CellsApart, over numbers and lists: the walk has shown that the answer is true. -/
import Derived.Test.YthecbaeemmejpaaPx3
namespace Go.Proofs.Ythecbaeemmejpaa.Pure
open Go.RowKit Go.Proofs.Ythecbaeemmejpaa.P
theorem CellsApart : gangplanklaw14_CellsApart.Pure := by
  unfold gangplanklaw14_CellsApart.Pure
  intros
  rfl
end Go.Proofs.Ythecbaeemmejpaa.Pure
