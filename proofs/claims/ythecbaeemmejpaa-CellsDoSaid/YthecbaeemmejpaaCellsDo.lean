/- The statement CellsDo, over numbers and lists: the walk has shown that the answer is true. -/
import Derived.Test.YthecbaeemmejpaaPx5
namespace Go.Proofs.Ythecbaeemmejpaa.Pure
open Go.RowKit Go.Proofs.Ythecbaeemmejpaa.P
theorem CellsDo : gangplanklaw14_CellsDo.Pure := by
  unfold gangplanklaw14_CellsDo.Pure
  intros
  rfl
end Go.Proofs.Ythecbaeemmejpaa.Pure
