/- The statement WorldTicks, over numbers and lists: the walk has shown that the answer is true. -/
import Derived.Test.YtbbgeobnjdgpfaaPx5
namespace Go.Proofs.Ytbbgeobnjdgpfaa.Pure
open Go.RowKit Go.Proofs.Ytbbgeobnjdgpfaa.P
theorem WorldTicks : gangplanklaw18_WorldTicks.Pure := by
  unfold gangplanklaw18_WorldTicks.Pure
  intros
  rfl
end Go.Proofs.Ytbbgeobnjdgpfaa.Pure
