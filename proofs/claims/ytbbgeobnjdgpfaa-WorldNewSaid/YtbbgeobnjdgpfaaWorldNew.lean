/- The statement WorldNew, over numbers: the walk has shown that the answer is true. -/
import Derived.Test.YtbbgeobnjdgpfaaPx4
namespace Go.Proofs.Ytbbgeobnjdgpfaa.Pure
open Go.RowKit Go.Proofs.Ytbbgeobnjdgpfaa.P
theorem WorldNew : gangplanklaw18_WorldNew.Pure := by
  unfold gangplanklaw18_WorldNew.Pure
  intros
  rfl
end Go.Proofs.Ytbbgeobnjdgpfaa.Pure
