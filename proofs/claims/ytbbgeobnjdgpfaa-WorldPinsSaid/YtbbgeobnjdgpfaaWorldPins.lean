/- The statement WorldPins, over numbers: the walk has shown that the answer is true. -/
import Derived.Test.YtbbgeobnjdgpfaaPx4
namespace Go.Proofs.Ytbbgeobnjdgpfaa.Pure
open Go.RowKit Go.Proofs.Ytbbgeobnjdgpfaa.P
theorem WorldPins : gangplanklaw18_WorldPins.Pure := by
  unfold gangplanklaw18_WorldPins.Pure
  intros
  rfl
end Go.Proofs.Ytbbgeobnjdgpfaa.Pure
