/- The statement PointsOf, over lists: a pool's points are the reference's. -/
import Derived.Test.YtcekkbimdogboaaPx8
import Derived.Test.YtcekkbimdogboaaPointsLaw
set_option linter.unusedVariables false
set_option linter.unusedSimpArgs false
namespace Go.Proofs.Ytcekkbimdogboaa.Pure
open Go.RowKit Go.Proofs.Ytcekkbimdogboaa.P Go.Proofs.YtcekkbimdogboaaW.PrintWords Go.Proofs.YtcekkbimdogboaaW.PrintLast Go.Proofs.Ytcekkbimdogboaa.Hand Go.Proofs.Ytcekkbimdogboaa.PointsLaw
theorem PointsOf : gangplanklaw09_PointsOf.Pure := by
  intro l _ _
  by_cases c : (l.length : Int) > 8
  · refine ⟨60, ?_⟩
    unfold gangplanklaw09_PointsOf.f
    rw [works 60 (by omega), Option.bind_some, if_pos rfl, if_pos c]
  · obtain ⟨K, hK⟩ := ref_of l (by omega)
    have hK' : ∀ k, K ≤ k → gangplankref09_Of.f k l = some (ofL l) := hK
    refine ⟨K + (ofL l).length + 60, ?_⟩
    have hb : (ofL l).length ≤ 128 * l.length := by rw [ofL_length]; exact ptsT_len l
    unfold gangplanklaw09_PointsOf.f
    rw [works _ (by omega), Option.bind_some, if_pos rfl, if_neg c, of_some l (by omega), Option.bind_some, hK' _ (by omega), Option.bind_some, refsame _ _ (by omega) _ (by omega), Option.bind_some, (sameP_iff _ _).2 rfl]
end Go.Proofs.Ytcekkbimdogboaa.Pure
