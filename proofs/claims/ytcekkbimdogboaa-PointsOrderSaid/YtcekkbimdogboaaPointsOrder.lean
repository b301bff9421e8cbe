/- The statement PointsOrder, over numbers: points stand in one order. -/
import Derived.Test.YtcekkbimdogboaaPx10
import Derived.Test.YtcekkbimdogboaaPointsLaw
set_option linter.unusedVariables false
set_option linter.unusedSimpArgs false
namespace Go.Proofs.Ytcekkbimdogboaa.Pure
open Go.RowKit Go.Proofs.Ytcekkbimdogboaa.P Go.Proofs.YtcekkbimdogboaaW.PrintWords Go.Proofs.YtcekkbimdogboaaW.PrintLast Go.Proofs.Ytcekkbimdogboaa.Hand Go.Proofs.Ytcekkbimdogboaa.PointsLaw
theorem PointsOrder : gangplanklaw09_PointsOrder.Pure := by
  intro a0 a1 b0 b1 c0 c1 _ _ _ _ _ _
  refine ⟨60, ?_⟩
  unfold gangplanklaw09_PointsOrder.f
  rw [works _ (by omega), Option.bind_some, if_pos rfl, less ⟨a0, a1⟩ ⟨b0, b1⟩ 60 (by omega), Option.bind_some, less ⟨b0, b1⟩ ⟨a0, a1⟩ 60 (by omega), Option.bind_some, less ⟨b0, b1⟩ ⟨c0, c1⟩ 60 (by omega), Option.bind_some, less ⟨a0, a1⟩ ⟨c0, c1⟩ 60 (by omega), Option.bind_some]
  have e : (a0 == b0 && (a1 == b1)) = eqP ⟨a0, a1⟩ ⟨b0, b1⟩ := rfl
  rw [e]
  have hab := lessP_iff ⟨a0, a1⟩ ⟨b0, b1⟩
  have hba := lessP_iff ⟨b0, b1⟩ ⟨a0, a1⟩
  have hbc := lessP_iff ⟨b0, b1⟩ ⟨c0, c1⟩
  have hac := lessP_iff ⟨a0, a1⟩ ⟨c0, c1⟩
  have he := eqP_iff ⟨a0, a1⟩ ⟨b0, b1⟩
  rw [show ((⟨a0, a1⟩ : Pt) = ⟨b0, b1⟩) ↔ (a0 = b0 ∧ a1 = b1) from by simp] at he
  simp only at hab hba hbc hac
  revert hab hba hbc hac he
  cases lessP ⟨a0, a1⟩ ⟨b0, b1⟩ <;> cases lessP ⟨b0, b1⟩ ⟨a0, a1⟩ <;> cases lessP ⟨b0, b1⟩ ⟨c0, c1⟩ <;> cases lessP ⟨a0, a1⟩ ⟨c0, c1⟩ <;> cases eqP ⟨a0, a1⟩ ⟨b0, b1⟩ <;> simp <;> omega
end Go.Proofs.Ytcekkbimdogboaa.Pure
