/- The statement that whether a time is over is just what the document says, over numbers and lists. -/
import Derived.Test.YthdkkmeiihbafaaSweepBase
import Derived.Test.YthdkkmeiihbafaaPx10
set_option linter.unusedVariables false
set_option linter.unusedSimpArgs false
namespace Go.Proofs.Ythdkkmeiihbafaa.Pure
open Go.RowKit Go.Proofs.Ythdkkmeiihbafaa.P Go.Proofs.YthdkkmeiihbafaaW.PrintWords Go.Proofs.YthdkkmeiihbafaaW.PrintLast Go.Proofs.YthdkkmeiihbafaaW.PrintMore Go.Proofs.Ythdkkmeiihbafaa.Hand Go.Proofs.Ythdkkmeiihbafaa.ProbeLaw
theorem SweepDue : gangplanklaw13_SweepDue.Pure := by
  intro a b c d now later _ _ _ _ _ _
  refine ⟨302, ?_⟩
  unfold gangplanklaw13_SweepDue.f
  refine bind_of (works13 _ (by omega)) ?_
  rw [if_pos rfl]
  have e := due_some (⟨a, b, c, d⟩ : Ent) now
  have e2 := due_some (⟨a, b, c, d⟩ : Ent) later
  have r : gangplankref13_Due.f a b c d now = some (overB now (⟨a, b, c, d⟩ : Ent)) := by
    unfold gangplankref13_Due.f overB
    dsimp only
    split <;> rfl
  refine bind_of e (bind_of r ?_)
  rw [if_pos (by simp)]
  by_cases h : overB now (⟨a, b, c, d⟩ : Ent) = true
  · rw [if_pos h]
    by_cases c2 : later < now
    · rw [if_pos c2]
    · rw [if_neg c2]
      exact bind_of e2 (by rw [over_of (over_live h).1 (by have := (over_live h).2; omega)])
  · rw [if_neg h]
end Go.Proofs.Ythdkkmeiihbafaa.Pure
