/- The statement PointsTell, over numbers and lists: hashes, the order and likeness are the reference's. -/
import Derived.Test.YtcekkbimdogboaaPx9
import Derived.Test.YtcekkbimdogboaaPointsLaw
set_option linter.unusedVariables false
set_option linter.unusedSimpArgs false
namespace Go.Proofs.Ytcekkbimdogboaa.Pure
open Go.RowKit Go.Proofs.Ytcekkbimdogboaa.P Go.Proofs.YtcekkbimdogboaaW.PrintWords Go.Proofs.YtcekkbimdogboaaW.PrintLast Go.Proofs.Ytcekkbimdogboaa.Hand Go.Proofs.Ytcekkbimdogboaa.PointsLaw
theorem tell_rest (x0 x1 : Int) (l m : List Pt) (a b : Pt) (x25 : Bool) (hl : x25 = false → l.length ≤ 200 ∧ m.length ≤ 200) (k : Nat) (hk : 300 ≤ k) :
    gangplanklaw09_PointsTell.j0 (k + 1) x0 x1 l m true x25 a.f0 a.f1 b.f0 b.f1 = some true := by
  simp only [gangplanklaw09_PointsTell.j0]
  cases x25 with
  | true => rfl
  | false =>
    obtain ⟨h1, h2⟩ := hl rfl
    rw [if_neg (by decide), refsame _ _ (by omega) k (by omega), Option.bind_some, if_pos trivial, hashV_eq, Option.bind_some, refhash _ _ k (by omega), Option.bind_some, if_pos rfl, less a b k (by omega), Option.bind_some, lessP_eq, Option.bind_some, beq_self_eq_true, if_pos rfl, same _ _ (by omega) k (by omega), Option.bind_some, beq_self_eq_true]
theorem PointsTell : gangplanklaw09_PointsTell.Pure := by
  intro x0 x1 a0 a1 b0 b1 l m _ _ _ _ _ _ _ _ _ _
  refine ⟨301, ?_⟩
  unfold gangplanklaw09_PointsTell.f
  rw [works _ (by omega), Option.bind_some, if_pos rfl]
  by_cases c : (l.length : Int) > 200
  · rw [if_pos c]
    exact tell_rest x0 x1 l m ⟨a0, a1⟩ ⟨b0, b1⟩ true (fun h => by cases h) 300 (by omega)
  · rw [if_neg c]
    exact tell_rest x0 x1 l m ⟨a0, a1⟩ ⟨b0, b1⟩ _ (fun h => by simp at h; omega) 300 (by omega)
end Go.Proofs.Ytcekkbimdogboaa.Pure
