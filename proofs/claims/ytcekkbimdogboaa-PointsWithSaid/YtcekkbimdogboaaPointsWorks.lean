/- The document's example of points: it holds. -/
import Derived.Test.YtcekkbimdogboaaPx5
import Derived.Test.YtcekkbimdogboaaPointsBase
set_option linter.unusedVariables false
set_option linter.unusedSimpArgs false
namespace Go.Proofs.Ytcekkbimdogboaa.PointsLaw
open Go.RowKit Go.Proofs.Ytcekkbimdogboaa.P Go.Proofs.YtcekkbimdogboaaW.PrintWords Go.Proofs.YtcekkbimdogboaaW.PrintLast Go.Proofs.Ytcekkbimdogboaa.Hand

theorem works_loop (l : List Pt) (h7 : ∀ x ∈ l, x.f1 = 7) (hr : ∀ (i : Nat) (h : i < l.length), 0 < i → lessP l[i] l[i - 1] = false) (hl : l.length = 16) : ∀ (d i k : Nat), 16 - i = d → i ≤ 16 → d + 30 ≤ k → gangplanklaw09_works.l0 k l (i : Int) = some true
  | d, i, k, hd, hi, hk => by
    obtain ⟨k, rfl⟩ : ∃ m, k = m + 1 := ⟨k - 1, by omega⟩
    simp only [gangplanklaw09_works.l0]
    by_cases h : i < 16
    · obtain ⟨d, rfl⟩ : ∃ m, d = m + 1 := ⟨d - 1, by omega⟩
      have w : wrap64 ((i : Int) + 1) = ((i + 1 : Nat) : Int) := by unfold wrap64; omega
      rw [if_pos (by omega), if_pos (by omega), rdPt l i (by omega), if_pos (h7 _ (List.getElem_mem _))]
      by_cases h0 : 0 < i
      · have w2 : wrap64 ((i : Int) - 1) = ((i - 1 : Nat) : Int) := by unfold wrap64; omega
        rw [if_pos (by omega), w2, if_pos (by omega), if_pos (by omega), rdPt l (i - 1) (by omega), less _ _ k (by omega), hr i (by omega) h0, Option.bind_some, if_neg (by decide), w]
        exact works_loop l h7 hr hl d (i + 1) k (by omega) (by omega) (by omega)
      · rw [if_neg (by omega), w]
        exact works_loop l h7 hr hl d (i + 1) k (by omega) (by omega) (by omega)
    · have e0 : ofL [] = [] := by simp [ofL, srtL, ptsT]
      rw [if_neg (by omega), of_some [] (by simp), Option.bind_some, e0, if_pos (show (([] : List Pt).length : Int) = 0 from rfl), less ⟨1, 0⟩ ⟨1, 1⟩ k (by omega), Option.bind_some, if_pos (by decide), less ⟨0, 0⟩ ⟨0, 0⟩ k (by omega), Option.bind_some, if_neg (by decide), same l l (by omega) k (by omega), Option.bind_some, if_pos ((sameP_iff _ _).2 rfl), same l [] (by omega) k (by omega), Option.bind_some]
      have : sameP l [] = false := by
        rw [← Bool.not_eq_true, sameP_iff]
        intro h
        rw [h] at hl
        simp at hl
      rw [this]
      rfl
theorem works (k : Nat) (hk : 60 ≤ k) : gangplanklaw09_works.f k = some true := by
  unfold gangplanklaw09_works.f
  rw [of_some _ (by simp), Option.bind_some]
  have hl : (ofL [⟨7, 2⟩]).length = 16 := by rw [ofL_length]; simp [ptsT, ptsL, cntL]; decide
  rw [if_pos (by rw [hl]; rfl)]
  refine works_loop _ (fun x hx => ?_) (fun i h h0 => ofL_rises _ i h0 h) hl 16 0 k (by omega) (by omega) (by omega)
  obtain ⟨b, hb, n, _, rfl⟩ := ofL_ids _ x hx
  simp at hb
  subst hb
  rfl
end Go.Proofs.Ytcekkbimdogboaa.PointsLaw
