/- Rings without a backend's points. -/
import Derived.Test.YtcekkbimdogboaaPx3
import Derived.Test.YtcekkbimdogboaaPx5
import Derived.Test.YtcekkbimdogboaaPx2
import Derived.Test.YtcekkbimdogboaaRingWorks
import Derived.Test.YtcekkbimdogboaaPointsKept
import Derived.Test.YtcekkbimdogboaaPoolCheck
set_option linter.unusedVariables false
set_option linter.unusedSimpArgs false
namespace Go.Proofs.Ytcekkbimdogboaa.RingLaw
open Go.RowKit Go.Proofs.Ytcekkbimdogboaa.P Go.Proofs.YtcekkbimdogboaaW.PrintWords Go.Proofs.YtcekkbimdogboaaW.PrintLast Go.Proofs.Ytcekkbimdogboaa.Hand
open Go.Proofs.Ytcekkbimdogboaa.PointsLaw
open Go.Proofs.Ytcekkbimdogboaa.PoolLaw (May)
/-- WITHOUT A BACKEND'S POINTS a hash goes where it went, unless it went to it. -/
theorem goes_without (id : Int) (l : List Pt) (h : Int) : goesTo (l.filter (notOf id)) h = goesTo l h ∨ goesTo l h = id := by
  have hfind : ∀ l : List Pt, (∃ x, l.find? (fun x => decide (h ≤ x.f0)) = some x ∧ x.f1 = id) ∨ (l.filter (notOf id)).find? (fun x => decide (h ≤ x.f0)) = l.find? (fun x => decide (h ≤ x.f0)) := by
    intro l
    induction l with
    | nil => exact .inr rfl
    | cons x l ih =>
      by_cases hx : h ≤ x.f0
      · by_cases hid : x.f1 = id
        · exact .inl ⟨x, by simp [hx], hid⟩
        · right
          simp [notOf, hid, hx]
      · by_cases hid : x.f1 = id
        · rcases ih with ⟨y, h1, h2⟩ | h1
          · exact .inl ⟨y, by simp [hx, h1], h2⟩
          · exact .inr (by simp [notOf, hid, hx]; simpa [notOf] using h1)
        · rcases ih with ⟨y, h1, h2⟩ | h1
          · exact .inl ⟨y, by simp [hx, h1], h2⟩
          · exact .inr (by simp [notOf, hid, hx]; simpa [notOf] using h1)
  rcases hfind l with ⟨x, h1, h2⟩ | h1
  · right
    unfold goesTo
    rw [h1]
    exact h2
  · unfold goesTo
    rw [h1]
    cases hf : l.find? (fun x => decide (h ≤ x.f0)) with
    | some x => exact .inl rfl
    | none =>
      cases l with
      | nil => exact .inl rfl
      | cons x l =>
        by_cases hid : x.f1 = id
        · exact .inr hid
        · left
          rw [show (x :: l).filter (notOf id) = x :: l.filter (notOf id) from List.filter_cons_of_pos (by simp [notOf, hid])]
theorem goes_kept_ne {p : List Bk} (id h : Int) (hid : id ≠ -1) : goesTo (ofL (keptL id p)) h ≠ id := by
  by_cases he : ofL (keptL id p) = []
  · rw [he]
    exact fun e => hid e.symm
  · obtain ⟨x, hx, e⟩ := goes_mem _ h he
    rw [e]
    rw [← ofL_kept] at hx
    have := (List.mem_filter.1 hx).2
    simpa [notOf] using this
end Go.Proofs.Ytcekkbimdogboaa.RingLaw
