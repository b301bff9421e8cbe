/- The statement PoolSorted, over lists: what is sorted rises, and has just the same backends. -/
import Derived.Test.YtklngklmeanhcaaPx7
import Derived.Test.YtklngklmeanhcaaPoolOrder
set_option linter.unusedVariables false
set_option linter.unusedSimpArgs false
namespace Go.Proofs.Ytklngklmeanhcaa.Pure
open Go.RowKit Go.Proofs.Ytklngklmeanhcaa.P Go.Proofs.YtklngklmeanhcaaW.PrintWords Go.Proofs.YtklngklmeanhcaaW.PrintLast Go.Proofs.Ytklngklmeanhcaa.Hand Go.Proofs.Ytklngklmeanhcaa.PoolLaw
theorem sorted_j1 (p : List Bk) (hp : p.length ≤ 60) (hw : idsWf p = true) (k : Nat) (hk : 100 ≤ k) : gangplanklaw08_PoolSorted.j1 k p true (sortedL p) false = some true := by
  obtain ⟨k, rfl⟩ : ∃ m, k = m + 1 := ⟨k - 1, by omega⟩
  have hl := sortedL_len p
  simp only [gangplanklaw08_PoolSorted.j1]
  rw [if_neg (by decide), if_pos trivial, if_pos (by omega), check_some _ (by omega) (sorted_wf p hw), Option.bind_some, check_some p (by omega) hw, Option.bind_some, sorted_check, if_pos rfl, sorted_some _ (by omega), Option.bind_some, sorted_twice, psame_self _ (by omega) k (by omega), Option.bind_some]
theorem sorted_loop (p : List Bk) (id : Int) (hp : p.length ≤ 60) (hw : idsWf p = true) : ∀ (d i k : Nat), (sortedL p).length - i = d → 1 ≤ i → d + 101 ≤ k → gangplanklaw08_PoolSorted.l0 k p id true (sortedL p) (i : Int) = some true
  | d, i, k, hd, hi, hk => by
    obtain ⟨k, rfl⟩ : ∃ m, k = m + 1 := ⟨k - 1, by omega⟩
    have hl := sortedL_len p
    simp only [gangplanklaw08_PoolSorted.l0]
    by_cases h : i < (sortedL p).length
    · obtain ⟨d, rfl⟩ : ∃ m, d = m + 1 := ⟨d - 1, by omega⟩
      have w : wrap64 ((i : Int) + 1) = ((i + 1 : Nat) : Int) := by unfold wrap64; omega
      have w2 : wrap64 ((i : Int) - 1) = ((i - 1 : Nat) : Int) := by unfold wrap64; omega
      have hr := sorted_rise p (i := i - 1) (j := i) (by omega) h
      rw [if_pos (by omega), w2, if_pos (by omega), if_pos (by omega), if_pos (by omega), rdB _ (i - 1) (by omega), rdB _ i h, if_neg (by omega), w]
      exact sorted_loop p id hp hw d (i + 1) k (by omega) (by omega) (by omega)
    · rw [if_neg (by omega), find_some _ (by omega), Option.bind_some, find_some _ (by omega), Option.bind_some]
      rcases sorted_find p id with ⟨h1, h2⟩ | ⟨a, b, ha, hb, h1, h2, h3⟩
      · rw [h1, h2, if_neg (by omega), if_neg (by omega), if_neg (by decide), if_neg (by decide)]
        exact sorted_j1 p hp hw k (by omega)
      · have e1 : decide ((a : Int) < 0) = false := decide_eq_false (by omega)
        have e2 : decide ((b : Int) < 0) = false := decide_eq_false (by omega)
        rw [h1, h2, if_neg (by omega), if_neg (by omega), e1, e2, if_neg (by decide), if_pos (by omega), if_pos (by omega), if_pos (by omega), if_pos (by omega), if_pos (by omega), rdB p a ha, rdB _ b hb, h3, neB, (eqB_iff _ _).2 rfl]
        exact sorted_j1 p hp hw k (by omega)
theorem PoolSorted : gangplanklaw08_PoolSorted.Pure := by
  intro p id _ hok _
  refine ⟨300, ?_⟩
  unfold gangplanklaw08_PoolSorted.f gangplanklaw08_works.f
  rw [Option.bind_some, if_pos rfl]
  by_cases h : (p.length : Int) > 60
  · rw [if_pos h]
  · have hl := sortedL_len p
    rw [if_neg h, sorted_some p (by omega), Option.bind_some]
    exact sorted_loop p id (by omega) (idsWf_ok hok) _ 1 300 rfl (Nat.le_refl _) (by omega)
end Go.Proofs.Ytklngklmeanhcaa.Pure
