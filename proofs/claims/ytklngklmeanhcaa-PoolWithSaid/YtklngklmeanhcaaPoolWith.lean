/- The statement PoolWith, over lists: what is put in is found, all others stay, once more it changes nothing. -/
import Derived.Test.YtklngklmeanhcaaPx6
import Derived.Test.YtklngklmeanhcaaPoolBase
set_option linter.unusedVariables false
set_option linter.unusedSimpArgs false
namespace Go.Proofs.Ytklngklmeanhcaa.Pure
open Go.RowKit Go.Proofs.Ytklngklmeanhcaa.P Go.Proofs.YtklngklmeanhcaaW.PrintWords Go.Proofs.YtklngklmeanhcaaW.PrintLast Go.Proofs.Ytklngklmeanhcaa.Hand Go.Proofs.Ytklngklmeanhcaa.PoolLaw
theorem with_j1 (p : List Bk) (a b : Int) (hp : p.length ≤ 60) (hw : idsWf p = true) (ha : (Lit.int .i64 a).wf = true) (r : Bool) (hr : r = true ↔ (1 ≤ a ∧ a ≤ 65535) ∧ (1 ≤ b ∧ b ≤ 16) ∧ (withL p a b).length ≤ 32) (k : Nat) (hk : 100 ≤ k) : gangplanklaw08_PoolWith.j1 k p true (withL p a b) r a b = some true := by
  obtain ⟨k, rfl⟩ : ∃ m, k = m + 1 := ⟨k - 1, by omega⟩
  have hl := with_len p a b
  simp only [gangplanklaw08_PoolWith.j1]
  rw [if_pos trivial, check_some p (by omega) hw, Option.bind_some, with_some _ (by omega), Option.bind_some, with_twice, psame_self _ (by omega) k (by omega), Option.bind_some]
  by_cases h0 : checkL p = 0
  · rw [if_pos h0, check_some _ (by omega) (with_wf p a b hw ha), Option.bind_some]
    have hm := with_may p a b ((check_zero p).1 h0)
    rw [← hr, ← check_zero] at hm
    have : ((checkL (withL p a b) == 0) == r) = true := by
      rw [beq_iff_eq, Bool.eq_iff_iff, beq_iff_eq]
      exact hm
    rw [if_pos this]
  · rw [if_neg h0]
theorem with_j0 (p : List Bk) (a b : Int) (hp : p.length ≤ 60) (hw : idsWf p = true) (ha : (Lit.int .i64 a).wf = true) (k : Nat) (hk : 101 ≤ k) : gangplanklaw08_PoolWith.j0 k p true (withL p a b) false a b = some true := by
  obtain ⟨k, rfl⟩ : ∃ m, k = m + 1 := ⟨k - 1, by omega⟩
  simp only [gangplanklaw08_PoolWith.j0]
  rw [if_neg (by decide)]
  by_cases c1 : a ≥ 1
  · rw [if_pos c1]
    by_cases c2 : a ≤ 65535
    · rw [if_pos c2]
      by_cases c3 : b ≥ 1
      · rw [if_pos c3]
        by_cases c4 : b ≤ 16
        · rw [if_pos c4]
          exact with_j1 p a b hp hw ha _ (by rw [decide_eq_true_eq]; omega) k (by omega)
        · rw [if_neg c4]
          exact with_j1 p a b hp hw ha _ ⟨(fun h => by cases h), fun h => absurd h.2.1.2 c4⟩ k (by omega)
      · rw [if_neg c3]
        exact with_j1 p a b hp hw ha _ ⟨(fun h => by cases h), fun h => absurd h.2.1.1 c3⟩ k (by omega)
    · rw [if_neg c2]
      exact with_j1 p a b hp hw ha _ ⟨(fun h => by cases h), fun h => absurd h.1.2 c2⟩ k (by omega)
  · rw [if_neg c1]
    exact with_j1 p a b hp hw ha _ ⟨(fun h => by cases h), fun h => absurd h.1.1 c1⟩ k (by omega)
theorem PoolWith : gangplanklaw08_PoolWith.Pure := by
  intro p a b id _ hok ha _ _
  refine ⟨200, ?_⟩
  unfold gangplanklaw08_PoolWith.f gangplanklaw08_works.f
  rw [Option.bind_some, if_pos rfl]
  by_cases c : (p.length : Int) > 60
  · rw [if_pos c]
  · have hp : p.length ≤ 60 := by omega
    have hw := idsWf_ok hok
    have hl := with_len p a b
    obtain ⟨k, hk, hf, he⟩ := with_found p a b
    rw [if_neg c, with_some p (by omega), Option.bind_some, find_some _ (by omega), Option.bind_some, hf, if_neg (by omega), if_neg (by omega), if_pos (by omega), if_pos (by omega), rdB _ k hk, he, if_neg (by simp)]
    by_cases h : id = a
    · rw [if_pos h]
      exact with_j0 p a b hp hw ha _ (by omega)
    · rw [if_neg h, find_some _ (by omega), Option.bind_some, find_some _ (by omega), Option.bind_some]
      have e : (decide (findL (withL p a b) id ≥ 0)) = decide (findL p id ≥ 0) := decide_eq_decide.2 (with_other p a b id h)
      rw [e, bne_self_eq_false]
      exact with_j0 p a b hp hw ha _ (by omega)
end Go.Proofs.Ytklngklmeanhcaa.Pure
