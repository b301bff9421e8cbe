/- The statement PoolWithout, over lists: what is taken out is not found, all others stay. -/
import Derived.Test.YtklngklmeanhcaaPx7
import Derived.Test.YtklngklmeanhcaaPoolBase
set_option linter.unusedVariables false
set_option linter.unusedSimpArgs false
namespace Go.Proofs.Ytklngklmeanhcaa.Pure
open Go.RowKit Go.Proofs.Ytklngklmeanhcaa.P Go.Proofs.YtklngklmeanhcaaW.PrintWords Go.Proofs.YtklngklmeanhcaaW.PrintLast Go.Proofs.Ytklngklmeanhcaa.Hand Go.Proofs.Ytklngklmeanhcaa.PoolLaw
theorem without_j0 (p : List Bk) (id : Int) (hp : p.length ≤ 60) (hw : idsWf p = true) (k : Nat) (hk : 101 ≤ k) : gangplanklaw08_PoolWithout.j0 k p id true (keptL id p) false = some true := by
  obtain ⟨k, rfl⟩ : ∃ m, k = m + 1 := ⟨k - 1, by omega⟩
  have hl := kept_len id p
  simp only [gangplanklaw08_PoolWithout.j0]
  rw [if_neg (by decide), if_pos trivial, check_some p (by omega) hw, Option.bind_some, without_some _ (by omega), Option.bind_some, kept_twice, psame_self _ (by omega) k (by omega), Option.bind_some]
  by_cases h0 : checkL p = 0
  · rw [if_pos h0, check_some _ (by omega) (kept_wf id p hw), Option.bind_some, if_pos ((check_zero _).2 (kept_may id p ((check_zero p).1 h0)))]
  · rw [if_neg h0]
theorem PoolWithout : gangplanklaw08_PoolWithout.Pure := by
  intro p id other _ hok _ _
  refine ⟨200, ?_⟩
  unfold gangplanklaw08_PoolWithout.f gangplanklaw08_works.f
  rw [Option.bind_some, if_pos rfl]
  by_cases c : (p.length : Int) > 60
  · rw [if_pos c]
  · have hp : p.length ≤ 60 := by omega
    have hw := idsWf_ok hok
    have hl := kept_len id p
    have hn : decide (((keptL id p).length : Int) > (p.length : Int)) = false := decide_eq_false (by omega)
    rw [if_neg c, without_some p (by omega), Option.bind_some, find_some _ (by omega), Option.bind_some, kept_none, if_pos rfl, hn]
    by_cases h : id = other
    · rw [if_pos h]
      exact without_j0 p id hp hw _ (by omega)
    · rw [if_neg h, find_some _ (by omega), Option.bind_some, find_some _ (by omega), Option.bind_some]
      have e : (decide (findL (keptL id p) other ≥ 0)) = decide (findL p other ≥ 0) := decide_eq_decide.2 (kept_other id other p (Ne.symm h))
      rw [e, bne_self_eq_false, if_neg (by decide)]
      exact without_j0 p id hp hw _ (by omega)
end Go.Proofs.Ytklngklmeanhcaa.Pure
