/- The statement that what is deleted is not found and all else is, over numbers and lists. -/
import Derived.Test.YthdkkmeiihbafaaFlowsSet
import Derived.Test.YthdkkmeiihbafaaPx13
import Derived.Test.YthdkkmeiihbafaaPx11
set_option linter.unusedVariables false
set_option linter.unusedSimpArgs false
namespace Go.Proofs.Ythdkkmeiihbafaa.Pure
open Go.RowKit Go.Proofs.Ythdkkmeiihbafaa.P Go.Proofs.YthdkkmeiihbafaaW.PrintWords Go.Proofs.YthdkkmeiihbafaaW.PrintLast Go.Proofs.Ythdkkmeiihbafaa.Hand Go.Proofs.Ythdkkmeiihbafaa.ProbeLaw
theorem FlowsDelete : gangplanklaw12_FlowsDelete.Pure := by
  intro t key other _ _ hkey hother
  refine ⟨202, ?_⟩
  unfold gangplanklaw12_FlowsDelete.f
  refine bind_of (works12 _ (by omega)) ?_
  rw [if_pos rfl]
  have out : gangplanklaw12_FlowsDelete.j0 202 t key other true true = some true := by simp only [gangplanklaw12_FlowsDelete.j0]; rw [if_pos (by trivial)]
  rcases few_cases2 t 202 (by omega) with h | ⟨h, ht, hks⟩
  · exact bind_of h (by rw [if_neg (by decide)]; exact out)
  · refine bind_of h ?_
    rw [if_pos rfl]
    by_cases c : (key.size : Int) > 60
    · rw [if_pos c]; exact out
    · rw [if_neg c]
      by_cases c' : (other.size : Int) > 60
      · rw [if_pos c']; exact out
      · rw [if_neg c']
        obtain ⟨q, hq, hq2⟩ := right_some (l := t) (by omega) hks
        refine bind_of hq ?_
        cases q
        · exact out
        · have hR := hq2.1 rfl
          clear out
          show gangplanklaw12_FlowsDelete.j0 202 t key other true false = some true
          simp only [gangplanklaw12_FlowsDelete.j0]
          rw [if_neg (by decide)]
          rcases delete_spec ht hks hR hkey with ⟨e, hneg⟩ | ⟨u, e, h0, hlen, hRu, hku, hhas, hcnt, htomb⟩
          · refine bind_of e ?_
            rw [if_neg (show ¬ false = true by decide), if_pos (by trivial)]
            refine bind_of (fnd_some hkey (by omega)) ?_
            rw [if_pos hneg]
            exact bind_of (same_refl t (by omega) _ (by omega)).2 rfl
          · refine bind_of e ?_
            rw [if_pos (show true = true from rfl)]
            dsimp only
            have nk : fnd u key < 0 := by
              refine Classical.byContradiction fun hn => ?_
              obtain ⟨a, b⟩ := has_fnd (l := u) (key := key) (by omega)
              exact ((hhas _).1 a).2 b
            refine bind_of (fnd_some hkey (by omega)) ?_
            rw [if_neg (by omega)]
            obtain ⟨q2, hq3, hq4⟩ := right_some (l := u) (by omega) hku
            refine bind_of hq3 ?_
            rw [if_pos (hq4.2 hRu)]
            refine bind_of (count_some 1 (by omega)) (bind_of (count_some 1 (by omega)) ?_)
            have cl := countIn_le 1 t
            have cl2 := countIn_le 2 u
            rw [if_pos (show (countIn 1 u : Int) = wrap64 ((countIn 1 t : Int) - 1) by unfold wrap64; omega)]
            refine bind_of (count_some 2 (by omega)) ?_
            rw [decide_eq_false (show ¬ wrap64 (2 * (countIn 2 u : Int)) > (u.length : Int) by unfold wrap64; omega)]
            simp only [gangplanklaw12_FlowsDelete.j1]
            rw [if_neg (by decide)]
            have rt := fnd_range t other
            have ru := fnd_range u other
            refine bind_of (fnd_some hother (by omega)) (bind_of (fnd_some hother (by omega)) ?_)
            rw [if_neg (by omega), decide_eq_false (by omega)]
            simp only [gangplanklaw12_FlowsDelete.j2]
            rw [if_neg (by decide)]
            by_cases ek : key.toList = other.toList
            · rw [if_pos ek, if_pos (by trivial)]
              have := bytes_eq ek
              subst this
              rw [decide_eq_true nk]
            · rw [if_neg ek]
              have hko : ¬ key = other := fun e => ek (by rw [e])
              have hsf := same_flows hR hRu (key := other) (fun e he => ⟨fun h => ((hhas e).1 h).1, fun h => (hhas e).2 ⟨h, fun hh => hko (hh.symm.trans he)⟩⟩)
              by_cases c0 : fnd t other < 0
              · rw [if_pos c0, if_pos (by trivial)]
                have : ¬ 0 ≤ fnd u other := fun h => by have := hsf.1.1 h; omega
                rw [decide_eq_true (by omega)]
              · have c1 := hsf.1.2 (by omega)
                rw [if_neg c0, if_pos (by trivial), if_pos c1, if_pos c1, if_pos (by omega), if_pos (by omega), if_pos (by omega)]
                rw [show rd_T31 u (fnd u other) = rd_T31 t (fnd t other) from hsf.2 (by omega)]
                simp
end Go.Proofs.Ythdkkmeiihbafaa.Pure
