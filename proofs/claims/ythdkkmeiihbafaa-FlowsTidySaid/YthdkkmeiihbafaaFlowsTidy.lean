/- The statement that tidied all flows are found, and no tomb stands, over numbers and lists. -/
import Derived.Test.YthdkkmeiihbafaaFlowsSet
import Derived.Test.YthdkkmeiihbafaaPx8
set_option linter.unusedVariables false
set_option linter.unusedSimpArgs false
namespace Go.Proofs.Ythdkkmeiihbafaa.Pure
open Go.RowKit Go.Proofs.Ythdkkmeiihbafaa.P Go.Proofs.YthdkkmeiihbafaaW.PrintWords Go.Proofs.YthdkkmeiihbafaaW.PrintLast Go.Proofs.Ythdkkmeiihbafaa.Hand Go.Proofs.Ythdkkmeiihbafaa.ProbeLaw
theorem FlowsTidy : gangplanklaw12_FlowsTidy.Pure := by
  intro t key _ _ hkey
  refine ⟨202, ?_⟩
  unfold gangplanklaw12_FlowsTidy.f
  refine bind_of (works12 _ (by omega)) ?_
  rw [if_pos rfl]
  have out : gangplanklaw12_FlowsTidy.j0 202 t key true true = some true := by simp only [gangplanklaw12_FlowsTidy.j0]; rw [if_pos (by trivial)]
  rcases few_cases2 t 202 (by omega) with h | ⟨h, ht, hks⟩
  · exact bind_of h (by rw [if_neg (by decide)]; exact out)
  · refine bind_of h ?_
    rw [if_pos rfl]
    by_cases c : (key.size : Int) > 60
    · rw [if_pos c]; exact out
    · rw [if_neg c]
      obtain ⟨q, hq, hq2⟩ := right_some (l := t) (by omega) hks
      refine bind_of hq ?_
      cases q
      · exact out
      · have hR := hq2.1 rfl
        clear out
        show gangplanklaw12_FlowsTidy.j0 202 t key true false = some true
        simp only [gangplanklaw12_FlowsTidy.j0]
        rw [if_neg (by decide)]
        obtain ⟨u, hu, hi⟩ := tidy_spec ht hks hR
        have hl := hi.len
        have hsf := same_flows hR hi.right (key := key) (fun e _ => inv_filter hi e)
        have rt := fnd_range t key
        have ru := fnd_range u key
        have fin : gangplanklaw12_FlowsTidy.j1 201 t true u false = some true := by
          simp only [gangplanklaw12_FlowsTidy.j1]
          rw [if_neg (by decide), if_pos (by trivial)]
          obtain ⟨q2, hq3, hq4⟩ := right_some (l := u) (by omega) hi.keys
          refine bind_of hq3 ?_
          rw [if_pos (hq4.2 hi.right), if_pos (by omega)]
          refine bind_of (count_some 2 (by omega)) ?_
          rw [if_pos (by rw [inv_tombs hi]; rfl)]
          refine bind_of (count_some 1 (by omega)) (bind_of (count_some 1 (by omega)) ?_)
          have h1 := hi.count
          have h2 : countIn 1 t = (t.filter fun x => x.f0 == 1).length := rfl
          rw [h1, h2]; simp
        refine bind_of hu (bind_of (fnd_some hkey (by omega)) (bind_of (fnd_some hkey (by omega)) ?_))
        rw [if_neg (by omega), if_neg (by omega)]
        by_cases c0 : fnd t key ≥ 0
        · have c1 := hsf.1.2 c0
          rw [decide_eq_false (show ¬ fnd t key < 0 by omega), decide_eq_false (show ¬ fnd u key < 0 by omega), if_neg (by decide), if_pos c0, if_pos c1, if_pos (by omega), if_pos c0, if_pos (by omega)]
          rw [show rd_T31 u (fnd u key) = rd_T31 t (fnd t key) from hsf.2 c0]
          simp only [beq_self_eq_true, Bool.not_true, Bool.or_false]
          exact fin
        · have c1 : ¬ 0 ≤ fnd u key := fun h => c0 (hsf.1.1 h)
          rw [decide_eq_true (show fnd t key < 0 by omega), decide_eq_true (show fnd u key < 0 by omega), if_neg (by decide), if_neg c0]
          exact fin
end Go.Proofs.Ythdkkmeiihbafaa.Pure
