/- The statements of flows that come and go (package flows), over numbers and lists: put, one. -/
import Derived.Test.YthdkkmeiihbafaaFlowsLaw
import Derived.Test.YthdkkmeiihbafaaPx12
import Derived.Test.YthdkkmeiihbafaaPx11
set_option linter.unusedVariables false
set_option linter.unusedSimpArgs false
namespace Go.Proofs.Ythdkkmeiihbafaa.Pure
open Go.RowKit Go.Proofs.Ythdkkmeiihbafaa.P Go.Proofs.YthdkkmeiihbafaaW.PrintWords Go.Proofs.YthdkkmeiihbafaaW.PrintLast Go.Proofs.Ythdkkmeiihbafaa.Hand Go.Proofs.Ythdkkmeiihbafaa.ProbeLaw

theorem FlowsPut : gangplanklaw12_FlowsPut.Pure := by
  intro t key b d other _ _ hkey _ _ hother
  refine ⟨202, ?_⟩
  unfold gangplanklaw12_FlowsPut.f
  refine bind_of (works12 _ (by omega)) ?_
  rw [if_pos rfl]
  have out : gangplanklaw12_FlowsPut.j0 202 t key b d other true true = some true := by simp only [gangplanklaw12_FlowsPut.j0]; rw [if_pos (by trivial)]
  rcases few_cases2 t 202 (by omega) with h | ⟨h, ht, hks⟩
  · exact bind_of h (by rw [if_neg (by decide)]; exact out)
  · refine bind_of h ?_
    rw [if_pos rfl]
    by_cases c : (key.size : Int) > 60
    · rw [if_pos c]; exact out
    · rw [if_neg c]
      by_cases c' : (other.size : Int) > 60
      · rw [decide_eq_true c']; exact out
      · rw [decide_eq_false c']
        clear out
        simp only [gangplanklaw12_FlowsPut.j0]
        rw [if_neg (by decide)]
        rcases putR_cases t ⟨1, key, b, d⟩ rfl hkey (by omega) with ⟨j, h0, h1, e, hf, hc⟩ | ⟨e, hneg, hall⟩
        · obtain ⟨u, hu⟩ : ∃ u, t.set j.toNat (⟨1, key, b, d⟩ : Ent) = u := ⟨_, rfl⟩
          have hlen : u.length = t.length := by rw [← hu]; exact List.length_set
          have hju : rdE u j = ⟨1, key, b, d⟩ := by rw [← hu, rdE_set _ _ _ _ h0 h1 h0 h1, if_pos rfl]
          have hset : ∀ i : Int, 0 ≤ i → i < t.length → i ≠ j → rdE u i = rdE t i := fun i i0 i1 ne => by rw [← hu, rdE_set _ _ _ _ h0 h1 i0 i1, if_neg ne]
          rw [hu] at e hf
          dsimp only at hf hc
          have ef : flows_Put.f t key b d = some (u, 0) := by rw [fput_some b d hkey (by omega), e]; rfl
          refine bind_of ef ?_
          rw [if_pos (show (0 : Int) = 0 from rfl)]
          dsimp only
          refine bind_of (fnd_some hkey (by omega)) ?_
          rw [hf, if_neg (by omega), if_neg (by omega), if_pos h0, if_pos (by omega), show rd_T31 u j = ⟨1, key, b, d⟩ from hju, if_neg (by simp), show ((u.length : Int) != (t.length : Int)) = false by simp [hlen]]
          have fin : gangplanklaw12_FlowsPut.j2 200 t key other true u (fnd t other) (fnd u other) false = some true := by
            simp only [gangplanklaw12_FlowsPut.j2]
            rw [if_neg (by decide), if_pos (by trivial)]
            obtain ⟨q, hq, hq2⟩ := right_some (l := t) (by omega) hks
            refine bind_of hq ?_
            cases q
            · rw [if_neg (by decide)]
            · rw [if_pos rfl]
              have hR := hq2.1 rfl
              have hRu : RightP u := by
                have := right_put (x := ⟨1, key, b, d⟩) hR rfl hkey (by omega)
                rw [e] at this; exact this
              obtain ⟨q2, hq3, hq4⟩ := right_some (l := u) (by omega) (by rw [← hu]; exact keys_put h0 h1 hks (by show key.size ≤ 60; omega))
              refine bind_of hq3 ?_
              rw [if_pos (hq4.2 hRu)]
              by_cases ek : key.toList = other.toList
              · rw [if_pos ek]
              · rw [if_neg ek]
                have hko : ¬ key = other := fun e => ek (by rw [e])
                by_cases fo : 0 ≤ fnd t other
                · have : fnd u other = fnd t other := by
                    rw [← hu]
                    exact set_fnd h0 h1 ⟨show (1 : Int) ≠ 0 by decide, fun hh => hko hh.2⟩ (fun hh => hc.elim (fun h => hko (h.2.2.symm.trans hh.2)) (fun h => h.2 hh.1)) fo
                  rw [this]; simp
                · have : fnd u other < 0 := by
                    refine Classical.byContradiction fun hn => ?_
                    have fr := fnd_range u other
                    obtain ⟨l1, l2⟩ := fnd_live (l := u) (key := other) (by omega)
                    by_cases ej : fnd u other = j
                    · rw [ej, hju] at l2; exact hko l2
                    · rw [hset _ (by omega) (by omega) ej] at l1 l2
                      have := right_fnd hR (by omega) (by omega) l1 l2
                      omega
                  rw [decide_eq_true this, decide_eq_true (by omega)]; rfl
          simp only [gangplanklaw12_FlowsPut.j1]
          rw [if_neg (by decide)]
          have rt := fnd_range t other
          have ru := fnd_range u other
          refine bind_of (fnd_some hother (by omega)) (bind_of (fnd_some hother (by omega)) ?_)
          rw [if_neg (by omega), if_neg (by omega)]
          by_cases ek : key.toList = other.toList
          · rw [if_pos ek]; exact fin
          · rw [if_neg ek]
            have hko : ¬ key = other := fun e => ek (by rw [e])
            by_cases fo : fnd t other ≥ 0
            · rw [if_pos fo]
              have hjn : ¬ ((rdE t j).f0 = 1 ∧ (rdE t j).f1 = other) := fun hh => hc.elim (fun h => hko (h.2.2.symm.trans hh.2)) (fun h => h.2 hh.1)
              have eq : fnd u other = fnd t other := by
                rw [← hu]
                exact set_fnd h0 h1 ⟨show (1 : Int) ≠ 0 by decide, fun hh => hko hh.2⟩ hjn fo
              rw [if_pos eq, if_pos (by omega), if_pos (by omega), if_pos (by omega), if_pos (by omega)]
              have hne : fnd t other ≠ j := fun e => by
                have := fnd_live (l := t) (key := other) fo
                rw [e] at this; exact hjn this
              rw [show rd_T31 u (fnd u other) = rd_T31 t (fnd t other) from by rw [eq]; exact hset _ (by omega) (by omega) hne]
              simp only [beq_self_eq_true, Bool.not_true, Bool.or_false]
              exact fin
            · rw [if_neg fo]; exact fin
        · have ef : flows_Put.f t key b d = some (t, 12) := by rw [fput_some b d hkey (by omega), e]; rfl
          refine bind_of ef ?_
          rw [if_neg (show ¬ (12 : Int) = 0 by decide), if_pos (by trivial), if_pos rfl]
          refine bind_of (same_refl t (by omega) _ (by omega)).2 ?_
          rw [if_pos rfl]
          refine bind_of (count_some 1 (by omega)) ?_
          rw [if_pos (by omega)]
          refine bind_of (fnd_some hkey (by omega)) ?_
          dsimp only at hneg
          rw [decide_eq_true (by omega)]
end Go.Proofs.Ythdkkmeiihbafaa.Pure
