/- The statement that of all places just what is due is gone, over numbers and lists. -/
import Derived.Test.YthdkkmeiihbafaaSweepBase
import Derived.Test.YthdkkmeiihbafaaPx12
set_option linter.unusedVariables false
set_option linter.unusedSimpArgs false
namespace Go.Proofs.Ythdkkmeiihbafaa.Pure
open Go.RowKit Go.Proofs.Ythdkkmeiihbafaa.P Go.Proofs.YthdkkmeiihbafaaW.PrintWords Go.Proofs.YthdkkmeiihbafaaW.PrintLast Go.Proofs.YthdkkmeiihbafaaW.PrintMore Go.Proofs.Ythdkkmeiihbafaa.Hand Go.Proofs.Ythdkkmeiihbafaa.ProbeLaw
theorem SweepAll : gangplanklaw13_SweepAll.Pure := by
  intro t now key _ _ _ hkey
  refine ⟨302, ?_⟩
  unfold gangplanklaw13_SweepAll.f
  refine bind_of (works13 _ (by omega)) ?_
  rw [if_pos rfl]
  have out : gangplanklaw13_SweepAll.j0 302 t now key true true = some true := by simp only [gangplanklaw13_SweepAll.j0]; rw [if_pos (by trivial)]
  rcases few_cases2 t 302 (by omega) with h | ⟨h, ht, hks⟩
  · exact bind_of h (by rw [if_neg (by decide)]; exact out)
  · refine bind_of h ?_
    rw [if_pos rfl]
    by_cases c : (key.size : Int) > 60
    · rw [if_pos c]; exact out
    · rw [if_neg c]
      obtain ⟨q, hq, hq2⟩ := right_some (l := t) (by omega) hks
      refine bind_of hq ?_
      cases q
      · exact out
      · have hR := hq2.1 rfl
        clear out
        show gangplanklaw13_SweepAll.j0 302 t now key true false = some true
        simp only [gangplanklaw13_SweepAll.j0]
        rw [if_neg (by decide)]
        obtain ⟨hRu, hku, hh1, hh2, hcnt⟩ := left_spec ht hks hR now 0 t.length
        have hal := all_left ht hks hR now
        have hlen := left_len ht hks now 0 t.length
        have hg := swp_cnt t now 0 t.length
        have st := all_some ht hks now
        have hsame : (swp now t 0 t.length).2 = 0 → settle (swp now t 0 t.length).1 (swp now t 0 t.length).2 = t := fun h0 => by
          have e0 : (swp now t 0 t.length).1 = t := (same_step (now := now) (swp_in t 0 t.length)).2 h0
          unfold settle
          rw [if_neg (by omega)]; exact e0
        obtain ⟨u, hu⟩ : ∃ u, settle (swp now t 0 t.length).1 (swp now t 0 t.length).2 = u := ⟨_, rfl⟩
        obtain ⟨g, hgg⟩ : ∃ g, (swp now t 0 t.length).2 = g := ⟨_, rfl⟩
        rw [hgg] at hu
        rw [hgg, hu] at st hRu hku hh1 hh2 hcnt hlen hsame hal
        rw [hgg] at hg
        clear hu hgg
        have again : sweep_All.f u now = some (u, 0) := by
          rw [all_some (by omega) hku now]
          have e : swp now u 0 u.length = (u, 0) := none_step (fun e he => ((hal e).1 he).2) 0 _ (swp_in u 0 u.length)
          rw [e]
          show some (settle u 0, (0 : Int)) = _
          unfold settle
          rw [if_neg (by decide)]
        have rt := fnd_range t key
        have ru := fnd_range u key
        have fin : ∀ b : Bool, ((decide (fnd u key ≥ 0)) == b) = true → (if (true : Bool) = true then (if ((decide (fnd u key ≥ 0)) == b) = true then (if (u, (0 : Int)).2 = 0 then ((probe_Same.f 300 (u, (0 : Int)).1 u).bind fun t291 => (if t291 = true then (if g ≥ 0 then (if g > 0 then (some true) else ((probe_Same.f 300 u t).bind fun t292 => (some t292))) else (some false)) else (some false))) else (some false)) else (some false)) else (some false)) = some true := fun b hb => by
          rw [if_pos rfl, if_pos hb, if_pos (by trivial)]
          refine bind_of (same_refl u (by omega) _ (by omega)).2 ?_
          rw [if_pos rfl, if_pos hg.1]
          by_cases cg : g > 0
          · rw [if_pos cg]
          · rw [if_neg cg, hsame (by omega)]
            exact bind_of (same_refl t (by omega) _ (by omega)).2 rfl
        refine bind_of st ?_
        dsimp only
        refine bind_of (fnd_some hkey (by omega)) (bind_of (fnd_some hkey (by omega)) ?_)
        rw [if_neg (by omega), decide_eq_false (by omega)]
        simp only [gangplanklaw13_SweepAll.j1]
        rw [if_neg (by decide)]
        by_cases c0 : fnd t key ≥ 0
        · rw [if_pos c0, if_pos c0, if_pos (by omega)]
          obtain ⟨p1, p2⟩ := has_fnd (l := t) (key := key) c0
          refine bind_of (due_some (rdE t (fnd t key)) now) (bind_of again ?_)
          refine fin _ ?_
          cases ho : overB now (rdE t (fnd t key))
          · have := (right_has hRu ((hal _).2 ⟨p1, ho⟩) p2).1
            rw [decide_eq_true (show fnd u key ≥ 0 from this)]; rfl
          · have : ¬ fnd u key ≥ 0 := fun h => by
              obtain ⟨q1, q2⟩ := has_fnd (l := u) (key := key) h
              have e := (right_has hR (hh1 _ q1) q2).2
              have := ((hal _).1 q1).2
              rw [← e, ho] at this; exact absurd this (by decide)
            rw [decide_eq_false this]; rfl
        · rw [if_neg c0]
          refine bind_of again ?_
          refine fin _ ?_
          have : ¬ fnd u key ≥ 0 := fun h => by
            obtain ⟨q1, q2⟩ := has_fnd (l := u) (key := key) h
            exact c0 (right_has hR (hh1 _ q1) q2).1
          rw [decide_eq_false this]; rfl
end Go.Proofs.Ythdkkmeiihbafaa.Pure
