/- The statement that what is gone was due and all else stays, over numbers and lists. -/
import Derived.Test.YthdkkmeiihbafaaSweepBase
import Derived.Test.YthdkkmeiihbafaaPx11
set_option linter.unusedVariables false
set_option linter.unusedSimpArgs false
namespace Go.Proofs.Ythdkkmeiihbafaa.Pure
open Go.RowKit Go.Proofs.Ythdkkmeiihbafaa.P Go.Proofs.YthdkkmeiihbafaaW.PrintWords Go.Proofs.YthdkkmeiihbafaaW.PrintLast Go.Proofs.YthdkkmeiihbafaaW.PrintMore Go.Proofs.Ythdkkmeiihbafaa.Hand Go.Proofs.Ythdkkmeiihbafaa.ProbeLaw
theorem nxt_range (f a : Int) (n : Nat) : 0 ≤ nxt f a n ∧ (nxt f a n < n ∨ nxt f a n = 0) := by
  unfold nxt
  split
  · have := placeAt_range (f := fvOf f n) (nOf a n) (by assumption)
    exact ⟨this.1, .inl this.2⟩
  · exact ⟨Int.le_refl _, .inr rfl⟩
theorem SweepKeeps : gangplanklaw13_SweepKeeps.Pure := by
  intro t f a now key _ _ _ _ _ hkey
  refine ⟨302, ?_⟩
  unfold gangplanklaw13_SweepKeeps.f
  refine bind_of (works13 _ (by omega)) ?_
  rw [if_pos rfl]
  have out : gangplanklaw13_SweepKeeps.j0 302 t f a now key true true = some true := by simp only [gangplanklaw13_SweepKeeps.j0]; rw [if_pos (by trivial)]
  rcases few_cases2 t 302 (by omega) with h | ⟨h, ht, hks⟩
  · exact bind_of h (by rw [if_neg (by decide)]; exact out)
  · refine bind_of h ?_
    rw [if_pos rfl]
    by_cases c : (key.size : Int) > 60
    · rw [if_pos c]; exact out
    · rw [if_neg c]
      obtain ⟨q, hq, hq2⟩ := right_some (l := t) (by omega) hks
      refine bind_of hq ?_
      cases q
      · exact out
      · have hR := hq2.1 rfl
        clear out
        show gangplanklaw13_SweepKeeps.j0 302 t f a now key true false = some true
        simp only [gangplanklaw13_SweepKeeps.j0]
        rw [if_neg (by decide)]
        obtain ⟨hRu, hku, hh1, hh2, hcnt⟩ := left_spec ht hks hR now f a
        have hlen := left_len ht hks now f a
        have hg := swp_cnt t now f a
        have hx := nxt_range f a t.length
        have st := step_some ht hks f a now
        obtain ⟨u, hu⟩ : ∃ u, settle (swp now t f a).1 (swp now t f a).2 = u := ⟨_, rfl⟩
        obtain ⟨g, hgg⟩ : ∃ g, (swp now t f a).2 = g := ⟨_, rfl⟩
        obtain ⟨x, hxx⟩ : ∃ x, nxt f a t.length = x := ⟨_, rfl⟩
        rw [hgg] at hu
        rw [hgg, hu] at st hRu hku hh1 hh2 hcnt hlen
        rw [hgg] at hg
        rw [hxx] at st hx
        clear hu hgg hxx
        refine bind_of st ?_
        dsimp only
        have rt := fnd_range t key
        have ru := fnd_range u key
        refine bind_of (fnd_some hkey (by omega)) (bind_of (fnd_some hkey (by omega)) ?_)
        have e1 : wrap64 ((t.length : Int) - 1) = (t.length : Int) - 1 := by unfold wrap64; omega
        rw [if_neg (by omega), if_neg (by omega), if_pos (by omega), if_neg (by omega), if_neg (by omega), if_neg (by rw [e1]; unfold mx; split <;> omega)]
        obtain ⟨q2, hq3, hq4⟩ := right_some (l := u) (by omega) hku
        refine bind_of hq3 ?_
        rw [if_pos (hq4.2 hRu)]
        refine bind_of (count_some 1 (by omega)) (bind_of (count_some 1 (by omega)) ?_)
        have cl := countIn_le 1 t
        have e2 : wrap64 ((countIn 1 t : Int) - g) = (countIn 1 t : Int) - g := by unfold wrap64; omega
        rw [e2, show ((countIn 1 u : Int) != (countIn 1 t : Int) - g) = false by
          rw [bne_eq_false_iff_eq]; omega]
        simp only [gangplanklaw13_SweepKeeps.j1]
        rw [if_neg (by decide)]
        by_cases c0 : fnd t key < 0
        · rw [if_pos c0, if_pos (by trivial)]
          have : fnd u key < 0 := by
            refine Classical.byContradiction fun hn => ?_
            obtain ⟨p1, p2⟩ := has_fnd (l := u) (key := key) (by omega)
            have := (right_has hR (hh1 _ p1) p2).1
            omega
          rw [decide_eq_true this]
        · rw [if_neg c0]
          obtain ⟨p1, p2⟩ := has_fnd (l := t) (key := key) (by omega)
          by_cases c1 : fnd u key ≥ 0
          · rw [if_pos c1, if_pos (by trivial), if_pos c1, if_pos (by omega), if_pos (by omega), if_pos (by omega)]
            obtain ⟨q1, q2⟩ := has_fnd (l := u) (key := key) c1
            have e := (right_has hR (hh1 _ q1) q2).2
            rw [show rd_T31 u (fnd u key) = rd_T31 t (fnd t key) from e.symm]
            simp
          · rw [if_neg c1, if_pos (by trivial), if_pos (by omega), if_pos (by omega)]
            have hd : overB now (rdE t (fnd t key)) = true ∧ 0 < g := by
              rcases hh2 _ p1 with h | h
              · exact absurd (right_has hRu h p2).1 (by omega)
              · exact h
            refine bind_of ((due_some (rdE t (fnd t key)) now).trans (by rw [hd.1])) ?_
            rw [if_pos rfl, decide_eq_true (show g > 0 from hd.2)]
end Go.Proofs.Ythdkkmeiihbafaa.Pure
