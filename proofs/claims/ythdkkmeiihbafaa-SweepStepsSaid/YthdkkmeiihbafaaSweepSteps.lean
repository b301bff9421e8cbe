/- The statement that what is left of a table is just what the document says, over numbers and lists. -/
import Derived.Test.YthdkkmeiihbafaaSweepBase
import Derived.Test.YthdkkmeiihbafaaPx10
import Derived.Test.YthdkkmeiihbafaaPx9
set_option linter.unusedVariables false
set_option linter.unusedSimpArgs false
namespace Go.Proofs.Ythdkkmeiihbafaa.Pure
open Go.RowKit Go.Proofs.Ythdkkmeiihbafaa.P Go.Proofs.YthdkkmeiihbafaaW.PrintWords Go.Proofs.YthdkkmeiihbafaaW.PrintLast Go.Proofs.YthdkkmeiihbafaaW.PrintMore Go.Proofs.Ythdkkmeiihbafaa.Hand Go.Proofs.Ythdkkmeiihbafaa.ProbeLaw
theorem bury_some {t : List Ent} (ht : t.length ≤ 64) {j : Int} (h0 : 0 ≤ j) (h1 : j < t.length) (k : Nat) (hk : t.length < k) : gangplankref12_Bury.f k t j = some (t.set j.toNat tombS) := by
  unfold gangplankref12_Bury.f
  exact bind_of (with_some (by omega) h0 h1 2 ⟨#[]⟩ 0 0 k hk) rfl
theorem refsettle_some {T : List Ent} (ht : T.length ≤ 64) (hks : Keys60 T) (k : Nat) (hk : 200 ≤ k) : gangplankref12_Settle.f k T = some (if 2 * (countIn 2 T : Int) > (T.length : Int) then tidyAll (List.replicate T.length z31) (liveL T) else T) := by
  unfold gangplankref12_Settle.f
  refine bind_of (refcount_some T 2 (by omega) k (by omega)) ?_
  have cl := countIn_le 2 T
  rw [show wrap64 (2 * (countIn 2 T : Int)) = 2 * (countIn 2 T : Int) by unfold wrap64; omega]
  by_cases c : 2 * (countIn 2 T : Int) > (T.length : Int)
  · rw [if_pos c, if_pos c]
    exact bind_of ((reftidy_eq T ht hks k hk).trans (ftidy_some T ht hks).1) rfl
  · rw [if_neg c, if_neg c]
theorem refdue_some (x : Ent) (now : Int) : gangplankref13_Due.f x.f0 x.f1 x.f2 x.f3 now = some (overB now x) := by
  unfold gangplankref13_Due.f overB
  split <;> rfl
theorem refstep_end (now : Int) (t : List Ent) (ht : t.length ≤ 64) (hks : Keys60 t) (x g : Int) (N : Nat) (k : Nat) (hk : 300 < k) : gangplankref13_Step.l0 k t x now (N : Int) g (N : Int) = some (settle t g, x, g) := by
  obtain ⟨k, rfl⟩ : ∃ m, k = m + 1 := ⟨k - 1, by omega⟩
  simp only [gangplankref13_Step.l0]
  rw [if_neg (by omega)]
  unfold settle
  by_cases c : g > 0
  · rw [if_pos c, if_pos c]
    exact bind_of (refsettle_some ht hks k (by omega)) rfl
  · rw [if_neg c, if_neg c]
theorem refstep_loop (now : Int) (n : Nat) (hn : n ≤ 64) (hn0 : 0 < n) (f : Int) (N : Nat) (hN : N ≤ n) (d : Nat) : ∀ (k i : Nat) (t : List Ent) (g : Int), N - i = d → i ≤ N → d + 300 < k → t.length = n → Keys60 t → 0 ≤ g → g ≤ i →
    gangplankref13_Step.l0 k t (placeAt f n i) now (N : Int) g (i : Int) = some (settle (stepAll now (t, g) (upto (fun q => placeAt f n (i + q)) d)).1 (stepAll now (t, g) (upto (fun q => placeAt f n (i + q)) d)).2, placeAt f n N, (stepAll now (t, g) (upto (fun q => placeAt f n (i + q)) d)).2) := by
  induction d with
  | zero =>
    intro k i t g hd hi hk hl hks hg0 hg1
    obtain rfl : i = N := by omega
    exact refstep_end now t (by omega) hks _ g i k (by omega)
  | succ d ih =>
    intro k i t g hd hi hk hl hks hg0 hg1
    obtain ⟨k, rfl⟩ : ∃ m, k = m + 1 := ⟨k - 1, by omega⟩
    have r := placeAt_range (f := f) (n := n) i hn0
    have es : upto (fun q => placeAt f n (i + q)) (d + 1) = placeAt f n i :: upto (fun q => placeAt f n (i + 1 + q)) d := by
      rw [upto_cons]
      have : (fun q => placeAt f n (i + (q + 1))) = (fun q => placeAt f n (i + 1 + q)) := funext fun q => by rw [show i + (q + 1) = i + 1 + q by omega]
      rw [this]; rfl
    have e2 : stepAll now (t, g) (placeAt f n i :: upto (fun q => placeAt f n (i + 1 + q)) d) = stepAll now (stepOne now (t, g) (placeAt f n i)) (upto (fun q => placeAt f n (i + 1 + q)) d) := rfl
    rw [es, e2]
    have e1 : stepOne now (t, g) (placeAt f n i) = if overB now (rdE t (placeAt f n i)) = true then (t.set (placeAt f n i).toNat tombS, g + 1) else (t, g) := rfl
    rw [e1]
    have hs := placeAt_succ (f := f) hn0 i
    have hw : wrap64 (placeAt f n i + 1) = placeAt f n i + 1 := by unfold wrap64; omega
    simp only [gangplankref13_Step.l0]
    rw [if_pos (by omega), if_pos r.1, if_pos (by omega), hw, show wrap64 ((i : Int) + 1) = ((i + 1 : Nat) : Int) by unfold wrap64; omega, show wrap64 (g + 1) = g + 1 by unfold wrap64; omega]
    refine bind_of (refdue_some (rdE t (placeAt f n i)) now) ?_
    by_cases c : overB now (rdE t (placeAt f n i)) = true
    · rw [if_pos c, if_pos c]
      refine bind_of (bury_some (by omega) r.1 (by omega) k (by omega)) ?_
      have hl2 : (t.set (placeAt f n i).toNat tombS).length = n := by rw [List.length_set]; exact hl
      have h1 := ih k (i + 1) (t.set (placeAt f n i).toNat tombS) (g + 1) (by omega) (by omega) (by omega) hl2 (keys_put r.1 (by omega) hks (by decide)) (by omega) (by omega)
      rw [hs] at h1
      by_cases c2 : placeAt f n i + 1 = n
      · rw [if_pos (by rw [hl2]; exact c2)]
        rw [if_pos c2] at h1; exact h1
      · rw [if_neg (by rw [hl2]; exact c2)]
        rw [if_neg c2] at h1; exact h1
    · rw [if_neg c, if_neg c]
      have h1 := ih k (i + 1) t g (by omega) (by omega) (by omega) hl hks (by omega) (by omega)
      rw [hs] at h1
      by_cases c2 : placeAt f n i + 1 = n
      · rw [if_pos (by rw [hl]; exact c2)]
        rw [if_pos c2] at h1; exact h1
      · rw [if_neg (by rw [hl]; exact c2)]
        rw [if_neg c2] at h1; exact h1
theorem refstep_some {t : List Ent} (ht : t.length ≤ 64) (hks : Keys60 t) (f a now : Int) (k : Nat) (hk : 500 ≤ k) : gangplankref13_Step.f k t f a now = some (settle (swp now t f a).1 (swp now t f a).2, nxt f a t.length, (swp now t f a).2) := by
  have hN : mn (mx a 0) (t.length : Int) = (nOf a t.length : Int) := by
    unfold mn mx nOf
    split <;> split <;> omega
  have r := fvOf_range f t.length
  have hle := nOf_le a t.length
  have main : ∀ x : Int, x = fvOf f t.length → gangplankref13_Step.j1 (k - 1) t x a now = some (settle (swp now t f a).1 (swp now t f a).2, nxt f a t.length, (swp now t f a).2) := fun x hx => by
    subst hx
    obtain ⟨m, rfl⟩ : ∃ m, k = m + 2 := ⟨k - 2, by omega⟩
    show gangplankref13_Step.j1 (m + 1) t _ a now = _
    simp only [gangplankref13_Step.j1]
    rw [hN]
    by_cases c : 0 < t.length
    · have h1 := refstep_loop now t.length ht c (fvOf f t.length) (nOf a t.length) hle (nOf a t.length) m 0 t 0 (by omega) (by omega) (by omega) rfl hks (by omega) (by omega)
      rw [placeAt_zero r.1 (r.2.1 c)] at h1
      have e : (fun q => placeAt (fvOf f t.length) t.length (0 + q)) = placeAt (fvOf f t.length) t.length := funext fun q => by rw [Nat.zero_add]
      rw [e] at h1
      unfold swp nxt
      rw [if_pos c]; exact h1
    · have h0 : nOf a t.length = 0 := by omega
      have h1 := refstep_end now t ht hks (fvOf f t.length) 0 0 m (by omega)
      unfold swp nxt
      rw [h0, if_neg c]
      rw [r.2.2 (by omega)] at h1 ⊢
      exact h1
  obtain ⟨m, rfl⟩ : ∃ m, k = m + 1 := ⟨k - 1, by omega⟩
  unfold gangplankref13_Step.f
  by_cases c : f < 0
  · rw [if_pos c]
    simp only [gangplankref13_Step.j0]
    rw [if_pos (by trivial)]
    have := main 0 (by unfold fvOf; rw [if_pos (.inl c)])
    obtain ⟨q, rfl⟩ : ∃ q, m = q + 1 := ⟨m - 1, by omega⟩
    exact at_rounds (fun k => (gangplankref13_Step.mono_l k).2.1 _ _ _ _) (by omega) this
  · rw [if_neg c]
    by_cases c2 : f ≥ (t.length : Int)
    · rw [decide_eq_true c2]
      simp only [gangplankref13_Step.j0]
      rw [if_pos (by trivial)]
      exact main 0 (by unfold fvOf; rw [if_pos (.inr c2)])
    · rw [decide_eq_false c2]
      simp only [gangplankref13_Step.j0]
      rw [if_neg (by decide)]
      exact main f (by unfold fvOf; rw [if_neg (by omega)])
theorem SweepSteps : gangplanklaw13_SweepSteps.Pure := by
  intro t f a now _ _ _ _ _
  refine ⟨602, ?_⟩
  unfold gangplanklaw13_SweepSteps.f
  refine bind_of (works13 _ (by omega)) ?_
  rw [if_pos rfl]
  rcases few_cases2 t 602 (by omega) with h | ⟨h, ht, hks⟩
  · exact bind_of h (by rw [if_neg (by decide)])
  · refine bind_of h ?_
    rw [if_pos rfl]
    have ra : gangplankref13_All.f 602 t now = some (settle (swp now t 0 t.length).1 (swp now t 0 t.length).2, (swp now t 0 t.length).2) := by
      unfold gangplankref13_All.f
      exact bind_of (refstep_some ht hks 0 t.length now 602 (by omega)) rfl
    have l1 : ∀ f a, (settle (swp now t f a).1 (swp now t f a).2).length ≤ 1000000 := fun f a => by rw [left_len ht hks]; omega
    refine bind_of (step_some ht hks f a now) (bind_of (refstep_some ht hks f a now 602 (by omega)) (bind_of (all_some ht hks now) (bind_of ra ?_)))
    have hl1 := swp_len now t f a
    have hl2 := swp_len now t 0 t.length
    refine bind_of (same_refl _ (l1 f a) 602 (by rw [left_len ht hks]; omega)).1 ?_
    rw [if_pos rfl]
    refine bind_of (same_refl _ (l1 0 t.length) 602 (by rw [left_len ht hks]; omega)).1 ?_
    rw [if_pos rfl, if_pos (by trivial), if_pos (by trivial)]
    simp
end Go.Proofs.Ythdkkmeiihbafaa.Pure
