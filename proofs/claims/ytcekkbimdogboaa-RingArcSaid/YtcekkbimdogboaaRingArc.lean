/- The statement RingArc, over lists: two hashes between which there is no point. -/
import Derived.Test.YtcekkbimdogboaaPx4
import Derived.Test.YtcekkbimdogboaaRingKept
set_option linter.unusedVariables false
set_option linter.unusedSimpArgs false
namespace Go.Proofs.Ytcekkbimdogboaa.Pure
open Go.RowKit Go.Proofs.Ytcekkbimdogboaa.P Go.Proofs.YtcekkbimdogboaaW.PrintWords Go.Proofs.YtcekkbimdogboaaW.PrintLast Go.Proofs.Ytcekkbimdogboaa.Hand
open Go.Proofs.Ytcekkbimdogboaa.PointsLaw Go.Proofs.Ytcekkbimdogboaa.RingLaw
open Go.Proofs.Ytcekkbimdogboaa.PoolLaw (May check_zero)
theorem arc_skip (k : Nat) (p : List Bk) (h t : Int) : gangplanklaw10_RingArc.j0 (k + 1) p h t true true = some true := by
  simp only [gangplanklaw10_RingArc.j0]
  rw [if_pos (by trivial)]
theorem arc_loop (p : List Bk) (l : List Pt) (hl : l.length ≤ 2048) (h t g : Int) (g1 : ring_Pick.f p h = some (goesTo l h)) (g2 : ring_Pick.f p t = some (goesTo l t)) (g3 : ring_Succ.f l h = some (goesTo l h)) (ht : h ≤ t) : ∀ (d i k : Nat), l.length - i = d → i ≤ l.length → d < k → (∀ j (hj : j < l.length), j < i → ¬ (h ≤ l[j].f0 ∧ l[j].f0 < t)) →
    gangplanklaw10_RingArc.l0 k p h t true l (i : Int) = some true
  | d, i, k, hd, hi, hk, hno => by
    obtain ⟨k, rfl⟩ : ∃ m, k = m + 1 := ⟨k - 1, by omega⟩
    simp only [gangplanklaw10_RingArc.l0]
    by_cases c : i < l.length
    · obtain ⟨d, rfl⟩ : ∃ m, d = m + 1 := ⟨d - 1, by omega⟩
      have w : wrap64 ((i : Int) + 1) = ((i + 1 : Nat) : Int) := by unfold wrap64; omega
      have next : ¬ (h ≤ l[i].f0 ∧ l[i].f0 < t) → gangplanklaw10_RingArc.l0 k p h t true l ((i + 1 : Nat) : Int) = some true := fun hn =>
        arc_loop p l hl h t g g1 g2 g3 ht d (i + 1) k (by omega) (by omega) (by omega) fun j hj hji => by
          by_cases e : j = i
          · subst e; exact hn
          · exact hno j hj (by omega)
      rw [if_pos (by omega), if_pos (by omega), rdPt l i c, w]
      by_cases c1 : h ≤ l[i].f0
      · rw [if_pos c1]
        by_cases c2 : l[i].f0 < t
        · rw [if_pos c2]
        · rw [if_neg c2]
          exact next (by omega)
      · rw [if_neg c1]
        exact next (by omega)
    · have e : goesTo l h = goesTo l t := goes_arc l h t ht fun x hx => by
        obtain ⟨j, hj, rfl⟩ := List.mem_iff_getElem.1 hx
        exact hno j hj (by omega)
      rw [if_neg (by omega), if_pos (by trivial), g1, Option.bind_some, g2, Option.bind_some, if_pos e, g3, Option.bind_some, Option.bind_some, beq_self_eq_true]
theorem RingArc : gangplanklaw10_RingArc.Pure := by
  intro p h t hlen hok _ _
  refine ⟨3000, ?_⟩
  unfold gangplanklaw10_RingArc.f
  rw [works, Option.bind_some, if_pos rfl]
  by_cases c : (p.length : Int) > 8
  · rw [if_pos c]
    exact arc_skip 2999 p h t
  · have hwf : idsWf p = true := List.all_eq_true.2 fun x hx => (hok x hx).1
    have hpl := ofL_len p
    rw [if_neg c, show pool_Check.f p = some (checkL p) from if_pos ⟨by omega, hwf⟩, Option.bind_some]
    by_cases hz : checkL p = 0
    · rw [if_pos hz]
      by_cases hk : h ≤ t
      · rw [decide_eq_false (by omega)]
        obtain ⟨k, hk3⟩ : ∃ k, 3000 = k + 1 := ⟨2999, rfl⟩
        rw [hk3]
        simp only [gangplanklaw10_RingArc.j0]
        rw [if_neg (by decide), of_some p (by omega), Option.bind_some]
        exact arc_loop p (ofL p) (by omega) h t 0 (pick_some p h (by omega)) (pick_some p t (by omega)) (by rw [RingLaw.succ_some _ _ (by omega), pick_goes]) hk _ 0 k rfl (by omega) (by omega) fun j hj h0 => absurd h0 (by omega)
      · rw [decide_eq_true (by omega)]
        exact arc_skip 2999 p h t
    · rw [if_neg hz]
      exact arc_skip 2999 p h t
end Go.Proofs.Ytcekkbimdogboaa.Pure
