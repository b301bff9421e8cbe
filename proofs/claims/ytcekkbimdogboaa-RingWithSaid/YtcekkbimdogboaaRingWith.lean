/- The statement RingWith, over lists: with a backend more just those move that go to it. -/
import Derived.Test.YtcekkbimdogboaaPx4
import Derived.Test.YtcekkbimdogboaaRingWorks
import Derived.Test.YtcekkbimdogboaaPoolCheck
set_option linter.unusedVariables false
set_option linter.unusedSimpArgs false
namespace Go.Proofs.Ytcekkbimdogboaa.Pure
open Go.RowKit Go.Proofs.Ytcekkbimdogboaa.P Go.Proofs.YtcekkbimdogboaaW.PrintWords Go.Proofs.YtcekkbimdogboaaW.PrintLast Go.Proofs.Ytcekkbimdogboaa.Hand
open Go.Proofs.Ytcekkbimdogboaa.PointsLaw Go.Proofs.Ytcekkbimdogboaa.RingLaw
open Go.Proofs.Ytcekkbimdogboaa.PoolLaw (May check_zero find_neg find_some)
theorem not_pts (id : Int) : ∀ ps : List Bk, (∀ b ∈ ps, b.f0 ≠ id) → ((ptsT ps).map ptOf).filter (notOf id) = (ptsT ps).map ptOf := fun ps h => by
  rw [List.filter_eq_self]
  intro x hx
  obtain ⟨y, hy, rfl⟩ := List.mem_map.1 hx
  obtain ⟨b, hb, hy⟩ := List.mem_flatMap.1 hy
  have e := ptsL_id b y hy
  have hn := h b hb
  simp [notOf, ptOf, e, hn]
theorem with_filter (ps : List Bk) (a b : Int) (h : ∀ x ∈ ps, x.f0 ≠ a) : (ofL (ps ++ [⟨a, b⟩])).filter (notOf a) = ofL ps := by
  refine ofL_unique ps _ ?_ ((ofL_sorted _).filter _)
  refine ((ofL_perm (ps ++ [⟨a, b⟩])).filter (notOf a)).trans ?_
  have e : ptsT (ps ++ [(⟨a, b⟩ : Bk)]) = ptsT ps ++ ptsL ⟨a, b⟩ := by simp [ptsT]
  have h2 : ((ptsL (⟨a, b⟩ : Bk)).map ptOf).filter (notOf a) = [] := by
    rw [List.filter_eq_nil_iff]
    intro x hx
    obtain ⟨y, hy, rfl⟩ := List.mem_map.1 hx
    have e := ptsL_id _ y hy
    simp [notOf, ptOf, e]
  rw [e, List.map_append, List.filter_append, not_pts a ps h, h2, List.append_nil]
theorem with_skip (k : Nat) (p : List Bk) (h : Int) (w : List Bk) (a b : Int) : gangplanklaw10_RingWith.j0 (k + 1) p h true w true a b = some true := by
  simp only [gangplanklaw10_RingWith.j0]
  rw [if_pos (by trivial)]
theorem RingWith : gangplanklaw10_RingWith.Pure := by
  intro p a b h hlen hsz hok ha hb _
  refine ⟨1, ?_⟩
  unfold gangplanklaw10_RingWith.f
  rw [works, Option.bind_some, if_pos rfl, show pool_With.f p a b = some (withL p a b) from if_pos (by omega), Option.bind_some]
  by_cases c : (p.length : Int) > 8
  · rw [if_pos c]
    exact with_skip 0 p h _ a b
  rw [if_neg c]
  have hwf : idsWf p = true := List.all_eq_true.2 fun x hx => (hok x hx).1
  rw [show pool_Check.f p = some (checkL p) from if_pos ⟨by omega, hwf⟩, Option.bind_some]
  by_cases hz : checkL p = 0
  · rw [if_pos hz]
    have hM := (check_zero p).1 hz
    by_cases hf : findL p a < 0
    · have hw : withL p a b = p ++ [⟨a, b⟩] := by unfold withL; rw [if_pos hf]
      have hn := (find_neg p a).1 hf
      have hlw : (p ++ [(⟨a, b⟩ : Bk)]).length ≤ 9 := by rw [List.length_append, List.length_singleton]; omega
      have hwf2 : idsWf (p ++ [⟨a, b⟩]) = true := List.all_eq_true.2 fun x hx => by
        rcases List.mem_append.1 hx with hx | hx
        · exact (hok x hx).1
        · rw [List.mem_singleton.1 hx]; exact ha
      rw [hw, show pool_Check.f (p ++ [⟨a, b⟩]) = some (checkL (p ++ [⟨a, b⟩])) from if_pos ⟨by omega, hwf2⟩, Option.bind_some]
      by_cases hz2 : checkL (p ++ [⟨a, b⟩]) = 0
      · rw [if_pos hz2, find_some p (by omega), Option.bind_some, decide_eq_false (by omega)]
        have hg := goes_without a (ofL (p ++ [⟨a, b⟩])) h
        rw [with_filter p a b hn] at hg
        simp only [gangplanklaw10_RingWith.j0]
        rw [if_neg (by decide), pick_some p h (by omega), Option.bind_some, pick_some _ h (by omega), Option.bind_some, if_pos (by trivial)]
        rcases hg with e | e
        · rw [if_pos e.symm]
        · rw [e, beq_self_eq_true]
          split <;> rfl
      · rw [if_neg hz2]
        exact with_skip 0 p h _ a b
    · have hi := find_some p (by omega) a
      have ht : decide (findL p a ≥ 0) = true := decide_eq_true (by omega)
      have hlw : (withL p a b).length = p.length := by unfold withL; rw [if_neg hf, List.length_set]
      have hwf2 : idsWf (withL p a b) = true := List.all_eq_true.2 fun x hx => by
        unfold withL at hx
        rw [if_neg hf] at hx
        rcases List.mem_or_eq_of_mem_set hx with hx | hx
        · exact (hok x hx).1
        · rw [hx]; exact ha
      rw [show pool_Check.f (withL p a b) = some (checkL (withL p a b)) from if_pos ⟨by omega, hwf2⟩, Option.bind_some]
      by_cases hz2 : checkL (withL p a b) = 0
      · rw [if_pos hz2, hi, Option.bind_some, ht]
        exact with_skip 0 p h _ a b
      · rw [if_neg hz2]
        exact with_skip 0 p h _ a b
  · rw [if_neg hz]
    exact with_skip 0 p h _ a b
end Go.Proofs.Ytcekkbimdogboaa.Pure
