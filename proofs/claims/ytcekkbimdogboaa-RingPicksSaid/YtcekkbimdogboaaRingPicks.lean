/- The statement RingPicks, over lists: picks and moves are the reference's. -/
import Derived.Test.YtcekkbimdogboaaPx7
import Derived.Test.YtcekkbimdogboaaRingWorks
import Derived.Test.YtcekkbimdogboaaPointsRef
set_option linter.unusedVariables false
set_option linter.unusedSimpArgs false
namespace Go.Proofs.Ytcekkbimdogboaa.Pure
open Go.RowKit Go.Proofs.Ytcekkbimdogboaa.P Go.Proofs.YtcekkbimdogboaaW.PrintWords Go.Proofs.YtcekkbimdogboaaW.PrintLast Go.Proofs.Ytcekkbimdogboaa.Hand
open Go.Proofs.Ytcekkbimdogboaa.PointsLaw Go.Proofs.Ytcekkbimdogboaa.RingLaw
theorem rdI (xs : List Int) (i : Nat) (h : i < xs.length) : rd xs (i : Int) = xs[i] := by unfold rd; simp [h]
def headOr : List Pt → Int
  | [] => -1
  | x :: _ => x.f1
def goFrom (l m : List Pt) (h : Int) : Int := match m.find? (fun x => decide (h ≤ x.f0)) with
  | some x => x.f1
  | none => headOr l
theorem goes_from (l : List Pt) (h : Int) : goFrom l l h = goesTo l h := by cases l <;> rfl
theorem succ_loop (l : List Pt) (hl : l.length ≤ 100000) (h : Int) : ∀ (d i k : Nat), l.length - i = d → i ≤ l.length → d < k →
    gangplankref10_Succ.l0 k l h (i : Int) = some (goFrom l (l.drop i) h)
  | d, i, k, hd, hi, hk => by
    obtain ⟨k, rfl⟩ : ∃ m, k = m + 1 := ⟨k - 1, by omega⟩
    simp only [gangplankref10_Succ.l0]
    by_cases c : i < l.length
    · obtain ⟨d, rfl⟩ : ∃ m, d = m + 1 := ⟨d - 1, by omega⟩
      have w : wrap64 ((i : Int) + 1) = ((i + 1 : Nat) : Int) := by unfold wrap64; omega
      have ih := succ_loop l hl h d (i + 1) k (by omega) (by omega) (by omega)
      rw [if_pos (by omega), if_pos (by omega), rdPt l i c, w, ih, List.drop_eq_getElem_cons c]
      unfold goFrom
      rw [List.find?_cons]
      by_cases c1 : h ≤ l[i].f0
      · rw [if_pos c1, decide_eq_true c1]
      · rw [if_neg (by omega), decide_eq_false c1]
    · rw [if_neg (by omega), List.drop_of_length_le (by omega)]
      unfold goFrom
      rw [List.find?_nil]
      cases l with
      | nil => rfl
      | cons x l =>
        rw [if_neg (by rw [List.length_cons]; omega), if_pos (by rw [List.length_cons]; omega)]
        rfl
theorem refSucc (l : List Pt) (hl : l.length ≤ 100000) (h : Int) (k : Nat) (hk : l.length < k) : gangplankref10_Succ.f k l h = some (goesTo l h) := by
  rw [← goes_from]
  exact succ_loop l hl h l.length 0 k rfl (by omega) hk
/-- The reference's places so far. -/
theorem refmoved_loop (a b : List Pt) (ha : a.length ≤ 1024) (hb : b.length ≤ 1024) (hs : List Int) (hl : hs.length ≤ 20) (sa : ∀ h, succL a h = goesTo a h) (sb : ∀ h, succL b h = goesTo b h) (K : Nat) (hK : 1100 ≤ K) : ∀ (d i k : Nat), hs.length - i = d → i ≤ hs.length → d + K < k →
    gangplankref10_Moved.l0 k hs a b (mvL ((bothL a b hs).take i)) (i : Int) = some (mvL (bothL a b hs))
  | d, i, k, hd, hi, hk => by
    obtain ⟨k, rfl⟩ : ∃ m, k = m + 1 := ⟨k - 1, by omega⟩
    simp only [gangplankref10_Moved.l0]
    by_cases c : i < hs.length
    · obtain ⟨d, rfl⟩ : ∃ m, d = m + 1 := ⟨d - 1, by omega⟩
      have w : wrap64 ((i : Int) + 1) = ((i + 1 : Nat) : Int) := by unfold wrap64; omega
      have ih := refmoved_loop a b ha hb hs hl sa sb K hK d (i + 1) k (by omega) (by omega) (by omega)
      have hm := mvL_len ((bothL a b hs).take i)
      rw [List.length_take] at hm
      have e : mvL ((bothL a b hs).take (i + 1)) = mvL ((bothL a b hs).take i) ++ (if goesTo a hs[i] = goesTo b hs[i] then [] else [(i : Int)]) := by
        rw [bothL_take a b hs i c]
        unfold mvL
        rw [List.filter_append, List.map_append]
        congr 1
        have hg : hs.getD i 0 = hs[i] := by simp [c]
        have eb : bothAt a b hs i = ((i : Int), goesTo a hs[i], goesTo b hs[i]) := by unfold bothAt; rw [hg, sa, sb]
        rw [eb]
        by_cases hq : goesTo a hs[i] = goesTo b hs[i]
        · rw [if_pos hq]; simp [hq]
        · rw [if_neg hq]; simp [hq]
      rw [if_pos (by omega), if_pos (by omega), rdI hs i c, refSucc a (by omega) _ k (by omega), Option.bind_some, refSucc b (by omega) _ k (by omega), Option.bind_some, w]
      by_cases hq : goesTo a hs[i] = goesTo b hs[i]
      · rw [if_pos hq, List.append_nil] at e
        rw [if_pos hq, ← e]
        exact ih
      · rw [if_neg hq] at e
        rw [if_neg hq, if_pos (by omega), ← e]
        exact ih
    · rw [if_neg (by omega), List.take_of_length_le (by rw [bothL_len]; omega)]
theorem ints_loop (a : List Int) (ha : a.length ≤ 1000) : ∀ (d i k : Nat), a.length - i = d → i ≤ a.length → d < k → gangplankref08_Ints.l0 k a a (i : Int) = some true
  | d, i, k, hd, hi, hk => by
    obtain ⟨k, rfl⟩ : ∃ m, k = m + 1 := ⟨k - 1, by omega⟩
    simp only [gangplankref08_Ints.l0]
    by_cases c : i < a.length
    · obtain ⟨d, rfl⟩ : ∃ m, d = m + 1 := ⟨d - 1, by omega⟩
      have w : wrap64 ((i : Int) + 1) = ((i + 1 : Nat) : Int) := by unfold wrap64; omega
      rw [if_pos (by omega), if_pos (by omega), if_pos (by omega), if_pos (by trivial), w]
      exact ints_loop a ha d (i + 1) k (by omega) (by omega) (by omega)
    · rw [if_neg (by omega)]
theorem ints_same (a : List Int) (ha : a.length ≤ 1000) (k : Nat) (hk : a.length < k) : gangplankref08_Ints.f k a a = some true := by
  unfold gangplankref08_Ints.f
  rw [if_pos rfl]
  exact ints_loop a ha _ 0 k rfl (by omega) (by omega)
theorem picks_skip (k : Nat) (p q : List Bk) (h : Int) (hs : List Int) : gangplanklaw10_RingPicks.j0 (k + 1) p q h hs true true = some true := by
  simp only [gangplanklaw10_RingPicks.j0]
  rw [if_pos (by trivial)]
theorem RingPicks : gangplanklaw10_RingPicks.Pure := by
  intro p q h hs _ _ _ _ _ _ _ _ _ _
  by_cases c : (p.length : Int) > 8
  · refine ⟨1, ?_⟩
    unfold gangplanklaw10_RingPicks.f
    rw [works, Option.bind_some, if_pos rfl, if_pos c]
    exact picks_skip 0 p q h hs
  by_cases c2 : (q.length : Int) > 8
  · refine ⟨1, ?_⟩
    unfold gangplanklaw10_RingPicks.f
    rw [works, Option.bind_some, if_pos rfl, if_neg c, if_pos c2]
    exact picks_skip 0 p q h hs
  by_cases c3 : (hs.length : Int) > 20
  · refine ⟨1, ?_⟩
    unfold gangplanklaw10_RingPicks.f
    rw [works, Option.bind_some, if_pos rfl, if_neg c, if_neg c2, decide_eq_true c3]
    exact picks_skip 0 p q h hs
  obtain ⟨K1, hK1⟩ := ref_of p (by omega)
  obtain ⟨K2, hK2⟩ := ref_of q (by omega)
  have h1 : ∀ k, K1 ≤ k → gangplankref09_Of.f k p = some (ofL p) := hK1
  have h2 : ∀ k, K2 ≤ k → gangplankref09_Of.f k q = some (ofL q) := hK2
  have l1 := ofL_len p
  have l2 := ofL_len q
  refine ⟨K1 + K2 + 3000 + 1, ?_⟩
  unfold gangplanklaw10_RingPicks.f
  rw [works, Option.bind_some, if_pos rfl, if_neg c, if_neg c2, decide_eq_false c3]
  simp only [gangplanklaw10_RingPicks.j0]
  have hm := mvL_len (bothL (ofL p) (ofL q) hs)
  rw [bothL_len] at hm
  have hr : gangplankref10_Moved.f (K1 + K2 + 3000) p q hs = some (mvL (bothL (ofL p) (ofL q) hs)) := by
    unfold gangplankref10_Moved.f
    rw [h1 _ (by omega), Option.bind_some, h2 _ (by omega), Option.bind_some]
    have hl := refmoved_loop (ofL p) (ofL q) (by omega) (by omega) hs (by omega) (fun h => pick_goes p h) (fun h => pick_goes q h) 2000 (by omega) hs.length 0 (K1 + K2 + 3000) rfl (by omega) (by omega)
    rw [List.take_zero] at hl
    exact hl
  have hp : gangplankref10_Pick.f (K1 + K2 + 3000) p h = some (goesTo (ofL p) h) := by
    unfold gangplankref10_Pick.f
    rw [h1 _ (by omega), Option.bind_some, refSucc _ (by omega) _ _ (by omega), Option.bind_some]
  rw [if_neg (by decide), moved_some p q hs (by omega) (by omega) (by omega), Option.bind_some, hr, Option.bind_some, ints_same _ (by omega) _ (by omega), Option.bind_some, if_pos (by trivial), pick_some p h (by omega), Option.bind_some, hp, Option.bind_some, if_pos rfl]
end Go.Proofs.Ytcekkbimdogboaa.Pure
