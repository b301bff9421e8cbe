/- The statement RingSucc, over lists: where a hash goes to. -/
import Derived.Test.YtcekkbimdogboaaPx4
import Derived.Test.YtcekkbimdogboaaRingWorks
set_option linter.unusedVariables false
set_option linter.unusedSimpArgs false
namespace Go.Proofs.Ytcekkbimdogboaa.Pure
open Go.RowKit Go.Proofs.Ytcekkbimdogboaa.P Go.Proofs.YtcekkbimdogboaaW.PrintWords Go.Proofs.YtcekkbimdogboaaW.PrintLast Go.Proofs.Ytcekkbimdogboaa.Hand
open Go.Proofs.Ytcekkbimdogboaa.PointsLaw Go.Proofs.Ytcekkbimdogboaa.RingLaw
theorem rises_loop (l : List Pt) (hl : l.length ≤ 300) : ∀ (d i k : Nat), l.length - i = d → 1 ≤ i → d < k →
    ∃ r, gangplankref10_Rises.l0 k l (i : Int) = some r ∧ (r = false → 0 < l.length) ∧ (r = true → ∀ j (hj : j < l.length), i ≤ j → (l[j - 1]'(by omega)).f0 ≤ l[j].f0)
  | d, i, k, hd, hi, hk => by
    obtain ⟨k, rfl⟩ : ∃ m, k = m + 1 := ⟨k - 1, by omega⟩
    simp only [gangplankref10_Rises.l0]
    by_cases h : i < l.length
    · obtain ⟨d, rfl⟩ : ∃ m, d = m + 1 := ⟨d - 1, by omega⟩
      have w : wrap64 ((i : Int) + 1) = ((i + 1 : Nat) : Int) := by unfold wrap64; omega
      have w' : wrap64 ((i : Int) - 1) = ((i - 1 : Nat) : Int) := by unfold wrap64; omega
      rw [if_pos (by omega), if_pos (by omega), w', if_pos (by omega), if_pos (by omega), rdPt l i h, rdPt l (i - 1) (by omega), w]
      obtain ⟨r, e, h1, h2⟩ := rises_loop l hl d (i + 1) k (by omega) (by omega) (by omega)
      have more : (l[i - 1]'(by omega)).f0 ≤ l[i].f0 → (r = true → ∀ j (hj : j < l.length), i ≤ j → (l[j - 1]'(by omega)).f0 ≤ l[j].f0) := fun c hr j hj hij => by
        by_cases hji : i = j
        · subst hji; exact c
        · exact h2 hr j hj (by omega)
      unfold gangplankref09_Less.f
      by_cases c1 : l[i].f0 < (l[i - 1]'(by omega)).f0
      · rw [if_pos c1, Option.bind_some, if_pos rfl]
        exact ⟨false, rfl, fun _ => by omega, fun h => by simp at h⟩
      · rw [if_neg c1]
        by_cases c2 : l[i].f0 = (l[i - 1]'(by omega)).f0
        · rw [if_pos c2, Option.bind_some]
          by_cases c3 : l[i].f1 < (l[i - 1]'(by omega)).f1
          · rw [decide_eq_true c3, if_pos rfl]
            exact ⟨false, rfl, fun _ => by omega, fun h => by simp at h⟩
          · rw [decide_eq_false c3, if_neg (by decide)]
            exact ⟨r, e, h1, more (by omega)⟩
        · rw [if_neg c2, Option.bind_some, if_neg (by decide)]
          exact ⟨r, e, h1, more (by omega)⟩
    · rw [if_neg (by omega)]
      exact ⟨true, rfl, fun h => by simp at h, fun _ j hj hij => by omega⟩
def headOr : List Pt → Int
  | [] => -1
  | x :: _ => x.f1
def goFrom (l m : List Pt) (h : Int) : Int := match m.find? (fun x => decide (h ≤ x.f0)) with
  | some x => x.f1
  | none => headOr l
theorem goes_from (l : List Pt) (h : Int) : goFrom l l h = goesTo l h := by cases l <;> rfl
theorem succ_loop (l : List Pt) (hl : l.length ≤ 100000) (h : Int) : ∀ (d i k : Nat), l.length - i = d → i ≤ l.length → d < k →
    gangplankref10_Succ.l0 k l h (i : Int) = some (goFrom l (l.drop i) h)
  | d, i, k, hd, hi, hk => by
    obtain ⟨k, rfl⟩ : ∃ m, k = m + 1 := ⟨k - 1, by omega⟩
    simp only [gangplankref10_Succ.l0]
    by_cases c : i < l.length
    · obtain ⟨d, rfl⟩ : ∃ m, d = m + 1 := ⟨d - 1, by omega⟩
      have w : wrap64 ((i : Int) + 1) = ((i + 1 : Nat) : Int) := by unfold wrap64; omega
      have ih := succ_loop l hl h d (i + 1) k (by omega) (by omega) (by omega)
      rw [if_pos (by omega), if_pos (by omega), rdPt l i c, w, ih, List.drop_eq_getElem_cons c]
      unfold goFrom
      rw [List.find?_cons]
      by_cases c1 : h ≤ l[i].f0
      · rw [if_pos c1, decide_eq_true c1]
      · rw [if_neg (by omega), decide_eq_false c1]
    · rw [if_neg (by omega), List.drop_of_length_le (by omega)]
      unfold goFrom
      rw [List.find?_nil]
      cases l with
      | nil => rfl
      | cons x l =>
        rw [if_neg (by rw [List.length_cons]; omega), if_pos (by rw [List.length_cons]; omega)]
        rfl
theorem refSucc (l : List Pt) (hl : l.length ≤ 100000) (h : Int) (k : Nat) (hk : l.length < k) : gangplankref10_Succ.f k l h = some (goesTo l h) := by
  rw [← goes_from]
  exact succ_loop l hl h l.length 0 k rfl (by omega) hk
theorem in_loop (l : List Pt) (hl : l.length ≤ 300) (s : Int) (n : Nat) (hn : n < l.length) (hs : s = l[n].f1) : ∀ (d i k : Nat) (b : Bool), l.length - i = d → i ≤ l.length → d < k → (b = true ∨ i ≤ n) →
    gangplanklaw10_RingSucc.l0 k l true s b (i : Int) = some true
  | d, i, k, b, hd, hi, hk, hb => by
    obtain ⟨k, rfl⟩ : ∃ m, k = m + 1 := ⟨k - 1, by omega⟩
    simp only [gangplanklaw10_RingSucc.l0]
    by_cases c : i < l.length
    · obtain ⟨d, rfl⟩ : ∃ m, d = m + 1 := ⟨d - 1, by omega⟩
      have w : wrap64 ((i : Int) + 1) = ((i + 1 : Nat) : Int) := by unfold wrap64; omega
      rw [if_pos (by omega), w]
      cases b with
      | true =>
        rw [if_pos rfl]
        exact in_loop l hl s n hn hs d (i + 1) k true (by omega) (by omega) (by omega) (.inl rfl)
      | false =>
        rw [if_neg (by decide), if_pos (by omega), rdPt l i c]
        refine in_loop l hl s n hn hs d (i + 1) k _ (by omega) (by omega) (by omega) ?_
        by_cases e : i = n
        · subst e
          left
          rw [hs, beq_self_eq_true]
        · right
          rcases hb with hb | hb
          · cases hb
          · omega
    · rw [if_neg (by omega), if_pos trivial]
      rcases hb with hb | hb
      · rw [hb]
      · omega
theorem up_of_steps (l : List Pt) (h : ∀ j (hj : j < l.length), 1 ≤ j → (l[j - 1]'(by omega)).f0 ≤ l[j].f0) : ∀ (d i j : Nat) (_ : j - i = d) (hij : i ≤ j) (hj : j < l.length), (l[i]'(Nat.lt_of_le_of_lt hij hj)).f0 ≤ l[j].f0
  | 0, i, j, hd, hij, hj => by
    obtain rfl : i = j := by omega
    exact Int.le_refl _
  | d + 1, i, j, hd, hij, hj => by
    have a := up_of_steps l h d i (j - 1) (by omega) (by omega) (by omega)
    have b := h j hj (by omega)
    exact Int.le_trans a b
theorem RingSucc : gangplanklaw10_RingSucc.Pure := by
  intro l h _ _ _
  refine ⟨1000, ?_⟩
  unfold gangplanklaw10_RingSucc.f
  rw [works, Option.bind_some, if_pos rfl]
  by_cases c : (l.length : Int) > 300
  · rw [if_pos c]
  · have hl : l.length ≤ 300 := by omega
    obtain ⟨r, e, h1, h2⟩ := rises_loop l hl _ 1 1000 rfl (by omega) (by omega)
    rw [if_neg c, succ_some l h (by omega), Option.bind_some, show gangplankref10_Rises.f 1000 l = some r from e, Option.bind_some]
    cases r with
    | true =>
      rw [if_pos rfl, refSucc l (by omega) h 1000 (by omega), Option.bind_some, succ_goes l (fun i j hij hj => up_of_steps l (fun j hj h1 => h2 rfl j hj h1) _ i j rfl hij hj) h, beq_self_eq_true]
    | false =>
      have hn : l ≠ [] := List.ne_nil_of_length_pos (h1 rfl)
      obtain ⟨i, hi, hs⟩ := succ_mem l h hn
      rw [if_neg (by decide)]
      exact in_loop l hl _ i hi hs _ 0 1000 false rfl (by omega) (by omega) (.inr (by omega))
end Go.Proofs.Ytcekkbimdogboaa.Pure
