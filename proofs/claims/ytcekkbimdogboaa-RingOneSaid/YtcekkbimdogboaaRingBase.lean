/- Where hashes go to, on rings of points, as plain lists: a binary search, the first point, rings with and without a backend. -/
import Derived.Test.YtcekkbimdogboaaPx3
import Derived.Test.YtcekkbimdogboaaPx2
import Derived.Test.YtcekkbimdogboaaPointsBase
set_option linter.unusedVariables false
set_option linter.unusedSimpArgs false
namespace Go.Proofs.Ytcekkbimdogboaa.RingLaw
open Go.RowKit Go.Proofs.Ytcekkbimdogboaa.P Go.Proofs.YtcekkbimdogboaaW.PrintWords Go.Proofs.YtcekkbimdogboaaW.PrintLast Go.Proofs.Ytcekkbimdogboaa.Hand
open Go.Proofs.Ytcekkbimdogboaa.PointsLaw
theorem srch_spec (p : Nat → Bool) (n : Nat) (mono : ∀ a b, a ≤ b → b < n → p a = true → p b = true) : ∀ f i j, j - i ≤ f → i ≤ j → j ≤ n → (∀ a, a < i → p a = false) → (∀ a, j ≤ a → a < n → p a = true) →
    srch p f i j ≤ n ∧ (∀ a, a < srch p f i j → p a = false) ∧ (∀ a, srch p f i j ≤ a → a < n → p a = true)
  | 0, i, j, hf, hij, hjn, h1, h2 => by
    obtain rfl : i = j := by omega
    exact ⟨hjn, h1, h2⟩
  | f + 1, i, j, hf, hij, hjn, h1, h2 => by
    unfold srch
    by_cases h : i < j
    · rw [if_pos h]
      cases hm : p ((i + j) / 2) with
      | true =>
        rw [if_pos rfl]
        exact srch_spec p n mono f i _ (by omega) (by omega) (by omega) h1 (fun a ha hn => mono _ _ ha hn hm)
      | false =>
        rw [if_neg (by decide)]
        refine srch_spec p n mono f _ j (by omega) (by omega) hjn (fun a ha => ?_) h2
        cases ht : p a with
        | false => rfl
        | true =>
          have := mono a ((i + j) / 2) (by omega) (by omega) ht
          rw [hm] at this
          cases this
    · rw [if_neg h]
      obtain rfl : i = j := by omega
      exact ⟨hjn, h1, h2⟩
/-- The first point that does not stand ahead of a hash, or the first one. -/
def goesTo (l : List Pt) (h : Int) : Int := match l.find? (fun x => decide (h ≤ x.f0)) with
  | some x => x.f1
  | none => match l with
    | [] => -1
    | x :: _ => x.f1
theorem succ_goes (l : List Pt) (hu : ∀ i j (hij : i ≤ j) (hj : j < l.length), (l[i]'(Nat.lt_of_le_of_lt hij hj)).f0 ≤ l[j].f0) (h : Int) : succL l h = goesTo l h := by
  unfold succL goesTo
  cases hl : l with
  | nil => simp
  | cons x0 l0 =>
    rw [← hl]
    have hn : 0 < l.length := by rw [hl]; simp
    rw [if_neg (by omega)]
    have gp : ∀ i (hi : i < l.length), geP l h i = decide (h ≤ l[i].f0) := fun i hi => by unfold geP; simp [hi]
    obtain ⟨s1, s2, s3⟩ := srch_spec (geP l h) l.length (fun a b hab hb ha => by
      rw [gp a (by omega)] at ha
      rw [gp b hb]
      have := hu a b hab hb
      simp at ha ⊢
      omega) l.length 0 l.length (by omega) (by omega) (Nat.le_refl _) (fun a ha => by omega) (fun a h1 h2 => by omega)
    obtain ⟨m, hm⟩ : ∃ m, srch (geP l h) l.length 0 l.length = m := ⟨_, rfl⟩
    rw [hm] at s1 s2 s3 ⊢
    by_cases hmn : m < l.length
    · have hf : l.find? (fun x => decide (h ≤ x.f0)) = some l[m] := by
        rw [List.find?_eq_some_iff_getElem]
        refine ⟨by have := s3 m (Nat.le_refl _) hmn; rwa [gp m hmn] at this, m, hmn, rfl, fun j hj => ?_⟩
        have := s2 j hj
        rw [gp j (by omega)] at this
        simp [this]
      rw [hf, Nat.mod_eq_of_lt hmn]
      simp [hmn]
    · obtain rfl : m = l.length := by omega
      have hf : l.find? (fun x => decide (h ≤ x.f0)) = none := by
        rw [List.find?_eq_none]
        intro x hx
        obtain ⟨j, hj, rfl⟩ := List.mem_iff_getElem.1 hx
        have := s2 j hj
        rw [gp j hj] at this
        simp [this]
      rw [hf, Nat.mod_self, hl]
      rfl
theorem up_ofL (ps : List Bk) : ∀ i j (hij : i ≤ j) (hj : j < (ofL ps).length), ((ofL ps)[i]'(Nat.lt_of_le_of_lt hij hj)).f0 ≤ (ofL ps)[j].f0 := fun i j hij hj => by
  by_cases e : i = j
  · subst e; exact Int.le_refl _
  · have h := List.pairwise_iff_getElem.1 (ofL_sorted ps) i j (by omega) hj (by omega)
    rw [leP_iff] at h
    omega
theorem pick_goes (ps : List Bk) (h : Int) : succL (ofL ps) h = goesTo (ofL ps) h := succ_goes _ (up_ofL ps) h
theorem goes_mem (l : List Pt) (h : Int) (hn : l ≠ []) : ∃ x ∈ l, goesTo l h = x.f1 := by
  unfold goesTo
  cases hf : l.find? (fun x => decide (h ≤ x.f0)) with
  | some x => exact ⟨x, List.mem_of_find?_eq_some hf, rfl⟩
  | none =>
    cases l with
    | nil => exact absurd rfl hn
    | cons x l => exact ⟨x, List.mem_cons_self, rfl⟩
theorem succ_mem (l : List Pt) (h : Int) (hn : l ≠ []) : ∃ i, ∃ hi : i < l.length, succL l h = l[i].f1 := by
  have h0 : 0 < l.length := List.length_pos_iff.2 hn
  unfold succL
  rw [if_neg (by omega)]
  have := Nat.mod_lt (srch (geP l h) l.length 0 l.length) h0
  exact ⟨_, this, by simp [this]⟩
theorem ofL_ne {p : List Bk} (hM : ∀ b ∈ p, 1 ≤ b.f1) (hp : p ≠ []) : ofL p ≠ [] := by
  intro h
  cases p with
  | nil => exact hp rfl
  | cons b p =>
    have hw := hM b List.mem_cons_self
    have hl := congrArg List.length h
    rw [ofL_length] at hl
    have e : ptsT (b :: p) = ptsL b ++ ptsT p := by simp [ptsT]
    rw [e, List.length_append, ptsL_length] at hl
    have : 0 < cntL b := by unfold cntL; omega
    simp at hl
    omega
theorem ofL_nil : ofL [] = [] := by simp [ofL, srtL, ptsT]
theorem goes_in {p : List Bk} (hM : ∀ b ∈ p, 1 ≤ b.f1) (hp : p ≠ []) (h : Int) : ∃ b ∈ p, goesTo (ofL p) h = b.f0 := by
  obtain ⟨x, hx, e⟩ := goes_mem (ofL p) h (ofL_ne hM hp)
  obtain ⟨b, hb, n, _, rfl⟩ := ofL_ids p x hx
  exact ⟨b, hb, e⟩
theorem goes_arc (l : List Pt) (h k : Int) (hk : h ≤ k) (hno : ∀ x ∈ l, ¬ (h ≤ x.f0 ∧ x.f0 < k)) : goesTo l h = goesTo l k := by
  have e : ∀ l : List Pt, (∀ x ∈ l, ¬ (h ≤ x.f0 ∧ x.f0 < k)) → l.find? (fun x => decide (h ≤ x.f0)) = l.find? (fun x => decide (k ≤ x.f0)) := by
    intro l hl
    induction l with
    | nil => rfl
    | cons x l ih =>
      have hx := hl x List.mem_cons_self
      have e : decide (h ≤ x.f0) = decide (k ≤ x.f0) := decide_eq_decide.2 ⟨fun a => by omega, fun a => by omega⟩
      rw [List.find?_cons, List.find?_cons, e, ih fun y hy => hl y (List.mem_cons_of_mem _ hy)]
  unfold goesTo
  rw [e l hno]
theorem mem_mvL (la lb : List Pt) (hs : List Int) (x : Int) : x ∈ mvL (bothL la lb hs) ↔ ∃ i, i < hs.length ∧ x = (i : Int) ∧ succL la (hs.getD i 0) ≠ succL lb (hs.getD i 0) := by
  unfold mvL bothL
  simp only [List.mem_map, List.mem_filter, List.mem_range, bne_iff_ne]
  constructor
  · rintro ⟨y, ⟨⟨i, hi, rfl⟩, hne⟩, rfl⟩
    exact ⟨i, hi, rfl, hne⟩
  · rintro ⟨i, hi, rfl, hne⟩
    exact ⟨bothAt la lb hs i, ⟨⟨i, hi, rfl⟩, hne⟩, rfl⟩
theorem mvL_up (la lb : List Pt) (hs : List Int) : (mvL (bothL la lb hs)).Pairwise (· < ·) := by
  unfold mvL bothL
  rw [List.pairwise_map]
  apply List.Pairwise.filter
  rw [List.pairwise_map]
  exact List.pairwise_lt_range.imp fun h => by simp only [bothAt]; omega
/-- The first point with a hash is where the hash goes to. -/
theorem goes_at (l : List Pt) (hu : ∀ i j (hij : i ≤ j) (hj : j < l.length), (l[i]'(Nat.lt_of_le_of_lt hij hj)).f0 ≤ l[j].f0) (n : Nat) (hn : n < l.length) (h1 : ∀ h0 : 0 < n, (l[n - 1]'(by omega)).f0 ≠ l[n].f0) : goesTo l l[n].f0 = l[n].f1 := by
  have hf : l.find? (fun x => decide (l[n].f0 ≤ x.f0)) = some l[n] := by
    rw [List.find?_eq_some_iff_getElem]
    refine ⟨by simp, n, hn, rfl, fun j hj => ?_⟩
    have a := hu j (n - 1) (by omega) (by omega)
    have b := hu (n - 1) n (by omega) hn
    have c := h1 (by omega)
    simp
    omega
  unfold goesTo
  rw [hf]
/-- WITHOUT A BACKEND'S POINTS a hash goes where it went, unless it went to it. -/
theorem goes_without (id : Int) (l : List Pt) (h : Int) : goesTo (l.filter (notOf id)) h = goesTo l h ∨ goesTo l h = id := by
  have hfind : ∀ l : List Pt, (∃ x, l.find? (fun x => decide (h ≤ x.f0)) = some x ∧ x.f1 = id) ∨ (l.filter (notOf id)).find? (fun x => decide (h ≤ x.f0)) = l.find? (fun x => decide (h ≤ x.f0)) := by
    intro l
    induction l with
    | nil => exact .inr rfl
    | cons x l ih =>
      by_cases hx : h ≤ x.f0
      · by_cases hid : x.f1 = id
        · exact .inl ⟨x, by simp [hx], hid⟩
        · right
          simp [notOf, hid, hx]
      · by_cases hid : x.f1 = id
        · rcases ih with ⟨y, h1, h2⟩ | h1
          · exact .inl ⟨y, by simp [hx, h1], h2⟩
          · exact .inr (by simp [notOf, hid, hx]; simpa [notOf] using h1)
        · rcases ih with ⟨y, h1, h2⟩ | h1
          · exact .inl ⟨y, by simp [hx, h1], h2⟩
          · exact .inr (by simp [notOf, hid, hx]; simpa [notOf] using h1)
  rcases hfind l with ⟨x, h1, h2⟩ | h1
  · right
    unfold goesTo
    rw [h1]
    exact h2
  · unfold goesTo
    rw [h1]
    cases hf : l.find? (fun x => decide (h ≤ x.f0)) with
    | some x => exact .inl rfl
    | none =>
      cases l with
      | nil => exact .inl rfl
      | cons x l =>
        by_cases hid : x.f1 = id
        · exact .inr hid
        · left
          rw [show (x :: l).filter (notOf id) = x :: l.filter (notOf id) from List.filter_cons_of_pos (by simp [notOf, hid])]
end Go.Proofs.Ytcekkbimdogboaa.RingLaw
