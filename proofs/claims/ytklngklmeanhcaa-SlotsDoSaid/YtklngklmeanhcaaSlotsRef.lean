/- The reference's answers for a slot's pool: may it be, where a backend stands, where a hash goes to. -/
import Derived.Test.YtklngklmeanhcaaPx5
import Derived.Test.YtklngklmeanhcaaPx8
import Derived.Test.YtklngklmeanhcaaPx1
import Derived.Test.YtklngklmeanhcaaPx3
import Derived.Test.YtklngklmeanhcaaPoolCheck
import Derived.Test.YtklngklmeanhcaaPointsRef
set_option linter.unusedVariables false
set_option linter.unusedSimpArgs false
namespace Go.Proofs.Ytklngklmeanhcaa.PoolLaw
open Go.RowKit Go.Proofs.Ytklngklmeanhcaa.P Go.Proofs.YtklngklmeanhcaaW.PrintWords Go.Proofs.YtklngklmeanhcaaW.PrintLast Go.Proofs.Ytklngklmeanhcaa.Hand
theorem step_w (i n : Nat) (h : i < n) (hn : n ≤ 1000) : wrap64 ((i : Int) + 1) = ((i + 1 : Nat) : Int) := by unfold wrap64; omega
theorem rfind_loop (p : List S56) (id : Int) (hm : p.length ≤ 1000) : ∀ (d i k : Nat), p.length - i = d → i ≤ p.length → d < k → gangplankref08_Find.l0 k p id (i : Int) = some (findAt id (p.drop i) (i : Int))
  | d, i, k, hd, hi, hk => by
    obtain ⟨k, rfl⟩ : ∃ m, k = m + 1 := ⟨k - 1, by omega⟩
    simp only [gangplankref08_Find.l0]
    by_cases h : i < p.length
    · obtain ⟨d, rfl⟩ : ∃ m, d = m + 1 := ⟨d - 1, by omega⟩
      rw [if_pos (by omega), if_pos (by omega), rdB p i h, step_w i _ h hm, List.drop_eq_getElem_cons h]
      unfold findAt
      by_cases he : p[i].f0 = id
      · rw [if_pos he, if_pos he]
      · rw [if_neg he, if_neg he, rfind_loop p id hm d (i + 1) k (by omega) (by omega) (by omega)]
        rfl
    · rw [if_neg (by omega), List.drop_of_length_le (by omega)]
      rfl
theorem rfind (p : List S56) (id : Int) (hm : p.length ≤ 1000) (k : Nat) (hk : p.length < k) : gangplankref08_Find.f k p id = some (findL p id) := by
  unfold gangplankref08_Find.f findL
  have h := rfind_loop p id hm p.length 0 k (by omega) (by omega) hk
  rwa [show ((0 : Nat) : Int) = 0 from rfl, List.drop_zero] at h
theorem find_is {l : List Bk} {id : Int} {k : Nat} (hk : k < l.length) (h : l[k].f0 = id) (hj : ∀ j (hj : j < k), l[j].f0 ≠ id) : findL l id = k := by
  rcases findL_cases l id with ⟨_, h2⟩ | ⟨i, hi, h1, h2, h3⟩
  · exact absurd h (h2 _ (List.getElem_mem hk))
  · rcases Nat.lt_trichotomy i k with hc | hc | hc
    · exact absurd h2 (hj i hc)
    · omega
    · exact absurd h (h3 k hc)
def okAt (p : List Bk) (j : Nat) (h : j < p.length) : Prop := (1 ≤ p[j].f0 ∧ p[j].f0 ≤ 65535) ∧ (1 ≤ p[j].f1 ∧ p[j].f1 ≤ 16) ∧ findL p p[j].f0 = (j : Int)
theorem rcheck_loop (p : List Bk) (hm : p.length ≤ 500) (K : Nat) (hK : 501 ≤ K) : ∀ (d i k : Nat), p.length - i = d → i ≤ p.length → d + K ≤ k → ∃ r, gangplankref08_Check.l0 k p (i : Int) = some r ∧ (r = 0 ∨ r = 10) ∧ (r = 0 ↔ ∀ j (h : j < p.length), i ≤ j → okAt p j h)
  | d, i, k, hd, hi, hk => by
    obtain ⟨k, rfl⟩ : ∃ m, k = m + 1 := ⟨k - 1, by omega⟩
    simp only [gangplankref08_Check.l0]
    by_cases h : i < p.length
    · obtain ⟨d, rfl⟩ : ∃ m, d = m + 1 := ⟨d - 1, by omega⟩
      have bad : ¬ okAt p i h → ((10 : Int) = 0 ↔ ∀ j (h : j < p.length), i ≤ j → okAt p j h) := fun hb => ⟨fun e => absurd e (by decide), fun e => absurd (e i h (Nat.le_refl _)) hb⟩
      rw [if_pos (by omega), if_pos (by omega), rdB p i h, rfind p p[i].f0 (by omega) k (by omega), Option.bind_some, step_w i _ h (by omega)]
      by_cases c1 : p[i].f0 < 1
      · rw [if_pos c1]; exact ⟨10, rfl, .inr rfl, bad fun e => by have := e.1; omega⟩
      by_cases c2 : p[i].f0 > 65535
      · rw [if_neg c1, if_pos c2]; exact ⟨10, rfl, .inr rfl, bad fun e => by have := e.1; omega⟩
      by_cases c3 : p[i].f1 < 1
      · rw [if_neg c1, if_neg c2, if_pos c3]; exact ⟨10, rfl, .inr rfl, bad fun e => by have := e.2.1; omega⟩
      by_cases c4 : p[i].f1 > 16
      · rw [if_neg c1, if_neg c2, if_neg c3, if_pos c4]; exact ⟨10, rfl, .inr rfl, bad fun e => by have := e.2.1; omega⟩
      rw [if_neg c1, if_neg c2, if_neg c3, if_neg c4]
      by_cases c5 : findL p p[i].f0 = (i : Int)
      · rw [if_pos c5]
        obtain ⟨r, h1, h2, h3⟩ := rcheck_loop p hm K hK d (i + 1) k (by omega) (by omega) (by omega)
        refine ⟨r, h1, h2, h3.trans ⟨fun e j hj hij => ?_, fun e j hj hij => e j hj (by omega)⟩⟩
        rcases Nat.lt_or_ge i j with h4 | h4
        · exact e j hj h4
        · obtain rfl : i = j := by omega
          exact ⟨⟨by omega, by omega⟩, ⟨by omega, by omega⟩, c5⟩
      · rw [if_neg c5]; exact ⟨10, rfl, .inr rfl, bad fun e => c5 e.2.2⟩
    · rw [if_neg (by omega)]
      exact ⟨0, rfl, .inl rfl, ⟨fun _ j hj hij => by omega, fun _ => rfl⟩⟩
theorem ok_may (p : List Bk) (h32 : p.length ≤ 32) : (∀ j (h : j < p.length), 0 ≤ j → okAt p j h) ↔ May p := by
  constructor
  · intro h
    refine ⟨h32, fun b hb => ?_, fun b hb => ?_, ?_⟩
    · obtain ⟨j, hj, rfl⟩ := List.mem_iff_getElem.1 hb
      exact (h j hj (Nat.zero_le _)).1
    · obtain ⟨j, hj, rfl⟩ := List.mem_iff_getElem.1 hb
      exact (h j hj (Nat.zero_le _)).2.1
    · show (p.map (·.f0)).Nodup
      unfold List.Nodup
      rw [List.pairwise_iff_getElem]
      intro i j hi hj hij e
      rw [List.length_map] at hi hj
      rw [List.getElem_map, List.getElem_map] at e
      have h1 := (h i hi (Nat.zero_le _)).2.2
      have h2 := (h j hj (Nat.zero_le _)).2.2
      rw [e] at h1
      omega
  · intro h j hj _
    refine ⟨h.ids _ (List.getElem_mem hj), h.weights _ (List.getElem_mem hj), find_is hj rfl fun i hi e => ?_⟩
    have ha := h.apart
    unfold List.Nodup at ha
    rw [List.pairwise_iff_getElem] at ha
    have := ha i j (by rw [List.length_map]; omega) (by rw [List.length_map]; exact hj) hi
    rw [List.getElem_map, List.getElem_map] at this
    exact this e
theorem rcheck (p : List Bk) (hm : p.length ≤ 500) (k : Nat) (hk : p.length + 501 ≤ k) : gangplankref08_Check.f k p = some (checkL p) := by
  unfold gangplankref08_Check.f
  by_cases h : (p.length : Int) > 32
  · rw [if_pos h]
    congr 1
    rcases check_two p with h1 | h1
    · have := ((check_zero p).1 h1).few; omega
    · exact h1.symm
  · rw [if_neg h]
    obtain ⟨r, h1, h2, h3⟩ := rcheck_loop p hm 501 (Nat.le_refl _) p.length 0 k (by omega) (by omega) hk
    rw [ok_may p (by omega), ← check_zero] at h3
    rw [show ((0 : Nat) : Int) = 0 from rfl] at h1
    rw [h1]
    congr 1
    rcases h2 with h2 | h2 <;> rcases check_two p with h4 | h4
    · rw [h2, h4]
    · have := h3.1 h2; omega
    · have := h3.2 h4; omega
    · rw [h2, h4]
end Go.Proofs.Ytklngklmeanhcaa.PoolLaw
namespace Go.Proofs.Ytklngklmeanhcaa.RingLaw
open Go.RowKit Go.Proofs.Ytklngklmeanhcaa.P Go.Proofs.YtklngklmeanhcaaW.PrintWords Go.Proofs.YtklngklmeanhcaaW.PrintLast Go.Proofs.Ytklngklmeanhcaa.Hand
open Go.Proofs.Ytklngklmeanhcaa.PointsLaw
theorem srch_spec (p : Nat → Bool) (n : Nat) (mono : ∀ a b, a ≤ b → b < n → p a = true → p b = true) : ∀ f i j, j - i ≤ f → i ≤ j → j ≤ n → (∀ a, a < i → p a = false) → (∀ a, j ≤ a → a < n → p a = true) →
    srch p f i j ≤ n ∧ (∀ a, a < srch p f i j → p a = false) ∧ (∀ a, srch p f i j ≤ a → a < n → p a = true)
  | 0, i, j, hf, hij, hjn, h1, h2 => by
    obtain rfl : i = j := by omega
    exact ⟨hjn, h1, h2⟩
  | f + 1, i, j, hf, hij, hjn, h1, h2 => by
    unfold srch
    by_cases h : i < j
    · rw [if_pos h]
      cases hm : p ((i + j) / 2) with
      | true =>
        rw [if_pos rfl]
        exact srch_spec p n mono f i _ (by omega) (by omega) (by omega) h1 (fun a ha hn => mono _ _ ha hn hm)
      | false =>
        rw [if_neg (by decide)]
        refine srch_spec p n mono f _ j (by omega) (by omega) hjn (fun a ha => ?_) h2
        cases ht : p a with
        | false => rfl
        | true =>
          have := mono a ((i + j) / 2) (by omega) (by omega) ht
          rw [hm] at this
          cases this
    · rw [if_neg h]
      obtain rfl : i = j := by omega
      exact ⟨hjn, h1, h2⟩
/-- The first point that does not stand ahead of a hash, or the first one. -/
def goesTo (l : List Pt) (h : Int) : Int := match l.find? (fun x => decide (h ≤ x.f0)) with
  | some x => x.f1
  | none => match l with
    | [] => -1
    | x :: _ => x.f1
theorem succ_goes (l : List Pt) (hu : ∀ i j (hij : i ≤ j) (hj : j < l.length), (l[i]'(Nat.lt_of_le_of_lt hij hj)).f0 ≤ l[j].f0) (h : Int) : succL l h = goesTo l h := by
  unfold succL goesTo
  cases hl : l with
  | nil => simp
  | cons x0 l0 =>
    rw [← hl]
    have hn : 0 < l.length := by rw [hl]; simp
    rw [if_neg (by omega)]
    have gp : ∀ i (hi : i < l.length), geP l h i = decide (h ≤ l[i].f0) := fun i hi => by unfold geP; simp [hi]
    obtain ⟨s1, s2, s3⟩ := srch_spec (geP l h) l.length (fun a b hab hb ha => by
      rw [gp a (by omega)] at ha
      rw [gp b hb]
      have := hu a b hab hb
      simp at ha ⊢
      omega) l.length 0 l.length (by omega) (by omega) (Nat.le_refl _) (fun a ha => by omega) (fun a h1 h2 => by omega)
    obtain ⟨m, hm⟩ : ∃ m, srch (geP l h) l.length 0 l.length = m := ⟨_, rfl⟩
    rw [hm] at s1 s2 s3 ⊢
    by_cases hmn : m < l.length
    · have hf : l.find? (fun x => decide (h ≤ x.f0)) = some l[m] := by
        rw [List.find?_eq_some_iff_getElem]
        refine ⟨by have := s3 m (Nat.le_refl _) hmn; rwa [gp m hmn] at this, m, hmn, rfl, fun j hj => ?_⟩
        have := s2 j hj
        rw [gp j (by omega)] at this
        simp [this]
      rw [hf, Nat.mod_eq_of_lt hmn]
      simp [hmn]
    · obtain rfl : m = l.length := by omega
      have hf : l.find? (fun x => decide (h ≤ x.f0)) = none := by
        rw [List.find?_eq_none]
        intro x hx
        obtain ⟨j, hj, rfl⟩ := List.mem_iff_getElem.1 hx
        have := s2 j hj
        rw [gp j hj] at this
        simp [this]
      rw [hf, Nat.mod_self, hl]
      rfl
theorem up_ofL (ps : List Bk) : ∀ i j (hij : i ≤ j) (hj : j < (ofL ps).length), ((ofL ps)[i]'(Nat.lt_of_le_of_lt hij hj)).f0 ≤ (ofL ps)[j].f0 := fun i j hij hj => by
  by_cases e : i = j
  · subst e; exact Int.le_refl _
  · have h := List.pairwise_iff_getElem.1 (ofL_sorted ps) i j (by omega) hj (by omega)
    rw [leP_iff] at h
    omega
theorem pick_goes (ps : List Bk) (h : Int) : succL (ofL ps) h = goesTo (ofL ps) h := succ_goes _ (up_ofL ps) h
def headOr : List Pt → Int
  | [] => -1
  | x :: _ => x.f1
def goFrom (l m : List Pt) (h : Int) : Int := match m.find? (fun x => decide (h ≤ x.f0)) with
  | some x => x.f1
  | none => headOr l
theorem goes_from (l : List Pt) (h : Int) : goFrom l l h = goesTo l h := by cases l <;> rfl
theorem succ_loop (l : List Pt) (hl : l.length ≤ 100000) (h : Int) : ∀ (d i k : Nat), l.length - i = d → i ≤ l.length → d < k →
    gangplankref10_Succ.l0 k l h (i : Int) = some (goFrom l (l.drop i) h)
  | d, i, k, hd, hi, hk => by
    obtain ⟨k, rfl⟩ : ∃ m, k = m + 1 := ⟨k - 1, by omega⟩
    simp only [gangplankref10_Succ.l0]
    by_cases c : i < l.length
    · obtain ⟨d, rfl⟩ : ∃ m, d = m + 1 := ⟨d - 1, by omega⟩
      have w : wrap64 ((i : Int) + 1) = ((i + 1 : Nat) : Int) := by unfold wrap64; omega
      have ih := succ_loop l hl h d (i + 1) k (by omega) (by omega) (by omega)
      rw [if_pos (by omega), if_pos (by omega), rdPt l i c, w, ih, List.drop_eq_getElem_cons c]
      unfold goFrom
      rw [List.find?_cons]
      by_cases c1 : h ≤ l[i].f0
      · rw [if_pos c1, decide_eq_true c1]
      · rw [if_neg (by omega), decide_eq_false c1]
    · rw [if_neg (by omega), List.drop_of_length_le (by omega)]
      unfold goFrom
      rw [List.find?_nil]
      cases l with
      | nil => rfl
      | cons x l =>
        rw [if_neg (by rw [List.length_cons]; omega), if_pos (by rw [List.length_cons]; omega)]
        rfl
theorem refSucc (l : List Pt) (hl : l.length ≤ 100000) (h : Int) (k : Nat) (hk : l.length < k) : gangplankref10_Succ.f k l h = some (goesTo l h) := by
  rw [← goes_from]
  exact succ_loop l hl h l.length 0 k rfl (by omega) hk
end Go.Proofs.Ytklngklmeanhcaa.RingLaw
