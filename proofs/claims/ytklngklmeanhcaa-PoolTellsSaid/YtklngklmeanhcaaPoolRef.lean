/- The document's answer for pools: each reference function comes to the plain list that the program's own comes to. -/
import Derived.Test.YtklngklmeanhcaaPx2
import Derived.Test.YtklngklmeanhcaaPx5
import Derived.Test.YtklngklmeanhcaaPx7
import Derived.Test.YtklngklmeanhcaaPx8
import Derived.Test.YtklngklmeanhcaaPoolOrder
set_option linter.unusedVariables false
set_option linter.unusedSimpArgs false
namespace Go.Proofs.Ytklngklmeanhcaa.PoolLaw
open Go.RowKit Go.Proofs.Ytklngklmeanhcaa.P Go.Proofs.YtklngklmeanhcaaW.PrintWords Go.Proofs.YtklngklmeanhcaaW.PrintLast Go.Proofs.Ytklngklmeanhcaa.Hand
theorem eta (x : Bk) : (⟨x.f0, x.f1⟩ : Bk) = x := rfl
/-! ### alike -/
theorem rsame_loop (a b : List Bk) (hl : a.length = b.length) (hm : a.length ≤ 1000) : ∀ (d i k : Nat), a.length - i = d → i ≤ a.length → d < k →
    gangplankref08_Same.l0 k a b (i : Int) = some (((a.zip b).drop i).all fun p => eqB p.1 p.2)
  | d, i, k, hd, hi, hk => by
    obtain ⟨k, rfl⟩ : ∃ m, k = m + 1 := ⟨k - 1, by omega⟩
    simp only [gangplankref08_Same.l0]
    have hz : (a.zip b).length = a.length := by rw [List.length_zip]; omega
    by_cases h : i < a.length
    · obtain ⟨d, rfl⟩ : ∃ m, d = m + 1 := ⟨d - 1, by omega⟩
      have ed : (a.zip b).drop i = (a[i], b[i]) :: (a.zip b).drop (i + 1) := by rw [List.drop_eq_getElem_cons (by omega)]; simp
      rw [if_pos (by omega), if_pos (by omega), if_pos (by omega), rdB a i h, rdB b i (by omega), neB, step_w i _ h hm, rsame_loop a b hl hm d (i + 1) k (by omega) (by omega) (by omega), ed, List.all_cons]
      cases eqB a[i] b[i] <;> simp
    · rw [if_neg (by omega), List.drop_of_length_le (by omega)]
      rfl
theorem rsame (a b : List Bk) (hm : a.length ≤ 1000) (k : Nat) (hk : a.length < k) : gangplankref08_Same.f k a b = some (sameB a b) := by
  unfold gangplankref08_Same.f sameB
  by_cases h : a.length = b.length
  · rw [if_pos (by omega)]
    have h2 := rsame_loop a b h hm a.length 0 k (by omega) (by omega) hk
    rw [show ((0 : Nat) : Int) = 0 from rfl, List.drop_zero] at h2
    rw [h2, decide_eq_true h, Bool.true_and]
  · rw [if_neg (by omega), decide_eq_false h, Bool.false_and]
theorem rsame_self (a : List Bk) (hm : a.length ≤ 1000) (k : Nat) (hk : a.length < k) : gangplankref08_Same.f k a a = some true := by rw [rsame a a hm k hk, (sameB_iff a a).2 rfl]
theorem rints_loop (a : List Int) (hm : a.length ≤ 1000) : ∀ (d i k : Nat), a.length - i = d → i ≤ a.length → d < k → gangplankref08_Ints.l0 k a a (i : Int) = some true
  | d, i, k, hd, hi, hk => by
    obtain ⟨k, rfl⟩ : ∃ m, k = m + 1 := ⟨k - 1, by omega⟩
    simp only [gangplankref08_Ints.l0]
    by_cases h : i < a.length
    · obtain ⟨d, rfl⟩ : ∃ m, d = m + 1 := ⟨d - 1, by omega⟩
      rw [if_pos (by omega), if_pos (by omega), if_pos (by omega), if_pos trivial, step_w i _ h hm]
      exact rints_loop a hm d (i + 1) k (by omega) (by omega) (by omega)
    · rw [if_neg (by omega)]
theorem rints_self (a : List Int) (hm : a.length ≤ 1000) (k : Nat) (hk : a.length < k) : gangplankref08_Ints.f k a a = some true := by
  unfold gangplankref08_Ints.f
  rw [if_pos rfl]
  exact rints_loop a hm a.length 0 k (by omega) (by omega) hk
/-! ### with one -/
theorem rwith_loop (p : List Bk) (a b : Int) (c : Int) (hm : p.length ≤ 1000) (M : List Bk) (hM : M = if c < 0 then p else p.set c.toNat ⟨a, b⟩) : ∀ (d i k : Nat), p.length - i = d → i ≤ p.length → d < k →
    gangplankref08_With.l0 k p (M.take i) c (i : Int) a b = some (if c < 0 then M ++ [⟨a, b⟩] else M)
  | d, i, k, hd, hi, hk => by
    obtain ⟨k, rfl⟩ : ∃ m, k = m + 1 := ⟨k - 1, by omega⟩
    have hl : M.length = p.length := by rw [hM]; split <;> simp
    have ht : (M.take i).length = i := by rw [List.length_take]; omega
    simp only [gangplankref08_With.l0]
    by_cases h : i < p.length
    · obtain ⟨d, rfl⟩ : ∃ m, d = m + 1 := ⟨d - 1, by omega⟩
      have ih := rwith_loop p a b c hm M hM d (i + 1) k (by omega) (by omega) (by omega)
      rw [List.take_succ_eq_append_getElem (by omega : i < M.length)] at ih
      rw [if_pos (by omega), step_w i _ h hm]
      by_cases he : (i : Int) = c
      · have e : M[i]'(by omega) = ⟨a, b⟩ := by
          have hc : ¬ c < 0 := by omega
          have hci : c.toNat = i := by omega
          simp [hM, hc, hci]
        rw [e] at ih
        rw [if_pos he, if_pos (by omega)]
        exact ih
      · have e : M[i]'(by omega) = p[i] := by
          by_cases hc : c < 0
          · simp [hM, hc]
          · have hci : ¬ c.toNat = i := by omega
            simp [hM, hc, List.getElem_set_ne hci]
        rw [e] at ih
        rw [if_neg he, if_pos (by omega), if_pos (by omega), rdB p i h, eta]
        exact ih
    · rw [if_neg (by omega), List.take_of_length_le (by omega)]
      by_cases hc : c < 0
      · rw [if_pos hc, if_pos (by omega), if_pos hc]
      · rw [if_neg hc, if_neg hc]
theorem rwith (p : List Bk) (a b : Int) (hm : p.length ≤ 1000) (k : Nat) (hk : p.length < k) : gangplankref08_With.f k p a b = some (withL p a b) := by
  unfold gangplankref08_With.f
  rw [rfind p a hm k hk, Option.bind_some]
  have h := rwith_loop p a b (findL p a) hm _ rfl p.length 0 k (by omega) (by omega) hk
  rw [List.take_zero] at h
  rw [show ((0 : Nat) : Int) = 0 from rfl] at h
  rw [h]
  unfold withL
  split <;> rfl
/-! ### without one -/
theorem rwithout_loop (p : List Bk) (id : Int) (hm : p.length ≤ 1000) : ∀ (d i k : Nat), p.length - i = d → i ≤ p.length → d < k → gangplankref08_Without.l0 k p id (keptL id (p.take i)) (i : Int) = some (keptL id p)
  | d, i, k, hd, hi, hk => by
    obtain ⟨k, rfl⟩ : ∃ m, k = m + 1 := ⟨k - 1, by omega⟩
    simp only [gangplankref08_Without.l0]
    by_cases h : i < p.length
    · obtain ⟨d, rfl⟩ : ∃ m, d = m + 1 := ⟨d - 1, by omega⟩
      have ih := rwithout_loop p id hm d (i + 1) k (by omega) (by omega) (by omega)
      have hkl := kept_len id (p.take i)
      rw [List.length_take] at hkl
      rw [keptL_take id p i h] at ih
      rw [if_pos (by omega), if_pos (by omega), rdB p i h, step_w i _ h hm]
      by_cases he : p[i].f0 = id
      · rw [if_pos he]
        rw [if_pos (by simpa using he), List.append_nil] at ih
        exact ih
      · rw [if_neg he, if_pos (by omega), eta]
        rw [if_neg (by simpa using he)] at ih
        exact ih
    · rw [if_neg (by omega), List.take_of_length_le (by omega)]
theorem rwithout (p : List Bk) (id : Int) (hm : p.length ≤ 1000) (k : Nat) (hk : p.length < k) : gangplankref08_Without.f k p id = some (keptL id p) := by
  unfold gangplankref08_Without.f
  exact rwithout_loop p id hm p.length 0 k (by omega) (by omega) hk
/-! ### may it be -/
def okAt (p : List Bk) (j : Nat) (h : j < p.length) : Prop := (1 ≤ p[j].f0 ∧ p[j].f0 ≤ 65535) ∧ (1 ≤ p[j].f1 ∧ p[j].f1 ≤ 16) ∧ findL p p[j].f0 = (j : Int)
theorem rcheck_loop (p : List Bk) (hm : p.length ≤ 500) (K : Nat) (hK : 501 ≤ K) : ∀ (d i k : Nat), p.length - i = d → i ≤ p.length → d + K ≤ k → ∃ r, gangplankref08_Check.l0 k p (i : Int) = some r ∧ (r = 0 ∨ r = 10) ∧ (r = 0 ↔ ∀ j (h : j < p.length), i ≤ j → okAt p j h)
  | d, i, k, hd, hi, hk => by
    obtain ⟨k, rfl⟩ : ∃ m, k = m + 1 := ⟨k - 1, by omega⟩
    simp only [gangplankref08_Check.l0]
    by_cases h : i < p.length
    · obtain ⟨d, rfl⟩ : ∃ m, d = m + 1 := ⟨d - 1, by omega⟩
      have bad : ¬ okAt p i h → ((10 : Int) = 0 ↔ ∀ j (h : j < p.length), i ≤ j → okAt p j h) := fun hb => ⟨fun e => absurd e (by decide), fun e => absurd (e i h (Nat.le_refl _)) hb⟩
      rw [if_pos (by omega), if_pos (by omega), rdB p i h, rfind p p[i].f0 (by omega) k (by omega), Option.bind_some, step_w i _ h (by omega)]
      by_cases c1 : p[i].f0 < 1
      · rw [if_pos c1]; exact ⟨10, rfl, .inr rfl, bad fun e => by have := e.1; omega⟩
      by_cases c2 : p[i].f0 > 65535
      · rw [if_neg c1, if_pos c2]; exact ⟨10, rfl, .inr rfl, bad fun e => by have := e.1; omega⟩
      by_cases c3 : p[i].f1 < 1
      · rw [if_neg c1, if_neg c2, if_pos c3]; exact ⟨10, rfl, .inr rfl, bad fun e => by have := e.2.1; omega⟩
      by_cases c4 : p[i].f1 > 16
      · rw [if_neg c1, if_neg c2, if_neg c3, if_pos c4]; exact ⟨10, rfl, .inr rfl, bad fun e => by have := e.2.1; omega⟩
      rw [if_neg c1, if_neg c2, if_neg c3, if_neg c4]
      by_cases c5 : findL p p[i].f0 = (i : Int)
      · rw [if_pos c5]
        obtain ⟨r, h1, h2, h3⟩ := rcheck_loop p hm K hK d (i + 1) k (by omega) (by omega) (by omega)
        refine ⟨r, h1, h2, h3.trans ⟨fun e j hj hij => ?_, fun e j hj hij => e j hj (by omega)⟩⟩
        rcases Nat.lt_or_ge i j with h4 | h4
        · exact e j hj h4
        · obtain rfl : i = j := by omega
          exact ⟨⟨by omega, by omega⟩, ⟨by omega, by omega⟩, c5⟩
      · rw [if_neg c5]; exact ⟨10, rfl, .inr rfl, bad fun e => c5 e.2.2⟩
    · rw [if_neg (by omega)]
      exact ⟨0, rfl, .inl rfl, ⟨fun _ j hj hij => by omega, fun _ => rfl⟩⟩
theorem ok_may (p : List Bk) (h32 : p.length ≤ 32) : (∀ j (h : j < p.length), 0 ≤ j → okAt p j h) ↔ May p := by
  constructor
  · intro h
    refine ⟨h32, fun b hb => ?_, fun b hb => ?_, ?_⟩
    · obtain ⟨j, hj, rfl⟩ := List.mem_iff_getElem.1 hb
      exact (h j hj (Nat.zero_le _)).1
    · obtain ⟨j, hj, rfl⟩ := List.mem_iff_getElem.1 hb
      exact (h j hj (Nat.zero_le _)).2.1
    · show (p.map (·.f0)).Nodup
      unfold List.Nodup
      rw [List.pairwise_iff_getElem]
      intro i j hi hj hij e
      rw [List.length_map] at hi hj
      rw [List.getElem_map, List.getElem_map] at e
      have h1 := (h i hi (Nat.zero_le _)).2.2
      have h2 := (h j hj (Nat.zero_le _)).2.2
      rw [e] at h1
      omega
  · intro h j hj _
    refine ⟨h.ids _ (List.getElem_mem hj), h.weights _ (List.getElem_mem hj), find_is hj rfl fun i hi e => ?_⟩
    have ha := h.apart
    unfold List.Nodup at ha
    rw [List.pairwise_iff_getElem] at ha
    have := ha i j (by rw [List.length_map]; omega) (by rw [List.length_map]; exact hj) hi
    rw [List.getElem_map, List.getElem_map] at this
    exact this e
theorem rcheck (p : List Bk) (hm : p.length ≤ 500) (k : Nat) (hk : p.length + 501 ≤ k) : gangplankref08_Check.f k p = some (checkL p) := by
  unfold gangplankref08_Check.f
  by_cases h : (p.length : Int) > 32
  · rw [if_pos h]
    congr 1
    rcases check_two p with h1 | h1
    · have := ((check_zero p).1 h1).few; omega
    · exact h1.symm
  · rw [if_neg h]
    obtain ⟨r, h1, h2, h3⟩ := rcheck_loop p hm 501 (Nat.le_refl _) p.length 0 k (by omega) (by omega) hk
    rw [ok_may p (by omega), ← check_zero] at h3
    rw [show ((0 : Nat) : Int) = 0 from rfl] at h1
    rw [h1]
    congr 1
    rcases h2 with h2 | h2 <;> rcases check_two p with h4 | h4
    · rw [h2, h4]
    · have := h3.1 h2; omega
    · have := h3.2 h4; omega
    · rw [h2, h4]
end Go.Proofs.Ytklngklmeanhcaa.PoolLaw
