/- The statement PoolTells, over lists: a pool is just what the document says. -/
import Derived.Test.YtklngklmeanhcaaPx9
import Derived.Test.YtklngklmeanhcaaPoolRef
set_option linter.unusedVariables false
set_option linter.unusedSimpArgs false
namespace Go.Proofs.Ytklngklmeanhcaa.Pure
open Go.RowKit Go.Proofs.Ytklngklmeanhcaa.P Go.Proofs.YtklngklmeanhcaaW.PrintWords Go.Proofs.YtklngklmeanhcaaW.PrintLast Go.Proofs.Ytklngklmeanhcaa.Hand Go.Proofs.Ytklngklmeanhcaa.PoolLaw
theorem tells_gone_mem (p q : List Bk) (x : Int) : x ∈ goneL p q ↔ x ∈ idsL p ∧ x ∉ idsL q := by
  unfold goneL
  rw [(List.mergeSort_perm _ _).mem_iff, List.mem_filter, mem_once]
  simp
theorem tells_gone_rises (p q : List Bk) : (goneL p q).Pairwise fun x y => x < y := by
  have h1 : (goneL p q).Pairwise (fun x y => decide (x ≤ y) = true) := List.pairwise_mergeSort (fun a b c h1 h2 => by simp at *; omega) (fun a b => by simp; omega) _
  have h2 : (goneL p q).Nodup := (List.mergeSort_perm _ _).nodup_iff.2 (List.Pairwise.filter _ (nodup_once _))
  rw [List.pairwise_iff_getElem] at h1 ⊢
  intro i j hi hj hij
  have h3 := h1 i j hi hj hij
  have h4 : (goneL p q)[i] ≠ (goneL p q)[j] := List.pairwise_iff_getElem.1 h2 i j hi hj hij
  simp at h3
  omega
/-- A list that rises, and has just the same numbers, is it. -/
theorem gone_is (p q : List Bk) (g : List Int) (hs : g.Pairwise fun x y => x < y) (hm : ∀ x, x ∈ g ↔ x ∈ idsL p ∧ x ∉ idsL q) : g = goneL p q := by
  have hn : ∀ l : List Int, (l.Pairwise fun x y => x < y) → l.Nodup := fun l h => h.imp fun h => Int.ne_of_lt h
  refine List.Perm.eq_of_pairwise (le := fun x y : Int => x < y) (fun a b _ _ h1 h2 => by omega) hs (tells_gone_rises p q) ((List.perm_ext_iff_of_nodup (hn _ hs) (hn _ (tells_gone_rises p q))).2 fun x => ?_)
  rw [hm, tells_gone_mem]
theorem goneR_inv (p q : List Bk) (s : List Bk) (hs : sortedL p = s) : ∀ i, i ≤ s.length → ((goneR q s i).Pairwise fun x y => x < y) ∧ ∀ x, x ∈ goneR q s i ↔ x ∈ idsL (s.take i) ∧ x ∉ idsL q
  | 0, _ => ⟨by simp [goneR], fun x => by simp [goneR, idsL]⟩
  | i + 1, h => by
    obtain ⟨hr, hm⟩ := goneR_inv p q s hs i (by omega)
    have hi : i < s.length := h
    have hrise : ∀ (a b : Nat) (hab : a ≤ b) (hb : b < s.length), s[a].f0 ≤ s[b].f0 := fun a b hab hb => by subst hs; exact sorted_rise p hab hb
    have hids : ∀ x, x ∈ idsL (s.take (i + 1)) ↔ x ∈ idsL (s.take i) ∨ x = s[i].f0 := fun x => by
      unfold idsL
      rw [List.take_succ_eq_append_getElem hi, List.map_append, List.mem_append, List.map_cons, List.map_nil, List.mem_singleton]
    have hin : ∀ x, x ∈ idsL (s.take i) ↔ ∃ j, ∃ hj : j < s.length, j < i ∧ s[j].f0 = x := fun x => by
      unfold idsL
      rw [List.mem_map]
      constructor
      · rintro ⟨b, hb, rfl⟩
        obtain ⟨j, hj, rfl⟩ := List.mem_take_iff_getElem.1 hb
        exact ⟨j, by omega, by omega, rfl⟩
      · rintro ⟨j, hj, hji, rfl⟩
        exact ⟨s[j], List.mem_take_iff_getElem.2 ⟨j, by omega, rfl⟩, rfl⟩
    have e0 : s.getD i z56 = s[i] := by simp [hi]
    have en : newG q s i = (decide (findL q s[i].f0 < 0) && (decide (i = 0) || !((s.getD (i - 1) z56).f0 == s[i].f0))) := by unfold newG; rw [e0]
    have e1 : goneR q s (i + 1) = if newG q s i = true then goneR q s i ++ [s[i].f0] else goneR q s i := by
      show (if newG q s i = true then goneR q s i ++ [(s.getD i z56).f0] else goneR q s i) = _
      rw [e0]
    have hq : s[i].f0 ∈ idsL q ↔ ¬ findL q s[i].f0 < 0 := by rw [← find_ids]; omega
    rw [e1]
    by_cases hn : newG q s i = true
    · rw [if_pos hn]
      rw [en, Bool.and_eq_true, decide_eq_true_eq, Bool.or_eq_true, decide_eq_true_eq, Bool.not_eq_true'] at hn
      have hnq : s[i].f0 ∉ idsL q := fun hx => (hq.1 hx) hn.1
      refine ⟨List.pairwise_append.2 ⟨hr, by simp, fun x hx y hy => ?_⟩, fun x => ?_⟩
      · rw [List.mem_singleton.1 hy]
        obtain ⟨j, hj, hji, rfl⟩ := (hin x).1 ((hm x).1 hx).1
        rcases hn.2 with h0 | h0
        · omega
        · have h1 : i - 1 < s.length := by omega
          have h2 : s.getD (i - 1) z56 = s[i - 1] := by simp [h1]
          rw [h2, beq_eq_false_iff_ne] at h0
          have h3 := hrise j (i - 1) (by omega) h1
          have h4 := hrise (i - 1) i (by omega) hi
          omega
      · rw [List.mem_append, List.mem_singleton, hm, hids]
        constructor
        · rintro (⟨h1, h2⟩ | rfl)
          · exact ⟨.inl h1, h2⟩
          · exact ⟨.inr rfl, hnq⟩
        · rintro ⟨h1 | h1, h2⟩
          · exact .inl ⟨h1, h2⟩
          · exact .inr h1
    · rw [if_neg hn]
      refine ⟨hr, fun x => ?_⟩
      have hno : s[i].f0 ∈ idsL q ∨ s[i].f0 ∈ idsL (s.take i) := by
        rw [en, Bool.and_eq_true, decide_eq_true_eq, Bool.or_eq_true, decide_eq_true_eq, Bool.not_eq_true'] at hn
        by_cases h1 : findL q s[i].f0 < 0
        · right
          have h2 : ¬ i = 0 := fun e => hn ⟨h1, .inl e⟩
          have h3 : i - 1 < s.length := by omega
          have h4 : s.getD (i - 1) z56 = s[i - 1] := by simp [h3]
          refine (hin _).2 ⟨i - 1, h3, by omega, ?_⟩
          refine Classical.byContradiction fun e => hn ⟨h1, .inr ?_⟩
          rw [h4, beq_eq_false_iff_ne]
          exact e
        · exact .inl (hq.2 h1)
      rw [hm, hids]
      constructor
      · rintro ⟨h1, h2⟩; exact ⟨.inl h1, h2⟩
      · rintro ⟨h1 | rfl, h2⟩
        · exact ⟨h1, h2⟩
        · rcases hno with h3 | h3
          · exact absurd h3 h2
          · exact ⟨h3, h2⟩
theorem rgone (p q : List Bk) (hp : p.length ≤ 60) (hq : q.length ≤ 60) : gangplankref08_Gone.f p q = some (goneL p q) := by
  unfold gangplankref08_Gone.f
  rw [if_pos ⟨by omega, by omega⟩]
  congr 1
  obtain ⟨hr, hm⟩ := goneR_inv p q (sortedL p) rfl (sortedL p).length (Nat.le_refl _)
  refine gone_is p q _ hr fun x => ?_
  rw [hm, List.take_length]
  have : x ∈ idsL (sortedL p) ↔ x ∈ idsL p := by
    unfold idsL
    exact ((sortedL_stb p).perm.map _).mem_iff
  rw [this]
theorem tells_gone_len (p q : List Bk) : (goneL p q).length ≤ p.length := by
  unfold goneL
  rw [List.length_mergeSort]
  refine Nat.le_trans (List.length_filter_le _ _) ?_
  have : ∀ l : List Int, (onceL l).length ≤ l.length := by
    intro l
    induction l with
    | nil => exact Nat.le_refl _
    | cons x l ih =>
      unfold onceL
      split
      · simp; omega
      · simp; omega
  have h := this (idsL p)
  unfold idsL at h ⊢
  rwa [List.length_map] at h
theorem tells_j1 (p q : List Bk) (id : Int) (hp : p.length ≤ 60) (hq : q.length ≤ 60) (hw : idsWf p = true) (hwq : idsWf q = true) (k : Nat) (hk : 800 ≤ k) : gangplanklaw08_PoolTells.j1 k p q id true true = some true := by
  obtain ⟨k, rfl⟩ : ∃ m, k = m + 1 := ⟨k - 1, by omega⟩
  have hg := tells_gone_len p q
  simp only [gangplanklaw08_PoolTells.j1]
  rw [gone_some p q (by omega) (by omega) hw hwq, Option.bind_some, rgone p q hp hq, Option.bind_some, rints_self _ (by omega) k (by omega), Option.bind_some, rsame p q (by omega) k (by omega), Option.bind_some, if_pos trivial, if_pos trivial, if_pos rfl, check_some p (by omega) hw, Option.bind_some, rcheck p (by omega) k (by omega), Option.bind_some, if_pos rfl, find_some p (by omega), Option.bind_some, rfind p id (by omega) k (by omega), Option.bind_some, if_pos rfl, psame p q (by omega) k (by omega), Option.bind_some, beq_self_eq_true]
theorem tells_j0 (p q : List Bk) (a b id : Int) (hp : p.length ≤ 60) (c : Bool) (hc : c = false → q.length ≤ 60) (hw : idsWf p = true) (hwq : idsWf q = true) (k : Nat) (hk : 900 ≤ k) : gangplanklaw08_PoolTells.j0 k p q id true c a b = some true := by
  obtain ⟨k, rfl⟩ : ∃ m, k = m + 1 := ⟨k - 1, by omega⟩
  simp only [gangplanklaw08_PoolTells.j0]
  cases c with
  | true => rw [if_pos rfl]
  | false =>
    have hq := hc rfl
    have h1 := sortedL_len p
    have h2 := with_len p a b
    have h3 := kept_len id p
    rw [if_neg (by decide), sorted_some p (by omega), Option.bind_some, rsorted p (by omega) k (by omega), Option.bind_some, rsame_self _ (by omega) k (by omega), Option.bind_some, if_pos rfl, with_some p (by omega), Option.bind_some, rwith p a b (by omega) k (by omega), Option.bind_some, rsame_self _ (by omega) k (by omega), Option.bind_some, if_pos rfl, without_some p (by omega), Option.bind_some, rwithout p id (by omega) k (by omega), Option.bind_some, rsame_self _ (by omega) k (by omega), Option.bind_some]
    exact tells_j1 p q id hp hq hw hwq k (by omega)
theorem PoolTells : gangplanklaw08_PoolTells.Pure := by
  intro p q a b id _ hok _ hoq _ _ _
  refine ⟨1000, ?_⟩
  unfold gangplanklaw08_PoolTells.f gangplanklaw08_works.f
  rw [Option.bind_some, if_pos rfl]
  have hw := idsWf_ok hok
  have hwq := idsWf_ok hoq
  by_cases c : (p.length : Int) > 60
  · rw [if_pos c]
    rfl
  · rw [if_neg c]
    exact tells_j0 p q a b id (by omega) _ (fun h => by have := of_decide_eq_false h; omega) hw hwq _ (by omega)
end Go.Proofs.Ytklngklmeanhcaa.Pure
