/- The statement PoolGone, over lists: what is gone is just what is in the one pool, and not in the other. -/
import Derived.Test.YtklngklmeanhcaaPx7
import Derived.Test.YtklngklmeanhcaaPoolBase
set_option linter.unusedVariables false
set_option linter.unusedSimpArgs false
namespace Go.Proofs.Ytklngklmeanhcaa.Pure
open Go.RowKit Go.Proofs.Ytklngklmeanhcaa.P Go.Proofs.YtklngklmeanhcaaW.PrintWords Go.Proofs.YtklngklmeanhcaaW.PrintLast Go.Proofs.Ytklngklmeanhcaa.Hand Go.Proofs.Ytklngklmeanhcaa.PoolLaw
theorem gone_mem (p q : List Bk) (x : Int) : x ∈ goneL p q ↔ x ∈ idsL p ∧ x ∉ idsL q := by
  unfold goneL
  rw [(List.mergeSort_perm _ _).mem_iff, List.mem_filter, mem_once]
  simp
theorem gone_rises (p q : List Bk) : (goneL p q).Pairwise fun x y => x < y := by
  have h1 : (goneL p q).Pairwise (fun x y => decide (x ≤ y) = true) := List.pairwise_mergeSort (fun a b c h1 h2 => by simp at *; omega) (fun a b => by simp; omega) _
  have h2 : (goneL p q).Nodup := (List.mergeSort_perm _ _).nodup_iff.2 (List.Pairwise.filter _ (nodup_once _))
  rw [List.pairwise_iff_getElem] at h1 ⊢
  intro i j hi hj hij
  have h3 := h1 i j hi hj hij
  have h4 : (goneL p q)[i] ≠ (goneL p q)[j] := List.pairwise_iff_getElem.1 h2 i j hi hj hij
  simp at h3
  omega
theorem gone_self (p : List Bk) : goneL p p = [] := by
  apply List.eq_nil_iff_forall_not_mem.2
  intro x hx
  have := (gone_mem p p x).1 hx
  exact this.2 this.1
theorem gone_len (p q : List Bk) : (goneL p q).length ≤ p.length := by
  unfold goneL
  rw [List.length_mergeSort]
  refine Nat.le_trans (List.length_filter_le _ _) ?_
  have : ∀ l : List Int, (onceL l).length ≤ l.length := by
    intro l
    induction l with
    | nil => exact Nat.le_refl _
    | cons x l ih =>
      unfold onceL
      split
      · simp; omega
      · simp; omega
  have h := this (idsL p)
  unfold idsL at h ⊢
  rwa [List.length_map] at h
theorem rdI (xs : List Int) (i : Nat) (h : i < xs.length) : rd xs (i : Int) = xs[i] := by unfold rd; simp [h]
theorem gone_loop (p q : List Bk) (id : Int) (hp : p.length ≤ 60) (hq : q.length ≤ 60) (hw : idsWf p = true) (g : List Int) (hg : goneL p q = g) (hl : g.length ≤ 60) (hs : g.Pairwise fun x y => x < y) : ∀ (d i k : Nat) (b : Bool), g.length - i = d → i ≤ g.length → d + 1 ≤ k → (b = true ↔ id ∈ g.take i) →
    gangplanklaw08_PoolGone.l0 k p q id true g b (i : Int) = some true
  | d, i, k, b, hd, hi, hk, hb => by
    obtain ⟨k, rfl⟩ : ∃ m, k = m + 1 := ⟨k - 1, by omega⟩
    simp only [gangplanklaw08_PoolGone.l0]
    by_cases h : i < g.length
    · obtain ⟨d, rfl⟩ : ∃ m, d = m + 1 := ⟨d - 1, by omega⟩
      have w : wrap64 ((i : Int) + 1) = ((i + 1 : Nat) : Int) := by unfold wrap64; omega
      have hstep : ∀ b', (b' = true ↔ (b = true ∨ g[i] = id)) → gangplanklaw08_PoolGone.l0 k p q id true g b' ((i + 1 : Nat) : Int) = some true := fun b' hb' =>
        gone_loop p q id hp hq hw g hg hl hs d (i + 1) k b' (by omega) (by omega) (by omega) (by
          rw [hb', hb, List.take_succ_eq_append_getElem h, List.mem_append, List.mem_singleton]
          exact or_congr Iff.rfl eq_comm)
      rw [if_pos (by omega), w]
      have go2 : (if b = true then gangplanklaw08_PoolGone.l0 k p q id true g true ((i + 1 : Nat) : Int) else gangplanklaw08_PoolGone.l0 k p q id true g (g[i] == id) ((i + 1 : Nat) : Int)) = some true := by
        by_cases hbt : b = true
        · rw [if_pos hbt]
          exact hstep true (by simp [hbt])
        · rw [if_neg hbt]
          exact hstep _ (by rw [beq_iff_eq]; simp [hbt])
      by_cases h0 : 0 < i
      · have w2 : wrap64 ((i : Int) - 1) = ((i - 1 : Nat) : Int) := by unfold wrap64; omega
        have hlt := List.pairwise_iff_getElem.1 hs (i - 1) i (by omega) h (by omega)
        rw [if_pos (by omega), w2, if_pos (by omega), if_pos (by omega), if_pos (by omega), rdI g (i - 1) (by omega), rdI g i h, if_neg (by omega)]
        exact go2
      · rw [if_neg (by omega), rdI g i h]
        by_cases hbt : b = true
        · rw [if_pos hbt] at go2 ⊢; exact go2
        · rw [if_neg hbt] at go2 ⊢
          rw [if_pos (by omega)]
          exact go2
    · have hx : id ∈ g ↔ 0 ≤ findL p id ∧ ¬ 0 ≤ findL q id := by rw [← hg, gone_mem, find_ids, find_ids]
      rw [List.take_of_length_le (by omega), hx] at hb
      rw [if_neg (by omega), if_pos trivial, find_some _ (by omega), Option.bind_some, find_some _ (by omega), Option.bind_some, gone_some p p (by omega) (by omega) hw hw, Option.bind_some, gone_self]
      by_cases h1 : findL p id ≥ 0
      · rw [if_pos h1]
        have : (b == decide (findL q id < 0)) = true := by
          rw [beq_iff_eq, Bool.eq_iff_iff, hb, decide_eq_true_eq]
          exact ⟨fun h => by omega, fun h => ⟨h1, by omega⟩⟩
        rw [if_pos this]
        rfl
      · rw [if_neg h1]
        have : (b == false) = true := by
          rw [beq_iff_eq, Bool.eq_false_iff]
          exact fun h => h1 (hb.1 h).1
        rw [if_pos this]
        rfl
theorem gone_j0 (p q : List Bk) (id : Int) (hp : p.length ≤ 60) (c : Bool) (hc : c = false → q.length ≤ 60) (hw : idsWf p = true) (hwq : idsWf q = true) (k : Nat) (hk : 101 ≤ k) : gangplanklaw08_PoolGone.j0 k p q id true c = some true := by
  obtain ⟨k, rfl⟩ : ∃ m, k = m + 1 := ⟨k - 1, by omega⟩
  simp only [gangplanklaw08_PoolGone.j0]
  cases c with
  | true => rw [if_pos rfl]
  | false =>
    have hq := hc rfl
    have hl := gone_len p q
    rw [if_neg (by decide), gone_some p q (by omega) (by omega) hw hwq, Option.bind_some]
    exact gone_loop p q id hp hq hw _ rfl (by omega) (gone_rises p q) (goneL p q).length 0 k false (by omega) (by omega) (by omega) (by simp)
theorem PoolGone : gangplanklaw08_PoolGone.Pure := by
  intro p q id _ hok _ hoq _
  refine ⟨200, ?_⟩
  unfold gangplanklaw08_PoolGone.f gangplanklaw08_works.f
  rw [Option.bind_some, if_pos rfl]
  have hw := idsWf_ok hok
  have hwq := idsWf_ok hoq
  by_cases c : (p.length : Int) > 60
  · rw [if_pos c]
    rfl
  · rw [if_neg c]
    exact gone_j0 p q id (by omega) _ (fun h => by have := of_decide_eq_false h; omega) hw hwq _ (by omega)
end Go.Proofs.Ytklngklmeanhcaa.Pure
