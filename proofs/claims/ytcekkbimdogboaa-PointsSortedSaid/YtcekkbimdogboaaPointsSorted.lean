/- The statement PointsSorted, over lists: points rise, as many as weights ask for, in whatever order backends stand. -/
import Derived.Test.YtcekkbimdogboaaPx7
import Derived.Test.YtcekkbimdogboaaPx6
import Derived.Test.YtcekkbimdogboaaPointsWorks
set_option linter.unusedVariables false
set_option linter.unusedSimpArgs false
namespace Go.Proofs.Ytcekkbimdogboaa.Pure
open Go.RowKit Go.Proofs.Ytcekkbimdogboaa.P Go.Proofs.YtcekkbimdogboaaW.PrintWords Go.Proofs.YtcekkbimdogboaaW.PrintLast Go.Proofs.Ytcekkbimdogboaa.Hand Go.Proofs.Ytcekkbimdogboaa.PointsLaw
theorem ofL_perm_pool (p q : List Bk) (h : p.Perm q) : ofL p = ofL q :=
  ofL_unique q (ofL p) ((ofL_perm p).trans ((h.flatMap_right _).map _)) (ofL_sorted p)
theorem rdB (xs : List Bk) (i : Nat) (h : i < xs.length) : rd_T39 xs (i : Int) = xs[i] := by unfold rd_T39; simp [h]
theorem mxn2 (x : Int) : (8 * (mx 0 (mn x 16))) = ((8 * max 0 (min x 16)).toNat : Int) := by unfold mx mn; split <;> split <;> omega
theorem sorted_rise (p : List Bk) (hp : p.length ≤ 8) (K : Nat) (hK : 1100 ≤ K) : ∀ (d i k : Nat), (ofL p).length - i = d → 1 ≤ i → (i ≤ (ofL p).length ∨ d = 0) → d + K ≤ k →
    gangplanklaw09_PointsSorted.l1 k p true (ofL p) ((ofL p).length : Int) (i : Int) = some true
  | d, i, k, hd, h1, hi, hk => by
    obtain ⟨k, rfl⟩ : ∃ m, k = m + 1 := ⟨k - 1, by omega⟩
    have hpl : (ofL p).length ≤ 128 * p.length := by rw [ofL_length]; exact ptsT_len _
    simp only [gangplanklaw09_PointsSorted.l1]
    by_cases h : i < (ofL p).length
    · obtain ⟨d, rfl⟩ : ∃ m, d = m + 1 := ⟨d - 1, by omega⟩
      have w : wrap64 ((i : Int) + 1) = ((i + 1 : Nat) : Int) := by unfold wrap64; omega
      have w2 : wrap64 ((i : Int) - 1) = ((i - 1 : Nat) : Int) := by unfold wrap64; omega
      rw [if_pos (by omega), if_pos (by omega), w2, if_pos (by omega), if_pos (by omega), rdPt _ i h, rdPt _ (i - 1) (by omega), less _ _ k (by omega), ofL_rises p i h1 h, Option.bind_some, if_neg (by decide), w]
      exact sorted_rise p hp K hK d (i + 1) k (by omega) (by omega) (by omega) (by omega)
    · have hs : pool_Sorted.f p = some (insL p) := if_pos (by omega)
      rw [if_neg (by omega), if_pos trivial, if_pos trivial, hs, Option.bind_some, of_some _ (by rw [insL_len]; omega), Option.bind_some, ofL_perm_pool _ _ (insL_perm p), same _ _ (by omega) k (by omega), Option.bind_some, (sameP_iff _ _).2 rfl]
theorem sorted_sum (p : List Bk) (hp : p.length ≤ 8) (K : Nat) (hK : 3000 ≤ K) : ∀ (d i k : Nat), p.length - i = d → i ≤ p.length → d + K ≤ k →
    gangplanklaw09_PointsSorted.l0 k p true (ofL p) ((ptsT (p.take i)).length : Int) (i : Int) = some true
  | d, i, k, hd, hi, hk => by
    obtain ⟨k, rfl⟩ : ∃ m, k = m + 1 := ⟨k - 1, by omega⟩
    have hpl : (ofL p).length ≤ 128 * p.length := by rw [ofL_length]; exact ptsT_len _
    simp only [gangplanklaw09_PointsSorted.l0]
    by_cases h : i < p.length
    · obtain ⟨d, rfl⟩ : ∃ m, d = m + 1 := ⟨d - 1, by omega⟩
      have w : wrap64 ((i : Int) + 1) = ((i + 1 : Nat) : Int) := by unfold wrap64; omega
      have e : p.getD i z39 = p[i] := by simp [h]
      have hs := congrArg List.length (ptsT_take p i h)
      rw [List.length_append, e, ptsL_length] at hs
      have hc : (8 * max 0 (min p[i].f1 16)).toNat = cntL p[i] := rfl
      have hle := cntL_le p[i]
      have hpt := ptsT_len (p.take i)
      have htl : (p.take i).length = i := by rw [List.length_take]; omega
      have w2 : wrap64 (((ptsT (p.take i)).length : Int) + (cntL p[i] : Int)) = ((ptsT (p.take (i + 1))).length : Int) := by rw [hs]; unfold wrap64; omega
      rw [if_pos (by omega), if_pos (by omega), rdB p i h, mxn2, hc, w, w2]
      exact sorted_sum p hp K hK d (i + 1) k (by omega) (by omega) (by omega)
    · rw [if_neg (by omega), List.take_of_length_le (by omega), ← ofL_length]
      exact sorted_rise p hp 1100 (by omega) ((ofL p).length - 1) 1 k rfl (by omega) (by omega) (by omega)
theorem PointsSorted : gangplanklaw09_PointsSorted.Pure := by
  intro l _ _
  refine ⟨6000, ?_⟩
  unfold gangplanklaw09_PointsSorted.f
  rw [works _ (by omega), Option.bind_some, if_pos rfl]
  by_cases c : (l.length : Int) > 8
  · rw [if_pos c]
  · rw [if_neg c, of_some _ (by omega), Option.bind_some]
    have h := sorted_sum l (by omega) 3000 (by omega) l.length 0 6000 (by omega) (by omega) (by omega)
    simpa [ptsT] using h
end Go.Proofs.Ytcekkbimdogboaa.Pure
