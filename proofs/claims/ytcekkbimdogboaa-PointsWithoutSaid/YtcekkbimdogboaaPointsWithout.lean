/- The statement PointsWithout, over lists: without a backend all other points stay. -/
import Derived.Test.YtcekkbimdogboaaPx6
import Derived.Test.YtcekkbimdogboaaPointsWorks
import Derived.Test.YtcekkbimdogboaaPointsKept
set_option linter.unusedVariables false
set_option linter.unusedSimpArgs false
namespace Go.Proofs.Ytcekkbimdogboaa.Pure
open Go.RowKit Go.Proofs.Ytcekkbimdogboaa.P Go.Proofs.YtcekkbimdogboaaW.PrintWords Go.Proofs.YtcekkbimdogboaaW.PrintLast Go.Proofs.Ytcekkbimdogboaa.Hand Go.Proofs.Ytcekkbimdogboaa.PointsLaw
theorem without_loop (p : List Bk) (id : Int) (hp : p.length ≤ 8) (l : List Pt) (hl : l.length ≤ 1024) (hf : l.filter (notOf id) = ofL (keptL id p)) (K : Nat) (hK : 1100 ≤ K) : ∀ (d i k : Nat), l.length - i = d → i ≤ l.length → d + K ≤ k →
    gangplanklaw09_PointsWithout.l0 k p id true l ((l.take i).filter (notOf id)) (i : Int) = some true
  | d, i, k, hd, hi, hk => by
    obtain ⟨k, rfl⟩ : ∃ m, k = m + 1 := ⟨k - 1, by omega⟩
    simp only [gangplanklaw09_PointsWithout.l0]
    by_cases h : i < l.length
    · obtain ⟨d, rfl⟩ : ∃ m, d = m + 1 := ⟨d - 1, by omega⟩
      have w : wrap64 ((i : Int) + 1) = ((i + 1 : Nat) : Int) := by unfold wrap64; omega
      have hlen := List.length_filter_le (notOf id) (l.take i)
      rw [List.length_take] at hlen
      have ih := without_loop p id hp l hl hf K hK d (i + 1) k (by omega) (by omega) (by omega)
      rw [take_filter id l i h] at ih
      rw [if_pos (by omega), if_pos (by omega), rdPt l i h, w]
      by_cases he : l[i].f1 = id
      · rw [if_pos he] at ih ⊢
        rw [List.append_nil] at ih
        exact ih
      · rw [if_neg he] at ih ⊢
        rw [if_pos (by omega)]
        exact ih
    · rw [if_neg (by omega), if_pos trivial, List.take_of_length_le (by omega), hf]
      have h1 : pool_Without.f p id = some (keptL id p) := if_pos (by omega)
      have hkl := keptL_le id p
      have hpl : (ofL (keptL id p)).length ≤ 128 * (keptL id p).length := by rw [ofL_length]; exact ptsT_len _
      rw [h1, Option.bind_some, of_some _ (by omega), Option.bind_some, same _ _ (by omega) k (by omega), Option.bind_some, (sameP_iff _ _).2 rfl]
theorem PointsWithout : gangplanklaw09_PointsWithout.Pure := by
  intro l id _ _ _
  refine ⟨6000, ?_⟩
  unfold gangplanklaw09_PointsWithout.f
  rw [works _ (by omega), Option.bind_some, if_pos rfl]
  by_cases c : (l.length : Int) > 8
  · rw [if_pos c]
  · have hpl : (ofL l).length ≤ 128 * l.length := by rw [ofL_length]; exact ptsT_len _
    rw [if_neg c, of_some _ (by omega), Option.bind_some]
    exact without_loop l id (by omega) (ofL l) (by omega) (ofL_kept id l) 3000 (by omega) (ofL l).length 0 6000 (by omega) (by omega) (by omega)
end Go.Proofs.Ytcekkbimdogboaa.Pure
