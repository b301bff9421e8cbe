/- The statement PointsWith, over lists: with a backend more all other points stay. -/
import Derived.Test.YtcekkbimdogboaaPx7
import Derived.Test.YtcekkbimdogboaaPx6
import Derived.Test.YtcekkbimdogboaaPointsWorks
import Derived.Test.YtcekkbimdogboaaPointsKept
set_option linter.unusedVariables false
set_option linter.unusedSimpArgs false
namespace Go.Proofs.Ytcekkbimdogboaa.Pure
open Go.RowKit Go.Proofs.Ytcekkbimdogboaa.P Go.Proofs.YtcekkbimdogboaaW.PrintWords Go.Proofs.YtcekkbimdogboaaW.PrintLast Go.Proofs.Ytcekkbimdogboaa.Hand Go.Proofs.Ytcekkbimdogboaa.PointsLaw
theorem mxn2 (x : Int) : (8 * (mx 0 (mn x 16))) = ((8 * max 0 (min x 16)).toNat : Int) := by unfold mx mn; split <;> split <;> omega
theorem keptL_ids (id : Int) (p : List Bk) : ∀ b ∈ keptL id p, b.f0 ≠ id := fun b hb => by simpa using (List.mem_filter.1 hb).2
theorem with_kept (p : List Bk) (hp : p.length ≤ 8) (a b : Int) : pool_With.f (keptL a p) a b = some (keptL a p ++ [⟨a, b⟩]) := by
  have hle := keptL_le a p
  have hf : findL (keptL a p) a = -1 := by
    rcases findL_cases (keptL a p) a with ⟨h1, _⟩ | ⟨k, hk, _, h2, _⟩
    · exact h1
    · exact absurd h2 (keptL_ids a p _ (List.getElem_mem hk))
  unfold pool_With.f withL
  rw [if_pos (by omega), hf, if_pos (by decide)]
theorem with_loop (p : List Bk) (a b : Int) (hp : p.length ≤ 8) (l : List Pt) (hl : l.length ≤ 2048) (hf : l.filter (notOf a) = ofL (keptL a p)) (hn : l.length = (ofL (keptL a p)).length + cntL ⟨a, b⟩) (K : Nat) (hK : 1100 ≤ K) : ∀ (d i k : Nat), l.length - i = d → i ≤ l.length → d + K ≤ k →
    gangplanklaw09_PointsWith.l0 k p true l ((l.take i).filter (notOf a)) (i : Int) a b = some true
  | d, i, k, hd, hi, hk => by
    obtain ⟨k, rfl⟩ : ∃ m, k = m + 1 := ⟨k - 1, by omega⟩
    simp only [gangplanklaw09_PointsWith.l0]
    by_cases h : i < l.length
    · obtain ⟨d, rfl⟩ : ∃ m, d = m + 1 := ⟨d - 1, by omega⟩
      have w : wrap64 ((i : Int) + 1) = ((i + 1 : Nat) : Int) := by unfold wrap64; omega
      have hlen := List.length_filter_le (notOf a) (l.take i)
      rw [List.length_take] at hlen
      have ih := with_loop p a b hp l hl hf hn K hK d (i + 1) k (by omega) (by omega) (by omega)
      rw [take_filter a l i h] at ih
      rw [if_pos (by omega), if_pos (by omega), rdPt l i h, w]
      by_cases he : l[i].f1 = a
      · rw [if_pos he] at ih ⊢
        rw [List.append_nil] at ih
        exact ih
      · rw [if_neg he] at ih ⊢
        rw [if_pos (by omega)]
        exact ih
    · rw [if_neg (by omega), if_pos trivial, List.take_of_length_le (by omega), hf]
      have h1 : pool_Without.f p a = some (keptL a p) := if_pos (by omega)
      have hkl := keptL_le a p
      have hpl : (ofL (keptL a p)).length ≤ 128 * (keptL a p).length := by rw [ofL_length]; exact ptsT_len _
      have o1 : (keptL a p).length ≤ 100000 := by clear hn hf; omega
      have o2 : (ofL (keptL a p)).length ≤ 4611686018427387904 := by clear hn hf; omega
      have o3 : (ofL (keptL a p)).length < k := by clear hn hf; omega
      have w : wrap64 (((ofL (keptL a p)).length : Int) + (cntL ⟨a, b⟩ : Int)) = (l.length : Int) := by
        rw [hn]
        have := cntL_le ⟨a, b⟩
        obtain ⟨c, hc⟩ : ∃ c, cntL ⟨a, b⟩ = c := ⟨_, rfl⟩
        rw [hc] at this ⊢
        clear hc hn hf h1
        unfold wrap64
        omega
      have hc : (8 * max 0 (min b 16)).toNat = cntL ⟨a, b⟩ := rfl
      rw [h1, Option.bind_some, of_some _ o1, Option.bind_some, same _ _ o2 k o3, Option.bind_some, (sameP_iff _ _).2 rfl, if_pos rfl, mxn2, hc, w, beq_self_eq_true]
theorem PointsWith : gangplanklaw09_PointsWith.Pure := by
  intro l a b _ _ _ _
  refine ⟨6000, ?_⟩
  unfold gangplanklaw09_PointsWith.f
  rw [works _ (by omega), Option.bind_some, if_pos rfl]
  by_cases c : (l.length : Int) > 8
  · rw [if_pos c]
  · have hle := keptL_le a l
    have hq : (keptL a l ++ [(⟨a, b⟩ : Bk)]).length ≤ 9 := by rw [List.length_append, List.length_singleton]; omega
    have hpl := ptsT_len (keptL a l ++ [(⟨a, b⟩ : Bk)])
    rw [if_neg c, show pool_Without.f l a = some (keptL a l) from if_pos (by omega), Option.bind_some, with_kept l (by omega), Option.bind_some, of_some _ (by omega), Option.bind_some]
    have e1 : keptL a (keptL a l ++ [(⟨a, b⟩ : Bk)]) = keptL a l := by
      unfold keptL
      rw [List.filter_append, List.filter_filter]
      simp
    have hl : (ofL (keptL a l ++ [(⟨a, b⟩ : Bk)])).length ≤ 2048 := by rw [ofL_length]; omega
    refine with_loop l a b (by omega) (ofL (keptL a l ++ [⟨a, b⟩])) hl (by rw [ofL_kept, e1]) ?_ 3000 (by omega) _ 0 6000 rfl (by omega) (by omega)
    rw [ofL_length, ofL_length]
    simp [ptsT, ptsL_length]
end Go.Proofs.Ytcekkbimdogboaa.Pure
