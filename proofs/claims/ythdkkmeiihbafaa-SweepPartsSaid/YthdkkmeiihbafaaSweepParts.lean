/- The statement that two steps come to the same as one, over numbers and lists. -/
import Derived.Test.YthdkkmeiihbafaaSweepBase
import Derived.Test.YthdkkmeiihbafaaPx10
set_option linter.unusedVariables false
set_option linter.unusedSimpArgs false
namespace Go.Proofs.Ythdkkmeiihbafaa.Pure
open Go.RowKit Go.Proofs.Ythdkkmeiihbafaa.P Go.Proofs.YthdkkmeiihbafaaW.PrintWords Go.Proofs.YthdkkmeiihbafaaW.PrintLast Go.Proofs.YthdkkmeiihbafaaW.PrintMore Go.Proofs.Ythdkkmeiihbafaa.Hand Go.Proofs.Ythdkkmeiihbafaa.ProbeLaw
theorem nOf_in {a : Int} {n : Nat} (h0 : 0 ≤ a) (h1 : a ≤ n) : (nOf a n : Int) = a := by
  unfold nOf
  rw [if_neg (show ¬ a < 0 by omega), if_neg (by omega)]; omega
theorem SweepParts : gangplanklaw13_SweepParts.Pure := by
  intro t f n m now _ _ _ _ _ _
  refine ⟨302, ?_⟩
  unfold gangplanklaw13_SweepParts.f
  refine bind_of (works13 _ (by omega)) ?_
  rw [if_pos rfl]
  have out : gangplanklaw13_SweepParts.j0 302 t f n m now true true = some true := by simp only [gangplanklaw13_SweepParts.j0]; rw [if_pos (by trivial)]
  rcases few_cases2 t 302 (by omega) with h | ⟨h, ht, hks⟩
  · exact bind_of h (by rw [if_neg (by decide)]; exact out)
  · refine bind_of h ?_
    rw [if_pos rfl]
    by_cases c1 : n < 0
    · rw [if_pos c1]; exact out
    rw [if_neg c1]
    by_cases c2 : m < 0
    · rw [if_pos c2]; exact out
    rw [if_neg c2]
    by_cases c3 : n > 64
    · rw [if_pos c3]; exact out
    rw [if_neg c3]
    by_cases c4 : m > 64
    · rw [if_pos c4]; exact out
    rw [if_neg c4, show wrap64 (n + m) = n + m from w64 (by omega) (by omega)]
    by_cases c5 : n + m > (t.length : Int)
    · rw [decide_eq_true c5]; exact out
    rw [decide_eq_false c5]
    clear out
    simp only [gangplanklaw13_SweepParts.j0]
    rw [if_neg (by decide), show wrap64 (n + m) = n + m from w64 (by omega) (by omega)]
    have hla := left_len ht hks now f n
    have hTl := swp_len now t f n
    have hak := left_keys ht hks now f n
    obtain ⟨a, ha⟩ : ∃ a, settle (swp now t f n).1 (swp now t f n).2 = a := ⟨_, rfl⟩
    rw [ha] at hla hak
    have sa := step_some ht hks f n now
    rw [ha] at sa
    have sb := step_some (t := a) (by omega) hak (nxt f n t.length) m now
    have sc := step_some ht hks f (n + m) now
    refine bind_of sa (bind_of sb (bind_of sc ?_))
    dsimp only
    have en := nOf_in (a := n) (n := t.length) (by omega) (by omega)
    have em := nOf_in (a := m) (n := t.length) (by omega) (by omega)
    have enm := nOf_in (a := n + m) (n := t.length) (by omega) (by omega)
    have hsum : nOf (n + m) t.length = nOf n t.length + nOf m t.length := by omega
    have hfx := nxt_self f n t.length
    have hnx : nxt (nxt f n t.length) m a.length = nxt f (n + m) t.length := by
      rw [hla]
      have hn : ∀ x y, nxt x y t.length = if 0 < t.length then placeAt (fvOf x t.length) t.length (nOf y t.length) else 0 := fun _ _ => rfl
      rw [hn (nxt f n t.length) m, hfx, hn f n, hn f (n + m)]
      by_cases c : 0 < t.length
      · rw [if_pos c, if_pos c, if_pos c, placeAt_add, hsum]
      · rw [if_neg c, if_neg c]
    rw [if_pos hnx]
    refine bind_of (count_some 2 (by omega)) ?_
    have g0 := swp_cnt t now f n
    have g1 := swp_cnt t now f (n + m)
    have cl := countIn_le 2 t
    have hw : wrap64 (wrap64 (2 * (countIn 2 t : Int)) + wrap64 (2 * (swp now t f (n + m)).2)) = 2 * (countIn 2 t : Int) + 2 * (swp now t f (n + m)).2 := by
      rw [w64 (x := 2 * (countIn 2 t : Int)) (by omega) (by omega), w64 (x := 2 * (swp now t f (n + m)).2) (by omega) (by omega)]
      exact w64 (by omega) (by omega)
    rw [hw]
    by_cases c6 : 2 * (countIn 2 t : Int) + 2 * (swp now t f (n + m)).2 > (t.length : Int)
    · rw [if_pos c6]
    · rw [if_neg c6, if_pos (by trivial)]
      have tb := tomb_step (now := now) (swp_in t f (n + m))
      have tb1 := tomb_step (now := now) (swp_in t f n)
      have e1 : swp now t f (n + m) = stepAll now (swp now t f n) (upto (placeAt (nxt f n t.length) t.length) (nOf m t.length)) := by
        unfold swp
        rw [hsum, upto_split]
        unfold stepAll
        rw [List.foldl_append]
        by_cases c : 0 < t.length
        · congr 1
          have : (fun i => placeAt (fvOf f t.length) t.length (nOf n t.length + i)) = placeAt (nxt f n t.length) t.length := funext fun i => by
            unfold nxt
            rw [if_pos c, placeAt_add]
          rw [this]
        · have : nOf m t.length = 0 := by omega
          rw [this]; rfl
      obtain ⟨T, hT⟩ : ∃ T, (swp now t f n).1 = T := ⟨_, rfl⟩
      obtain ⟨G, hG⟩ : ∃ G, (swp now t f n).2 = G := ⟨_, rfl⟩
      have eTG : swp now t f n = (T, G) := by rw [← hT, ← hG]
      have tb1' : (countIn 2 T : Int) = countIn 2 t + G := by rw [← hT, ← hG]; exact tb1
      rw [eTG, shift_step] at e1
      rw [hT] at hTl
      have hin : ∀ j ∈ upto (placeAt (nxt f n t.length) t.length) (nOf m t.length), 0 ≤ j ∧ j < T.length := fun j hj => by rw [hTl]; exact mem_upto_range (nOf_le m t.length) j hj
      have s0 := same_step (now := now) hin
      have tb2 := tomb_step (now := now) hin
      have hgg : (swp now t f (n + m)).2 = G + (stepAll now (T, 0) (upto (placeAt (nxt f n t.length) t.length) (nOf m t.length))).2 := by rw [e1]
      have haT : a = T := by
        rw [← ha, eTG]
        unfold settle
        dsimp only
        split
        · rw [if_neg (by omega)]
        · rfl
      have hsw : swp now a (nxt f n t.length) m = stepAll now (T, 0) (upto (placeAt (nxt f n t.length) t.length) (nOf m t.length)) := by
        unfold swp
        rw [haT, hTl, hfx]
      rw [hsw, hG, hgg]
      obtain ⟨⟨T2, G2⟩, hs2⟩ : ∃ s, stepAll now (T, 0) (upto (placeAt (nxt f n t.length) t.length) (nOf m t.length)) = s := ⟨_, rfl⟩
      rw [hs2] at hgg e1 s0 tb2 ⊢
      dsimp only at hgg s0 tb2 ⊢
      rw [if_pos (show wrap64 (G + G2) = G + G2 by rw [hG] at g0; exact w64 (by omega) (by omega))]
      have hT2l : T2.length = t.length := by
        have := stepAll_length now (upto (placeAt (nxt f n t.length) t.length) (nOf m t.length)) (T, 0)
        rw [hs2] at this; exact this.trans hTl
      have eb : settle T2 G2 = T2 := by
        unfold settle
        split
        · rw [if_neg (by omega)]
        · rfl
      have ec : settle (swp now t f (n + m)).1 (G + G2) = T2 := by
        rw [e1]
        unfold settle
        dsimp only
        split
        · rw [if_neg (by omega)]
        · rfl
      rw [eb, ec]
      exact bind_of (same_refl T2 (by omega) _ (by omega)).2 rfl
end Go.Proofs.Ythdkkmeiihbafaa.Pure
