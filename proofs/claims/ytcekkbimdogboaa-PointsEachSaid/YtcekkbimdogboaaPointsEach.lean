/- The statement PointsEach, over lists: each backend has its own points, the same in every pool. -/
import Derived.Test.YtcekkbimdogboaaPx7
import Derived.Test.YtcekkbimdogboaaPointsWorks
import Derived.Test.YtcekkbimdogboaaPoolCheck
set_option linter.unusedVariables false
set_option linter.unusedSimpArgs false
namespace Go.Proofs.Ytcekkbimdogboaa.Pure
open Go.RowKit Go.Proofs.Ytcekkbimdogboaa.P Go.Proofs.YtcekkbimdogboaaW.PrintWords Go.Proofs.YtcekkbimdogboaaW.PrintLast Go.Proofs.Ytcekkbimdogboaa.Hand Go.Proofs.Ytcekkbimdogboaa.PointsLaw
open Go.Proofs.Ytcekkbimdogboaa.PoolLaw (May check_zero check_two find_some find_neg find_nonneg find_lt rdB)
def isOf (id : Int) (x : Pt) : Bool := x.f1 == id
theorem count_pts (id : Int) : ∀ ps : List Bk, ((ptsT ps).map ptOf).countP (isOf id) = (ps.map fun b => if b.f0 = id then cntL b else 0).sum
  | [] => rfl
  | b :: ps => by
    have ih := count_pts id ps
    have e : ptsT (b :: ps) = ptsL b ++ ptsT ps := by simp [ptsT]
    rw [e, List.map_append, List.countP_append, ih, List.map_cons, List.sum_cons]
    congr 1
    by_cases hb : b.f0 = id
    · rw [if_pos hb]
      have h := List.countP_eq_length (l := (ptsL b).map ptOf) (p := isOf id) |>.2 (fun x hx => by
        obtain ⟨y, hy, rfl⟩ := List.mem_map.1 hx
        obtain ⟨n, _, rfl⟩ := List.mem_map.1 hy
        simp [isOf, ptOf, hb])
      rw [h, List.length_map, ptsL_length]
    · rw [if_neg hb]
      exact List.countP_eq_zero.2 fun x hx => by
        obtain ⟨y, hy, rfl⟩ := List.mem_map.1 hx
        obtain ⟨n, _, rfl⟩ := List.mem_map.1 hy
        simp [isOf, ptOf, hb]
theorem sum_none (id : Int) : ∀ ps : List Bk, (∀ b ∈ ps, b.f0 ≠ id) → (ps.map fun b => if b.f0 = id then cntL b else 0).sum = 0
  | [], _ => rfl
  | b :: ps, h => by
    rw [List.map_cons, List.sum_cons, if_neg (h b List.mem_cons_self), sum_none id ps (fun x hx => h x (List.mem_cons_of_mem _ hx))]
theorem sum_one (id : Int) : ∀ (ps : List Bk) (k : Nat) (hk : k < ps.length), ps[k].f0 = id → (ps.map (·.f0)).Nodup → (ps.map fun b => if b.f0 = id then cntL b else 0).sum = cntL ps[k]
  | b :: ps, 0, hk, h, hd => by
    have h' : b.f0 = id := h
    have hz := sum_none id ps fun x hx e => (List.nodup_cons.1 hd).1 (List.mem_map.2 ⟨x, hx, e.trans h'.symm⟩)
    rw [List.map_cons, List.sum_cons, hz, if_pos h']
    rfl
  | b :: ps, k + 1, hk, h, hd => by
    have hk' : k < ps.length := by simpa using hk
    have h' : ps[k].f0 = id := h
    have hb : b.f0 ≠ id := fun e => (List.nodup_cons.1 hd).1 (List.mem_map.2 ⟨ps[k], List.getElem_mem _, h'.trans e.symm⟩)
    have h3 := sum_one id ps k hk' h' (List.nodup_cons.1 hd).2
    rw [List.map_cons, List.sum_cons, if_neg hb, h3, Nat.zero_add]
    rfl
theorem count_of (id : Int) (ps : List Bk) : (ofL ps).countP (isOf id) = (ps.map fun b => if b.f0 = id then cntL b else 0).sum := by
  rw [(ofL_perm ps).countP_eq, count_pts]
theorem cnt_may {p : List Bk} (h : May p) (b : Bk) (hb : b ∈ p) : (cntL b : Int) = 8 * b.f1 := by
  have := h.weights b hb
  unfold cntL; omega
/-- the last loop: is the point there? -/
theorem each_there (p : List Bk) (id n : Int) (c at_ : Int) (l : List Pt) (hl : l.length ≤ 2048) (h0 : 0 ≤ at_) (h1 : at_ < (p.length : Int)) (hw : Hid (c = wrap64 (8 * (rd_T39 p at_).f1))) (K : Nat) (hK : 1 ≤ K) : ∀ (d i k : Nat) (th : Bool), l.length - i = d → i ≤ l.length → d + K ≤ k →
    (th = true ∨ ∃ j, ∃ hj : j < l.length, i ≤ j ∧ l[j] = ⟨hashV id n, id⟩) → gangplanklaw09_PointsEach.l1 k p id n true l c at_ th (i : Int) = some true
  | d, i, k, th, hd, hi, hk, hth => by
    obtain ⟨k, rfl⟩ : ∃ m, k = m + 1 := ⟨k - 1, by omega⟩
    simp only [gangplanklaw09_PointsEach.l1]
    by_cases h : i < l.length
    · obtain ⟨d, rfl⟩ : ∃ m, d = m + 1 := ⟨d - 1, by omega⟩
      have w : wrap64 ((i : Int) + 1) = ((i + 1 : Nat) : Int) := by unfold wrap64; omega
      rw [if_pos (show (i : Int) < (l.length : Int) by omega)]
      simp only [w]
      cases th with
      | true =>
        rw [if_pos rfl]
        exact each_there p id n c at_ l hl h0 h1 hw K hK d (i + 1) k true (by omega) (by omega) (by omega) (.inl rfl)
      | false =>
        rw [if_neg (by decide), if_pos (show (0 : Int) ≤ (i : Int) by omega), hashV_eq, Option.bind_some, rdPt l i h]
        refine each_there p id n c at_ l hl h0 h1 hw K hK d (i + 1) k _ (by omega) (by omega) (by omega) ?_
        rcases hth with hth | ⟨j, hj, hij, hjx⟩
        · exact absurd hth (by decide)
        · by_cases e : j = i
          · subst e
            left
            rw [hjx]
            simp
          · exact .inr ⟨j, hj, by omega, hjx⟩
    · rw [if_neg (by omega), if_pos trivial, if_pos h0, if_pos h1, if_pos hw.out]
      rcases hth with rfl | ⟨j, hj, hij, _⟩
      · rfl
      · omega
theorem each_count (p : List Bk) (hp : p.length ≤ 8) (hM : May p) (id n : Int) (K : Nat) (hK : 1200 ≤ K) : ∀ (d i k : Nat), (ofL p).length - i = d → i ≤ (ofL p).length → d + K ≤ k →
    gangplanklaw09_PointsEach.l0 k p id n true (ofL p) (((ofL p).take i).countP (isOf id) : Int) (i : Int) = some true
  | d, i, k, hd, hi, hk => by
    obtain ⟨k, rfl⟩ : ∃ m, k = m + 1 := ⟨k - 1, by omega⟩
    have hpl : (ofL p).length ≤ 128 * p.length := by rw [ofL_length]; exact ptsT_len _
    simp only [gangplanklaw09_PointsEach.l0]
    by_cases h : i < (ofL p).length
    · obtain ⟨d, rfl⟩ : ∃ m, d = m + 1 := ⟨d - 1, by omega⟩
      have w : wrap64 ((i : Int) + 1) = ((i + 1 : Nat) : Int) := by unfold wrap64; omega
      have hc : ((ofL p).take i).countP (isOf id) ≤ i := Nat.le_trans List.countP_le_length (by rw [List.length_take]; omega)
      have w2 : wrap64 ((((ofL p).take i).countP (isOf id) : Int) + 1) = ((((ofL p).take i).countP (isOf id) + 1 : Nat) : Int) := by unfold wrap64; omega
      have ih := each_count p hp hM id n K hK d (i + 1) k (by omega) (by omega) (by omega)
      rw [List.take_succ_eq_append_getElem h, List.countP_append] at ih
      rw [if_pos (by omega), if_pos (by omega), rdPt _ i h, w, w2]
      by_cases he : (ofL p)[i].f1 = id
      · rw [if_pos he]
        have e1 : List.countP (isOf id) [(ofL p)[i]] = 1 := by simp [isOf, he]
        rw [e1] at ih
        exact ih
      · rw [if_neg he]
        have e1 : List.countP (isOf id) [(ofL p)[i]] = 0 := by simp [isOf, he]
        rw [e1] at ih
        exact ih
    · rw [if_neg (by omega), List.take_of_length_le (by omega), count_of, find_some p (by omega), Option.bind_some]
      obtain ⟨k, rfl⟩ : ∃ m, k = m + 1 + 1 := ⟨k - 2, by omega⟩
      rcases findL_cases p id with ⟨f1, f2⟩ | ⟨q, hq, f1, f2, f3⟩
      · rw [f1, if_pos (by decide)]
        simp only [gangplanklaw09_PointsEach.j2]
        rw [if_pos trivial, if_pos trivial, sum_none id p f2]
        rfl
      · have hcnt := sum_one id p q hq f2 hM.apart
        have hmay := cnt_may hM p[q] (List.getElem_mem hq)
        have hwt := hM.weights p[q] (List.getElem_mem hq)
        rw [hcnt, f1, if_neg (by omega), show decide ((q : Int) ≥ (p.length : Int)) = false from decide_eq_false (by omega)]
        have hr := rdB p q hq
        have w : wrap64 (8 * p[q].f1) = (cntL p[q] : Int) := by rw [hmay]; unfold wrap64; omega
        simp only [gangplanklaw09_PointsEach.j2]
        rw [if_neg (by decide)]
        have hout : ∀ k', gangplanklaw09_PointsEach.j3 (k' + 1) p id n true (ofL p) (cntL p[q] : Int) (q : Int) true = some true := fun k' => by
          simp only [gangplanklaw09_PointsEach.j3]
          rw [if_pos trivial, if_pos trivial, if_pos (by omega), if_pos (by omega), hr, w, beq_self_eq_true]
        by_cases hn : n < 0
        · rw [if_pos hn]
          exact hout k
        · rw [if_neg hn, if_pos (by omega), if_pos (by omega), hr, w]
          by_cases hn2 : n ≥ (cntL p[q] : Int)
          · rw [show decide (n ≥ (cntL p[q] : Int)) = true from decide_eq_true hn2]
            exact hout k
          · rw [show decide (n ≥ (cntL p[q] : Int)) = false from decide_eq_false hn2]
            simp only [gangplanklaw09_PointsEach.j3]
            rw [if_neg (by decide)]
            refine each_there p id n _ (q : Int) (ofL p) (by omega) (by omega) (by omega) (show _ = _ by rw [hr, w]) 1 (by omega) (ofL p).length 0 k false (by omega) (by omega) (by omega) (.inr ?_)
            have hmem : (⟨hashV id n, id⟩ : Pt) ∈ ofL p := by
              refine (ofL_perm p).mem_iff.2 (List.mem_map.2 ⟨⟨hashV id n, id⟩, List.mem_flatMap.2 ⟨p[q], List.getElem_mem hq, List.mem_map.2 ⟨n.toNat, List.mem_range.2 (by omega), ?_⟩⟩, rfl⟩)
              rw [f2, Int.toNat_of_nonneg (by omega)]
            obtain ⟨j, hj, e⟩ := List.mem_iff_getElem.1 hmem
            exact ⟨j, hj, Nat.zero_le _, e⟩
theorem PointsEach : gangplanklaw09_PointsEach.Pure := by
  intro l id n _ hok _ _
  refine ⟨6001, ?_⟩
  unfold gangplanklaw09_PointsEach.f
  rw [works _ (by omega), Option.bind_some, if_pos rfl]
  by_cases c : (l.length : Int) > 8
  · rw [if_pos c]
    simp only [gangplanklaw09_PointsEach.j0]
    rw [if_pos trivial]
  · have hwf : idsWf l = true := List.all_eq_true.2 fun x hx => (hok x hx).1
    rw [if_neg c, show pool_Check.f l = some (checkL l) from if_pos ⟨by omega, hwf⟩, Option.bind_some]
    simp only [gangplanklaw09_PointsEach.j0]
    rcases check_two l with h | h
    · have hM := (check_zero l).1 h
      rw [h, show ((0 : Int) != 0) = false from rfl, if_neg (by decide), of_some _ (by omega), Option.bind_some]
      have hpl : (ofL l).length ≤ 128 * l.length := by rw [ofL_length]; exact ptsT_len _
      have h2 := each_count l (by omega) hM id n 3000 (by omega) (ofL l).length 0 6000 (by omega) (by omega) (by omega)
      simpa using h2
    · rw [h, show ((10 : Int) != 0) = true from rfl, if_pos rfl]
end Go.Proofs.Ytcekkbimdogboaa.Pure
