/- The points of pools, as plain lists: one order, likeness: laws with no program in sight. -/
import Derived.Test.YtcekkbimdogboaaPx3
import Derived.Test.YtcekkbimdogboaaPx2
import Derived.Test.YtcekkbimdogboaaPx4
import Derived.Test.YtcekkbimdogboaaHashLaw
import Derived.Laws.BytesArg
set_option linter.unusedVariables false
set_option linter.unusedSimpArgs false
namespace Go.Proofs.Ytcekkbimdogboaa.PointsLaw
open Go.RowKit Go.Proofs.Ytcekkbimdogboaa.P Go.Proofs.YtcekkbimdogboaaW.PrintWords Go.Proofs.YtcekkbimdogboaaW.PrintLast Go.Proofs.Ytcekkbimdogboaa.Hand

abbrev Bk := S39
abbrev Pt := S30
abbrev Pl := S61
/-! ### one order -/
theorem Pt_ext {x y : Pt} (h1 : x.f0 = y.f0) (h2 : x.f1 = y.f1) : x = y := by cases x; cases y; simp at h1 h2; subst h1; subst h2; rfl
theorem lessP_iff (x y : Pt) : lessP x y = true ↔ x.f0 < y.f0 ∨ (x.f0 = y.f0 ∧ x.f1 < y.f1) := by unfold lessP; simp
theorem leP_iff (x y : Pt) : leP x y = true ↔ ¬ (y.f0 < x.f0 ∨ (y.f0 = x.f0 ∧ y.f1 < x.f1)) := by unfold leP; rw [Bool.not_eq_true', ← Bool.not_eq_true, lessP_iff]
theorem leP_anti (x y : Pt) (h1 : leP x y = true) (h2 : leP y x = true) : x = y := by
  rw [leP_iff] at h1 h2
  exact Pt_ext (by omega) (by omega)
theorem leP_trans (x y z : Pt) (h1 : leP x y = true) (h2 : leP y z = true) : leP x z = true := by rw [leP_iff] at *; omega
theorem leP_total (x y : Pt) : (leP x y || leP y x) = true := by
  rw [Bool.or_eq_true, leP_iff, leP_iff]; omega
theorem ofL_perm (ps : List Bk) : (ofL ps).Perm ((ptsT ps).map ptOf) := (List.mergeSort_perm _ _).map _
theorem ofL_sorted (ps : List Bk) : (ofL ps).Pairwise (fun x y => leP x y = true) := by
  unfold ofL srtL
  rw [List.pairwise_map]
  have h := List.pairwise_mergeSort (le := fun x y : Pl => !(ltOf ordI y x)) (fun a b c h1 h2 => by rw [Bool.not_eq_true'] at *; rw [ltOrd] at *; simp at *; omega) (fun a b => by rw [Bool.or_eq_true, Bool.not_eq_true', Bool.not_eq_true', ltOrd, ltOrd]; simp; omega) (ptsT ps)
  refine h.imp ?_
  intro a b hab
  rw [Bool.not_eq_true', ltOrd] at hab
  rw [leP_iff]
  simpa [ptOf] using hab
/-- A list that rises and holds the same is it. -/
theorem ofL_unique (ps : List Bk) (l : List Pt) (hp : l.Perm ((ptsT ps).map ptOf)) (hs : l.Pairwise (fun x y => leP x y = true)) : l = ofL ps :=
  List.Perm.eq_of_pairwise (le := fun x y => leP x y = true) (fun a b _ _ h1 h2 => leP_anti a b h1 h2) hs (ofL_sorted ps) (hp.trans (ofL_perm ps).symm)
theorem ofL_length (ps : List Bk) : (ofL ps).length = (ptsT ps).length := by rw [(ofL_perm ps).length_eq, List.length_map]
theorem of_some (ps : List Bk) (h : ps.length ≤ 100000) : points_Of.f ps = some (ofL ps) := if_pos h
/-! ### are lists alike -/
def eqP (x y : Pt) : Bool := (x.f0 == y.f0) && (x.f1 == y.f1)
def sameP (a b : List Pt) : Bool := decide (a.length = b.length) && (a.zip b).all fun p => eqP p.1 p.2
theorem eqP_iff (x y : Pt) : eqP x y = true ↔ x = y := by
  unfold eqP
  rw [Bool.and_eq_true, beq_iff_eq, beq_iff_eq]
  exact ⟨fun h => Pt_ext h.1 h.2, fun h => by subst h; exact ⟨rfl, rfl⟩⟩
theorem sameP_iff (a b : List Pt) : sameP a b = true ↔ a = b := by
  unfold sameP
  rw [Bool.and_eq_true, decide_eq_true_eq, List.all_eq_true]
  constructor
  · rintro ⟨hl, h⟩
    refine List.ext_getElem hl fun i h1 h2 => ?_
    exact (eqP_iff _ _).1 (h (a[i], b[i]) (List.mem_iff_getElem.2 ⟨i, by rw [List.length_zip]; omega, by simp⟩))
  · rintro rfl
    refine ⟨rfl, fun p hp => ?_⟩
    obtain ⟨i, hi, rfl⟩ := List.mem_iff_getElem.1 hp
    simp [eqP]
theorem rdPt (xs : List Pt) (i : Nat) (h : i < xs.length) : rd_T30 xs (i : Int) = xs[i] := by unfold rd_T30; simp [h]
theorem neP (x y : Pt) : (!((x.f0) == (y.f0)) || (!((x.f1) == (y.f1)))) = !eqP x y := by unfold eqP; rw [Bool.not_and]
theorem same_loop (a b : List Pt) (hl : a.length = b.length) (hm : a.length ≤ 4611686018427387904) : ∀ (d i k : Nat), a.length - i = d → i ≤ a.length → d < k →
    api_Point.l0 k a b (a.length : Int) (i : Int) = some (((a.zip b).drop i).all fun p => eqP p.1 p.2)
  | d, i, k, hd, hi, hk => by
    obtain ⟨k, rfl⟩ : ∃ m, k = m + 1 := ⟨k - 1, by omega⟩
    simp only [api_Point.l0]
    have hz : (a.zip b).length = a.length := by rw [List.length_zip]; omega
    by_cases h : i < a.length
    · obtain ⟨d, rfl⟩ : ∃ m, d = m + 1 := ⟨d - 1, by omega⟩
      have w : wrap64 ((i : Int) + 1) = ((i + 1 : Nat) : Int) := by unfold wrap64; omega
      have ed : (a.zip b).drop i = (a[i], b[i]) :: (a.zip b).drop (i + 1) := by rw [List.drop_eq_getElem_cons (by omega)]; simp
      rw [if_pos (by omega), if_pos (by omega), if_pos (by omega), if_pos (by omega), rdPt a i h, rdPt b i (by omega), neP, w, same_loop a b hl hm d (i + 1) k (by omega) (by omega) (by omega), ed, List.all_cons]
      cases eqP a[i] b[i] <;> simp
    · rw [if_neg (by omega), List.drop_of_length_le (by omega)]
      rfl
theorem same (a b : List Pt) (hm : a.length ≤ 4611686018427387904) (k : Nat) (hk : a.length < k) : points_Same.f k a b = some (sameP a b) := by
  unfold points_Same.f api_Point.f sameP
  by_cases h : a.length = b.length
  · rw [if_pos (by omega)]
    have h2 := same_loop a b h hm a.length 0 k (by omega) (by omega) hk
    rw [show ((0 : Nat) : Int) = 0 from rfl, List.drop_zero] at h2
    rw [h2, decide_eq_true h, Bool.true_and]
    rfl
  · rw [if_neg (by omega), decide_eq_false h, Bool.false_and]
    rfl
theorem order_ev (a b c d : Int) (k : Nat) (hk : 3 ≤ k) : points_place_order.f k a b c d = some (ordI ⟨a, b⟩ ⟨c, d⟩) := by
  unfold points_place_order.f
  rw [cmpI_u64, Option.bind_some, cmpI_int, Option.bind_some, at_rounds (g := fun k => cmp_Or_int.f k [cmpI a c, cmpI b d]) (fun k => cmp_Or_int.mono _ k) hk (orI_eq _ _)]
  rfl
theorem less (x y : Pt) (k : Nat) (hk : 3 ≤ k) : points_Less.f k x.f0 x.f1 y.f0 y.f1 = some (lessP x y) := by
  unfold points_Less.f
  rw [order_ev _ _ _ _ k hk, Option.bind_some]
  congr 1
  exact decide_eq_decide.2 (ordI_neg ⟨x.f0, x.f1⟩ ⟨y.f0, y.f1⟩)
/-! ### the document's example -/
theorem ofL_ids (ps : List Bk) (x : Pt) (hx : x ∈ ofL ps) : ∃ b ∈ ps, ∃ n : Nat, n < cntL b ∧ x = ⟨hashV b.f0 n, b.f0⟩ := by
  obtain ⟨y, hy, rfl⟩ := List.mem_map.1 ((ofL_perm ps).mem_iff.1 hx)
  obtain ⟨b, hb, hy⟩ := List.mem_flatMap.1 hy
  obtain ⟨n, hn, rfl⟩ := List.mem_map.1 hy
  exact ⟨b, hb, n, List.mem_range.1 hn, rfl⟩
theorem ofL_rises (ps : List Bk) (i : Nat) (h0 : 0 < i) (h : i < (ofL ps).length) : lessP (ofL ps)[i] (ofL ps)[i - 1] = false := by
  have h1 := List.pairwise_iff_getElem.1 (ofL_sorted ps) (i - 1) i (by omega) h (by omega)
  simpa [leP] using h1
end Go.Proofs.Ytcekkbimdogboaa.PointsLaw
