/- The points of pools, as plain lists: one order, likeness: laws with no program in sight. -/
import Derived.Test.YtklngklmeanhcaaPx3
import Derived.Test.YtklngklmeanhcaaPx2
import Derived.Test.YtklngklmeanhcaaHashLaw
import Derived.Laws.BytesArg
set_option linter.unusedVariables false
set_option linter.unusedSimpArgs false
namespace Go.Proofs.Ytklngklmeanhcaa.PointsLaw
open Go.RowKit Go.Proofs.Ytklngklmeanhcaa.P Go.Proofs.YtklngklmeanhcaaW.PrintWords Go.Proofs.YtklngklmeanhcaaW.PrintLast Go.Proofs.Ytklngklmeanhcaa.Hand

abbrev Bk := S56
abbrev Pt := S124
abbrev Pl := S118
/-! ### one order -/
theorem Pt_ext {x y : Pt} (h1 : x.f0 = y.f0) (h2 : x.f1 = y.f1) : x = y := by cases x; cases y; simp at h1 h2; subst h1; subst h2; rfl
theorem lessP_iff (x y : Pt) : lessP x y = true ↔ x.f0 < y.f0 ∨ (x.f0 = y.f0 ∧ x.f1 < y.f1) := by unfold lessP; simp
theorem leP_iff (x y : Pt) : leP x y = true ↔ ¬ (y.f0 < x.f0 ∨ (y.f0 = x.f0 ∧ y.f1 < x.f1)) := by unfold leP; rw [Bool.not_eq_true', ← Bool.not_eq_true, lessP_iff]
theorem leP_anti (x y : Pt) (h1 : leP x y = true) (h2 : leP y x = true) : x = y := by
  rw [leP_iff] at h1 h2
  exact Pt_ext (by omega) (by omega)
theorem leP_trans (x y z : Pt) (h1 : leP x y = true) (h2 : leP y z = true) : leP x z = true := by rw [leP_iff] at *; omega
theorem leP_total (x y : Pt) : (leP x y || leP y x) = true := by
  rw [Bool.or_eq_true, leP_iff, leP_iff]; omega
theorem ofL_perm (ps : List Bk) : (ofL ps).Perm ((ptsT ps).map ptOf) := (List.mergeSort_perm _ _).map _
theorem ofL_sorted (ps : List Bk) : (ofL ps).Pairwise (fun x y => leP x y = true) := by
  unfold ofL srtL
  rw [List.pairwise_map]
  have h := List.pairwise_mergeSort (le := fun x y : Pl => !(ltOf ordI y x)) (fun a b c h1 h2 => by rw [Bool.not_eq_true'] at *; rw [ltOrd] at *; simp at *; omega) (fun a b => by rw [Bool.or_eq_true, Bool.not_eq_true', Bool.not_eq_true', ltOrd, ltOrd]; simp; omega) (ptsT ps)
  refine h.imp ?_
  intro a b hab
  rw [Bool.not_eq_true', ltOrd] at hab
  rw [leP_iff]
  simpa [ptOf] using hab
/-- A list that rises and holds the same is it. -/
theorem ofL_unique (ps : List Bk) (l : List Pt) (hp : l.Perm ((ptsT ps).map ptOf)) (hs : l.Pairwise (fun x y => leP x y = true)) : l = ofL ps :=
  List.Perm.eq_of_pairwise (le := fun x y => leP x y = true) (fun a b _ _ h1 h2 => leP_anti a b h1 h2) hs (ofL_sorted ps) (hp.trans (ofL_perm ps).symm)
theorem ofL_length (ps : List Bk) : (ofL ps).length = (ptsT ps).length := by rw [(ofL_perm ps).length_eq, List.length_map]
theorem of_some (ps : List Bk) (h : ps.length ≤ 100000) : points_Of.f ps = some (ofL ps) := if_pos h
theorem rdPt (xs : List Pt) (i : Nat) (h : i < xs.length) : rd_T124 xs (i : Int) = xs[i] := by unfold rd_T124; simp [h]
def notOf (id : Int) (x : Pt) : Bool := !(x.f1 == id)
theorem ptsL_id (b : Bk) (x : Pl) (hx : x ∈ ptsL b) : x.f1 = b.f0 := by
  obtain ⟨n, _, rfl⟩ := List.mem_map.1 hx
  rfl
/-! ### the document's example -/
theorem ofL_ids (ps : List Bk) (x : Pt) (hx : x ∈ ofL ps) : ∃ b ∈ ps, ∃ n : Nat, n < cntL b ∧ x = ⟨hashV b.f0 n, b.f0⟩ := by
  obtain ⟨y, hy, rfl⟩ := List.mem_map.1 ((ofL_perm ps).mem_iff.1 hx)
  obtain ⟨b, hb, hy⟩ := List.mem_flatMap.1 hy
  obtain ⟨n, hn, rfl⟩ := List.mem_map.1 hy
  exact ⟨b, hb, n, List.mem_range.1 hn, rfl⟩
theorem ofL_rises (ps : List Bk) (i : Nat) (h0 : 0 < i) (h : i < (ofL ps).length) : lessP (ofL ps)[i] (ofL ps)[i - 1] = false := by
  have h1 := List.pairwise_iff_getElem.1 (ofL_sorted ps) (i - 1) i (by omega) h (by omega)
  simpa [leP] using h1
end Go.Proofs.Ytklngklmeanhcaa.PointsLaw
