/- The points of a pool without a backend: all others' points. -/
import Derived.Test.YtcekkbimdogboaaPx5
import Derived.Test.YtcekkbimdogboaaPx2
import Derived.Test.YtcekkbimdogboaaPointsBase
set_option linter.unusedVariables false
set_option linter.unusedSimpArgs false
namespace Go.Proofs.Ytcekkbimdogboaa.PointsLaw
open Go.RowKit Go.Proofs.Ytcekkbimdogboaa.P Go.Proofs.YtcekkbimdogboaaW.PrintWords Go.Proofs.YtcekkbimdogboaaW.PrintLast Go.Proofs.Ytcekkbimdogboaa.Hand
def notOf (id : Int) (x : Pt) : Bool := !(x.f1 == id)
theorem ptsL_id (b : Bk) (x : Pl) (hx : x ∈ ptsL b) : x.f1 = b.f0 := by
  obtain ⟨n, _, rfl⟩ := List.mem_map.1 hx
  rfl
theorem kept_pts (id : Int) : ∀ ps : List Bk, ((ptsT ps).map ptOf).filter (notOf id) = (ptsT (keptL id ps)).map ptOf
  | [] => rfl
  | b :: ps => by
    have ih := kept_pts id ps
    have e : ptsT (b :: ps) = ptsL b ++ ptsT ps := by simp [ptsT]
    rw [e, List.map_append, List.filter_append, ih]
    by_cases hb : b.f0 = id
    · have h1 : keptL id (b :: ps) = keptL id ps := by simp [keptL, hb]
      rw [h1]
      have h2 : ((ptsL b).map ptOf).filter (notOf id) = [] := by
        rw [List.filter_eq_nil_iff]
        intro x hx
        obtain ⟨y, hy, rfl⟩ := List.mem_map.1 hx
        have := ptsL_id b y hy
        simp [notOf, ptOf, this, hb]
      rw [h2, List.nil_append]
    · have h1 : keptL id (b :: ps) = b :: keptL id ps := by simp [keptL, hb]
      have h2 : ((ptsL b).map ptOf).filter (notOf id) = (ptsL b).map ptOf := by
        rw [List.filter_eq_self]
        intro x hx
        obtain ⟨y, hy, rfl⟩ := List.mem_map.1 hx
        have := ptsL_id b y hy
        simp [notOf, ptOf, this, hb]
      rw [h1, h2]
      simp [ptsT]
/-- WITHOUT A BACKEND ALL OTHER POINTS STAY. -/
theorem ofL_kept (id : Int) (ps : List Bk) : (ofL ps).filter (notOf id) = ofL (keptL id ps) :=
  ofL_unique (keptL id ps) _ (by rw [← kept_pts]; exact (ofL_perm ps).filter _) ((ofL_sorted ps).filter _)
theorem keptL_le (id : Int) (ps : List Bk) : (keptL id ps).length ≤ ps.length := List.length_filter_le _ _
theorem take_filter (id : Int) (l : List Pt) (i : Nat) (h : i < l.length) : (l.take (i + 1)).filter (notOf id) = (l.take i).filter (notOf id) ++ (if l[i].f1 = id then [] else [l[i]]) := by
  rw [List.take_succ_eq_append_getElem h, List.filter_append]
  congr 1
  by_cases hb : l[i].f1 = id <;> simp [notOf, hb]
end Go.Proofs.Ytcekkbimdogboaa.PointsLaw
