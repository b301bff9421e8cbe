/- The document's example of rings; successors and picks as numbers. -/
import Derived.Test.YtcekkbimdogboaaPx4
import Derived.Test.YtcekkbimdogboaaPx3
import Derived.Test.YtcekkbimdogboaaPx2
import Derived.Test.YtcekkbimdogboaaRingBase
set_option linter.unusedVariables false
set_option linter.unusedSimpArgs false
namespace Go.Proofs.Ytcekkbimdogboaa.RingLaw
open Go.RowKit Go.Proofs.Ytcekkbimdogboaa.P Go.Proofs.YtcekkbimdogboaaW.PrintWords Go.Proofs.YtcekkbimdogboaaW.PrintLast Go.Proofs.Ytcekkbimdogboaa.Hand
open Go.Proofs.Ytcekkbimdogboaa.PointsLaw
theorem succ_some (l : List Pt) (h : Int) (hl : l.length ≤ 1000000000) : ring_Succ.f l h = some (succL l h) := by
  unfold ring_Succ.f ring_circle_succ.f
  rw [if_pos hl]
  rfl
theorem ofL_len (p : List Bk) : (ofL p).length ≤ 128 * p.length := by rw [ofL_length]; exact ptsT_len p
theorem pick_some (p : List Bk) (h : Int) (hp : p.length ≤ 100000) : ring_Pick.f p h = some (goesTo (ofL p) h) := by
  have hl := ofL_len p
  have hl2 : (ofL p).length ≤ 1000000000 := by omega
  unfold ring_Pick.f
  rw [of_some p hp, Option.bind_some, succ_some _ _ hl2, Option.bind_some, pick_goes]
theorem moved_some (p q : List Bk) (hs : List Int) (hp : p.length ≤ 100000) (hq : q.length ≤ 100000) (hh : hs.length ≤ 1000000) : ring_Moved.f p q hs = some (mvL (bothL (ofL p) (ofL q) hs)) := if_pos ⟨hp, hq, hh⟩
theorem works : gangplanklaw10_works.f = some true := by
  have m7 : ∀ b ∈ [(⟨7, 1⟩ : Bk)], 1 ≤ b.f1 := by simp
  obtain ⟨b, hb, e⟩ := goes_in m7 (by simp) 3
  rw [List.mem_singleton] at hb
  subst hb
  have s1 : succL [(⟨5, 1⟩ : Pt), ⟨9, 2⟩] 5 = 1 := by decide
  have s2 : succL [(⟨5, 1⟩ : Pt), ⟨9, 2⟩] 6 = 2 := by decide
  have s3 : succL [(⟨5, 1⟩ : Pt), ⟨9, 2⟩] 10 = 1 := by decide
  have s4 : succL [] 1 = -1 := by decide
  have s5 : succL [] 3 = -1 := by decide
  have g5 : goesTo [] 3 = -1 := rfl
  have hm : mvL (bothL (ofL [(⟨7, 1⟩ : Bk)]) (ofL []) [3]) = [0] := by
    unfold mvL bothL
    rw [ofL_nil]
    simp [List.range_succ, bothAt, pick_goes, e, s5]
  unfold gangplanklaw10_works.f
  rw [Option.bind_some, succ_some _ _ (by simp), Option.bind_some, s1, if_pos rfl, succ_some _ _ (by simp), Option.bind_some, s2, if_pos rfl, succ_some _ _ (by simp), Option.bind_some, s3, if_pos rfl, succ_some _ _ (by simp), Option.bind_some, s4, if_pos rfl, pick_some _ _ (by simp), Option.bind_some, e, if_pos rfl, pick_some _ _ (by simp), Option.bind_some, ofL_nil, g5, if_pos rfl, moved_some _ _ _ (by simp) (by simp) (by simp), Option.bind_some, hm]
  rfl
end Go.Proofs.Ytcekkbimdogboaa.RingLaw
