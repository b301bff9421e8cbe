/- The statement RingOne, over lists: a hash goes to one of the pool, a point's own hash to its backend, in whatever order they stand. -/
import Derived.Test.YtcekkbimdogboaaPx5
import Derived.Test.YtcekkbimdogboaaRingWorks
import Derived.Test.YtcekkbimdogboaaPoolCheck
set_option linter.unusedVariables false
set_option linter.unusedSimpArgs false
namespace Go.Proofs.Ytcekkbimdogboaa.Pure
open Go.RowKit Go.Proofs.Ytcekkbimdogboaa.P Go.Proofs.YtcekkbimdogboaaW.PrintWords Go.Proofs.YtcekkbimdogboaaW.PrintLast Go.Proofs.Ytcekkbimdogboaa.Hand
open Go.Proofs.Ytcekkbimdogboaa.PointsLaw Go.Proofs.Ytcekkbimdogboaa.RingLaw
open Go.Proofs.Ytcekkbimdogboaa.PoolLaw (May check_zero find_nonneg find_some)
theorem ofL_perm_pool (p q : List Bk) (h : p.Perm q) : ofL p = ofL q :=
  ofL_unique q (ofL p) ((ofL_perm p).trans ((h.flatMap_right _).map _)) (ofL_sorted p)
theorem one_skip (k : Nat) (p : List Bk) (h n : Int) : rngOne.j0 (k + 1) p h n true true = some true := by
  simp only [rngOne.j0]
  rw [if_pos (by trivial)]
theorem one_in (p : List Bk) (hp : p.length ≤ 8) (h n g : Int) (hg : goesTo (ofL p) h = g) (hf : 0 ≤ findL p g) (k : Nat) (b : Bool) (hb : b = false → 0 ≤ n ∧ n < ((ofL p).length : Int)) : rngOne.j1 (k + 1) p h n true g (ofL p) b = some true := by
  simp only [rngOne.j1]
  cases b with
  | true =>
    rw [if_pos rfl, if_pos (by trivial), find_some p (by omega), Option.bind_some, decide_eq_true (by omega)]
  | false =>
    obtain ⟨h0, h1⟩ := hb rfl
    obtain ⟨n, rfl⟩ : ∃ m : Nat, n = (m : Int) := ⟨n.toNat, by omega⟩
    have hn : n < (ofL p).length := by omega
    have hs : pool_Sorted.f p = some (insL p) := if_pos (by omega)
    have hsl : (insL p).length = p.length := (insL_perm p).length_eq
    have hsp : ring_Pick.f (insL p) h = some g := by
      rw [pick_some _ h (by omega), ofL_perm_pool _ _ (insL_perm p), hg]
    rw [if_neg (by decide), if_pos h0, if_pos h1, rdPt _ n hn, pick_some p _ (by omega), Option.bind_some]
    by_cases e : goesTo (ofL p) (ofL p)[n].f0 = (ofL p)[n].f1
    · rw [if_pos e, if_pos (by trivial), find_some p (by omega), Option.bind_some, if_pos hf, hs, Option.bind_some, hsp, Option.bind_some, beq_self_eq_true]
    · have hn0 : 0 < n := by
        refine Classical.byContradiction fun hz => e ?_
        exact goes_at _ (up_ofL p) n hn (fun h0 => absurd h0 hz)
      have hq : ((ofL p)[n - 1]'(by omega)).f0 = (ofL p)[n].f0 := by
        refine Classical.byContradiction fun hz => e ?_
        exact goes_at _ (up_ofL p) n hn (fun h0 => hz)
      have hl := ofL_len p
      have w2 : wrap64 ((n : Int) - 1) = ((n - 1 : Nat) : Int) := by unfold wrap64; omega
      rw [if_neg e, if_pos (by omega), w2, if_pos (by omega), if_pos (by omega), if_pos (by trivial), find_some p (by omega), Option.bind_some, if_pos hf, rdPt _ (n - 1) (by omega), if_pos hq, hs, Option.bind_some, hsp, Option.bind_some, beq_self_eq_true]
theorem RingOne : rngOne.Pure := by
  intro p h n hlen hok _ _
  refine ⟨3000, ?_⟩
  unfold rngOne.f
  rw [works, Option.bind_some, if_pos rfl]
  by_cases c : (p.length : Int) > 8
  · rw [if_pos c]
    exact one_skip 2999 p h n
  rw [if_neg c]
  have hwf : idsWf p = true := List.all_eq_true.2 fun x hx => (hok x hx).1
  rw [show pool_Check.f p = some (checkL p) from if_pos ⟨by omega, hwf⟩, Option.bind_some]
  by_cases hz : checkL p = 0
  · have hM := (check_zero p).1 hz
    obtain ⟨k, hk3⟩ : ∃ k, 3000 = k + 1 + 1 := ⟨2998, rfl⟩
    rw [hz, show ((0 : Int) != 0) = false from rfl, hk3]
    simp only [rngOne.j0]
    rw [if_neg (by decide), pick_some p h (by omega), Option.bind_some]
    by_cases hp : p = []
    · subst hp
      rw [ofL_nil, if_pos (by simp), if_pos (by trivial)]
      rfl
    · obtain ⟨b, hb, e⟩ := goes_in (fun b hb => (hM.weights b hb).1) hp h
      have hf : 0 ≤ findL p (goesTo (ofL p) h) := (find_nonneg p _).2 ⟨b, hb, e.symm⟩
      have hl0 : 0 < p.length := List.length_pos_iff.2 hp
      rw [if_neg (by omega), of_some p (by omega), Option.bind_some]
      by_cases h0 : n < 0
      · rw [if_pos h0]
        exact one_in p (by omega) h n _ rfl hf k true (fun h => by cases h)
      · rw [if_neg h0]
        exact one_in p (by omega) h n _ rfl hf k _ (fun hd => by have := of_decide_eq_false hd; omega)
  · rw [show (checkL p != 0) = true from by simpa using hz]
    exact one_skip 2999 p h n
end Go.Proofs.Ytcekkbimdogboaa.Pure
