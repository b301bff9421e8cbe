/- Pools, as plain lists: what may be, where a backend stands. -/
import Derived.Test.YtklngklmeanhcaaPx1
import Derived.Test.YtklngklmeanhcaaHashLaw
set_option linter.unusedVariables false
set_option linter.unusedSimpArgs false
namespace Go.Proofs.Ytklngklmeanhcaa.PoolLaw
open Go.RowKit Go.Proofs.Ytklngklmeanhcaa.P Go.Proofs.YtklngklmeanhcaaW.PrintWords Go.Proofs.YtklngklmeanhcaaW.PrintLast Go.Proofs.Ytklngklmeanhcaa.Hand
abbrev Bk := S56
/-- A pool that may be. -/
structure May (p : List Bk) : Prop where
  few : p.length ≤ 32
  ids : ∀ b ∈ p, 1 ≤ b.f0 ∧ b.f0 ≤ 65535
  weights : ∀ b ∈ p, 1 ≤ b.f1 ∧ b.f1 ≤ 16
  apart : (p.map (·.f0)).Nodup
theorem outP_false (a m : Int) : outP (a, m) = false ↔ 1 ≤ a ∧ a ≤ m := by unfold outP; simp
theorem bad_false : ∀ (l : List Bk) (seen : List Int), badFrom l seen = false ↔ ((∀ b ∈ l, b.f0 ∉ seen ∧ (1 ≤ b.f0 ∧ b.f0 ≤ 65535) ∧ (1 ≤ b.f1 ∧ b.f1 ≤ 16)) ∧ (l.map (·.f0)).Nodup)
  | [], seen => by simp [badFrom]
  | b :: l, seen => by
    have ih := bad_false l (seen ++ [b.f0])
    unfold badFrom
    rw [Bool.or_eq_false_iff, Bool.or_eq_false_iff, Bool.or_eq_false_iff, ih, outP_false, outP_false, decide_eq_false_iff_not, List.map_cons, List.nodup_cons]
    constructor
    · rintro ⟨⟨h1, h2, h3⟩, h4, h5⟩
      refine ⟨fun x hx => ?_, fun hm => ?_, h5⟩
      · rcases List.mem_cons.1 hx with rfl | hx
        · exact ⟨h1, h2, h3⟩
        · exact ⟨fun hs => (h4 x hx).1 (List.mem_append_left _ hs), (h4 x hx).2⟩
      · obtain ⟨x, hx, e⟩ := List.mem_map.1 hm
        exact (h4 x hx).1 (List.mem_append_right _ (by rw [e]; exact List.mem_singleton.2 rfl))
    · rintro ⟨h1, h2, h3⟩
      refine ⟨⟨(h1 b List.mem_cons_self).1, (h1 b List.mem_cons_self).2.1, (h1 b List.mem_cons_self).2.2⟩, fun x hx => ⟨fun hs => ?_, (h1 x (List.mem_cons_of_mem _ hx)).2⟩, h3⟩
      rcases List.mem_append.1 hs with hs | hs
      · exact (h1 x (List.mem_cons_of_mem _ hx)).1 hs
      · exact h2 (by rw [← List.mem_singleton.1 hs]; exact List.mem_map.2 ⟨x, hx, rfl⟩)
theorem check_zero (p : List Bk) : checkL p = 0 ↔ May p := by
  unfold checkL
  constructor
  · intro h
    cases hb : badFrom p [] with
    | true => rw [hb, if_pos rfl] at h; exact absurd h (by decide)
    | false =>
      rw [hb, if_neg (by decide)] at h
      by_cases h32 : 32 < p.length
      · rw [if_pos h32] at h; exact absurd h (by decide)
      · obtain ⟨h1, h2⟩ := (bad_false p []).1 hb
        exact ⟨by omega, fun b hx => (h1 b hx).2.1, fun b hx => (h1 b hx).2.2, h2⟩
  · intro h
    have hb : badFrom p [] = false := (bad_false p []).2 ⟨fun b hx => ⟨by simp, h.ids b hx, h.weights b hx⟩, h.apart⟩
    rw [hb, if_neg (by decide), if_neg (by have := h.few; omega)]
theorem check_two (p : List Bk) : checkL p = 0 ∨ checkL p = 10 := by
  unfold checkL; split
  · exact .inr rfl
  · split
    · exact .inr rfl
    · exact .inl rfl
theorem find_some (p : List Bk) (hp : p.length ≤ 8796093021952) (id : Int) : pool_Find.f p id = some (findL p id) := if_pos hp
theorem find_neg (p : List Bk) (id : Int) : findL p id < 0 ↔ ∀ b ∈ p, b.f0 ≠ id := by
  rcases findL_cases p id with ⟨h1, h2⟩ | ⟨k, hk, h1, h2, h3⟩
  · exact ⟨fun _ => h2, fun _ => by omega⟩
  · exact ⟨fun h => by omega, fun h => absurd h2 (h _ (List.getElem_mem hk))⟩
theorem find_nonneg (p : List Bk) (id : Int) : 0 ≤ findL p id ↔ ∃ b ∈ p, b.f0 = id := by
  have h := find_neg p id
  constructor
  · intro h0
    refine Classical.byContradiction fun hn => ?_
    have := h.2 fun b hb e => hn ⟨b, hb, e⟩
    omega
  · rintro ⟨b, hb, e⟩
    refine Classical.byContradiction fun hn => ?_
    exact h.1 (by omega) b hb e
theorem find_lt (p : List Bk) (id : Int) : findL p id < (p.length : Int) := by
  rcases findL_cases p id with ⟨h1, _⟩ | ⟨k, hk, h1, _, _⟩ <;> omega
theorem rdB (xs : List Bk) (i : Nat) (h : i < xs.length) : rd_T56 xs (i : Int) = xs[i] := by unfold rd_T56; simp [h]
end Go.Proofs.Ytklngklmeanhcaa.PoolLaw
