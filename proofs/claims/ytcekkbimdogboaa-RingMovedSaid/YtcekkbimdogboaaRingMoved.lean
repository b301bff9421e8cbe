/- The statement RingMoved, over lists: what moves without a backend is what went to it. -/
import Derived.Test.YtcekkbimdogboaaPx6
import Derived.Test.YtcekkbimdogboaaRingKept
set_option linter.unusedVariables false
set_option linter.unusedSimpArgs false
namespace Go.Proofs.Ytcekkbimdogboaa.Pure
open Go.RowKit Go.Proofs.Ytcekkbimdogboaa.P Go.Proofs.YtcekkbimdogboaaW.PrintWords Go.Proofs.YtcekkbimdogboaaW.PrintLast Go.Proofs.Ytcekkbimdogboaa.Hand
open Go.Proofs.Ytcekkbimdogboaa.PointsLaw Go.Proofs.Ytcekkbimdogboaa.RingLaw
open Go.Proofs.Ytcekkbimdogboaa.PoolLaw (May check_zero find_nonneg find_some)
theorem rdI (xs : List Int) (i : Nat) (h : i < xs.length) : rd xs (i : Int) = xs[i] := by unfold rd; simp [h]
theorem moves_iff {p : List Bk} (hM : May p) (id h : Int) : succL (ofL p) h ≠ succL (ofL (keptL id p)) h ↔ goesTo (ofL p) h = id ∧ 0 ≤ findL p id := by
  rw [pick_goes, pick_goes]
  constructor
  · intro hne
    have hw := goes_without id (ofL p) h
    rw [ofL_kept] at hw
    have hid : goesTo (ofL p) h = id := by
      rcases hw with e | e
      · exact absurd e.symm hne
      · exact e
    refine ⟨hid, (find_nonneg p id).2 ?_⟩
    by_cases hp : p = []
    · subst hp
      exact absurd rfl hne
    · obtain ⟨b, hb, e⟩ := goes_in (fun b hb => (hM.weights b hb).1) hp h
      exact ⟨b, hb, e.symm.trans hid⟩
  · rintro ⟨hid, hf⟩ e
    obtain ⟨b, hb, hbi⟩ := (find_nonneg p id).1 hf
    have := hM.ids b hb
    exact goes_kept_ne (p := p) id h (by omega) (e.symm.trans hid)
theorem moved_same (l : List Pt) (hs : List Int) : mvL (bothL l l hs) = [] := by
  rw [List.eq_nil_iff_forall_not_mem]
  intro x hx
  obtain ⟨i, _, _, hne⟩ := (mem_mvL l l hs x).1 hx
  exact hne rfl
theorem moved_skip (k : Nat) (p : List Bk) (id : Int) (hs : List Int) (n : Int) : gangplanklaw10_RingMoved.j0 (k + 1) p id hs n true true = some true := by
  simp only [gangplanklaw10_RingMoved.j0]
  rw [if_pos (by trivial)]
theorem moved_loop (p : List Bk) (id : Int) (hs m : List Int) (n : Int) (hm : ∀ x ∈ m, 0 ≤ x ∧ x < (hs.length : Int)) (hup : m.Pairwise (· < ·)) (hlen : m.length ≤ 1000) (K : Nat)
    (fin : ∀ (b : Bool) (k : Nat), K ≤ k → (b = true ↔ n ∈ m) → (if n < 0 then gangplanklaw10_RingMoved.j2 k p id hs n true b true else gangplanklaw10_RingMoved.j2 k p id hs n true b (decide (n ≥ (hs.length : Int)))) = some true) :
    ∀ (d i k : Nat) (b : Bool), m.length - i = d → i ≤ m.length → d + K < k → (b = true ↔ n ∈ m.take i) → gangplanklaw10_RingMoved.l0 k p id hs n true m b (i : Int) = some true
  | d, i, k, b, hd, hi, hk, hb => by
    obtain ⟨k, rfl⟩ : ∃ m, k = m + 1 := ⟨k - 1, by omega⟩
    simp only [gangplanklaw10_RingMoved.l0]
    by_cases c : i < m.length
    · obtain ⟨d, rfl⟩ : ∃ m, d = m + 1 := ⟨d - 1, by omega⟩
      have w : wrap64 ((i : Int) + 1) = ((i + 1 : Nat) : Int) := by unfold wrap64; omega
      have hx := hm m[i] (List.getElem_mem c)
      have tk : m.take (i + 1) = m.take i ++ [m[i]] := List.take_succ_eq_append_getElem c
      have next : ∀ b' : Bool, (b' = true ↔ n ∈ m.take (i + 1)) → gangplanklaw10_RingMoved.l0 k p id hs n true m b' ((i + 1 : Nat) : Int) = some true := fun b' h => moved_loop p id hs m n hm hup hlen K fin d (i + 1) k b' (by omega) (by omega) (by omega) h
      have last : (if b = true then gangplanklaw10_RingMoved.l0 k p id hs n true m true ((i + 1 : Nat) : Int) else gangplanklaw10_RingMoved.l0 k p id hs n true m (m[i] == n) ((i + 1 : Nat) : Int)) = some true := by
        cases b with
        | true =>
          rw [if_pos rfl]
          exact next true ⟨fun _ => by rw [tk]; exact List.mem_append_left _ (hb.1 rfl), fun _ => rfl⟩
        | false =>
          have hn : n ∉ m.take i := fun h => by simpa using hb.2 h
          rw [if_neg (by decide)]
          refine next _ ?_
          rw [tk, List.mem_append, List.mem_singleton, beq_iff_eq]
          exact ⟨fun e => .inr e.symm, fun h => h.elim (fun h => absurd h hn) Eq.symm⟩
      rw [if_pos (by omega), if_pos (by omega), rdI m i c, if_neg (by omega), if_neg (by omega), w]
      by_cases h0 : 0 < i
      · have w2 : wrap64 ((i : Int) - 1) = ((i - 1 : Nat) : Int) := by unfold wrap64; omega
        have hlt := List.pairwise_iff_getElem.1 hup (i - 1) i (by omega) c (by omega)
        rw [if_pos (by omega), w2, if_pos (by omega), if_pos (by omega), rdI m (i - 1) (by omega), if_neg (by omega)]
        exact last
      · rw [if_neg (by omega)]
        exact last
    · rw [if_neg (by omega)]
      exact fin b k (by omega) (by rw [hb, List.take_of_length_le (by omega)])
theorem RingMoved : gangplanklaw10_RingMoved.Pure := by
  intro p id hs n hlen hok _ hlen2 _ _
  refine ⟨3000, ?_⟩
  unfold gangplanklaw10_RingMoved.f
  rw [works, Option.bind_some, if_pos rfl]
  by_cases c : (p.length : Int) > 8
  · rw [if_pos c]
    exact moved_skip 2999 p id hs n
  rw [if_neg c]
  by_cases c2 : (hs.length : Int) > 20
  · rw [if_pos c2]
    exact moved_skip 2999 p id hs n
  have hwf : idsWf p = true := List.all_eq_true.2 fun x hx => (hok x hx).1
  have hpl := ofL_len p
  have hkl := keptL_le id p
  rw [if_neg c2, show pool_Check.f p = some (checkL p) from if_pos ⟨by omega, hwf⟩, Option.bind_some]
  by_cases hz : checkL p = 0
  · have hM := (check_zero p).1 hz
    obtain ⟨k, hk3⟩ : ∃ k, 3000 = k + 1 := ⟨2999, rfl⟩
    rw [hz, show ((0 : Int) != 0) = false from rfl, hk3]
    simp only [gangplanklaw10_RingMoved.j0]
    rw [if_neg (by decide), show pool_Without.f p id = some (keptL id p) from if_pos (by omega), Option.bind_some, moved_some p _ hs (by omega) (by omega) (by omega), Option.bind_some]
    have hmem := mem_mvL (ofL p) (ofL (keptL id p)) hs
    have hup := mvL_up (ofL p) (ofL (keptL id p)) hs
    have hml := mvL_len (bothL (ofL p) (ofL (keptL id p)) hs)
    rw [bothL_len] at hml
    obtain ⟨m, hmv⟩ : ∃ m, mvL (bothL (ofL p) (ofL (keptL id p)) hs) = m := ⟨_, rfl⟩
    rw [hmv] at hmem hup hml ⊢
    have hrange : ∀ x ∈ m, 0 ≤ x ∧ x < (hs.length : Int) := fun x hx => by
      obtain ⟨i, hi, rfl, _⟩ := (hmem x).1 hx
      omega
    refine moved_loop p id hs m n hrange hup (by omega) 10 ?_ _ 0 k false rfl (by omega) (by omega) (by simp)
    intro b k hk hb
    obtain ⟨k, rfl⟩ : ∃ m, k = m + 1 := ⟨k - 1, by omega⟩
    have out : (n < 0 ∨ (hs.length : Int) ≤ n) → b = false := fun ho => by
      cases b with
      | false => rfl
      | true => exact absurd (hrange n (hb.1 rfl)) (by omega)
    by_cases h0 : n < 0
    · rw [if_pos h0]
      simp only [gangplanklaw10_RingMoved.j2]
      rw [if_pos (by trivial), if_pos (by trivial), out (.inl h0)]
      rfl
    · rw [if_neg h0]
      by_cases h1 : n < (hs.length : Int)
      · obtain ⟨a, rfl⟩ : ∃ a : Nat, n = (a : Int) := ⟨n.toNat, by omega⟩
        have ha : a < hs.length := by omega
        have hin : (a : Int) ∈ m ↔ goesTo (ofL p) hs[a] = id ∧ 0 ≤ findL p id := by
          rw [hmem, ← moves_iff hM]
          constructor
          · rintro ⟨i, hi, e, hne⟩
            obtain rfl : a = i := by omega
            simpa [hi] using hne
          · intro hne
            exact ⟨a, ha, rfl, by simpa [ha] using hne⟩
        rw [decide_eq_false (by omega)]
        simp only [gangplanklaw10_RingMoved.j2]
        rw [if_neg (by decide), if_pos (by trivial), if_pos (by omega), if_pos h1, rdI hs a ha, pick_some _ _ (by omega), Option.bind_some, moved_some p p hs (by omega) (by omega) (by omega), moved_same]
        by_cases e : goesTo (ofL p) hs[a] = id
        · have hbd : b = decide (findL p id ≥ 0) := Bool.eq_iff_iff.2 (hb.trans (hin.trans ⟨fun h => decide_eq_true h.2, fun h => ⟨e, of_decide_eq_true h⟩⟩))
          rw [if_pos e, find_some _ (by omega), Option.bind_some, if_pos (by rw [hbd, beq_self_eq_true]), Option.bind_some]
          rfl
        · have hbf : b = false := by
            cases b with
            | false => rfl
            | true => exact absurd (hin.1 (hb.1 rfl)).1 e
          rw [if_neg e, hbf, if_pos (by rfl), Option.bind_some]
          rfl
      · rw [decide_eq_true (by omega)]
        simp only [gangplanklaw10_RingMoved.j2]
        rw [if_pos (by trivial), if_pos (by trivial), out (.inr (by omega))]
        rfl
  · rw [show (checkL p != 0) = true from by simpa using hz]
    exact moved_skip 2999 p id hs n
end Go.Proofs.Ytcekkbimdogboaa.Pure
