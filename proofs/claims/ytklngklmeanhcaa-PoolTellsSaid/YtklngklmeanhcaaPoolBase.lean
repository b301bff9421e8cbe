/- Pools, as plain lists: with a backend, without one, alike: laws with no program in sight. -/
import Derived.Test.YtklngklmeanhcaaPx5
import Derived.Test.YtklngklmeanhcaaPx4
import Derived.Test.YtklngklmeanhcaaPx2
import Derived.Test.YtklngklmeanhcaaPoolCheck
set_option linter.unusedVariables false
set_option linter.unusedSimpArgs false
namespace Go.Proofs.Ytklngklmeanhcaa.PoolLaw
open Go.RowKit Go.Proofs.Ytklngklmeanhcaa.P Go.Proofs.YtklngklmeanhcaaW.PrintWords Go.Proofs.YtklngklmeanhcaaW.PrintLast Go.Proofs.Ytklngklmeanhcaa.Hand
theorem Bk_ext {x y : Bk} (h1 : x.f0 = y.f0) (h2 : x.f1 = y.f1) : x = y := by cases x; cases y; simp at h1 h2; subst h1; subst h2; rfl
/-! ### are pools alike -/
def eqB (x y : Bk) : Bool := (x.f0 == y.f0) && (x.f1 == y.f1)
def sameB (a b : List Bk) : Bool := decide (a.length = b.length) && (a.zip b).all fun p => eqB p.1 p.2
theorem eqB_iff (x y : Bk) : eqB x y = true ↔ x = y := by
  unfold eqB
  rw [Bool.and_eq_true, beq_iff_eq, beq_iff_eq]
  exact ⟨fun h => Bk_ext h.1 h.2, fun h => by subst h; exact ⟨rfl, rfl⟩⟩
theorem sameB_iff (a b : List Bk) : sameB a b = true ↔ a = b := by
  unfold sameB
  rw [Bool.and_eq_true, decide_eq_true_eq, List.all_eq_true]
  constructor
  · rintro ⟨hl, h⟩
    refine List.ext_getElem hl fun i h1 h2 => ?_
    exact (eqB_iff _ _).1 (h (a[i], b[i]) (List.mem_iff_getElem.2 ⟨i, by rw [List.length_zip]; omega, by simp⟩))
  · rintro rfl
    refine ⟨rfl, fun p hp => ?_⟩
    obtain ⟨i, hi, rfl⟩ := List.mem_iff_getElem.1 hp
    simp [eqB]
theorem neB (x y : Bk) : (!((x.f0) == (y.f0)) || (!((x.f1) == (y.f1)))) = !eqB x y := by unfold eqB; rw [Bool.not_and]
theorem psame_loop (a b : List Bk) (hl : a.length = b.length) (hm : a.length ≤ 4611686018427387904) : ∀ (d i k : Nat), a.length - i = d → i ≤ a.length → d < k →
    api_Backend_71.l0 k a b (a.length : Int) (i : Int) = some (((a.zip b).drop i).all fun p => eqB p.1 p.2)
  | d, i, k, hd, hi, hk => by
    obtain ⟨k, rfl⟩ : ∃ m, k = m + 1 := ⟨k - 1, by omega⟩
    simp only [api_Backend_71.l0]
    have hz : (a.zip b).length = a.length := by rw [List.length_zip]; omega
    by_cases h : i < a.length
    · obtain ⟨d, rfl⟩ : ∃ m, d = m + 1 := ⟨d - 1, by omega⟩
      have w : wrap64 ((i : Int) + 1) = ((i + 1 : Nat) : Int) := by unfold wrap64; omega
      have ed : (a.zip b).drop i = (a[i], b[i]) :: (a.zip b).drop (i + 1) := by rw [List.drop_eq_getElem_cons (by omega)]; simp
      rw [if_pos (by omega), if_pos (by omega), if_pos (by omega), if_pos (by omega), rdB a i h, rdB b i (by omega), neB, w, psame_loop a b hl hm d (i + 1) k (by omega) (by omega) (by omega), ed, List.all_cons]
      cases eqB a[i] b[i] <;> simp
    · rw [if_neg (by omega), List.drop_of_length_le (by omega)]
      rfl
theorem psame (a b : List Bk) (hm : a.length ≤ 4611686018427387904) (k : Nat) (hk : a.length < k) : pool_Same.f k a b = some (sameB a b) := by
  unfold pool_Same.f api_Backend_71.f sameB
  by_cases h : a.length = b.length
  · rw [if_pos (by omega)]
    have h2 := psame_loop a b h hm a.length 0 k (by omega) (by omega) hk
    rw [show ((0 : Nat) : Int) = 0 from rfl, List.drop_zero] at h2
    rw [h2, decide_eq_true h, Bool.true_and]
    rfl
  · rw [if_neg (by omega), decide_eq_false h, Bool.false_and]
    rfl
theorem psame_self (a : List Bk) (hm : a.length ≤ 4611686018427387904) (k : Nat) (hk : a.length < k) : pool_Same.f k a a = some true := by rw [psame a a hm k hk, (sameB_iff a a).2 rfl]
/-! ### where one stands -/
theorem find_is {l : List Bk} {id : Int} {k : Nat} (hk : k < l.length) (h : l[k].f0 = id) (hj : ∀ j (hj : j < k), l[j].f0 ≠ id) : findL l id = k := by
  rcases findL_cases l id with ⟨_, h2⟩ | ⟨i, hi, h1, h2, h3⟩
  · exact absurd h (h2 _ (List.getElem_mem hk))
  · rcases Nat.lt_trichotomy i k with hc | hc | hc
    · exact absurd h2 (hj i hc)
    · omega
    · exact absurd h (h3 k hc)
theorem find_none {l : List Bk} {id : Int} (h : ∀ b ∈ l, b.f0 ≠ id) : findL l id = -1 := by
  rcases findL_cases l id with ⟨h1, _⟩ | ⟨k, hk, _, h2, _⟩
  · exact h1
  · exact absurd h2 (h _ (List.getElem_mem hk))
theorem find_ids (p : List Bk) (id : Int) : 0 ≤ findL p id ↔ id ∈ idsL p := by
  rw [find_nonneg]
  unfold idsL
  rw [List.mem_map]
/-! ### with a backend -/
theorem with_cases (p : List Bk) (a b : Int) : ((∀ x ∈ p, x.f0 ≠ a) ∧ withL p a b = p ++ [⟨a, b⟩]) ∨ ∃ k, ∃ h : k < p.length, p[k].f0 = a ∧ (∀ j (hj : j < k), p[j].f0 ≠ a) ∧ withL p a b = p.set k ⟨a, b⟩ := by
  rcases findL_cases p a with ⟨h1, h2⟩ | ⟨k, hk, h1, h2, h3⟩
  · exact .inl ⟨h2, by unfold withL; rw [h1, if_pos (by decide)]⟩
  · exact .inr ⟨k, hk, h2, h3, by unfold withL; rw [h1, if_neg (by omega), Int.toNat_natCast]⟩
/-- WHAT IS PUT IN IS FOUND. -/
theorem with_found (p : List Bk) (a b : Int) : ∃ k, ∃ h : k < (withL p a b).length, findL (withL p a b) a = k ∧ (withL p a b)[k] = ⟨a, b⟩ := by
  rcases with_cases p a b with ⟨h, e⟩ | ⟨k, hk, h1, h2, e⟩
  · rw [e]
    refine ⟨p.length, by simp, find_is (by simp) (by simp) fun j hj => ?_, by simp⟩
    rw [List.getElem_append_left hj]
    exact h _ (List.getElem_mem hj)
  · rw [e]
    refine ⟨k, by simpa using hk, find_is (by simpa using hk) (by simp) fun j hj => ?_, by simp⟩
    rw [List.getElem_set_ne (by omega)]
    exact h2 j hj
theorem with_len (p : List Bk) (a b : Int) : (withL p a b).length ≤ p.length + 1 := by
  rcases with_cases p a b with ⟨h, e⟩ | ⟨k, hk, h1, h2, e⟩ <;> rw [e] <;> simp
/-- Put in once more it takes its own place. -/
theorem with_twice (p : List Bk) (a b c : Int) : withL (withL p a b) a c = withL p a c := by
  rcases with_cases p a b with ⟨h, e⟩ | ⟨k, hk, h1, h2, e⟩
  · have f1 : findL (p ++ [⟨a, b⟩]) a = (p.length : Nat) := find_is (by simp) (by simp) fun j hj => by
      rw [List.getElem_append_left hj]; exact h _ (List.getElem_mem hj)
    have e2 : withL p a c = p ++ [⟨a, c⟩] := by unfold withL; rw [find_none h, if_pos (by decide)]
    rw [e, e2]
    unfold withL
    rw [f1, if_neg (by omega), Int.toNat_natCast, List.set_append_right _ _ (Nat.le_refl _), Nat.sub_self]
    rfl
  · have f1 : findL (p.set k ⟨a, b⟩) a = (k : Nat) := find_is (by simpa using hk) (by simp) fun j hj => by
      rw [List.getElem_set_ne (by omega)]; exact h2 j hj
    have f0 : findL p a = (k : Nat) := find_is hk h1 h2
    rw [e]
    unfold withL
    rw [f1, f0, if_neg (by omega), if_neg (by omega), Int.toNat_natCast, List.set_set]
theorem with_ids (p : List Bk) (a b : Int) : (idsL (withL p a b) = idsL p ++ [a] ∧ a ∉ idsL p) ∨ (idsL (withL p a b) = idsL p ∧ a ∈ idsL p) := by
  rcases with_cases p a b with ⟨h, e⟩ | ⟨k, hk, h1, h2, e⟩
  · refine .inl ⟨by rw [e]; simp [idsL], fun hm => ?_⟩
    obtain ⟨x, hx, hxa⟩ := List.mem_map.1 hm
    exact h x hx hxa
  · refine .inr ⟨?_, List.mem_map.2 ⟨p[k], List.getElem_mem hk, h1⟩⟩
    rw [e]
    unfold idsL
    rw [List.map_set]
    apply List.ext_getElem
    · simp
    · intro i h3 h4
      rw [List.getElem_set]
      split
      · rename_i h5; subst h5; simp [h1]
      · rfl
/-- All others stay. -/
theorem with_other (p : List Bk) (a b id : Int) (hne : id ≠ a) : 0 ≤ findL (withL p a b) id ↔ 0 ≤ findL p id := by
  rw [find_ids, find_ids]
  rcases with_ids p a b with ⟨e, _⟩ | ⟨e, _⟩
  · rw [e]; simp [hne]
  · rw [e]
theorem mem_with {p : List Bk} {a b : Int} {x : Bk} (h : x ∈ withL p a b) : x = ⟨a, b⟩ ∨ x ∈ p := by
  rcases with_cases p a b with ⟨_, e⟩ | ⟨k, hk, h1, h2, e⟩
  · rw [e] at h
    rcases List.mem_append.1 h with h | h
    · exact .inr h
    · exact .inl (List.mem_singleton.1 h)
  · rw [e] at h
    rcases List.mem_or_eq_of_mem_set h with h | h
    · exact .inr h
    · exact .inl h
theorem with_mem (p : List Bk) (a b : Int) : (⟨a, b⟩ : Bk) ∈ withL p a b := by
  obtain ⟨k, hk, _, h⟩ := with_found p a b
  rw [← h]
  exact List.getElem_mem hk
theorem with_may (p : List Bk) (a b : Int) (hp : May p) : May (withL p a b) ↔ (1 ≤ a ∧ a ≤ 65535) ∧ (1 ≤ b ∧ b ≤ 16) ∧ (withL p a b).length ≤ 32 := by
  constructor
  · intro h
    exact ⟨h.ids _ (with_mem p a b), h.weights _ (with_mem p a b), h.few⟩
  · rintro ⟨h1, h2, h3⟩
    refine ⟨h3, fun x hx => ?_, fun x hx => ?_, ?_⟩
    · rcases mem_with hx with rfl | hx
      · exact h1
      · exact hp.ids x hx
    · rcases mem_with hx with rfl | hx
      · exact h2
      · exact hp.weights x hx
    · have ha := hp.apart
      rcases with_ids p a b with ⟨e, hn⟩ | ⟨e, _⟩
      · show (idsL (withL p a b)).Nodup
        rw [e]
        exact List.nodup_append.2 ⟨ha, by simp, fun x hx y hy => by simp at hy; subst hy; exact fun e => hn (e ▸ hx)⟩
      · show (idsL (withL p a b)).Nodup
        rw [e]; exact ha
/-! ### numbers that fit -/
theorem idsWf_iff (p : List Bk) : idsWf p = true ↔ ∀ x ∈ p, (Lit.int .i64 x.f0).wf = true := List.all_eq_true
theorem idsWf_ok {p : List Bk} (h : ∀ x ∈ p, okS56 x) : idsWf p = true := (idsWf_iff p).2 fun x hx => (h x hx).1
theorem check_some (p : List Bk) (hp : p.length ≤ 1000000) (hw : idsWf p = true) : pool_Check.f p = some (checkL p) := if_pos ⟨hp, hw⟩
theorem with_some (p : List Bk) (hp : p.length ≤ 1000000) (a b : Int) : pool_With.f p a b = some (withL p a b) := if_pos (by omega)
theorem without_some (p : List Bk) (hp : p.length ≤ 1000000) (a : Int) : pool_Without.f p a = some (keptL a p) := if_pos hp
theorem gone_some (p q : List Bk) (hp : p.length ≤ 1000000) (hq : q.length ≤ 1000000) (h1 : idsWf p = true) (h2 : idsWf q = true) : pool_Gone.f p q = some (goneL p q) := if_pos ⟨⟨hp, hq⟩, h1, h2⟩
theorem with_wf (p : List Bk) (a b : Int) (hw : idsWf p = true) (ha : (Lit.int .i64 a).wf = true) : idsWf (withL p a b) = true := (idsWf_iff _).2 fun x hx => by
  rcases mem_with hx with rfl | hx
  · exact ha
  · exact (idsWf_iff p).1 hw x hx
/-! ### without one -/
theorem kept_sub {id : Int} {p : List Bk} {x : Bk} (h : x ∈ keptL id p) : x ∈ p := (List.mem_filter.1 h).1
theorem kept_ids (id : Int) (p : List Bk) : idsL (keptL id p) = (idsL p).filter fun x => !(x == id) := by
  unfold idsL keptL
  rw [List.filter_map]
  rfl
theorem kept_none (id : Int) (p : List Bk) : findL (keptL id p) id = -1 := find_none fun b hb => by simpa using (List.mem_filter.1 hb).2
theorem kept_other (id other : Int) (p : List Bk) (hne : other ≠ id) : 0 ≤ findL (keptL id p) other ↔ 0 ≤ findL p other := by
  rw [find_ids, find_ids, kept_ids, List.mem_filter]
  simp [hne]
theorem kept_len (id : Int) (p : List Bk) : (keptL id p).length ≤ p.length := List.length_filter_le _ _
theorem kept_may (id : Int) (p : List Bk) (h : May p) : May (keptL id p) :=
  ⟨Nat.le_trans (kept_len id p) h.few, fun x hx => h.ids x (kept_sub hx), fun x hx => h.weights x (kept_sub hx), by
    show (idsL (keptL id p)).Nodup
    rw [kept_ids]
    exact List.Pairwise.filter _ h.apart⟩
theorem kept_wf (id : Int) (p : List Bk) (hw : idsWf p = true) : idsWf (keptL id p) = true := (idsWf_iff _).2 fun x hx => (idsWf_iff p).1 hw x (kept_sub hx)
theorem kept_twice (id : Int) (p : List Bk) : keptL id (keptL id p) = keptL id p := by
  unfold keptL
  rw [List.filter_filter]
  simp
theorem kept_with (p : List Bk) (a b : Int) : keptL a (withL p a b) = keptL a p := by
  rcases with_cases p a b with ⟨_, e⟩ | ⟨k, hk, h1, h2, e⟩
  · rw [e]
    simp [keptL]
  · rw [e, List.set_eq_take_append_cons_drop, if_pos hk]
    have hd : p = p.take k ++ p[k] :: p.drop (k + 1) := by rw [← List.drop_eq_getElem_cons hk, List.take_append_drop]
    have h3 : keptL a p = keptL a (p.take k ++ p[k] :: p.drop (k + 1)) := congrArg _ hd
    rw [h3]
    unfold keptL
    rw [List.filter_append, List.filter_append]
    rw [List.filter_cons_of_neg (by simp), List.filter_cons_of_neg (by simp [h1])]
end Go.Proofs.Ytklngklmeanhcaa.PoolLaw
