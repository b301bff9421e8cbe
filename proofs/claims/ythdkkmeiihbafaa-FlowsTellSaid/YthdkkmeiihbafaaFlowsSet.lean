/- Tables of flows as sets of entries: what tidying and deleting keeps. -/
import Derived.Test.YthdkkmeiihbafaaFlowsLaw
import Derived.Test.YthdkkmeiihbafaaPx3
set_option linter.unusedVariables false
set_option linter.unusedSimpArgs false
namespace Go.Proofs.Ythdkkmeiihbafaa.Pure
open Go.RowKit Go.Proofs.Ythdkkmeiihbafaa.P Go.Proofs.YthdkkmeiihbafaaW.PrintWords Go.Proofs.YthdkkmeiihbafaaW.PrintLast Go.Proofs.YthdkkmeiihbafaaW.PrintMore Go.Proofs.Ythdkkmeiihbafaa.Hand Go.Proofs.Ythdkkmeiihbafaa.ProbeLaw

/-- A flow stands in a table. -/
def Has (l : List Ent) (e : Ent) : Prop := ∃ j : Int, 0 ≤ j ∧ j < l.length ∧ rdE l j = e ∧ e.f0 = 1
def Clean (l : List Ent) : Prop := ∀ j : Int, 0 ≤ j → j < l.length → (rdE l j).f0 = 0 ∨ (rdE l j).f0 = 1
theorem has_fnd {l : List Ent} {key : ByteArray} (h : 0 ≤ fnd l key) : Has l (rdE l (fnd l key)) ∧ (rdE l (fnd l key)).f1 = key := by
  obtain ⟨l1, l2⟩ := fnd_live h
  have r := fnd_range l key
  exact ⟨⟨fnd l key, h, by omega, rfl, l1⟩, l2⟩
theorem right_has {l : List Ent} (hR : RightP l) {e : Ent} {key : ByteArray} (h : Has l e) (hk : e.f1 = key) : 0 ≤ fnd l key ∧ rdE l (fnd l key) = e := by
  obtain ⟨j, h0, h1, h2, h3⟩ := h
  have := right_fnd hR h0 h1 (key := key) (by rw [h2]; exact h3) (by rw [h2]; exact hk)
  exact ⟨by omega, by rw [this]; exact h2⟩
/-- Tables that are right and hold the same flows: the same is found. -/
theorem same_flows {l u : List Ent} (hl : RightP l) (hu : RightP u) {key : ByteArray} (h : ∀ e, e.f1 = key → (Has u e ↔ Has l e)) : (0 ≤ fnd u key ↔ 0 ≤ fnd l key) ∧ (0 ≤ fnd l key → rdE u (fnd u key) = rdE l (fnd l key)) := by
  have a : ∀ {a b : List Ent}, RightP b → (∀ e, e.f1 = key → Has a e → Has b e) → 0 ≤ fnd a key → 0 ≤ fnd b key ∧ rdE b (fnd b key) = rdE a (fnd a key) := fun hb hab h0 => by
    obtain ⟨h1, h2⟩ := has_fnd h0
    exact right_has hb (hab _ h2 h1) h2
  exact ⟨⟨fun h0 => (a hl (fun e he => (h e he).1) h0).1, fun h0 => (a hu (fun e he => (h e he).2) h0).1⟩, fun h0 => (a hu (fun e he => (h e he).2) h0).2⟩
theorem has_set {l : List Ent} {j : Int} {x e : Ent} (h0 : 0 ≤ j) (h1 : j < l.length) : Has (l.set j.toNat x) e ↔ (e = x ∧ x.f0 = 1) ∨ ∃ i : Int, 0 ≤ i ∧ i < l.length ∧ i ≠ j ∧ rdE l i = e ∧ e.f0 = 1 := by
  constructor
  · rintro ⟨i, i0, i1, i2, i3⟩
    rw [List.length_set] at i1
    rw [rdE_set _ _ _ _ h0 h1 i0 i1] at i2
    by_cases c : i = j
    · rw [if_pos c] at i2; left; exact ⟨i2.symm, by rw [i2]; exact i3⟩
    · rw [if_neg c] at i2; right; exact ⟨i, i0, i1, c, i2, i3⟩
  · rintro (⟨rfl, h⟩ | ⟨i, i0, i1, i2, i3, i4⟩)
    · exact ⟨j, h0, by rw [List.length_set]; exact h1, by rw [rdE_set _ _ _ _ h0 h1 h0 h1, if_pos rfl], h⟩
    · exact ⟨i, i0, by rw [List.length_set]; exact i1, by rw [rdE_set _ _ _ _ h0 h1 i0 i1, if_neg i2]; exact i3, i4⟩
theorem has_set_dead {l : List Ent} {j : Int} {x e : Ent} (h0 : 0 ≤ j) (h1 : j < l.length) (hd : (rdE l j).f0 ≠ 1) (hx : x.f0 = 1) : Has (l.set j.toNat x) e ↔ (Has l e ∨ e = x) := by
  rw [has_set h0 h1]
  constructor
  · rintro (⟨rfl, _⟩ | ⟨i, i0, i1, i2, i3, i4⟩)
    · exact .inr rfl
    · exact .inl ⟨i, i0, i1, i3, i4⟩
  · rintro (⟨i, i0, i1, i3, i4⟩ | rfl)
    · exact .inr ⟨i, i0, i1, fun c => hd (by rw [← c, i3]; exact i4), i3, i4⟩
    · exact .inl ⟨rfl, hx⟩
theorem mem_iff_rd (l : List Ent) (e : Ent) : e ∈ l ↔ ∃ j : Int, 0 ≤ j ∧ j < l.length ∧ rdE l j = e := by
  constructor
  · intro h
    obtain ⟨i, hi, rfl⟩ := List.getElem_of_mem h
    exact ⟨(i : Int), by omega, by omega, rdE_nat l i hi⟩
  · rintro ⟨j, h0, h1, rfl⟩
    have := rdE_nat l j.toNat (by omega)
    rw [Int.toNat_of_nonneg h0] at this
    rw [this]; exact List.getElem_mem _
theorem has_filter (l : List Ent) (e : Ent) : e ∈ l.filter (fun x => x.f0 == 1) ↔ Has l e := by
  rw [List.mem_filter, mem_iff_rd]
  constructor
  · rintro ⟨⟨j, h0, h1, h2⟩, h3⟩
    exact ⟨j, h0, h1, h2, by simpa using h3⟩
  · rintro ⟨j, h0, h1, h2, h3⟩
    exact ⟨⟨j, h0, h1, h2⟩, by simpa using h3⟩

/-- So far these flows have been put into a table without tombs. -/
structure Inv (n : Nat) (c : List Ent) (es : List Ent) : Prop where
  len : c.length = n
  right : RightP c
  clean : Clean c
  has : ∀ e, Has c e ↔ e ∈ es
  count : countIn 1 c = es.length
  keys : Keys60 c
theorem inv_new (n : Nat) : Inv n (List.replicate n z31) [] := by
  have z : ∀ j : Int, 0 ≤ j → j < (List.replicate n z31).length → rdE (List.replicate n z31) j = z31 := fun j h0 h1 => by
    have := rdE_nat (List.replicate n z31) j.toNat (by omega)
    rw [Int.toNat_of_nonneg h0] at this
    rw [this, List.getElem_replicate]
  refine ⟨List.length_replicate, fun j h0 h1 hv => ?_, fun j h0 h1 => ?_, fun e => ?_, ?_, fun j hj => ?_⟩
  · rw [z j h0 h1] at hv; exact absurd hv (by decide)
  · rw [z j h0 h1]; exact .inl rfl
  · constructor
    · rintro ⟨j, h0, h1, h2, h3⟩
      rw [z j h0 h1] at h2; subst h2; exact absurd h3 (by decide)
    · intro h; exact absurd h (by simp)
  · unfold countIn
    rw [List.length_eq_zero_iff.2 (List.filter_eq_nil_iff.2 (fun x hx => by rw [(List.mem_replicate.1 hx).2]; decide))]; rfl
  · rw [z j (by omega) (by omega)]; decide
theorem inv_step {n : Nat} {c es : List Ent} (hn : n ≤ 64) (h : Inv n c es) (x : Ent) (hx : x.f0 = 1) (hs : x.f1.size ≤ 60) (hd : ∀ e ∈ es, e.f1 ≠ x.f1) (hroom : es.length < n) : (putR c x).1 = true ∧ Inv n (putR c x).2 (es ++ [x]) := by
  have hl := h.len
  have hr := right_put h.right hx (show x.f1.size ≤ 140737488351232 by omega) (by omega)
  rcases putR_cases c x hx (by omega) (by omega) with ⟨j, h0, h1, e, hf, hc⟩ | ⟨e, hneg, hall⟩
  · rw [e] at hr ⊢
    rcases hc with ⟨_, hv, hk⟩ | ⟨_, hv⟩
    · exact absurd hk (hd _ ((h.has _).1 ⟨j, h0, h1, rfl, hv⟩))
    · have cp := count_put c j x h0 h1
      rw [if_neg hv, if_pos hx] at cp
      refine ⟨rfl, by show (c.set j.toNat x).length = n; rw [List.length_set]; exact hl, hr, fun i i0 i1 => ?_, fun e => ?_, ?_, keys_put h0 h1 h.keys hs⟩
      · rw [List.length_set] at i1
        rw [rdE_set _ _ _ _ h0 h1 i0 i1]
        by_cases q : i = j
        · rw [if_pos q]; exact .inr hx
        · rw [if_neg q]; exact h.clean i i0 i1
      · rw [has_set_dead h0 h1 hv hx, h.has]; simp
      · have := h.count; simp only [List.length_append, List.length_cons, List.length_nil]; omega
  · have := h.count; omega
theorem tidyStep_eq {c : List Ent} {x : Ent} (hs : x.f1.size ≤ 140737488351232) (hl : c.length ≤ 1000000) : tidyStep c x = (putR c x).2 := by
  unfold tidyStep
  rw [put_some x hs hl]; rfl
theorem tidy_inv {n : Nat} (hn : n ≤ 64) : ∀ (rest : List (Int × Ent)) (es c : List Ent), Inv n c es → (∀ p ∈ rest, p.2.f0 = 1 ∧ p.2.f1.size ≤ 60) → rest.Pairwise (fun p q => p.2.f1 ≠ q.2.f1) → (∀ p ∈ rest, ∀ e ∈ es, e.f1 ≠ p.2.f1) → es.length + rest.length ≤ n → Inv n (tidyAll c rest) (es ++ rest.map (fun p => p.2))
  | [], es, c, h, _, _, _, _ => by simpa [tidyAll] using h
  | p :: rest, es, c, h, h1, h2, h3, h4 => by
    have hp := h1 p (by simp)
    simp only [List.length_cons] at h4
    have hi := (inv_step hn h p.2 hp.1 hp.2 (h3 p (by simp)) (by omega)).2
    have hl := h.len
    rw [← tidyStep_eq (by omega) (by omega)] at hi
    rw [List.pairwise_cons] at h2
    have := tidy_inv hn rest (es ++ [p.2]) (tidyStep c p.2) hi (fun q hq => h1 q (by simp [hq])) h2.2 (fun q hq e he => by
      rcases List.mem_append.1 he with he | he
      · exact h3 q (by simp [hq]) e he
      · simp at he; subst he; exact h2.1 q hq) (by simp; omega)
    simpa [tidyAll] using this
theorem live_pair (l : List Ent) : (liveL l).Pairwise (fun p q => p.1 < q.1) := by
  unfold liveL liveUpto upto
  refine List.Pairwise.filter _ ?_
  rw [List.pairwise_map]
  exact List.pairwise_lt_range.imp (fun h => by show ((_ : Nat) : Int) < _; omega)
theorem upto_rd2 (l : List Ent) : upto (fun i => rdE l ((i : Nat) : Int)) l.length = l := by
  apply List.ext_getElem
  · rw [upto_length]
  · intro i h1 h2
    simp only [upto, List.getElem_map, List.getElem_range]
    exact rdE_nat l i h2
theorem live_snd2 (l : List Ent) : (liveL l).map (fun p => p.2) = l.filter (fun x => x.f0 == 1) := by
  conv => rhs; rw [← upto_rd2 l]
  unfold liveL liveUpto upto
  rw [List.filter_map, List.map_map, List.filter_map]
  rfl
theorem live_len (l : List Ent) : (liveL l).length = countIn 1 l := by
  unfold countIn
  rw [← live_snd2]; simp
theorem new_some (n : Nat) (hn : n ≤ 64) : flows_New.f (n : Int) = some (List.replicate n z31) := by
  unfold flows_New.f
  have e : mx 0 (mn (n : Int) 64) = n := by unfold mx mn; split <;> split <;> omega
  rw [e, if_pos (by omega), if_pos (by omega)]; simp
/-- Tidied: the same flows, no tombs. -/
theorem tidy_spec {t : List Ent} (hn : t.length ≤ 64) (hk : Keys60 t) (hR : RightP t) : ∃ u, flows_Tidy.f t = some u ∧ Inv t.length u (t.filter fun x => x.f0 == 1) := by
  have hm : ∀ p ∈ liveL t, p.2.f0 = 1 ∧ p.2.f1.size ≤ 60 := fun p hp => by
    obtain ⟨j, hj, rfl, hv⟩ := mem_live.1 hp
    exact ⟨hv, hk j hj⟩
  unfold flows_Tidy.f
  rw [if_pos (by omega), if_pos (List.all_eq_true.2 (fun p hp => by have := (hm p hp).2; exact decide_eq_true (by omega)))]
  refine ⟨_, bind_of (new_some _ hn) rfl, ?_⟩
  have := tidy_inv hn (liveL t) [] _ (inv_new t.length) hm ((live_pair t).imp_of_mem (fun {p q} hp hq h e => by
    obtain ⟨i, hi, rfl, hi2⟩ := mem_live.1 hp
    obtain ⟨j, hj, rfl, hj2⟩ := mem_live.1 hq
    have a := right_fnd hR (j := (i : Int)) (key := (rdE t (i : Int)).f1) (by omega) (by omega) hi2 rfl
    have b := right_fnd hR (j := (j : Int)) (key := (rdE t (i : Int)).f1) (by omega) (by omega) hj2 e.symm
    dsimp only at h
    omega)) (fun p _ e he => absurd he (by simp)) (by rw [live_len]; have := countIn_le 1 t; simp; omega)
  rw [List.nil_append, live_snd2] at this
  exact this
theorem inv_tombs {n : Nat} {c es : List Ent} (h : Inv n c es) : countIn 2 c = 0 := by
  unfold countIn
  rw [List.length_eq_zero_iff.2 (List.filter_eq_nil_iff.2 (fun x hx => by
    obtain ⟨j, h0, h1, rfl⟩ := (mem_iff_rd c x).1 hx
    rcases h.clean j h0 h1 with e | e <;> (rw [e]; decide)))]
theorem inv_filter {n : Nat} {c t : List Ent} (h : Inv n c (t.filter fun x => x.f0 == 1)) (e : Ent) : Has c e ↔ Has t e := by rw [h.has, has_filter]
theorem tomb_goes (key : ByteArray) : goesOn key tombE := ⟨by decide, fun h => absurd h.1 (by decide)⟩
/-- A flow less. -/
theorem delete_spec {t : List Ent} {key : ByteArray} (hn : t.length ≤ 64) (hk : Keys60 t) (hR : RightP t) (hs : key.size ≤ 140737488351232) :
    (flows_Delete.f t key = some (t, false) ∧ fnd t key < 0) ∨
    ∃ u, flows_Delete.f t key = some (u, true) ∧ 0 ≤ fnd t key ∧ u.length = t.length ∧ RightP u ∧ Keys60 u ∧ (∀ e, Has u e ↔ (Has t e ∧ e.f1 ≠ key)) ∧ countIn 1 u + 1 = countIn 1 t ∧ 2 * countIn 2 u ≤ u.length := by
  have r := fnd_range t key
  by_cases c : 0 ≤ fnd t key
  · right
    have h1 : fnd t key < t.length := by omega
    obtain ⟨l1, l2⟩ := fnd_live c
    obtain ⟨v, hv⟩ : ∃ v, t.set (fnd t key).toNat tombE = v := ⟨_, rfl⟩
    have hlen : v.length = t.length := by rw [← hv]; exact List.length_set
    have hRv : RightP v := by rw [← hv]; exact right_set hR c h1 (by decide) (fun h => absurd h (by decide))
    have hkv : Keys60 v := by rw [← hv]; exact keys_put c h1 hk (by decide)
    have hhas : ∀ e, Has v e ↔ (Has t e ∧ e.f1 ≠ key) := fun e => by
      rw [← hv, has_set c h1]
      constructor
      · rintro (⟨_, h⟩ | ⟨i, i0, i1, i2, i3, i4⟩)
        · exact absurd h (by decide)
        · exact ⟨⟨i, i0, i1, i3, i4⟩, fun hh => i2 (right_fnd hR i0 i1 (by rw [i3]; exact i4) (by rw [i3]; exact hh)).symm⟩
      · rintro ⟨⟨i, i0, i1, i3, i4⟩, hne⟩
        exact .inr ⟨i, i0, i1, fun e' => hne (by rw [← i3, e']; exact l2), i3, i4⟩
    have cp := count_put t (fnd t key) tombE c h1
    rw [if_pos l1, if_neg (by decide), hv] at cp
    have e1 : flows_Delete.f t key = if wrap64 (2 * (countIn 2 v : Int)) > (t.length : Int) then (flows_Tidy.f v).bind fun u => some (u, true) else some (v, true) := by
      unfold flows_Delete.f
      rw [if_pos (by omega)]
      refine bind_of (fnd_some hs (by omega)) ?_
      rw [if_pos c, if_pos h1, hv]
      exact bind_of (count_some 2 (by omega)) rfl
    have cl2 := countIn_le 2 v
    have hw : wrap64 (2 * (countIn 2 v : Int)) = 2 * (countIn 2 v : Int) := by unfold wrap64; omega
    rw [hw] at e1
    by_cases c2 : 2 * (countIn 2 v : Int) > (t.length : Int)
    · rw [if_pos c2] at e1
      obtain ⟨u, hu, hi⟩ := tidy_spec (by omega) hkv hRv
      refine ⟨u, e1.trans (bind_of hu rfl), c, hi.len.trans hlen, hi.right, hi.keys, fun e => (inv_filter hi e).trans (hhas e), ?_, by rw [inv_tombs hi]; omega⟩
      have h1 := hi.count
      have h2 : countIn 1 v = (v.filter fun x => x.f0 == 1).length := rfl
      omega
    · rw [if_neg c2] at e1
      exact ⟨v, e1, c, hlen, hRv, hkv, hhas, by omega, by omega⟩
  · left
    refine ⟨?_, by omega⟩
    unfold flows_Delete.f
    rw [if_pos (by omega)]
    exact bind_of (fnd_some hs (by omega)) (by rw [if_neg c])
theorem keys_some2 {l : List Ent} (hl : l.length ≤ 1000000) : ∃ ks, flows_Keys.f l = some ks ∧ ks.length = countIn 1 l := ⟨_, if_pos hl, by rw [List.length_map, live_len]⟩
end Go.Proofs.Ythdkkmeiihbafaa.Pure
