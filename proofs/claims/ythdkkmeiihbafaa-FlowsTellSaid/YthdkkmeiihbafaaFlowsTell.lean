/- The statement that a table is just what the document says, over numbers and lists. -/
import Derived.Test.YthdkkmeiihbafaaFlowsSet
import Derived.Test.YthdkkmeiihbafaaPx7
set_option linter.unusedVariables false
set_option linter.unusedSimpArgs false
namespace Go.Proofs.Ythdkkmeiihbafaa.Pure
open Go.RowKit Go.Proofs.Ythdkkmeiihbafaa.P Go.Proofs.YthdkkmeiihbafaaW.PrintWords Go.Proofs.YthdkkmeiihbafaaW.PrintLast Go.Proofs.YthdkkmeiihbafaaW.PrintMore Go.Proofs.Ythdkkmeiihbafaa.Hand Go.Proofs.Ythdkkmeiihbafaa.ProbeLaw
theorem with_loop (l : List Ent) (hl : l.length ≤ 1000000) (j : Nat) (hj : j < l.length) (a : Int) (s : ByteArray) (b d' : Int) (d : Nat) : ∀ (k i : Nat), l.length - i = d → i ≤ l.length → d < k →
    gangplankref12_with.l0 k l (j : Int) ((l.set j (⟨a, s, b, d'⟩ : Ent)).take i) (i : Int) a s b d' = some (l.set j (⟨a, s, b, d'⟩ : Ent)) := by
  induction d with
  | zero =>
    intro k i hd hi hk
    obtain ⟨k, rfl⟩ : ∃ m, k = m + 1 := ⟨k - 1, by omega⟩
    simp only [gangplankref12_with.l0]
    rw [if_neg (by omega), List.take_of_length_le (by simp; omega)]
  | succ d ih =>
    intro k i hd hi hk
    obtain ⟨k, rfl⟩ : ∃ m, k = m + 1 := ⟨k - 1, by omega⟩
    have hlt : i < l.length := by omega
    have hlt' : i < (l.set j (⟨a, s, b, d'⟩ : Ent)).length := by rw [List.length_set]; exact hlt
    have hs := ih k (i + 1) (by omega) (by omega) (by omega)
    rw [List.take_succ_eq_append_getElem hlt', List.getElem_set] at hs
    have hln : ((l.set j (⟨a, s, b, d'⟩ : Ent)).take i).length ≤ i := by rw [List.length_take]; omega
    simp only [gangplankref12_with.l0]
    rw [if_pos (by omega), wrap_succ (n := l.length) hlt hl]
    by_cases c : i = j
    · subst c
      rw [if_pos rfl, if_pos (by omega)]
      rw [if_pos rfl] at hs
      exact hs
    · rw [if_neg (by omega), if_pos (by omega), if_pos (by omega)]
      rw [if_neg (fun e => c e.symm), ← rdE_nat l i hlt] at hs
      exact hs
theorem with_some {l : List Ent} (hl : l.length ≤ 1000000) {j : Int} (h0 : 0 ≤ j) (h1 : j < l.length) (a : Int) (s : ByteArray) (b d' : Int) (k : Nat) (hk : l.length < k) : gangplankref12_with.f k l j a s b d' = some (l.set j.toNat (⟨a, s, b, d'⟩ : Ent)) := by
  obtain ⟨m, rfl⟩ : ∃ m : Nat, j = m := ⟨j.toNat, by omega⟩
  exact with_loop l hl m (by omega) a s b d' l.length k 0 (by omega) (by omega) hk
theorem refput_some {l : List Ent} {key : ByteArray} (b d : Int) (hs : key.size ≤ 140737488351232) (hl : l.length ≤ 1000000) (k : Nat) (hk : key.size < k) (hk2 : l.length < k) : gangplankref12_Put.f k l key b d = some (if (putR l ⟨1, key, b, d⟩).1 = true then ((putR l ⟨1, key, b, d⟩).2, 0) else (l, 12)) := by
  have hh := hm_some hs hl
  unfold gangplankref12_Put.f
  refine bind_of (reffind_some hl hs hh k hk hk2) ?_
  have r := fnd_range l key
  have r2 := rm_range l key
  show (if fnd l key < 0 then _ else _) = _
  by_cases c : fnd l key < 0
  · rw [if_pos c]
    have e := refroom_some hl hs hh k hk hk2
    rw [if_neg (show ¬ 0 ≤ findIn key (wayL l (hm key l.length)) from by unfold fnd at c; omega)] at e
    refine bind_of e ?_
    show (if rm l key < 0 then _ else _) = _
    by_cases c2 : rm l key < 0
    · have ep : putR l ⟨1, key, b, d⟩ = (false, l) := by unfold putR; rw [if_pos c, if_pos c2]
      rw [if_pos c2, ep]; rfl
    · have ep : putR l ⟨1, key, b, d⟩ = (true, l.set (rm l key).toNat ⟨1, key, b, d⟩) := by unfold putR; rw [if_pos c, if_neg c2]
      rw [if_neg c2, ep]
      exact bind_of (with_some (j := rm l key) hl (by omega) (by omega) 1 key b d k hk2) rfl
  · have ep : putR l ⟨1, key, b, d⟩ = (true, l.set (fnd l key).toNat ⟨1, key, b, d⟩) := by unfold putR; rw [if_neg c]
    rw [if_neg c, ep]
    exact bind_of (with_some (j := fnd l key) hl (by omega) (by omega) 1 key b d k hk2) rfl
theorem putR_no {l : List Ent} {x : Ent} (h : ¬ (putR l x).1 = true) : (putR l x).2 = l := by
  unfold putR at h ⊢
  split at h
  · split at h
    · rw [if_pos (by assumption), if_pos (by assumption)]
    · exact absurd rfl h
  · exact absurd rfl h
theorem reftidy_loop (t : List Ent) (ht : t.length ≤ 64) (hks : Keys60 t) (c0 : List Ent) (hc0 : c0.length ≤ 64) (d : Nat) : ∀ (k i : Nat), t.length - i = d → i ≤ t.length → d + 70 < k →
    gangplankref12_Tidy.l0 k t (tidyAll c0 (liveUpto t i)) (i : Int) = some (tidyAll c0 (liveL t)) := by
  induction d with
  | zero =>
    intro k i hd hi hk
    obtain ⟨k, rfl⟩ : ∃ m, k = m + 1 := ⟨k - 1, by omega⟩
    obtain rfl : i = t.length := by omega
    simp only [gangplankref12_Tidy.l0]
    rw [if_neg (by omega)]; rfl
  | succ d ih =>
    intro k i hd hi hk
    obtain ⟨k, rfl⟩ : ∃ m, k = m + 1 := ⟨k - 1, by omega⟩
    have hlt : i < t.length := by omega
    have hs := ih k (i + 1) (by omega) (by omega) (by omega)
    rw [liveUpto_succ] at hs
    have hlc : (tidyAll c0 (liveUpto t i)).length = c0.length := tidyAll_length _ _ (fun p hp => by
      obtain ⟨j, hj, rfl, _⟩ := mem_live.1 ((liveUpto_prefix t (Nat.le_of_lt hlt)).subset hp)
      have := hks j hj
      show (rdE t (j : Int)).f1.size ≤ _; omega) (by omega)
    have hsz := hks i hlt
    simp only [gangplankref12_Tidy.l0]
    rw [if_pos (by omega), if_pos (by omega), wrap_succ (n := t.length) hlt (by omega)]
    by_cases c : (rdE t (i : Int)).f0 = 1
    · rw [if_pos c]
      rw [if_pos (show ((rd_T31 t (i : Int)).f0 == 1) = true by simpa using c)] at hs
      refine bind_of (refput_some _ _ (show (rdE t (i : Int)).f1.size ≤ _ by omega) (by omega) k (show (rdE t (i : Int)).f1.size < k by omega) (by omega)) ?_
      have ex : (⟨1, (rd_T31 t (i : Int)).f1, (rd_T31 t (i : Int)).f2, (rd_T31 t (i : Int)).f3⟩ : Ent) = rdE t (i : Int) := by
        have : (rdE t (i : Int)) = ⟨(rdE t (i : Int)).f0, (rdE t (i : Int)).f1, (rdE t (i : Int)).f2, (rdE t (i : Int)).f3⟩ := rfl
        rw [this, c]
      rw [ex]
      have es : tidyAll c0 (liveUpto t i ++ [((i : Int), rd_T31 t (i : Int))]) = (if (putR (tidyAll c0 (liveUpto t i)) (rdE t (i : Int))).1 = true then ((putR (tidyAll c0 (liveUpto t i)) (rdE t (i : Int))).2, (0 : Int)) else (tidyAll c0 (liveUpto t i), 12)).1 := by
        have e1 : tidyAll c0 (liveUpto t i ++ [((i : Int), rd_T31 t (i : Int))]) = tidyStep (tidyAll c0 (liveUpto t i)) (rdE t (i : Int)) := by simp [tidyAll]
        rw [e1, tidyStep_eq (by omega) (by omega)]
        by_cases q : (putR (tidyAll c0 (liveUpto t i)) (rdE t (i : Int))).1 = true
        · rw [if_pos q]
        · rw [if_neg q, putR_no q]
      rw [← es]; exact hs
    · rw [if_neg c]
      rw [if_neg (show ¬ ((rd_T31 t (i : Int)).f0 == 1) = true by simpa using c), List.append_nil] at hs
      exact hs
theorem ftidy_some (t : List Ent) (ht : t.length ≤ 64) (hks : Keys60 t) : flows_Tidy.f t = some (tidyAll (List.replicate t.length z31) (liveL t)) ∧ (tidyAll (List.replicate t.length z31) (liveL t)).length = t.length := by
  have hm : ∀ p ∈ liveL t, p.2.f1.size ≤ 60 := fun p hp => by
    obtain ⟨j, hj, rfl, hv⟩ := mem_live.1 hp
    exact hks j hj
  constructor
  · unfold flows_Tidy.f
    rw [if_pos (by omega), if_pos (List.all_eq_true.2 (fun p hp => by have := hm p hp; exact decide_eq_true (by omega)))]
    exact bind_of (new_some _ ht) rfl
  · rw [tidyAll_length _ _ (fun p hp => by have := hm p hp; omega) (by simp; omega), List.length_replicate]
theorem reftidy_eq (t : List Ent) (ht : t.length ≤ 64) (hks : Keys60 t) (k : Nat) (hk : 200 ≤ k) : gangplankref12_Tidy.f k t = flows_Tidy.f t := by
  rw [(ftidy_some t ht hks).1]
  unfold gangplankref12_Tidy.f
  refine bind_of (show gangplankref12_New.f (t.length : Int) = _ from new_some _ ht) ?_
  exact reftidy_loop t ht hks _ (by simp; omega) t.length k 0 (by omega) (by omega) (by omega)
theorem refdelete_eq (t : List Ent) (key : ByteArray) (ht : t.length ≤ 64) (hks : Keys60 t) (hs : key.size ≤ 60) (k : Nat) (hk : 200 ≤ k) : ∃ p, gangplankref12_Delete.f k t key = some p ∧ flows_Delete.f t key = some p ∧ p.1.length ≤ 64 := by
  have hh := hm_some (key := key) (n := t.length) (by omega) (by omega)
  have r := fnd_range t key
  have ef := reffind_some (l := t) (key := key) (by omega) (by omega) hh k (by omega) (by omega)
  unfold gangplankref12_Delete.f
  by_cases c : 0 ≤ fnd t key
  · have h1 : fnd t key < t.length := by omega
    have hkv : Keys60 (t.set (fnd t key).toNat tombE) := keys_put c h1 hks (by decide)
    have hw : gangplankref12_Bury.f k t (fnd t key) = some (t.set (fnd t key).toNat tombE) := by
      unfold gangplankref12_Bury.f
      exact bind_of (with_some (by omega) c h1 2 ⟨#[]⟩ 0 0 k (by omega)) rfl
    obtain ⟨v, hv⟩ : ∃ v, t.set (fnd t key).toNat tombE = v := ⟨_, rfl⟩
    have hlen : v.length = t.length := by rw [← hv]; exact List.length_set
    rw [hv] at hkv hw
    have e1 : flows_Delete.f t key = if wrap64 (2 * (countIn 2 v : Int)) > (t.length : Int) then (flows_Tidy.f v).bind fun u => some (u, true) else some (v, true) := by
      unfold flows_Delete.f
      rw [if_pos (by omega)]
      refine bind_of (fnd_some (by omega) (by omega)) ?_
      rw [if_pos c, if_pos h1, hv]
      exact bind_of (count_some 2 (by omega)) rfl
    obtain ⟨et, el⟩ := ftidy_some v (by omega) hkv
    by_cases c2 : wrap64 (2 * (countIn 2 v : Int)) > (t.length : Int)
    · rw [if_pos c2] at e1
      refine ⟨_, ?_, e1.trans (bind_of et rfl), by show (tidyAll _ _).length ≤ 64; omega⟩
      refine bind_of ef ?_
      show (if fnd t key < 0 then _ else _) = _
      rw [if_neg (by omega)]
      refine bind_of hw ?_
      refine bind_of (a := tidyAll (List.replicate v.length z31) (liveL v)) ?_ rfl
      unfold gangplankref12_Settle.f
      refine bind_of (refcount_some v 2 (by omega) k (by omega)) ?_
      rw [if_pos (by omega)]
      exact bind_of ((reftidy_eq v (by omega) hkv k hk).trans et) rfl
    · rw [if_neg c2] at e1
      refine ⟨_, ?_, e1, by show v.length ≤ 64; omega⟩
      refine bind_of ef ?_
      show (if fnd t key < 0 then _ else _) = _
      rw [if_neg (by omega)]
      refine bind_of hw ?_
      refine bind_of (a := v) ?_ rfl
      unfold gangplankref12_Settle.f
      refine bind_of (refcount_some v 2 (by omega) k (by omega)) ?_
      rw [if_neg (by omega)]
  · refine ⟨(t, false), ?_, ?_, ht⟩
    · refine bind_of ef ?_
      show (if fnd t key < 0 then _ else _) = _
      rw [if_pos (by omega)]
    · unfold flows_Delete.f
      rw [if_pos (by omega)]
      exact bind_of (fnd_some (by omega) (by omega)) (by rw [if_neg c])
theorem refkeys_loop (t : List Ent) (ht : t.length ≤ 64) (d : Nat) : ∀ (k i : Nat), t.length - i = d → i ≤ t.length → d < k →
    gangplankref12_Keys.l0 k t ((liveUpto t i).map fun p => p.2.f1) (i : Int) = some ((liveL t).map fun p => p.2.f1) := by
  induction d with
  | zero =>
    intro k i hd hi hk
    obtain ⟨k, rfl⟩ : ∃ m, k = m + 1 := ⟨k - 1, by omega⟩
    obtain rfl : i = t.length := by omega
    simp only [gangplankref12_Keys.l0]
    rw [if_neg (by omega)]; rfl
  | succ d ih =>
    intro k i hd hi hk
    obtain ⟨k, rfl⟩ : ∃ m, k = m + 1 := ⟨k - 1, by omega⟩
    have hlt : i < t.length := by omega
    have hs := ih k (i + 1) (by omega) (by omega) (by omega)
    rw [liveUpto_succ] at hs
    have hle := liveUpto_le t i
    simp only [gangplankref12_Keys.l0]
    rw [if_pos (by omega), if_pos (by omega), wrap_succ (n := t.length) hlt (by omega)]
    by_cases c : (rdE t (i : Int)).f0 = 1
    · rw [if_pos c, if_pos (by rw [List.length_map]; omega)]
      rw [if_pos (show ((rd_T31 t (i : Int)).f0 == 1) = true by simpa using c), List.map_append] at hs
      exact hs
    · rw [if_neg c]
      rw [if_neg (show ¬ ((rd_T31 t (i : Int)).f0 == 1) = true by simpa using c), List.append_nil] at hs
      exact hs
theorem texts_loop (a : List ByteArray) (ha : a.length ≤ 1000000) (d : Nat) : ∀ (k i : Nat), a.length - i = d → i ≤ a.length → d < k → gangplankref12_Texts.l0 k a a (i : Int) = some true := by
  induction d with
  | zero =>
    intro k i hd hi hk
    obtain ⟨k, rfl⟩ : ∃ m, k = m + 1 := ⟨k - 1, by omega⟩
    simp only [gangplankref12_Texts.l0]
    rw [if_neg (by omega)]
  | succ d ih =>
    intro k i hd hi hk
    obtain ⟨k, rfl⟩ : ∃ m, k = m + 1 := ⟨k - 1, by omega⟩
    simp only [gangplankref12_Texts.l0]
    rw [if_pos (by omega), if_pos (by omega), if_pos (by omega), if_pos (by trivial), wrap_succ (n := a.length) (by omega) ha]
    exact ih k (i + 1) (by omega) (by omega) (by omega)
theorem refright_loop (t : List Ent) (ht : t.length ≤ 64) (hks : Keys60 t) (d : Nat) : ∀ (k i : Nat), t.length - i = d → i ≤ t.length → d + 70 < k →
    ∃ r, gangplankref12_Right.l0 k t (i : Int) = some r ∧ (r = true ↔ ∀ j : Int, i ≤ j → j < t.length → (rdE t j).f0 = 1 → fnd t (rdE t j).f1 = j) := by
  induction d with
  | zero =>
    intro k i hd hi hk
    obtain ⟨k, rfl⟩ : ∃ m, k = m + 1 := ⟨k - 1, by omega⟩
    simp only [gangplankref12_Right.l0]
    rw [if_neg (by omega)]
    exact ⟨true, rfl, fun _ j h1 h2 => by omega, fun _ => rfl⟩
  | succ d ih =>
    intro k i hd hi hk
    obtain ⟨k, rfl⟩ : ∃ m, k = m + 1 := ⟨k - 1, by omega⟩
    have hlt : i < t.length := by omega
    obtain ⟨r, hr, hr2⟩ := ih k (i + 1) (by omega) (by omega) (by omega)
    have hsz := hks i hlt
    simp only [gangplankref12_Right.l0]
    rw [if_pos (by omega), if_pos (by omega), wrap_succ (n := t.length) hlt (by omega)]
    by_cases c : (rdE t (i : Int)).f0 = 1
    · rw [if_pos c]
      have ef := reffind_some (l := t) (key := (rdE t (i : Int)).f1) (by omega) (by omega) (hm_some (by omega) (by omega)) k (by omega) (by omega)
      rw [show (gangplankref11_Find.f k t (rd_T31 t (i : Int)).f1) = some (fnd t (rdE t (i : Int)).f1) from ef]
      simp only [Option.bind_some]
      by_cases c2 : fnd t (rdE t (i : Int)).f1 = i
      · rw [if_pos c2]
        refine ⟨r, hr, hr2.trans ⟨fun h j h1 h2 h3 => ?_, fun h j h1 h2 h3 => h j (by omega) h2 h3⟩⟩
        by_cases e : j = (i : Int)
        · rw [e]; exact c2
        · exact h j (by omega) h2 h3
      · rw [if_neg c2]
        exact ⟨false, rfl, fun h => absurd h (by decide), fun h => absurd (h i (by omega) (by omega) c) c2⟩
    · rw [if_neg c]
      refine ⟨r, hr, hr2.trans ⟨fun h j h1 h2 h3 => ?_, fun h j h1 h2 h3 => h j (by omega) h2 h3⟩⟩
      by_cases e : j = (i : Int)
      · rw [e] at h3; exact absurd h3 c
      · exact h j (by omega) h2 h3
theorem FlowsTell : gangplanklaw12_FlowsTell.Pure := by
  intro t key b d n _ _ hkey _ _ hn
  refine ⟨302, ?_⟩
  unfold gangplanklaw12_FlowsTell.f
  refine bind_of (works12 _ (by omega)) ?_
  rw [if_pos rfl]
  have out : gangplanklaw12_FlowsTell.j0 302 t key b d n true true = some true := by simp only [gangplanklaw12_FlowsTell.j0]; rw [if_pos (by trivial)]
  rcases few_cases2 t 302 (by omega) with h | ⟨h, ht, hks⟩
  · exact bind_of h (by rw [if_neg (by decide)]; exact out)
  · refine bind_of h ?_
    rw [if_pos rfl]
    by_cases c : (key.size : Int) > 60
    · rw [decide_eq_true c]; exact out
    · rw [decide_eq_false c]
      clear out
      simp only [gangplanklaw12_FlowsTell.j0]
      rw [if_neg (by decide)]
      refine bind_of (fput_some b d hkey (by omega)) (bind_of (refput_some b d hkey (by omega) 301 (by omega) (by omega)) ?_)
      obtain ⟨p, hp1, hp2, hp3⟩ := refdelete_eq t key ht hks (by omega) 301 (by omega)
      refine bind_of hp2 (bind_of hp1 ?_)
      have hpl : (if (putR t ⟨1, key, b, d⟩).1 = true then ((putR t ⟨1, key, b, d⟩).2, (0 : Int)) else (t, 12)).1.length ≤ 64 := by
        have := putR_length t ⟨1, key, b, d⟩
        split
        · show (putR t ⟨1, key, b, d⟩).2.length ≤ 64; omega
        · exact ht
      refine bind_of (same_refl _ (by omega) 301 (by omega)).1 ?_
      rw [if_pos rfl]
      refine bind_of (same_refl _ (by omega) 301 (by omega)).1 ?_
      rw [if_pos rfl]
      obtain ⟨et, el⟩ := ftidy_some t ht hks
      refine bind_of et (bind_of ((reftidy_eq t ht hks 301 (by omega)).trans et) (bind_of (same_refl _ (by omega) 301 (by omega)).1 ?_))
      rw [if_pos rfl]
      obtain ⟨z, hz⟩ : ∃ z, flows_New.f n = some z := by
        unfold flows_New.f
        have e1 : 0 ≤ mx 0 (mn n 64) ∧ mx 0 (mn n 64) ≤ 64 := by unfold mx mn; split <;> (try split) <;> omega
        rw [if_pos e1.1, if_pos (by omega)]
        exact ⟨_, rfl⟩
      have hzl := new_length hz
      refine bind_of hz (bind_of (show gangplankref12_New.f n = some z from hz) (bind_of (same_refl _ (by omega) 301 (by omega)).1 ?_))
      simp only [gangplanklaw12_FlowsTell.j1]
      have ek : flows_Keys.f t = some ((liveL t).map fun p => p.2.f1) := if_pos (by omega)
      have hkl : ((liveL t).map fun p => p.2.f1).length ≤ 64 := by rw [List.length_map, live_len]; have := countIn_le 1 t; omega
      refine bind_of ek (bind_of (refkeys_loop t ht t.length 300 0 (by omega) (by omega) (by omega)) ?_)
      refine bind_of (show gangplankref12_Texts.f 300 _ _ = some true from by
        unfold gangplankref12_Texts.f
        rw [if_pos rfl]
        exact texts_loop _ (by omega) _ 300 0 rfl (by omega) (by omega)) ?_
      obtain ⟨r, hr, hr2⟩ := refright_loop t ht hks t.length 300 0 (by omega) (by omega) (by omega)
      refine bind_of hr ?_
      rw [if_pos (by trivial), if_pos (by trivial), if_pos (by trivial), if_pos (by trivial), if_pos (by simp)]
      obtain ⟨q, hq, hq2⟩ := right_some (l := t) (by omega) hks
      refine bind_of hq ?_
      have : q = r := by
        have e : q = true ↔ r = true := hq2.trans ⟨fun h => hr2.2 (fun j h1 h2 h3 => h j (by omega) h2 h3), fun h j h1 h2 h3 => hr2.1 h j (by omega) h2 h3⟩
        cases q <;> cases r <;> simp_all
      rw [this]; simp
end Go.Proofs.Ythdkkmeiihbafaa.Pure
