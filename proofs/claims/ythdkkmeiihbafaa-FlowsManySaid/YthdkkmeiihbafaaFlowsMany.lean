/- The statement that as many flows are put in as there are places, over numbers and lists. -/
import Derived.Test.YthdkkmeiihbafaaFlowsSet
import Derived.Test.YthdkkmeiihbafaaPx10
set_option linter.unusedVariables false
set_option linter.unusedSimpArgs false
namespace Go.Proofs.Ythdkkmeiihbafaa.Pure
open Go.RowKit Go.Proofs.Ythdkkmeiihbafaa.P Go.Proofs.YthdkkmeiihbafaaW.PrintWords Go.Proofs.YthdkkmeiihbafaaW.PrintLast Go.Proofs.Ythdkkmeiihbafaa.Hand Go.Proofs.Ythdkkmeiihbafaa.ProbeLaw
noncomputable local instance (s : ByteArray) (l : List ByteArray) : Decidable (s ∈ l) := Classical.propDecidable _
/-- A table that holds just these keys, each once. -/
structure KInv (n : Nat) (c : List Ent) (own : List ByteArray) : Prop where
  len : c.length = n
  right : RightP c
  has : ∀ s, 0 ≤ fnd c s ↔ s ∈ own
  count : countIn 1 c = own.length
theorem kinv_new (n : Nat) : KInv n (List.replicate n z31) [] := by
  have h := inv_new n
  refine ⟨h.len, h.right, fun s => ?_, h.count⟩
  constructor
  · intro h0
    exact absurd ((h.has _).1 (has_fnd h0).1) (by simp)
  · intro h0; exact absurd h0 (by simp)
/-- One more is put in: it stands, or there is no room. -/
theorem kinv_put {n : Nat} {c : List Ent} {own : List ByteArray} (hn : n ≤ 64) (h : KInv n c own) (x : Ent) (hx : x.f0 = 1) (hs : x.f1.size ≤ 140737488351232) :
    (x.f1 ∈ own ∧ (putR c x).1 = true ∧ KInv n (putR c x).2 own) ∨ (x.f1 ∉ own ∧ own.length < n ∧ (putR c x).1 = true ∧ KInv n (putR c x).2 (own ++ [x.f1])) ∨ (x.f1 ∉ own ∧ own.length = n ∧ putR c x = (false, c)) := by
  have hl := h.len
  have hc := h.count
  have cl := countIn_le 1 c
  have hr := right_put h.right hx hs (by omega)
  rcases putR_cases c x hx hs (by omega) with ⟨j, h0, h1, e, hf, hcs⟩ | ⟨e, hneg, hall⟩
  · rw [e] at hr ⊢
    dsimp only at hr ⊢
    have cp := count_put c j x h0 h1
    rw [if_pos hx] at cp
    have hset : ∀ s, x.f1 ≠ s → (0 ≤ fnd (c.set j.toNat x) s ↔ 0 ≤ fnd c s) := fun s hne => by
      have hj : ¬ ((rdE c j).f0 = 1 ∧ (rdE c j).f1 = s) := fun hh => hcs.elim (fun q => hne (q.2.2.symm.trans hh.2)) (fun q => q.2 hh.1)
      constructor
      · intro p
        obtain ⟨⟨i, i0, i1, i2, i3⟩, hk⟩ := has_fnd p
        rw [List.length_set] at i1
        rw [rdE_set _ _ _ _ h0 h1 i0 i1] at i2
        by_cases q : i = j
        · rw [if_pos q] at i2; rw [← i2] at hk; exact absurd hk hne
        · rw [if_neg q] at i2
          have := right_fnd h.right i0 i1 (key := s) (by rw [i2]; exact i3) (by rw [i2]; exact hk)
          omega
      · intro p
        rw [set_fnd h0 h1 ⟨by rw [hx]; decide, fun hh => hne hh.2⟩ hj p]; exact p
    rcases hcs with ⟨hfj, hv, hk⟩ | ⟨hfj, hv⟩
    · left
      have hm : x.f1 ∈ own := (h.has _).1 (by omega)
      rw [if_pos hv] at cp
      refine ⟨hm, rfl, by show (c.set j.toNat x).length = n; rw [List.length_set]; exact hl, hr, fun s => ?_, by omega⟩
      by_cases q : x.f1 = s
      · subst q; exact ⟨fun _ => hm, fun _ => by omega⟩
      · rw [hset s q]; exact h.has s
    · right; left
      have hm : x.f1 ∉ own := fun hh => by have := (h.has _).2 hh; omega
      rw [if_neg hv] at cp
      have cl2 := countIn_le 1 (c.set j.toNat x)
      rw [List.length_set] at cl2
      refine ⟨hm, by omega, rfl, by show (c.set j.toNat x).length = n; rw [List.length_set]; exact hl, hr, fun s => ?_, by simp; omega⟩
      by_cases q : x.f1 = s
      · subst q; exact ⟨fun _ => by simp, fun _ => by omega⟩
      · rw [hset s q, h.has s]
        constructor
        · intro hh; simp [hh]
        · intro hh; rcases List.mem_append.1 hh with hh | hh
          · exact hh
          · simp at hh; exact absurd hh.symm q
  · right; right
    exact ⟨fun hh => by have := (h.has _).2 hh; omega, by omega, e⟩

theorem many_own (n : Int) (keys : List ByteArray) (more : ByteArray) (c : List Ent) (own : List ByteArray) (i : Nat) (hi : i < keys.length) (hkl : keys.length ≤ 1000000) (ho : own.length ≤ 1000000) (R : Option Bool) (m : Nat)
    (H : ∀ k, m ≤ k → gangplanklaw12_FlowsMany.l1 (k + 1) n keys more true c own (i : Int) (decide (keys[i] ∈ own)) (own.length : Int) = R) (d : Nat) :
    ∀ (k j : Nat), own.length - j = d → j ≤ own.length → d + m + 1 ≤ k → gangplanklaw12_FlowsMany.l1 k n keys more true c own (i : Int) (decide (keys[i] ∈ own.take j)) (j : Int) = R := by
  induction d with
  | zero =>
    intro k j hd hj hk
    obtain ⟨k, rfl⟩ : ∃ m, k = m + 1 := ⟨k - 1, by omega⟩
    obtain rfl : j = own.length := by omega
    rw [List.take_length]
    exact H k (by omega)
  | succ d ih =>
    intro k j hd hj hk
    obtain ⟨k, rfl⟩ : ∃ m, k = m + 1 := ⟨k - 1, by omega⟩
    have hlt : j < own.length := by omega
    have hs := ih k (j + 1) (by omega) (by omega) (by omega)
    simp only [gangplanklaw12_FlowsMany.l1]
    rw [if_pos (by omega), wrap_succ (n := own.length) (by omega) ho]
    by_cases q : keys[i] ∈ own.take j
    · rw [decide_eq_true q, if_pos rfl]
      have q2 : keys[i] ∈ own.take (j + 1) := by rw [List.take_succ_eq_append_getElem hlt]; exact List.mem_append.2 (.inl q)
      rw [decide_eq_true q2] at hs
      exact hs
    · rw [decide_eq_false q, if_neg (by decide), if_pos (by omega), if_pos (by omega), if_pos (by omega)]
      have e : decide (keys[i] ∈ own.take (j + 1)) = ((rdOf ByteArray.empty own (j : Int)).toList == (rdOf ByteArray.empty keys (i : Int)).toList) := by
        rw [List.take_succ_eq_append_getElem hlt, show rdOf ByteArray.empty own (j : Int) = own[j] by simp [rdOf, hlt], show rdOf ByteArray.empty keys (i : Int) = keys[i] by simp [rdOf, hi]]
        by_cases z : own[j] = keys[i]
        · rw [decide_eq_true (by simp [z]), z]; simp
        · rw [decide_eq_false (by simp only [List.mem_append, List.mem_singleton, not_or]; exact ⟨q, fun h => z h.symm⟩)]
          symm; rw [beq_eq_false_iff_ne]; exact fun h => z (bytes_eq h)
      rw [← e]; exact hs
theorem many_end (n : Nat) (hn : n ≤ 64) (more : ByteArray) (hm : more.size ≤ 60) (c : List Ent) (own : List ByteArray) (h : KInv n c own) (hk : ∀ s ∈ own, s.size ≤ 60) (d : Nat) :
    ∀ (k j : Nat), own.length - j = d → j ≤ own.length → d < k → gangplanklaw12_FlowsMany.l2 k (n : Int) more true c own (j : Int) = some true := by
  have hl := h.len
  have hc := h.count
  have cl := countIn_le 1 c
  induction d with
  | zero =>
    intro k j hd hj hk'
    obtain ⟨k, rfl⟩ : ∃ m, k = m + 1 := ⟨k - 1, by omega⟩
    simp only [gangplanklaw12_FlowsMany.l2]
    rw [if_neg (by omega)]
    refine bind_of (fput_some 1 1 (by omega) (by omega)) ?_
    rw [if_pos (by trivial)]
    obtain ⟨ks, hks, hksl⟩ := keys_some2 (l := c) (by omega)
    refine bind_of hks ?_
    rw [if_pos (by omega)]
    rcases kinv_put hn h ⟨1, more, 1, 1⟩ rfl (by show more.size ≤ _; omega) with ⟨a, b, _⟩ | ⟨a, b, b2, _⟩ | ⟨a, b, b2⟩
    · rw [if_pos b]
      by_cases q : (own.length : Int) < n
      · rw [if_pos q]; rfl
      · rw [if_neg q]
        refine bind_of (fnd_some (by omega) (by omega)) ?_
        rw [decide_eq_true ((h.has _).2 a)]; rfl
    · rw [if_pos b2, if_pos (by omega)]; rfl
    · have e12 : (if (putR c ⟨1, more, 1, 1⟩).1 = true then ((putR c ⟨1, more, 1, 1⟩).2, (0 : Int)) else (c, 12)) = (c, 12) := by rw [b2]; rfl
      rw [e12, if_neg (by omega)]
      refine bind_of (fnd_some (by omega) (by omega)) ?_
      rw [decide_eq_false (fun q => a ((h.has _).1 q))]; rfl
  | succ d ih =>
    intro k j hd hj hk'
    obtain ⟨k, rfl⟩ : ∃ m, k = m + 1 := ⟨k - 1, by omega⟩
    have hlt : j < own.length := by omega
    have hs := hk own[j] (List.getElem_mem _)
    simp only [gangplanklaw12_FlowsMany.l2]
    rw [if_pos (by omega), if_pos (by omega), show rdOf ByteArray.empty own (j : Int) = own[j] by simp [rdOf, hlt]]
    refine bind_of (fnd_some (by omega) (by omega)) ?_
    have := (h.has own[j]).2 (List.getElem_mem _)
    rw [if_neg (by omega), wrap_succ (n := own.length) (by omega) (by omega)]
    exact ih k (j + 1) (by omega) (by omega) (by omega)
theorem many_loop (n : Nat) (hn : n ≤ 64) (keys : List ByteArray) (hkl : keys.length ≤ 80) (more : ByteArray) (hm : more.size ≤ 60) (d : Nat) :
    ∀ (k i : Nat) (c : List Ent) (own : List ByteArray), keys.length - i = d → i ≤ keys.length → 100 + 100 * d ≤ k → KInv n c own → (∀ s ∈ own, s.size ≤ 60) → gangplanklaw12_FlowsMany.l0 k (n : Int) keys more true c own (i : Int) = some true := by
  induction d with
  | zero =>
    intro k i c own hd hi hk h hs
    obtain ⟨k, rfl⟩ : ∃ m, k = m + 1 := ⟨k - 1, by omega⟩
    have hl := h.len
    have hc := h.count
    have cl := countIn_le 1 c
    simp only [gangplanklaw12_FlowsMany.l0]
    rw [if_neg (by omega)]
    exact many_end n hn more hm c own h hs own.length k 0 (by omega) (by omega) (by omega)
  | succ d ih =>
    intro k i c own hd hi hk h hs
    obtain ⟨k, rfl⟩ : ∃ m, k = m + 1 := ⟨k - 1, by omega⟩
    have hl := h.len
    have hc := h.count
    have cl := countIn_le 1 c
    have hlt : i < keys.length := by omega
    have ek : rdOf ByteArray.empty keys (i : Int) = keys[i] := by simp [rdOf, hlt]
    simp only [gangplanklaw12_FlowsMany.l0]
    rw [if_pos (by omega), if_pos (by omega), ek]
    by_cases q : (keys[i].size : Int) > 60
    · rw [if_pos q]
    · rw [if_neg q]
      have hlen1 : own.length ≤ 64 := by omega
      have hb : (decide (keys[i] ∈ own.take 0)) = false := by simp
      have hks : keys[i].size ≤ 60 := by omega
      rw [← hb]
      refine many_own (n : Int) keys more c own i hlt (by omega) (by omega) (some true) (100 + 100 * d + 5) (fun k' hk' => ?_) own.length k 0 (by omega) (by omega) (by omega)
      obtain ⟨k', rfl⟩ : ∃ m, k' = m + 1 := ⟨k' - 1, by omega⟩
      simp only [gangplanklaw12_FlowsMany.l1]
      rw [if_neg (by omega), if_pos (by omega), if_pos (by omega), ek]
      refine bind_of (fput_some (i : Int) (i : Int) (by omega) (by omega)) ?_
      rcases kinv_put hn h ⟨1, keys[i], (i : Int), (i : Int)⟩ rfl (by show keys[i].size ≤ _; omega) with ⟨a, b, hi'⟩ | ⟨a, b, b2, hi'⟩ | ⟨a, b, b2⟩
      · rw [if_pos b, decide_eq_true a, if_pos rfl]
        simp only [gangplanklaw12_FlowsMany.j3]
        rw [if_neg (by decide), if_pos (by trivial), if_pos (by trivial), wrap_succ (n := keys.length) (by omega) (by omega)]
        exact ih k' (i + 1) _ own (by omega) (by omega) (by omega) hi' hs
      · dsimp only at a hi'
        rw [if_pos b2, decide_eq_false a, if_neg (by decide), decide_eq_true (by omega)]
        simp only [gangplanklaw12_FlowsMany.j3]
        rw [if_neg (by decide), if_pos (by trivial), if_neg (by decide), if_pos (by omega), if_pos (by omega), if_pos (by omega), ek, wrap_succ (n := keys.length) (by omega) (by omega)]
        exact ih k' (i + 1) _ _ (by omega) (by omega) (by omega) hi' (fun s hs' => by
          rcases List.mem_append.1 hs' with hs' | hs'
          · exact hs s hs'
          · simp at hs'; subst hs'; exact hks)
      · dsimp only at a
        have e12 : (if (putR c ⟨1, keys[i], (i : Int), (i : Int)⟩).1 = true then ((putR c ⟨1, keys[i], (i : Int), (i : Int)⟩).2, (0 : Int)) else (c, 12)) = (c, 12) := by rw [b2]; rfl
        rw [e12, decide_eq_false a, if_neg (by decide), decide_eq_false (by omega)]
        simp only [gangplanklaw12_FlowsMany.j3]
        rw [if_neg (by decide), if_neg (by decide), wrap_succ (n := keys.length) (by omega) (by omega)]
        exact ih k' (i + 1) _ own (by omega) (by omega) (by omega) h hs
theorem FlowsMany : gangplanklaw12_FlowsMany.Pure := by
  intro n keys more _ _ _ hmore
  refine ⟨9002, ?_⟩
  unfold gangplanklaw12_FlowsMany.f
  refine bind_of (works12 _ (by omega)) ?_
  rw [if_pos rfl]
  have out : gangplanklaw12_FlowsMany.j0 9002 n keys more true true = some true := by simp only [gangplanklaw12_FlowsMany.j0]; rw [if_pos (by trivial)]
  by_cases c1 : n < 0
  · rw [if_pos c1]; exact out
  · rw [if_neg c1]
    by_cases c2 : n > 64
    · rw [if_pos c2]; exact out
    · rw [if_neg c2]
      by_cases c3 : (keys.length : Int) > 80
      · rw [if_pos c3]; exact out
      · rw [if_neg c3]
        by_cases c4 : (more.size : Int) > 60
        · rw [decide_eq_true c4]; exact out
        · rw [decide_eq_false c4]
          clear out
          simp only [gangplanklaw12_FlowsMany.j0]
          rw [if_neg (by decide)]
          obtain ⟨m, rfl⟩ : ∃ m : Nat, n = m := ⟨n.toNat, by omega⟩
          refine bind_of (new_some m (by omega)) ?_
          exact many_loop m (by omega) keys (by omega) more (by omega) keys.length 9001 0 _ [] (by omega) (by omega) (by omega) (kinv_new m) (fun s hs => absurd hs (by simp))
end Go.Proofs.Ythdkkmeiihbafaa.Pure
