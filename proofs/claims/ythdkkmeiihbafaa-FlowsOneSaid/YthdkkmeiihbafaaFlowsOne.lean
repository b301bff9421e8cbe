/- The statement that at most one live entry has a key, over numbers and lists. -/
import Derived.Test.YthdkkmeiihbafaaFlowsLaw
import Derived.Test.YthdkkmeiihbafaaPx8
set_option linter.unusedVariables false
set_option linter.unusedSimpArgs false
namespace Go.Proofs.Ythdkkmeiihbafaa.Pure
open Go.RowKit Go.Proofs.Ythdkkmeiihbafaa.P Go.Proofs.YthdkkmeiihbafaaW.PrintWords Go.Proofs.YthdkkmeiihbafaaW.PrintLast Go.Proofs.Ythdkkmeiihbafaa.Hand Go.Proofs.Ythdkkmeiihbafaa.ProbeLaw

/-- All keys, in their order. -/
def keysL (l : List Ent) : List ByteArray := (liveL l).map fun p => p.2.f1
theorem keys_some {l : List Ent} (hl : l.length ≤ 1000000) : flows_Keys.f l = some (keysL l) := if_pos hl
theorem upto_rd (l : List Ent) : upto (fun i => rdE l ((i : Nat) : Int)) l.length = l := by
  apply List.ext_getElem
  · rw [upto_length]
  · intro i h1 h2
    simp only [upto, List.getElem_map, List.getElem_range]
    exact rdE_nat l i h2
theorem live_snd (l : List Ent) : (liveL l).map (fun p => p.2) = l.filter (fun x => x.f0 == 1) := by
  conv => rhs; rw [← upto_rd l]
  unfold liveL liveUpto upto
  rw [List.filter_map, List.map_map, List.filter_map]
  rfl
theorem keys_length (l : List Ent) : (keysL l).length = countIn 1 l := by
  unfold keysL countIn
  rw [← live_snd]
  simp
theorem keysL_eq (l : List Ent) : keysL l = (l.filter fun x => x.f0 == 1).map fun x => x.f1 := by
  unfold keysL
  rw [← live_snd, List.map_map]; rfl
theorem cnt_unique {α : Type} (p : α → Bool) : ∀ (l : List α) (j : Nat) (hj : j < l.length), p l[j] = true → (∀ i (hi : i < l.length), p l[i] = true → i = j) → l.countP p = 1
  | a :: l, 0, _, h, hu => by
    have : l.countP p = 0 := List.countP_eq_zero.2 (fun x hx hp => by
      obtain ⟨i, hi, rfl⟩ := List.getElem_of_mem hx
      have := hu (i + 1) (by simpa using hi) (by simpa using hp)
      omega)
    rw [List.countP_cons, this, if_pos (by simpa using h)]
  | a :: l, j + 1, hj, h, hu => by
    have ha : ¬ p a = true := fun hp => by have := hu 0 (by simp) (by simpa using hp); omega
    rw [List.countP_cons, if_neg ha, cnt_unique p l j (by simpa using hj) (by simpa using h) (fun i hi hp => by have := hu (i + 1) (by simpa using hi) (by simpa using hp); omega)]
/-- How many keys are this one, in a table that is right. -/
theorem right_count {l : List Ent} (hR : RightP l) (key : ByteArray) : (keysL l).countP (fun s => s.toList == key.toList) = if 0 ≤ fnd l key then 1 else 0 := by
  rw [keysL_eq, List.countP_map, List.countP_filter]
  have P : ∀ i (hi : i < l.length), ((((fun s : ByteArray => s.toList == key.toList) ∘ fun x : Ent => x.f1) l[i] && l[i].f0 == 1) = true) → fnd l key = (i : Int) := fun i hi h => by
    rw [Bool.and_eq_true] at h
    have e := rdE_nat l i hi
    refine right_fnd hR (by omega) (by omega) ?_ ?_
    · rw [e]; simpa using h.2
    · rw [e]; exact bytes_eq (by simpa using h.1)
  by_cases c : 0 ≤ fnd l key
  · rw [if_pos c]
    have r := fnd_range l key
    obtain ⟨l1, l2⟩ := fnd_live c
    have e := rdE_nat l (fnd l key).toNat (by omega)
    rw [Int.toNat_of_nonneg c] at e
    rw [e] at l1 l2
    exact cnt_unique _ l (fnd l key).toNat (by omega) (by simp [l1, l2]) (fun i hi h => by have := P i hi h; omega)
  · rw [if_neg c]
    exact List.countP_eq_zero.2 (fun x hx hp => by
      obtain ⟨i, hi, rfl⟩ := List.getElem_of_mem hx
      have := P i hi hp
      omega)
theorem one_loop (t : List Ent) (key : ByteArray) (keys : List ByteArray) (hk : keys.length ≤ 1000000) (H : ∀ k, gangplanklaw12_FlowsOne.l0 (k + 1) t key true keys ((keys.countP (fun s => s.toList == key.toList) : Nat) : Int) (keys.length : Int) = some true) (d : Nat) :
    ∀ (k i : Nat), keys.length - i = d → i ≤ keys.length → d < k → gangplanklaw12_FlowsOne.l0 k t key true keys (((keys.take i).countP (fun s => s.toList == key.toList) : Nat) : Int) (i : Int) = some true := by
  induction d with
  | zero =>
    intro k i hd hi hk'
    obtain ⟨k, rfl⟩ : ∃ m, k = m + 1 := ⟨k - 1, by omega⟩
    obtain rfl : i = keys.length := by omega
    rw [List.take_length]
    exact H k
  | succ d ih =>
    intro k i hd hi hk'
    obtain ⟨k, rfl⟩ : ∃ m, k = m + 1 := ⟨k - 1, by omega⟩
    have hlt : i < keys.length := by omega
    have hc : (keys.take i).countP (fun s => s.toList == key.toList) ≤ i := Nat.le_trans List.countP_le_length (by rw [List.length_take]; omega)
    have hs := ih k (i + 1) (by omega) (by omega) (by omega)
    rw [List.take_succ_eq_append_getElem hlt, List.countP_append] at hs
    simp only [gangplanklaw12_FlowsOne.l0]
    rw [if_pos (by omega), if_pos (by omega), show rdOf ByteArray.empty keys (i : Int) = keys[i] by simp [rdOf, hlt], show wrap64 ((i : Int) + 1) = ((i + 1 : Nat) : Int) from wrap_succ (n := keys.length) (by omega) hk]
    by_cases c : keys[i].toList = key.toList
    · rw [if_pos c, wrap_succ (n := keys.length) (by omega) hk]
      have e1 : [keys[i]].countP (fun s => s.toList == key.toList) = 1 := by simp [c]
      rw [e1] at hs
      exact hs
    · rw [if_neg c]
      have e1 : [keys[i]].countP (fun s => s.toList == key.toList) = 0 := by simp [c]
      rw [e1, Nat.add_zero] at hs
      exact hs
theorem FlowsOne : gangplanklaw12_FlowsOne.Pure := by
  intro t key _ _ hkey
  refine ⟨202, ?_⟩
  unfold gangplanklaw12_FlowsOne.f
  refine bind_of (works12 _ (by omega)) ?_
  rw [if_pos rfl]
  have out : gangplanklaw12_FlowsOne.j0 202 t key true true = some true := by simp only [gangplanklaw12_FlowsOne.j0]; rw [if_pos (by trivial)]
  rcases few_cases2 t 202 (by omega) with h | ⟨h, ht, hks⟩
  · exact bind_of h (by rw [if_neg (by decide)]; exact out)
  · refine bind_of h ?_
    rw [if_pos rfl]
    by_cases c : (key.size : Int) > 60
    · rw [if_pos c]; exact out
    · rw [if_neg c]
      obtain ⟨q, hq, hq2⟩ := right_some (l := t) (by omega) hks
      refine bind_of hq ?_
      cases q
      · exact out
      · have hR := hq2.1 rfl
        clear out
        show gangplanklaw12_FlowsOne.j0 202 t key true false = some true
        simp only [gangplanklaw12_FlowsOne.j0]
        rw [if_neg (by decide)]
        refine bind_of (keys_some (by omega)) ?_
        have hkl := keys_length t
        have hcl := countIn_le 1 t
        refine one_loop t key (keysL t) (by omega) (fun k => ?_) (keysL t).length 201 0 (by omega) (by omega) (by omega)
        simp only [gangplanklaw12_FlowsOne.l0]
        rw [if_neg (by omega), if_pos (by trivial), right_count hR key]
        by_cases c0 : 0 ≤ fnd t key
        · rw [if_pos c0, if_pos (by decide)]
          refine bind_of (fnd_some hkey (by omega)) ?_
          rw [decide_eq_true (show fnd t key ≥ 0 from c0), if_pos (by decide)]
          refine bind_of (count_some 1 (by omega)) ?_
          rw [hkl]; simp
        · rw [if_neg c0, if_pos (by decide)]
          refine bind_of (fnd_some hkey (by omega)) ?_
          rw [decide_eq_false (show ¬ fnd t key ≥ 0 from c0), if_pos (by decide)]
          refine bind_of (count_some 1 (by omega)) ?_
          rw [hkl]; simp
end Go.Proofs.Ythdkkmeiihbafaa.Pure
