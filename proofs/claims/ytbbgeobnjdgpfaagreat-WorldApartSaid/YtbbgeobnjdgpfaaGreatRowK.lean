/- A row of elements of k cells each, of the call's own: as the sort's kit reads it, and as it stands behind a sort. -/
import Derived.Shelf.SlSortCmp.NoneTotal
import Derived.Laws.AppendOwn
import Derived.Below
namespace Go.Proofs.YtbbgeobnjdgpfaaGreat.Hand
open Go.RowKit Go.Shelf
open Go.Sort (grow flatK HoldsK Holds putRow putRowK mapBlock onCells putCells)
set_option linter.unusedVariables false
set_option linter.unusedSimpArgs false
theorem flat_len {β : Type} {enc : β → List Value} {k : Nat} (hk : ∀ x, (enc x).length = k) (xs : List β) : (xs.flatMap enc).length = xs.length * k := by
  induction xs with
  | nil => simp
  | cons x l ih => rw [List.flatMap_cons, List.length_append, hk, ih, List.length_cons, Nat.add_mul, Nat.one_mul, Nat.add_comm]
section
variable {α : Type} [Inhabited α]
theorem flat_at {enc : α → List Value} {k : Nat} (hk : ∀ x, (enc x).length = k) : ∀ (xs : List α) (t : Nat), t < xs.length * k → (xs.flatMap enc)[t]! = (enc xs[t / k]!)[t % k]!
  | [], t, h => by simp at h
  | x :: l, t, h => by
    have k0 : 0 < k := by rcases Nat.eq_zero_or_pos k with h' | h'; · subst h'; simp at h
                          · exact h'
    rw [List.flatMap_cons]
    by_cases ht : t < k
    · have e1 : t / k = 0 := Nat.div_eq_of_lt ht
      have e2 : t % k = t := Nat.mod_eq_of_lt ht
      rw [e1, e2]
      simp only [List.getElem!_eq_getElem?_getD, List.getElem?_cons_zero, Option.getD_some]
      rw [List.getElem?_append_left (by rw [hk]; exact ht)]
    · obtain ⟨u, rfl⟩ : ∃ u, t = u + k := ⟨t - k, by omega⟩
      have ih := flat_at hk l u (by rw [List.length_cons, Nat.add_mul, Nat.one_mul] at h; omega)
      rw [Nat.add_div_right _ k0, Nat.add_mod_right]
      simp only [List.getElem!_eq_getElem?_getD] at ih ⊢
      rw [List.getElem?_append_right (by rw [hk]; omega), hk, Nat.add_sub_cancel, List.getElem?_cons_succ]
      exact ih
theorem flatK_list {enc : α → List Value} {k : Nat} (hk : ∀ x, (enc x).length = k) (xs : List α) : (flatK enc k xs.toArray).toList = xs.flatMap enc := by
  refine List.ext_getElem? fun t => ?_
  by_cases ht : t < xs.length * k
  · have h1 := flat_at hk xs t ht
    have h2 := Go.Sort.get_flatK enc k xs.toArray t (by simpa using ht)
    have l1 : t < (flatK enc k xs.toArray).toList.length := by simpa using ht
    have l2 : t < (xs.flatMap enc).length := by rw [flat_len hk]; exact ht
    rw [List.getElem?_eq_getElem l1, List.getElem?_eq_getElem l2]
    congr 1
    rw [getElem!_pos (xs.flatMap enc) t l2] at h1
    rw [h1]
    have l3 : t < (flatK enc k xs.toArray).size := by simpa using ht
    rw [getElem!_pos (flatK enc k xs.toArray) t l3] at h2
    rw [Array.getElem_toList, h2]
    simp
  · rw [List.getElem?_eq_none (by simp; omega), List.getElem?_eq_none (by rw [flat_len hk]; omega)]
theorem holdsK_own {enc : α → List Value} {k : Nat} (hk : ∀ x, (enc x).length = k) {W : World} {base g cap : Nat} {e : TypeId} {xs : List α} (h : W.ownsRow base e k (.slice (some ⟨g, 0, none⟩) xs.length cap) xs.length (xs.flatMap enc)) : HoldsK enc k W g 0 xs.toArray ∧ g < W.heap.size := by
  obtain ⟨hl, hn | ⟨g', cap', cur, hv, hb, hg, h1, h2, h3, h4⟩⟩ := h
  · cases hn.1
  · injection hv with hA _ hc
    injection hA with hA
    injection hA with hA
    subst hA
    refine ⟨fun t ht => ?_, (Array.getElem?_eq_some_iff.1 hg).1⟩
    have ht' : t < xs.length * k := by simpa using ht
    constructor
    · rw [Nat.zero_add]
      simp only [World.cell?, hg]
      have l2 : t < (xs.flatMap enc).length := by rw [flat_len hk]; exact ht'
      have e1 : cur.toList[t]? = (xs.flatMap enc)[t]? := by rw [← h4, List.getElem?_take, if_pos ht']
      rw [← flatK_list hk xs] at e1
      simp only [Array.getElem?_toList] at e1
      rw [if_neg (by simp), e1, Array.getElem?_eq_getElem ht, id, getElem!_pos _ t ht]
    · simp only [World.frozen?, hg]
      simp
theorem own_sorted {enc : α → List Value} {k : Nat} (hk : ∀ x, (enc x).length = k) {W : World} {base g cap : Nat} {e : TypeId} {xs ys : List α} (h : W.ownsRow base e k (.slice (some ⟨g, 0, none⟩) xs.length cap) xs.length (xs.flatMap enc)) (hy : ys.length = xs.length) (m : Nat) (os : Array Obj) :
    (sortWorldK enc k W g 0 m ys.toArray os).ownsRow base e k (.slice (some ⟨g, 0, none⟩) ys.length cap) ys.length (ys.flatMap enc) := by
  obtain ⟨hl, hn | ⟨g', cap', cur, hv, hb, hg, h1, h2, h3, h4⟩⟩ := h
  · cases hn.1
  · injection hv with hA _ hc
    injection hA with hA
    injection hA with hA
    subst hA
    subst hc
    have hlt : g < W.heap.size := (Array.getElem?_eq_some_iff.1 hg).1
    have hle : ys.length * k ≤ cur.size := by rw [h3, hy]; exact Nat.mul_le_mul_right _ h1
    refine ⟨flat_len hk ys, .inr ⟨g, cap, putCells id 0 (flatK enc k ys.toArray) cur, rfl, hb, ?_, by omega, h2, by simp [putCells, h3], ?_⟩⟩
    · show ((W.heap.modify g (onCells (putCells id 0 (flatK enc k ys.toArray)))) ++ os)[g]? = _
      rw [Array.getElem?_append, if_pos (by simpa using hlt), Array.getElem?_modify, if_pos rfl, hg]
      rfl
    · rw [← flatK_list hk ys]
      refine List.ext_getElem? fun t => ?_
      rw [List.getElem?_take]
      by_cases ht : t < ys.length * k
      · rw [if_pos ht]
        simp only [Array.getElem?_toList, putCells, Array.getElem?_mapIdx]
        rw [Array.getElem?_eq_getElem (by omega : t < cur.size), Option.map_some, if_pos ⟨Nat.zero_le _, by simpa using ht⟩, Nat.sub_zero, id]
        have l3 : t < (flatK enc k ys.toArray).size := by simpa using ht
        rw [getElem!_pos _ t l3, Array.getElem?_eq_getElem l3]
      · rw [if_neg ht, List.getElem?_eq_none (by simp; omega)]
/-- What lies elsewhere stays behind a sort. -/
theorem sorted_block (enc : α → List Value) (k : Nat) (W : World) (g m : Nat) (d : Array α) (os : Array Obj) (j : Nat) (hj : j < W.heap.size) (hne : j ≠ g) : (sortWorldK enc k W g 0 m d os).heap[j]? = W.heap[j]? := by
  show ((W.heap.modify g (onCells (putCells id 0 (flatK enc k d)))) ++ os)[j]? = _
  rw [Array.getElem?_append, if_pos (by simpa using hj), Array.getElem?_modify, if_neg (by omega)]
theorem sorted_below (enc : α → List Value) (k : Nat) (W : World) (g m : Nat) (d : Array α) (os : Array Obj) (n₀ : Nat) (h : n₀ ≤ g) (hn : n₀ ≤ W.heap.size) : Below n₀ W (sortWorldK enc k W g 0 m d os) :=
  ⟨rfl, rfl, rfl, by show _ ≤ ((W.heap.modify g _) ++ os).size; simp, fun j hj => sorted_block enc k W g m d os j (by omega) (by omega)⟩
end
section
/-- The first elements of a row, as a slice of fewer. -/
theorem own_cut {W : World} {base g cap n k i : Nat} {e : TypeId} {xs : List Value} (h : W.ownsRow base e k (.slice (some ⟨g, 0, none⟩) n cap) n xs) (hi : i ≤ n) : W.ownsRow base e k (.slice (some ⟨g, 0, none⟩) i cap) i (xs.take (i * k)) := by
  obtain ⟨hl, hn | ⟨g', cap', cur, hv, hb, hg, h1, h2, h3, h4⟩⟩ := h
  · cases hn.1
  · injection hv with hA _ hc
    injection hA with hA
    injection hA with hA
    subst hA
    subst hc
    have hm : i * k ≤ n * k := Nat.mul_le_mul_right _ hi
    exact ⟨by rw [List.length_take, hl]; omega, .inr ⟨g, cap, cur, rfl, hb, hg, Nat.le_trans hi h1, h2, h3, by rw [← h4, List.take_take, Nat.min_eq_left hm]⟩⟩
/-- A store behind a row's elements leaves it. -/
theorem own_beyond {W : World} {base g cap n k o : Nat} {e : TypeId} {xs : List Value} {u : Value} (h : W.ownsRow base e k (.slice (some ⟨g, 0, none⟩) n cap) n xs) (ho : n * k ≤ o) : (W.setCell ⟨g, o, none⟩ u).ownsRow base e k (.slice (some ⟨g, 0, none⟩) n cap) n xs := by
  obtain ⟨hl, hn | ⟨g', cap', cur, hv, hb, hg, h1, h2, h3, h4⟩⟩ := h
  · cases hn.1
  · injection hv with hA _ hc
    injection hA with hA
    injection hA with hA
    subst hA
    subst hc
    refine ⟨hl, .inr ⟨g, cap, cur.setIfInBounds o u, rfl, hb, ?_, h1, h2, by simp [h3], ?_⟩⟩
    · rw [Go.Sort.setCell_eq]
      show (W.heap.modify g (onCells (·.setIfInBounds o u)))[g]? = _
      rw [Array.getElem?_modify, if_pos rfl, hg]
      rfl
    · rw [← h4]
      refine List.ext_getElem? fun t => ?_
      rw [List.getElem?_take, List.getElem?_take]
      by_cases ht : t < n * k
      · rw [if_pos ht, if_pos ht, Array.getElem?_toList, Array.getElem?_toList, Array.getElem?_setIfInBounds, if_neg (by omega)]
      · rw [if_neg ht, if_neg ht]
theorem own_beyonds {base g cap n k : Nat} {e : TypeId} {xs : List Value} : ∀ (us : List Value) (o : Nat) (W : World), W.ownsRow base e k (.slice (some ⟨g, 0, none⟩) n cap) n xs → n * k ≤ o → (W.setCells g o us).ownsRow base e k (.slice (some ⟨g, 0, none⟩) n cap) n xs
  | [], _, _, h, _ => h
  | u :: us, o, W, h, ho => own_beyonds us (o + 1) _ (own_beyond h ho) (by omega)
theorem below_setCells {n₀ g : Nat} (hg : n₀ ≤ g) : ∀ (us : List Value) (o : Nat) (w W : World), Below n₀ w W → Below n₀ w (W.setCells g o us)
  | [], _, _, _, h => h
  | u :: us, o, w, W, h => below_setCells hg us (o + 1) w _ (h.setCell (p := ⟨g, o, none⟩) hg u)
end
end Go.Proofs.YtbbgeobnjdgpfaaGreat.Hand
