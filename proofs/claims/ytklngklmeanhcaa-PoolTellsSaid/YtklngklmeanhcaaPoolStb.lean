/- Stable sorts, as plain lists: what rises and holds, key by key, the same elements in the same order; there is just one such list; insertion, rotation and merging keep to it. -/
import Derived.Sort.LotA
namespace Go.Proofs.Ytklngklmeanhcaa.Hand
open Go.Sort
set_option linter.unusedVariables false
set_option linter.unusedSimpArgs false
section
variable {α : Type} (key : α → Int)
/-- A list that rises. -/
def Rise (l : List α) : Prop := l.Pairwise fun x y => key x ≤ key y
/-- The elements of one key, in their order. -/
def ofKey (k : Int) (l : List α) : List α := l.filter fun x => decide (key x = k)
/-- r is l, sorted, equals left in their order. -/
structure Stb (r l : List α) : Prop where
  rise : Rise key r
  same : ∀ k, ofKey key k r = ofKey key k l
variable {key}
theorem ofKey_append (k : Int) (l l' : List α) : ofKey key k (l ++ l') = ofKey key k l ++ ofKey key k l' := List.filter_append _ _
theorem ofKey_cons_same (x : α) (l : List α) : ofKey key (key x) (x :: l) = x :: ofKey key (key x) l := by simp [ofKey]
theorem ofKey_cons_other {k : Int} {x : α} (h : key x ≠ k) (l : List α) : ofKey key k (x :: l) = ofKey key k l := by simp [ofKey, h]
theorem mem_ofKey {x : α} {l : List α} : x ∈ ofKey key (key x) l ↔ x ∈ l := by simp [ofKey]
theorem mem_of_same {r l : List α} (h : ∀ k, ofKey key k r = ofKey key k l) {x : α} : x ∈ r ↔ x ∈ l := by rw [← mem_ofKey (key := key), h, mem_ofKey]
theorem perm_of_same {r l : List α} (h : ∀ k, ofKey key k r = ofKey key k l) : r.Perm l := by
  letI : DecidableEq α := fun _ _ => Classical.propDecidable _
  rw [List.perm_iff_count]
  intro a
  have e : ∀ m : List α, List.count a (ofKey key (key a) m) = List.count a m := fun m => List.count_filter (by simp)
  rw [← e r, h, e l]
theorem rise_unique : ∀ (r l : List α), Rise key r → Rise key l → (∀ k, ofKey key k r = ofKey key k l) → r = l
  | [], l, _, _, h => by
    cases l with
    | nil => rfl
    | cons y t =>
      have := (mem_of_same h (x := y)).2 List.mem_cons_self
      cases this
  | x :: t, [], _, _, h => by
    have := (mem_of_same h (x := x)).1 List.mem_cons_self
    cases this
  | x :: t, y :: t', hr, hl, h => by
    have h1 := List.pairwise_cons.1 hr
    have h2 := List.pairwise_cons.1 hl
    have hx : key y ≤ key x := by
      rcases List.mem_cons.1 ((mem_of_same h (x := x)).1 List.mem_cons_self) with e | e
      · rw [e]; exact Int.le_refl _
      · exact h2.1 x e
    have hy : key x ≤ key y := by
      rcases List.mem_cons.1 ((mem_of_same h (x := y)).2 List.mem_cons_self) with e | e
      · rw [e]; exact Int.le_refl _
      · exact h1.1 y e
    have he : key y = key x := by omega
    have h3 := h (key x)
    rw [ofKey_cons_same, ← he, ofKey_cons_same] at h3
    injection h3 with h3 h4
    subst h3
    congr 1
    refine rise_unique t t' h1.2 h2.2 fun k => ?_
    by_cases hk : key x = k
    · subst hk; exact h4
    · have h5 := h k
      rwa [ofKey_cons_other hk, ofKey_cons_other hk] at h5
theorem Stb.unique {r r' l : List α} (h : Stb key r l) (h' : Stb key r' l) : r = r' := rise_unique r r' h.rise h'.rise fun k => (h.same k).trans (h'.same k).symm
theorem Stb.refl {l : List α} (h : Rise key l) : Stb key l l := ⟨h, fun _ => rfl⟩
theorem Stb.trans {r l m : List α} (h : Stb key r l) (h' : ∀ k, ofKey key k l = ofKey key k m) : Stb key r m := ⟨h.rise, fun k => (h.same k).trans (h' k)⟩
theorem Stb.mem {r l : List α} (h : Stb key r l) {x : α} : x ∈ r ↔ x ∈ l := mem_of_same h.same
theorem Stb.perm {r l : List α} (h : Stb key r l) : r.Perm l := perm_of_same h.same
theorem Stb.len {r l : List α} (h : Stb key r l) : r.length = l.length := h.perm.length_eq
theorem Stb.nil_left {l : List α} (h : Rise key l) : Stb key l ([] ++ l) := Stb.refl h
theorem rise_append {l l' : List α} : Rise key (l ++ l') ↔ Rise key l ∧ Rise key l' ∧ ∀ x ∈ l, ∀ y ∈ l', key x ≤ key y := List.pairwise_append
/-- MERGING BY A ROTATION: A and C stand ahead of B and D. -/
theorem Stb.join {A B C D r1 r2 : List α} (h1 : Rise key (A ++ B)) (h2 : Rise key (C ++ D)) (hr1 : Stb key r1 (A ++ C)) (hr2 : Stb key r2 (B ++ D)) (hcb : ∀ c ∈ C, ∀ b ∈ B, key c < key b) (had : ∀ a ∈ A, ∀ d ∈ D, key a ≤ key d) : Stb key (r1 ++ r2) ((A ++ B) ++ (C ++ D)) := by
  obtain ⟨hA, hB, hab⟩ := rise_append.1 h1
  obtain ⟨hC, hD, hcd⟩ := rise_append.1 h2
  refine ⟨rise_append.2 ⟨hr1.rise, hr2.rise, fun x hx y hy => ?_⟩, fun k => ?_⟩
  · rcases List.mem_append.1 (hr1.mem.1 hx) with hx | hx <;> rcases List.mem_append.1 (hr2.mem.1 hy) with hy | hy
    · exact hab x hx y hy
    · exact had x hx y hy
    · exact Int.le_of_lt (hcb x hx y hy)
    · exact hcd x hx y hy
  · rw [ofKey_append, hr1.same, hr2.same, ofKey_append, ofKey_append, ofKey_append, ofKey_append, ofKey_append]
    have hc : ofKey key k C = [] ∨ ofKey key k B = [] := by
      cases e1 : ofKey key k C with
      | nil => exact .inl rfl
      | cons c _ =>
        cases e2 : ofKey key k B with
        | nil => exact .inr rfl
        | cons b _ =>
          have hc : c ∈ ofKey key k C := by rw [e1]; exact List.mem_cons_self
          have hb : b ∈ ofKey key k B := by rw [e2]; exact List.mem_cons_self
          unfold ofKey at hc hb
          rw [List.mem_filter] at hc hb
          have := hcb c hc.1 b hb.1
          have h3 := of_decide_eq_true hc.2
          have h4 := of_decide_eq_true hb.2
          omega
    rcases hc with e | e <;> rw [e] <;> simp
/-- One element among others that are less ahead, not less behind. -/
theorem Stb.one_left {x : α} {Y Z : List α} (h : Rise key (Y ++ Z)) (hy : ∀ y ∈ Y, key y < key x) (hz : ∀ z ∈ Z, key x ≤ key z) : Stb key (Y ++ x :: Z) (x :: (Y ++ Z)) := by
  have h0 := Stb.join (key := key) (A := []) (B := [x]) (C := Y) (D := Z) (r1 := Y) (r2 := x :: Z) (by simp [Rise]) h (by
    rw [List.nil_append]; exact Stb.refl (rise_append.1 h).1) (Stb.refl (List.pairwise_cons.2 ⟨hz, (rise_append.1 h).2.1⟩)) (fun c hc b hb => by rw [List.mem_singleton.1 hb]; exact hy c hc) (fun a ha => by cases ha)
  simpa using h0
theorem Stb.one_right {x : α} {Y Z : List α} (h : Rise key (Y ++ Z)) (hy : ∀ y ∈ Y, key y ≤ key x) (hz : ∀ z ∈ Z, key x < key z) : Stb key (Y ++ x :: Z) (Y ++ Z ++ [x]) := by
  have h0 := Stb.join (key := key) (A := Y) (B := Z) (C := [x]) (D := []) (r1 := Y ++ [x]) (r2 := Z) h (by simp [Rise]) (Stb.refl (rise_append.2 ⟨(rise_append.1 h).1, by simp [Rise], fun a ha b hb => by rw [List.mem_singleton.1 hb]; exact hy a ha⟩)) (by
    rw [List.append_nil]; exact Stb.refl (rise_append.1 h).2.1) (fun c hc b hb => by rw [List.mem_singleton.1 hc]; exact hz b hb) (fun a ha d hd => by cases hd)
  simpa using h0
end
section
variable {α : Type} [Inhabited α] {key : α → Int}
/-! ### an exchange, in an array that is known as a list -/
theorem swp_list (d : Array α) (P M Q : List α) (x y : α) (h : d.toList = P ++ x :: (M ++ y :: Q)) (i j : Nat) (hi : i = P.length) (hj : j = P.length + 1 + M.length) : (swp d i j).toList = P ++ y :: (M ++ x :: Q) := by
  obtain ⟨l⟩ := d
  have h' : l = P ++ x :: (M ++ y :: Q) := h
  subst h'
  subst hi
  subst hj
  have ex : (P ++ x :: (M ++ y :: Q)).toArray[P.length]! = x := by simp
  have ey : (P ++ x :: (M ++ y :: Q)).toArray[P.length + 1 + M.length]! = y := by
    simp only [List.getElem!_toArray, List.getElem!_eq_getElem?_getD]
    rw [List.getElem?_append_right (by omega), show P.length + 1 + M.length - P.length = M.length + 1 from by omega, List.getElem?_cons_succ, List.getElem?_append_right (Nat.le_refl _)]
    simp
  unfold swp
  rw [ex, ey]
  simp only [List.setIfInBounds_toArray]
  rw [List.set_append_right _ _ (Nat.le_refl _), Nat.sub_self, List.set_cons_zero, List.set_append_right _ _ (by omega), show P.length + 1 + M.length - P.length = M.length + 1 from by omega, List.set_cons_succ, List.set_append_right _ _ (Nat.le_refl _), Nat.sub_self, List.set_cons_zero]
theorem list_two {β : Type} (l : List β) (i : Nat) (h : i + 1 < l.length) : l = l.take i ++ l[i] :: ([] ++ l[i + 1] :: l.drop (i + 2)) := by
  rw [List.nil_append, ← List.drop_eq_getElem_cons h, ← List.drop_eq_getElem_cons (by omega), List.take_append_drop]
theorem arr_get (d : Array α) (i : Nat) (h : i < d.size) : d[i]! = d.toList[i]'(by simpa using h) := by simp [h]
/-- Two neighbours of other keys are exchanged: key by key all stays. -/
theorem swp_ofKey (d : Array α) (j : Nat) (h : j + 1 < d.size) (hne : key d[j + 1]! ≠ key d[j]!) (k : Int) : ofKey key k (swp d (j + 1) j).toList = ofKey key k d.toList := by
  have hl : j + 1 < d.toList.length := by simpa using h
  have e := list_two d.toList j hl
  have e0 : d.toList[j] = d[j]! := (arr_get d j (by omega)).symm
  have e1 : d.toList[j + 1] = d[j + 1]! := (arr_get d (j + 1) h).symm
  rw [e0, e1] at e
  have hs : swp d (j + 1) j = swp d j (j + 1) := by
    apply Array.ext_getElem?
    intro i
    unfold swp
    simp only [Array.getElem?_setIfInBounds, Array.size_setIfInBounds]
    by_cases h1 : j = i
    · subst h1; simp [show ¬ j + 1 = j by omega]
    · by_cases h2 : j + 1 = i <;> simp [h1, h2]
  have h2 := swp_list d _ [] _ _ _ e j (j + 1) (by rw [List.length_take]; omega) (by rw [List.length_take]; simp; omega)
  rw [hs, h2]
  conv => rhs; rw [e]
  rw [ofKey_append, ofKey_append, List.nil_append, List.nil_append]
  congr 1
  by_cases h3 : key d[j]! = k
  · have h4 : key d[j + 1]! ≠ k := fun e => hne (e.trans h3.symm)
    rw [ofKey_cons_other h4]
    subst h3
    rw [ofKey_cons_same, ofKey_cons_same, ofKey_cons_other h4]
  · rw [ofKey_cons_other (k := k) h3 (x := d[j]!)]
    by_cases h4 : key d[j + 1]! = k
    · subst h4
      rw [ofKey_cons_same, ofKey_cons_same, ofKey_cons_other h3]
    · rw [ofKey_cons_other h4, ofKey_cons_other h4, ofKey_cons_other h3]
end
section
variable {α : Type} [Inhabited α] {key : α → Int} {lt : α → α → Bool}
theorem insInner_ofKey (hlt : ∀ x y, lt x y = true ↔ key x < key y) (a : Nat) (k : Int) : ∀ (j : Nat) (d : Array α), j < d.size → ofKey key k (insInner lt a j d).toList = ofKey key k d.toList
  | 0, d, _ => rfl
  | j + 1, d, h => by
    unfold insInner
    split
    · rename_i hc
      rw [Bool.and_eq_true] at hc
      have hne : key d[j + 1]! ≠ key d[j]! := by have := (hlt _ _).1 hc.2; omega
      rw [insInner_ofKey hlt a k j _ (by rw [swp_size]; omega), swp_ofKey d j h hne]
    · rfl
theorem insInner_size (a : Nat) : ∀ (j : Nat) (d : Array α), (insInner lt a j d).size = d.size
  | 0, d => rfl
  | j + 1, d => by
    unfold insInner
    split
    · rw [insInner_size, swp_size]
    · rfl
theorem insOuter_ofKey (hlt : ∀ x y, lt x y = true ↔ key x < key y) (a b : Nat) (k : Int) : ∀ (n i : Nat) (d : Array α), b - i = n → b ≤ d.size → ofKey key k (insOuter lt a b i d).toList = ofKey key k d.toList
  | n, i, d, hn, hb => by
    unfold insOuter
    split
    · obtain ⟨n, rfl⟩ : ∃ m, n = m + 1 := ⟨n - 1, by omega⟩
      rw [insOuter_ofKey hlt a b k n (i + 1) _ (by omega) (by rw [insInner_size]; exact hb), insInner_ofKey hlt a k i d (by omega)]
    · rfl
theorem list_ext_outside (d d' : Array α) (a b : Nat) (hab : a ≤ b) (hb : b ≤ d.size) (hs : d'.size = d.size) (ho : ∀ i, i < a ∨ b ≤ i → d'[i]! = d[i]!) : d'.toList.take a = d.toList.take a ∧ d'.toList.drop b = d.toList.drop b := by
  constructor
  · apply List.ext_getElem
    · simp [hs]
    · intro i h1 h2
      have hi : i < a := by rw [List.length_take] at h1; omega
      have := ho i (.inl hi)
      rw [arr_get d' i (by omega), arr_get d i (by omega)] at this
      simpa using this
  · apply List.ext_getElem
    · simp [hs]
    · intro i h1 h2
      have hi : b + i < d.size := by rw [List.length_drop, Array.length_toList] at h2; omega
      have := ho (b + i) (.inr (by omega))
      rw [arr_get d' (b + i) (by omega), arr_get d (b + i) hi] at this
      simpa using this
theorem list_three {β : Type} (l : List β) (a b : Nat) (hab : a ≤ b) : l = l.take a ++ ((l.drop a).take (b - a) ++ l.drop b) := by
  conv => lhs; rw [← List.take_append_drop a l, ← List.take_append_drop (b - a) (l.drop a), List.drop_drop, show a + (b - a) = b by omega]
/-- THE LIBRARY's INSERTION SORT IS STABLE: of a part of a row. -/
theorem insertion_stb (hS : SWO lt) (hlt : ∀ x y, lt x y = true ↔ key x < key y) (d : Array α) (P X Q : List α) (hd : d.toList = P ++ (X ++ Q)) : ∃ Y, Stb key Y X ∧ (insertionSort lt d P.length (P.length + X.length)).toList = P ++ (Y ++ Q) := by
  have hsz : d.size = P.length + (X.length + Q.length) := by rw [← Array.length_toList, hd, List.length_append, List.length_append]
  obtain ⟨⟨hs, ho, _⟩, hsort⟩ := insertionSort_holds hS d P.length (P.length + X.length) (by omega) (by omega)
  obtain ⟨d', hd'⟩ : ∃ d', insertionSort lt d P.length (P.length + X.length) = d' := ⟨_, rfl⟩
  have hk : ∀ k, ofKey key k d'.toList = ofKey key k d.toList := fun k => by
    rw [← hd']; unfold insertionSort
    exact insOuter_ofKey hlt _ _ k _ _ d rfl (by omega)
  rw [hd'] at hs ho hsort ⊢
  obtain ⟨h1, h2⟩ := list_ext_outside d d' P.length (P.length + X.length) (by omega) (by omega) hs ho
  have e := list_three d'.toList P.length (P.length + X.length) (by omega)
  have e2 : (P ++ (X ++ Q)).drop (P.length + X.length) = Q := by rw [← List.append_assoc]; exact List.drop_left' (by simp)
  rw [h1, h2, hd, List.take_left, e2, show P.length + X.length - P.length = X.length by omega] at e
  refine ⟨(d'.toList.drop P.length).take X.length, ⟨?_, fun k => ?_⟩, e⟩
  · unfold Rise
    rw [List.pairwise_iff_getElem]
    intro i j hi hj hij
    rw [List.length_take, List.length_drop, Array.length_toList (xs := d')] at hi hj
    have := hsort (P.length + i) (P.length + j) (by omega) (by omega) (by omega)
    rw [arr_get d' _ (by omega), arr_get d' _ (by omega)] at this
    have li : P.length + i < d'.toList.length := by rw [Array.length_toList (xs := d')]; omega
    have lj : P.length + j < d'.toList.length := by rw [Array.length_toList (xs := d')]; omega
    rw [List.getElem_take, List.getElem_take, List.getElem_drop, List.getElem_drop]
    have h3 := (hlt d'.toList[P.length + j] d'.toList[P.length + i])
    rw [this] at h3
    have : ¬ key d'.toList[P.length + j] < key d'.toList[P.length + i] := fun h => by have := h3.2 h; cases this
    omega
  · have h3 := hk k
    rw [e, hd, ofKey_append, ofKey_append, ofKey_append, ofKey_append] at h3
    exact List.append_cancel_right (List.append_cancel_left h3)
end
/-! ### a run of exchanges: two stretches of a row change places -/
section
variable {α : Type} [Inhabited α]
/-- 'for i := 0; i < n; i++ { swap a+i, b+i }', from i on, m rounds. -/
def swapsR (a b : Nat) : Nat → Nat → Array α → Array α
  | 0, _, d => d
  | m + 1, i, d => swapsR a b m (i + 1) (swp d (a + i) (b + i))
theorem swapsR_list (a b : Nat) : ∀ (X Y P M Q X0 Y0 : List α) (d : Array α), X.length = Y.length → X0.length = Y0.length → P.length = a → a + X0.length + X.length + M.length = b → d.toList = P ++ (Y0 ++ (X ++ (M ++ (X0 ++ (Y ++ Q))))) → (swapsR a b X.length X0.length d).toList = P ++ (Y0 ++ (Y ++ (M ++ (X0 ++ (X ++ Q)))))
  | [], Y, P, M, Q, X0, Y0, d, h1, h2, h3, h4, h5 => by
    obtain rfl : Y = [] := List.eq_nil_of_length_eq_zero h1.symm
    exact h5
  | x :: X, [], P, M, Q, X0, Y0, d, h1, h2, h3, h4, h5 => by simp at h1
  | x :: X, y :: Y, P, M, Q, X0, Y0, d, h1, h2, h3, h4, h5 => by
    have e : (swp d (a + X0.length) (b + X0.length)).toList = (P ++ Y0) ++ y :: ((X ++ (M ++ X0)) ++ x :: (Y ++ Q)) := swp_list d (P ++ Y0) (X ++ (M ++ X0)) (Y ++ Q) x y (by rw [h5]; simp) _ _ (by simp; omega) (by simp at h4 ⊢; omega)
    show (swapsR a b X.length (X0.length + 1) (swp d (a + X0.length) (b + X0.length))).toList = _
    have ih := swapsR_list a b X Y P M Q (X0 ++ [x]) (Y0 ++ [y]) (swp d (a + X0.length) (b + X0.length)) (by simpa using h1) (by simp [h2]) h3 (by simp at h4 ⊢; omega) (by rw [e]; simp)
    rw [List.length_append, List.length_singleton] at ih
    rw [ih]
    simp
theorem swapsR_size (a b : Nat) : ∀ (m i : Nat) (d : Array α), (swapsR a b m i d).size = d.size
  | 0, _, _ => rfl
  | m + 1, i, d => by show (swapsR a b m (i + 1) _).size = _; rw [swapsR_size a b m, swp_size]
/-- Two stretches of one length change places. -/
theorem swaps_apart (d : Array α) (P X M Y Q : List α) (hl : X.length = Y.length) (hd : d.toList = P ++ (X ++ (M ++ (Y ++ Q)))) : (swapsR P.length (P.length + X.length + M.length) X.length 0 d).toList = P ++ (Y ++ (M ++ (X ++ Q))) := by
  have h := swapsR_list P.length (P.length + X.length + M.length) X Y P M Q [] [] d hl rfl rfl (by simp) (by simpa using hd)
  simpa using h
/-- One element is moved to the right, over a stretch. -/
def pushR : Nat → Nat → Array α → Array α
  | 0, _, d => d
  | m + 1, k, d => pushR m (k + 1) (swp d k (k + 1))
theorem pushR_list : ∀ (Y P Q : List α) (x : α) (d : Array α), d.toList = P ++ x :: (Y ++ Q) → (pushR Y.length P.length d).toList = P ++ (Y ++ x :: Q)
  | [], P, Q, x, d, h => h
  | y :: Y, P, Q, x, d, h => by
    have e : (swp d P.length (P.length + 1)).toList = P ++ y :: ([] ++ x :: (Y ++ Q)) := swp_list d P [] (Y ++ Q) x y (by rw [h]; simp) _ _ rfl (by simp)
    show (pushR Y.length (P.length + 1) _).toList = _
    have ih := pushR_list Y (P ++ [y]) Q x (swp d P.length (P.length + 1)) (by rw [e]; simp)
    rw [List.length_append, List.length_singleton] at ih
    rw [ih]
    simp
theorem pushR_size : ∀ (m k : Nat) (d : Array α), (pushR m k d).size = d.size
  | 0, _, _ => rfl
  | m + 1, k, d => by show (pushR m (k + 1) _).size = _; rw [pushR_size m, swp_size]
/-- One element is moved to the left, over a stretch: 'for k := m; k > i; k-- { swap k, k-1 }', so many rounds. -/
def pullL : Nat → Nat → Array α → Array α
  | 0, _, d => d
  | m + 1, k, d => pullL m (k - 1) (swp d k (k - 1))
theorem swp_comm (d : Array α) (i j : Nat) : swp d i j = swp d j i := by
  apply Array.ext_getElem?
  intro t
  unfold swp
  simp only [Array.getElem?_setIfInBounds, Array.size_setIfInBounds]
  by_cases h1 : i = t
  · by_cases h2 : j = t
    · subst h1; subst h2; rfl
    · simp [h1, h2]
  · by_cases h2 : j = t <;> simp [h1, h2]
theorem pullL_list : ∀ (m : Nat) (Y P Q : List α) (x : α) (d : Array α), Y.length = m → d.toList = P ++ (Y ++ x :: Q) → (pullL m (P.length + m) d).toList = P ++ x :: (Y ++ Q)
  | 0, Y, P, Q, x, d, hm, h => by
    obtain rfl := List.eq_nil_of_length_eq_zero hm
    exact h
  | m + 1, Y, P, Q, x, d, hm, h => by
    have hne : Y ≠ [] := fun e => by subst e; cases hm
    obtain ⟨Y', y, rfl⟩ : ∃ Y' y, Y = Y' ++ [y] := ⟨Y.dropLast, Y.getLast hne, (List.dropLast_concat_getLast hne).symm⟩
    have hm' : Y'.length = m := by simpa using hm
    have e : (swp d (P.length + m) (P.length + m + 1)).toList = (P ++ Y') ++ x :: ([] ++ y :: Q) := swp_list d (P ++ Y') [] Q y x (by rw [h]; simp) _ _ (by rw [List.length_append, hm']) (by rw [List.length_append, hm']; rfl)
    show (pullL m (P.length + (m + 1) - 1) (swp d (P.length + (m + 1)) (P.length + (m + 1) - 1))).toList = _
    rw [show P.length + (m + 1) - 1 = P.length + m by omega, show P.length + (m + 1) = P.length + m + 1 by omega, swp_comm]
    have ih := pullL_list m Y' P (y :: Q) x (swp d (P.length + m) (P.length + m + 1)) hm' (by rw [e]; simp)
    rw [ih]
    simp
theorem pullL_size : ∀ (m k : Nat) (d : Array α), (pullL m k d).size = d.size
  | 0, _, _ => rfl
  | m + 1, k, d => by show (pullL m (k - 1) _).size = _; rw [pullL_size m, swp_size]
end
/-! ### merging: where the stretches are cut -/
section
variable {α : Type} [Inhabited α] {key : α → Int}
theorem rise_idx {β : Type} {key : β → Int} {X : List β} (h : Rise key X) {i j : Nat} (hij : i ≤ j) (hj : j < X.length) : key X[i] ≤ key X[j] := by
  rcases Nat.lt_or_ge i j with h1 | h1
  · exact List.pairwise_iff_getElem.1 h i j (by omega) hj h1
  · obtain rfl : i = j := by omega
    exact Int.le_refl _
theorem get_mid (d : Array α) (P X R : List α) (h : d.toList = P ++ (X ++ R)) {n : Nat} (hn : P.length = n) (t : Nat) (h0 : n ≤ t) (h1 : t < n + X.length) : ∃ hx : t - n < X.length, d[t]! = X[t - n] := by
  subst hn
  refine ⟨by omega, ?_⟩
  have hsz : t < d.size := by rw [← Array.length_toList, h, List.length_append, List.length_append]; omega
  rw [arr_get d t hsz]
  have : d.toList[t]? = X[t - P.length]? := by rw [h, List.getElem?_append_right h0, List.getElem?_append_left (by omega)]
  rw [List.getElem?_eq_getElem (by simpa using hsz), List.getElem?_eq_getElem (by omega)] at this
  exact Option.some.inj this
theorem rise_take {β : Type} {key : β → Int} {X : List β} (h : Rise key X) (n : Nat) : Rise key (X.take n) := List.Pairwise.sublist (List.take_sublist n X) h
theorem rise_drop {β : Type} {key : β → Int} {X : List β} (h : Rise key X) (n : Nat) : Rise key (X.drop n) := List.Pairwise.sublist (List.drop_sublist n X) h
theorem le_take {β : Type} {key : β → Int} {X : List β} (h : Rise key X) {n : Nat} (hn : n < X.length) {x : β} (hx : x ∈ X.take (n + 1)) : key x ≤ key X[n] := by
  obtain ⟨i, hi, rfl⟩ := List.mem_take_iff_getElem.1 hx
  exact rise_idx h (by omega) hn
theorem ge_drop {β : Type} {key : β → Int} {X : List β} (h : Rise key X) {n : Nat} (hn : n < X.length) {x : β} (hx : x ∈ X.drop n) : key X[n] ≤ key x := by
  obtain ⟨i, hi, rfl⟩ := List.mem_drop_iff_getElem.1 hx
  exact rise_idx h (by omega) (by omega)
/-- One element ahead of a stretch that rises: it is moved behind all that are less. -/
theorem sym_left (d : Array α) (P Y Q : List α) (x : α) (hd : d.toList = P ++ ([x] ++ (Y ++ Q))) (hY : Rise key Y) (a m b i : Nat) (ha : P.length = a) (hm : a + 1 = m) (hb : m + Y.length = b) (hmi : m ≤ i) (hib : i ≤ b) (h1 : m < i → key d[i - 1]! < key d[a]!) (h2 : i < b → key d[a]! ≤ key d[i]!) :
    ∃ R, Stb key R ([x] ++ Y) ∧ (pushR (i - m) a d).toList = P ++ (R ++ Q) := by
  have ex : d[a]! = x := by
    obtain ⟨h, e⟩ := get_mid d P [x] (Y ++ Q) hd ha a (by omega) (by simp)
    rw [e]; simp
  have hd2 : d.toList = (P ++ [x]) ++ (Y ++ Q) := by rw [hd]; simp
  have hl2 : (P ++ [x]).length = m := by simp; omega
  rw [ex] at h1 h2
  have hlt : ∀ y ∈ Y.take (i - m), key y < key x := fun y hy => by
    have hmi' : m < i := by
      rcases Nat.lt_or_ge m i with h | h
      · exact h
      · rw [show i - m = 0 by omega] at hy; cases hy
    obtain ⟨h, e⟩ := get_mid d (P ++ [x]) Y Q hd2 hl2 (i - 1) (by omega) (by omega)
    have h3 := h1 hmi'
    rw [e] at h3
    have h4 := le_take hY (n := i - 1 - m) h (x := y) (by rw [show i - 1 - m + 1 = i - m by omega]; exact hy)
    omega
  have hge : ∀ y ∈ Y.drop (i - m), key x ≤ key y := fun y hy => by
    have hib' : i < b := by
      rcases Nat.lt_or_ge i b with h | h
      · exact h
      · rw [List.drop_of_length_le (by omega)] at hy; cases hy
    obtain ⟨h, e⟩ := get_mid d (P ++ [x]) Y Q hd2 hl2 i (by omega) (by omega)
    have h3 := h2 hib'
    rw [e] at h3
    have h4 := ge_drop hY (n := i - m) h (x := y) hy
    omega
  refine ⟨Y.take (i - m) ++ x :: Y.drop (i - m), ?_, ?_⟩
  · have h := Stb.one_left (key := key) (x := x) (Y := Y.take (i - m)) (Z := Y.drop (i - m)) (by rw [List.take_append_drop]; exact hY) hlt hge
    rw [List.take_append_drop] at h
    exact h
  · have h := pushR_list (Y.take (i - m)) P (Y.drop (i - m) ++ Q) x d (by rw [hd, ← List.append_assoc (Y.take _), List.take_append_drop]; rfl)
    rw [List.length_take, show min (i - m) Y.length = i - m by omega, ha] at h
    rw [h, List.append_assoc, List.cons_append]
/-- One element behind a stretch that rises: it is moved ahead of all that are greater. -/
theorem sym_right (d : Array α) (P X Q : List α) (y : α) (hd : d.toList = P ++ (X ++ ([y] ++ Q))) (hX : Rise key X) (a m i : Nat) (ha : P.length = a) (hm : a + X.length = m) (hai : a ≤ i) (him : i ≤ m) (h1 : a < i → key d[i - 1]! ≤ key d[m]!) (h2 : i < m → key d[m]! < key d[i]!) :
    ∃ R, Stb key R (X ++ [y]) ∧ (pullL (m - i) m d).toList = P ++ (R ++ Q) := by
  have hd2 : d.toList = (P ++ X) ++ ([y] ++ Q) := by rw [hd]; simp
  have hl2 : (P ++ X).length = m := by simp; omega
  have ey : d[m]! = y := by
    obtain ⟨h, e⟩ := get_mid d (P ++ X) [y] Q hd2 hl2 m (by omega) (by simp)
    rw [e]; simp
  rw [ey] at h1 h2
  have hle : ∀ x ∈ X.take (i - a), key x ≤ key y := fun x hx => by
    have hai' : a < i := by
      rcases Nat.lt_or_ge a i with h | h
      · exact h
      · rw [show i - a = 0 by omega] at hx; cases hx
    obtain ⟨h, e⟩ := get_mid d P X _ hd ha (i - 1) (by omega) (by omega)
    have h3 := h1 hai'
    rw [e] at h3
    have h4 := le_take hX (n := i - 1 - a) h (x := x) (by rw [show i - 1 - a + 1 = i - a by omega]; exact hx)
    omega
  have hgt : ∀ x ∈ X.drop (i - a), key y < key x := fun x hx => by
    have him' : i < m := by
      rcases Nat.lt_or_ge i m with h | h
      · exact h
      · rw [List.drop_of_length_le (by omega)] at hx; cases hx
    obtain ⟨h, e⟩ := get_mid d P X _ hd ha i (by omega) (by omega)
    have h3 := h2 him'
    rw [e] at h3
    have h4 := ge_drop hX (n := i - a) h (x := x) hx
    omega
  refine ⟨X.take (i - a) ++ y :: X.drop (i - a), ?_, ?_⟩
  · have h := Stb.one_right (key := key) (x := y) (Y := X.take (i - a)) (Z := X.drop (i - a)) (by rw [List.take_append_drop]; exact hX) hle hgt
    rw [List.take_append_drop] at h
    exact h
  · have h := pullL_list (m - i) (X.drop (i - a)) (P ++ X.take (i - a)) Q y d (by rw [List.length_drop]; omega) (by rw [hd, List.append_assoc, ← List.append_assoc (X.take _), List.take_append_drop]; rfl)
    rw [List.length_append, List.length_take, show P.length + min (i - a) X.length + (m - i) = m by omega] at h
    rw [h]
    simp
/-- Where the two stretches are cut: what lies about the cuts decides for all. -/
theorem sym_cut (d : Array α) (P X Y Q : List α) (hd : d.toList = P ++ (X ++ (Y ++ Q))) (hX : Rise key X) (hY : Rise key Y) (a m b s e : Nat) (ha : P.length = a) (hm : a + X.length = m) (hb : m + Y.length = b) (has : a ≤ s) (hsm : s ≤ m) (hme : m ≤ e) (heb : e ≤ b)
    (h1 : s < m → m < e → key d[e - 1]! < key d[s]!) (h2 : a < s → e < b → key d[s - 1]! ≤ key d[e]!) :
    (∀ c ∈ Y.take (e - m), ∀ x ∈ X.drop (s - a), key c < key x) ∧ (∀ x ∈ X.take (s - a), ∀ y ∈ Y.drop (e - m), key x ≤ key y) := by
  have hd2 : d.toList = (P ++ X) ++ (Y ++ Q) := by rw [hd]; simp
  have hl2 : (P ++ X).length = m := by simp; omega
  constructor
  · intro c hc x hx
    have hsm' : s < m := by
      rcases Nat.lt_or_ge s m with h | h
      · exact h
      · rw [List.drop_of_length_le (by omega)] at hx; cases hx
    have hme' : m < e := by
      rcases Nat.lt_or_ge m e with h | h
      · exact h
      · rw [show e - m = 0 by omega] at hc; cases hc
    obtain ⟨g1, e1⟩ := get_mid d P X _ hd ha s (by omega) (by omega)
    obtain ⟨g2, e2⟩ := get_mid d (P ++ X) Y _ hd2 hl2 (e - 1) (by omega) (by omega)
    have h3 := h1 hsm' hme'
    rw [e1, e2] at h3
    have h4 := le_take hY (n := e - 1 - m) g2 (x := c) (by rw [show e - 1 - m + 1 = e - m by omega]; exact hc)
    have h5 := ge_drop hX (n := s - a) g1 (x := x) hx
    omega
  · intro x hx y hy
    have has' : a < s := by
      rcases Nat.lt_or_ge a s with h | h
      · exact h
      · rw [show s - a = 0 by omega] at hx; cases hx
    have heb' : e < b := by
      rcases Nat.lt_or_ge e b with h | h
      · exact h
      · rw [List.drop_of_length_le (by omega)] at hy; cases hy
    obtain ⟨g1, e1⟩ := get_mid d P X _ hd ha (s - 1) (by omega) (by omega)
    obtain ⟨g2, e2⟩ := get_mid d (P ++ X) Y _ hd2 hl2 e (by omega) (by omega)
    have h3 := h2 has' heb'
    rw [e1, e2] at h3
    have h4 := le_take hX (n := s - 1 - a) g1 (x := x) (by rw [show s - 1 - a + 1 = s - a by omega]; exact hx)
    have h5 := ge_drop hY (n := e - m) g2 (x := y) hy
    omega
/-- The four parts, and what is to be shown of them. -/
theorem sym_parts (d : Array α) (P X Y Q : List α) (hd : d.toList = P ++ (X ++ (Y ++ Q))) (hX : Rise key X) (hY : Rise key Y) (a m b s e : Nat) (ha : P.length = a) (hm : a + X.length = m) (hb : m + Y.length = b) (has : a ≤ s) (hsm : s ≤ m) (hme : m ≤ e) (heb : e ≤ b)
    (h1 : s < m → m < e → key d[e - 1]! < key d[s]!) (h2 : a < s → e < b → key d[s - 1]! ≤ key d[e]!) :
    ∃ A B C D : List α, (A.length = s - a ∧ B.length = m - s ∧ C.length = e - m ∧ D.length = b - e) ∧ (Rise key A ∧ Rise key B ∧ Rise key C ∧ Rise key D) ∧ d.toList = P ++ (A ++ (B ++ (C ++ (D ++ Q)))) ∧ (∀ r1 r2, Stb key r1 (A ++ C) → Stb key r2 (B ++ D) → Stb key (r1 ++ r2) (X ++ Y)) := by
  obtain ⟨hcb, had⟩ := sym_cut d P X Y Q hd hX hY a m b s e ha hm hb has hsm hme heb h1 h2
  refine ⟨X.take (s - a), X.drop (s - a), Y.take (e - m), Y.drop (e - m), ⟨by rw [List.length_take]; omega, by rw [List.length_drop]; omega, by rw [List.length_take]; omega, by rw [List.length_drop]; omega⟩, ⟨rise_take hX _, rise_drop hX _, rise_take hY _, rise_drop hY _⟩, ?_, fun r1 r2 hr1 hr2 => ?_⟩
  · rw [hd, ← List.append_assoc (X.take _), List.take_append_drop, ← List.append_assoc (Y.take _), List.take_append_drop]
  · have h := Stb.join (key := key) (by rw [List.take_append_drop]; exact hX) (by rw [List.take_append_drop]; exact hY) hr1 hr2 hcb had
    rw [List.take_append_drop, List.take_append_drop] at h
    exact h
theorem stb_none {β : Type} {key : β → Int} {A C : List β} (hA : Rise key A) (hC : Rise key C) (h : A.length = 0 ∨ C.length = 0) : Stb key (A ++ C) (A ++ C) := by
  refine Stb.refl ?_
  rcases h with h | h
  · rw [List.eq_nil_of_length_eq_zero h]; exact hC
  · rw [List.eq_nil_of_length_eq_zero h, List.append_nil]; exact hA
theorem app_swap {β : Type} (P A B C R : List β) (h : B.length = 0 ∨ C.length = 0) : P ++ (A ++ (B ++ (C ++ R))) = P ++ (A ++ (C ++ (B ++ R))) := by
  rcases h with h | h
  · rw [List.eq_nil_of_length_eq_zero h]; simp
  · rw [List.eq_nil_of_length_eq_zero h]; simp
end
/-! ### blocks -/
section
variable {α : Type} {key : α → Int}
def blk (bs j : Nat) (r : List α) : List α := (r.drop (j * bs)).take bs
variable (key)
/-- Each block of bs elements is sorted. -/
def Blks (bs : Nat) (r l : List α) : Prop := r.length = l.length ∧ ∀ j, Stb key (blk bs j r) (blk bs j l)
/-- The first i blocks are sorted; the others are as they were. -/
def Part (bs i : Nat) (r prev l : List α) : Prop := r.length = l.length ∧ (∀ j, j < i → Stb key (blk bs j r) (blk bs j l)) ∧ r.drop (i * bs) = prev.drop (i * bs)
variable {key}
theorem part_start (bs : Nat) (prev l : List α) (h : prev.length = l.length) : Part key bs 0 prev prev l := ⟨h, fun j hj => absurd hj (Nat.not_lt_zero _), rfl⟩
theorem blk_len (bs j : Nat) (r : List α) : (blk bs j r).length = min bs (r.length - j * bs) := by unfold blk; rw [List.length_take, List.length_drop]
theorem blk_take (bs i j : Nat) (r t : List α) (hj : j < i) (hl : i * bs ≤ r.length) : blk bs j (r.take (i * bs) ++ t) = blk bs j r := by
  have h1 : (j + 1) * bs ≤ i * bs := Nat.mul_le_mul_right _ hj
  rw [Nat.add_mul, Nat.one_mul] at h1
  have e : r = r.take (i * bs) ++ r.drop (i * bs) := (List.take_append_drop _ _).symm
  have h2 : ∀ u : List α, blk bs j (r.take (i * bs) ++ u) = ((r.take (i * bs)).drop (j * bs)).take bs := fun u => by
    unfold blk
    rw [List.drop_append_of_le_length (by rw [List.length_take]; omega), List.take_append_of_le_length (by rw [List.length_drop, List.length_take]; omega)]
  rw [h2 t]
  conv => rhs; rw [e, h2]
theorem part_step {bs i : Nat} {r prev l R : List α} (h : Part key bs i r prev l) (hl : i * bs + bs ≤ l.length) (hR : Stb key R (blk bs i l)) : Part key bs (i + 1) (r.take (i * bs) ++ (R ++ r.drop (i * bs + bs))) prev l := by
  obtain ⟨h1, h2, h3⟩ := h
  have hRl : R.length = bs := by rw [hR.len, blk_len]; omega
  have ht : (r.take (i * bs)).length = i * bs := by rw [List.length_take]; omega
  refine ⟨by rw [List.length_append, List.length_append, List.length_drop, ht, hRl]; omega, fun j hj => ?_, ?_⟩
  · rcases Nat.lt_or_ge j i with h4 | h4
    · rw [blk_take bs i j r _ h4 (by omega)]
      exact h2 j h4
    · obtain rfl : j = i := by omega
      have : blk bs j (r.take (j * bs) ++ (R ++ r.drop (j * bs + bs))) = R := by
        unfold blk
        rw [List.drop_left' ht, List.take_left' hRl]
      rw [this]
      exact hR
  · rw [Nat.add_mul, Nat.one_mul, ← List.append_assoc, List.drop_left' (by rw [List.length_append, ht, hRl]), ← List.drop_drop, h3, List.drop_drop]
theorem part_last {bs i : Nat} {r prev l R : List α} (h : Part key bs i r prev l) (h0 : i * bs ≤ l.length) (hl : l.length < i * bs + bs) (hR : Stb key R (blk bs i l)) : Blks key bs (r.take (i * bs) ++ R) l := by
  obtain ⟨h1, h2, h3⟩ := h
  have hRl : R.length = l.length - i * bs := by rw [hR.len, blk_len]; omega
  have ht : (r.take (i * bs)).length = i * bs := by rw [List.length_take]; omega
  refine ⟨by rw [List.length_append, ht, hRl]; omega, fun j => ?_⟩
  rcases Nat.lt_trichotomy j i with h4 | h4 | h4
  · rw [blk_take bs i j r _ h4 (by omega)]
    exact h2 j h4
  · subst h4
    have : blk bs j (r.take (j * bs) ++ R) = R := by
      unfold blk
      rw [List.drop_left' ht, List.take_of_length_le (by omega)]
    rw [this]
    exact hR
  · have h5 : (i + 1) * bs ≤ j * bs := Nat.mul_le_mul_right _ h4
    rw [Nat.add_mul, Nat.one_mul] at h5
    have e1 : blk bs j (r.take (i * bs) ++ R) = [] := List.eq_nil_of_length_eq_zero (by rw [blk_len, List.length_append, ht, hRl]; omega)
    have e2 : blk bs j l = [] := List.eq_nil_of_length_eq_zero (by rw [blk_len]; omega)
    rw [e1, e2]
    exact Stb.refl (by simp [Rise])
theorem blks_whole {bs : Nat} {r l : List α} (h : Blks key bs r l) (hl : l.length ≤ bs) : Stb key r l := by
  have h0 := h.2 0
  unfold blk at h0
  rw [Nat.zero_mul, List.drop_zero, List.drop_zero, List.take_of_length_le (by rw [h.1]; exact hl), List.take_of_length_le hl] at h0
  exact h0
/-- A block of twice the size is two. -/
theorem blk_two (bs i : Nat) (r : List α) : blk (2 * bs) i r = blk bs (2 * i) r ++ blk bs (2 * i + 1) r := by
  unfold blk
  have e1 : i * (2 * bs) = 2 * i * bs := by rw [Nat.mul_comm 2 bs, ← Nat.mul_assoc, Nat.mul_comm (i * bs) 2, Nat.mul_assoc]
  have e2 : (2 * i + 1) * bs = 2 * i * bs + bs := by rw [Nat.add_mul, Nat.one_mul]
  rw [e1, e2, ← List.drop_drop, Nat.two_mul bs, List.take_add]
/-- What stands at block i of twice the size, of what is left as it was: two sorted stretches. -/
theorem part_two {bs i : Nat} {r prev l : List α} (hb : Blks key bs prev l) (h : Part key (2 * bs) i r prev l) : r.drop (i * (2 * bs)) = blk bs (2 * i) prev ++ (blk bs (2 * i + 1) prev ++ r.drop (i * (2 * bs) + 2 * bs)) ∧ (∀ k, ofKey key k (blk bs (2 * i) prev ++ blk bs (2 * i + 1) prev) = ofKey key k (blk (2 * bs) i l)) ∧ Rise key (blk bs (2 * i) prev) ∧ Rise key (blk bs (2 * i + 1) prev) := by
  obtain ⟨h1, h2, h3⟩ := h
  refine ⟨?_, fun k => ?_, (hb.2 _).rise, (hb.2 _).rise⟩
  · rw [← List.append_assoc, ← blk_two, ← List.drop_drop, h3]
    unfold blk
    rw [List.take_append_drop]
  · rw [blk_two, ofKey_append, ofKey_append, (hb.2 _).same, (hb.2 _).same]
end
/-! ### an insertion, one by one -/
section
variable {α : Type} (key : α → Int)
/-- One element among others, behind those of no greater key. -/
def putL (b : α) : List α → List α
  | [] => [b]
  | x :: r => if key b < key x then b :: x :: r else x :: putL b r
/-- A list in order, equals left in their order. -/
def stbL (l : List α) : List α := l.foldl (fun o b => putL key b o) []
variable {key}
theorem putL_stb (b : α) : ∀ o : List α, Rise key o → Stb key (putL key b o) (o ++ [b])
  | [], _ => Stb.refl (show Rise key [b] by simp [Rise])
  | x :: r, h => by
    have h1 := List.pairwise_cons.1 h
    unfold putL
    by_cases hb : key b < key x
    · rw [if_pos hb]
      have h0 := Stb.one_right (key := key) (x := b) (Y := []) (Z := x :: r) h (fun y hy => by cases hy) (fun z hz => by
        rcases List.mem_cons.1 hz with rfl | hz
        · exact hb
        · have := h1.1 z hz; omega)
      simpa using h0
    · rw [if_neg hb]
      have ih := putL_stb b r h1.2
      refine ⟨List.pairwise_cons.2 ⟨fun y hy => ?_, ih.rise⟩, fun k => ?_⟩
      · rcases List.mem_append.1 (ih.mem.1 hy) with hy | hy
        · exact h1.1 y hy
        · rw [List.mem_singleton.1 hy]; omega
      · have h2 := ih.same k
        by_cases hx : key x = k
        · subst hx
          rw [ofKey_cons_same, List.cons_append, ofKey_cons_same, h2]
        · rw [ofKey_cons_other hx, List.cons_append, ofKey_cons_other hx, h2]
theorem stbL_go : ∀ (l o p : List α), Stb key o p → Stb key (l.foldl (fun o b => putL key b o) o) (p ++ l)
  | [], o, p, h => by rw [List.append_nil]; exact h
  | b :: l, o, p, h => by
    have h1 := putL_stb b o h.rise
    have h2 : Stb key (putL key b o) (p ++ [b]) := h1.trans fun k => by rw [ofKey_append, ofKey_append, h.same]
    have h3 := stbL_go l (putL key b o) (p ++ [b]) h2
    rw [List.append_assoc] at h3
    exact h3
theorem stbL_stb (l : List α) : Stb key (stbL key l) l := stbL_go l [] [] (Stb.refl (by simp [Rise]))
end
end Go.Proofs.Ytklngklmeanhcaa.Hand
