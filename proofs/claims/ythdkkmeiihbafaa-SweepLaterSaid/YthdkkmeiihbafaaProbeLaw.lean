/- Tables of flows, as plain lists: ways, what is found on them, where there is room, counts: laws with no program in sight. -/
import Derived.Test.YthdkkmeiihbafaaPx2
import Derived.Test.YthdkkmeiihbafaaPx3
import Derived.Test.YthdkkmeiihbafaaHashLaw
set_option linter.unusedVariables false
set_option linter.unusedSimpArgs false
namespace Go.Proofs.Ythdkkmeiihbafaa.ProbeLaw
open Go.RowKit Go.Proofs.Ythdkkmeiihbafaa.P Go.Proofs.YthdkkmeiihbafaaW.PrintWords Go.Proofs.YthdkkmeiihbafaaW.PrintLast Go.Proofs.Ythdkkmeiihbafaa.Hand

abbrev Ent := S31
abbrev rdE (l : List Ent) (i : Int) : Ent := rd_T31 l i
theorem rdE_nat (l : List Ent) (j : Nat) (h : j < l.length) : rdE l (j : Int) = l[j] := by simp [rdE, rd_T31, h]
theorem rdE_set (l : List Ent) (j : Int) (x : Ent) (i : Int) (hj0 : 0 ≤ j) (hj : j < l.length) (hi0 : 0 ≤ i) (hi : i < l.length) : rdE (l.set j.toNat x) i = if i = j then x else rdE l i := by
  unfold rdE rd_T31
  rw [List.getD_eq_getElem?_getD, List.getD_eq_getElem?_getD, List.getElem?_set]
  by_cases h : i = j
  · subst h
    have : i.toNat < l.length := by omega
    simp [this]
  · have : ¬ j.toNat = i.toNat := by omega
    simp [h, this]

/-- Step i of a way that begins at h. -/
def pos (h : Int) (n : Nat) (i : Nat) : Int := (h + i) % n
theorem wayAt_eq (l : List Ent) (h : Int) (i : Nat) : wayAt l h i = (pos h l.length i, rdE l (pos h l.length i)) := rfl
theorem pos_range {h : Int} {n : Nat} (i : Nat) (hn : 0 < n) : 0 ≤ pos h n i ∧ pos h n i < n := ⟨Int.emod_nonneg _ (by omega), Int.emod_lt_of_pos _ (by omega)⟩
theorem pos_inj {h : Int} {n i j : Nat} (hi : i < n) (hj : j < n) (e : pos h n i = pos h n j) : i = j := by
  unfold pos at e
  have e2 : ((h + i) - (h + j)) % (n : Int) = 0 := Int.emod_eq_emod_iff_emod_sub_eq_zero.1 e
  have e3 : (h + i) - (h + j) = (i : Int) - j := by omega
  rw [e3] at e2
  obtain ⟨c, hc⟩ := Int.dvd_of_emod_eq_zero e2
  have : c = 0 := by
    rcases Int.lt_trichotomy c 0 with h1 | h1 | h1
    · have : (n : Int) * c ≤ (n : Int) * (-1) := Int.mul_le_mul_of_nonneg_left (by omega) (by omega)
      omega
    · exact h1
    · have : (n : Int) * 1 ≤ (n : Int) * c := Int.mul_le_mul_of_nonneg_left (by omega) (by omega)
      omega
  subst this
  omega
theorem pos_surj {h : Int} {n : Nat} (hh0 : 0 ≤ h) (hh : h < n) (j : Int) (hj0 : 0 ≤ j) (hj : j < n) : ∃ i, i < n ∧ pos h n i = j := by
  by_cases c : h ≤ j
  · refine ⟨(j - h).toNat, by omega, ?_⟩
    unfold pos
    rw [show h + ((j - h).toNat : Int) = j by omega]
    exact Int.emod_eq_of_lt hj0 hj
  · refine ⟨(j - h + n).toNat, by omega, ?_⟩
    unfold pos
    rw [show h + ((j - h + n).toNat : Int) = j + n by omega, Int.add_emod_right]
    exact Int.emod_eq_of_lt hj0 hj

abbrev wayL (l : List Ent) (h : Int) : List (Int × Ent) := upto (wayAt l h) l.length
def entOn (l : List Ent) (h : Int) (i : Nat) : Ent := rdE l (pos h l.length i)

/-- What the first stop on a way decides. -/
theorem find_at {key : ByteArray} {l : List Ent} {h : Int} {i : Nat} (hi : i < l.length) (hp : ∀ j, j < i → goesOn key (entOn l h j)) (hs : ¬ goesOn key (entOn l h i)) :
    findIn key (wayL l h) = if (entOn l h i).f0 = 0 then -1 else pos h l.length i := by
  obtain ⟨rest, hr⟩ := upto_split (wayAt l h) (k := i + 1) (n := l.length) hi
  rw [wayL, hr, upto_succ, List.append_assoc, findIn_on]
  · simp only [List.cons_append, findIn, wayAt_eq]
    show (if (entOn l h i).f0 = 0 then _ else _) = _
    by_cases h0 : (entOn l h i).f0 = 0
    · rw [if_pos h0, if_pos h0]
    · rw [if_neg h0, if_neg h0]
      have : (entOn l h i).f0 = 1 ∧ (entOn l h i).f1 = key := Classical.byContradiction fun hh => hs ⟨h0, hh⟩
      exact if_pos this
  · intro p hp'
    obtain ⟨j, hj, rfl⟩ := mem_upto.1 hp'
    exact hp j hj
theorem find_none {key : ByteArray} {l : List Ent} {h : Int} (hp : ∀ j, j < l.length → goesOn key (entOn l h j)) : findIn key (wayL l h) = -1 := by
  have := findIn_on (key := key) (wayL l h) [] (fun p hp' => by obtain ⟨j, hj, rfl⟩ := mem_upto.1 hp'; exact hp j hj)
  rw [List.append_nil] at this
  rw [this]; rfl
theorem first_stop (p : Nat → Prop) (n : Nat) : (∀ j, j < n → p j) ∨ ∃ i, i < n ∧ (∀ j, j < i → p j) ∧ ¬ p i := by
  induction n with
  | zero => exact .inl (fun j hj => by omega)
  | succ n ih =>
    rcases ih with h | ⟨i, hi, h⟩
    · by_cases hp : p n
      · exact .inl (fun j hj => (Nat.lt_or_eq_of_le (Nat.lt_succ_iff.1 hj)).elim (h j) (fun e => by rw [e]; exact hp))
      · exact .inr ⟨n, by omega, h, hp⟩
    · exact .inr ⟨i, by omega, h⟩
theorem find_cases (key : ByteArray) (l : List Ent) (h : Int) : (findIn key (wayL l h) = -1) ∨
    ∃ i, i < l.length ∧ (∀ j, j < i → goesOn key (entOn l h j)) ∧ (entOn l h i).f0 = 1 ∧ (entOn l h i).f1 = key ∧ findIn key (wayL l h) = pos h l.length i := by
  rcases first_stop (fun j => goesOn key (entOn l h j)) l.length with hp | ⟨i, hi, hp, hs⟩
  · exact .inl (find_none hp)
  · by_cases h0 : (entOn l h i).f0 = 0
    · left; rw [find_at hi hp hs, if_pos h0]
    · right
      have : (entOn l h i).f0 = 1 ∧ (entOn l h i).f1 = key := Classical.byContradiction fun hh => hs ⟨h0, hh⟩
      exact ⟨i, hi, hp, this.1, this.2, by rw [find_at hi hp hs, if_neg h0]⟩
theorem find_neg {key : ByteArray} {l : List Ent} {h : Int} (hf : findIn key (wayL l h) < 0) {i : Nat} (hi : i < l.length) (hl : ∀ j, j < i → (entOn l h j).f0 = 1) : ∀ j, j < i → goesOn key (entOn l h j) := by
  intro j hj
  rcases first_stop (fun j => goesOn key (entOn l h j)) i with hp | ⟨j', hj', hp, hs⟩
  · exact hp j hj
  · have e := find_at (by omega) hp hs
    rw [if_neg (by rw [hl j' hj']; decide)] at e
    have := (pos_range (h := h) (n := l.length) j' (by omega)).1
    omega

theorem room_at {l : List Ent} {h : Int} {i : Nat} (hi : i < l.length) (hp : ∀ j, j < i → (entOn l h j).f0 = 1) (hs : ¬ (entOn l h i).f0 = 1) : roomIn (wayL l h) = pos h l.length i := by
  obtain ⟨rest, hr⟩ := upto_split (wayAt l h) (k := i + 1) (n := l.length) hi
  rw [wayL, hr, upto_succ, List.append_assoc, roomIn_on]
  · simp only [List.cons_append, roomIn, wayAt_eq]
    exact if_neg hs
  · intro p hp'
    obtain ⟨j, hj, rfl⟩ := mem_upto.1 hp'
    exact hp j hj
theorem room_none {l : List Ent} {h : Int} (hp : ∀ j, j < l.length → (entOn l h j).f0 = 1) : roomIn (wayL l h) = -1 := by
  have := roomIn_on (wayL l h) [] (fun p hp' => by obtain ⟨j, hj, rfl⟩ := mem_upto.1 hp'; exact hp j hj)
  rw [List.append_nil] at this
  rw [this]; rfl
theorem room_cases (l : List Ent) (h : Int) : (roomIn (wayL l h) = -1 ∧ ∀ j, j < l.length → (entOn l h j).f0 = 1) ∨
    ∃ i, i < l.length ∧ (∀ j, j < i → (entOn l h j).f0 = 1) ∧ ¬ (entOn l h i).f0 = 1 ∧ roomIn (wayL l h) = pos h l.length i := by
  rcases first_stop (fun j => (entOn l h j).f0 = 1) l.length with hp | ⟨i, hi, hp, hs⟩
  · exact .inl ⟨room_none hp, hp⟩
  · exact .inr ⟨i, hi, hp, hs, room_at hi hp hs⟩

theorem entOn_set (l : List Ent) (h j : Int) (x : Ent) (i : Nat) (hj0 : 0 ≤ j) (hj : j < l.length) (hi : i < l.length) : entOn (l.set j.toNat x) h i = if pos h l.length i = j then x else entOn l h i := by
  unfold entOn
  rw [List.length_set]
  have := pos_range (h := h) (n := l.length) i (by omega)
  exact rdE_set l j x _ hj0 hj this.1 this.2

/-- Steps that stop alike, and where they stop are the same: the same is found. -/
theorem find_congr {key : ByteArray} {l u : List Ent} {h : Int} (hl : u.length = l.length) (hc : ∀ i, i < l.length → entOn u h i = entOn l h i ∨ (goesOn key (entOn u h i) ∧ goesOn key (entOn l h i))) :
    findIn key (wayL u h) = findIn key (wayL l h) := by
  rcases first_stop (fun j => goesOn key (entOn l h j)) l.length with hp | ⟨i, hi, hp, hs⟩
  · rw [find_none hp, find_none (fun j hj => by rw [hl] at hj; exact (hc j hj).elim (fun e => by rw [e]; exact hp j hj) (fun e => e.1))]
  · have es : entOn u h i = entOn l h i := (hc i hi).elim id (fun e => absurd e.2 hs)
    rw [find_at hi hp hs, find_at (i := i) (by omega) (fun j hj => (hc j (by omega)).elim (fun e => by rw [e]; exact hp j hj) (fun e => e.1)) (by rw [es]; exact hs), es, hl]

theorem count_set (st : Int) : ∀ (l : List Ent) (j : Nat) (x : Ent) (hj : j < l.length), countIn st (l.set j x) + (if l[j].f0 = st then 1 else 0) = countIn st l + (if x.f0 = st then 1 else 0)
  | a :: l, 0, x, _ => by
    unfold countIn
    by_cases h1 : a.f0 = st <;> by_cases h2 : x.f0 = st <;> simp [h1, h2]
  | a :: l, j + 1, x, hj => by
    have ih := count_set st l j x (by simpa using hj)
    unfold countIn at ih ⊢
    simp only [List.set_cons_succ, List.getElem_cons_succ, List.filter_cons]
    by_cases h1 : a.f0 = st <;> simp [h1] <;> omega
theorem count_all (st : Int) (l : List Ent) (h : ∀ j (hj : j < l.length), (l[j]).f0 = st) : countIn st l = l.length := by
  unfold countIn
  rw [List.filter_eq_self.2]
  intro x hx
  obtain ⟨j, hj, rfl⟩ := List.getElem_of_mem hx
  simp [h j hj]

end Go.Proofs.Ythdkkmeiihbafaa.ProbeLaw
