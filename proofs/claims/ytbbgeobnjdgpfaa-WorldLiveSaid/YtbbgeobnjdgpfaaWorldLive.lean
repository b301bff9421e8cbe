/- The statement WorldLive, over numbers and lists: a Put, the program's and the document's, is the same; so are the keys. -/
import Derived.Test.YtbbgeobnjdgpfaaHashLaw
import Derived.Test.YtbbgeobnjdgpfaaPx4
import Derived.Test.YtbbgeobnjdgpfaaPx2
import Derived.Test.YtbbgeobnjdgpfaaPx5
import Derived.Test.YtbbgeobnjdgpfaaPx6
import Derived.Test.YtbbgeobnjdgpfaaPx7
import Derived.Test.YtbbgeobnjdgpfaaPx8
set_option linter.unusedVariables false
set_option linter.unusedSimpArgs false
namespace Go.Proofs.Ytbbgeobnjdgpfaa.Pure
open Go.RowKit Go.Proofs.Ytbbgeobnjdgpfaa.P Go.Proofs.YtbbgeobnjdgpfaaW.PrintWords Go.Proofs.YtbbgeobnjdgpfaaW.PrintLast Go.Proofs.YtbbgeobnjdgpfaaW.PrintMore Go.Proofs.Ytbbgeobnjdgpfaa.Hand
abbrev Ent := S95
abbrev rdE (l : List Ent) (i : Int) : Ent := rd_T95 l i
theorem rdE_nat (l : List Ent) (j : Nat) (h : j < l.length) : rdE l (j : Int) = l[j] := by simp [rdE, rd_T95, h]
theorem rdE_set (l : List Ent) (j : Int) (x : Ent) (i : Int) (hj0 : 0 ≤ j) (hj : j < l.length) (hi0 : 0 ≤ i) (hi : i < l.length) : rdE (l.set j.toNat x) i = if i = j then x else rdE l i := by
  unfold rdE rd_T95
  rw [List.getD_eq_getElem?_getD, List.getD_eq_getElem?_getD, List.getElem?_set]
  by_cases h : i = j
  · subst h
    have : i.toNat < l.length := by omega
    simp [this]
  · have : ¬ j.toNat = i.toNat := by omega
    simp [h, this]

/-- Step i of a way that begins at h. -/
def pos (h : Int) (n : Nat) (i : Nat) : Int := (h + i) % n
theorem wayAt_eq (l : List Ent) (h : Int) (i : Nat) : wayAt l h i = (pos h l.length i, rdE l (pos h l.length i)) := rfl
theorem pos_range {h : Int} {n : Nat} (i : Nat) (hn : 0 < n) : 0 ≤ pos h n i ∧ pos h n i < n := ⟨Int.emod_nonneg _ (by omega), Int.emod_lt_of_pos _ (by omega)⟩
theorem pos_inj {h : Int} {n i j : Nat} (hi : i < n) (hj : j < n) (e : pos h n i = pos h n j) : i = j := by
  unfold pos at e
  have e2 : ((h + i) - (h + j)) % (n : Int) = 0 := Int.emod_eq_emod_iff_emod_sub_eq_zero.1 e
  have e3 : (h + i) - (h + j) = (i : Int) - j := by omega
  rw [e3] at e2
  obtain ⟨c, hc⟩ := Int.dvd_of_emod_eq_zero e2
  have : c = 0 := by
    rcases Int.lt_trichotomy c 0 with h1 | h1 | h1
    · have : (n : Int) * c ≤ (n : Int) * (-1) := Int.mul_le_mul_of_nonneg_left (by omega) (by omega)
      omega
    · exact h1
    · have : (n : Int) * 1 ≤ (n : Int) * c := Int.mul_le_mul_of_nonneg_left (by omega) (by omega)
      omega
  subst this
  omega
theorem pos_surj {h : Int} {n : Nat} (hh0 : 0 ≤ h) (hh : h < n) (j : Int) (hj0 : 0 ≤ j) (hj : j < n) : ∃ i, i < n ∧ pos h n i = j := by
  by_cases c : h ≤ j
  · refine ⟨(j - h).toNat, by omega, ?_⟩
    unfold pos
    rw [show h + ((j - h).toNat : Int) = j by omega]
    exact Int.emod_eq_of_lt hj0 hj
  · refine ⟨(j - h + n).toNat, by omega, ?_⟩
    unfold pos
    rw [show h + ((j - h + n).toNat : Int) = j + n by omega, Int.add_emod_right]
    exact Int.emod_eq_of_lt hj0 hj

abbrev wayL (l : List Ent) (h : Int) : List (Int × Ent) := upto (wayAt l h) l.length
def entOn (l : List Ent) (h : Int) (i : Nat) : Ent := rdE l (pos h l.length i)

/-- What the first stop on a way decides. -/
theorem find_at {key : ByteArray} {l : List Ent} {h : Int} {i : Nat} (hi : i < l.length) (hp : ∀ j, j < i → goesOn key (entOn l h j)) (hs : ¬ goesOn key (entOn l h i)) :
    findIn key (wayL l h) = if (entOn l h i).f0 = 0 then -1 else pos h l.length i := by
  obtain ⟨rest, hr⟩ := upto_split (wayAt l h) (k := i + 1) (n := l.length) hi
  rw [wayL, hr, upto_succ, List.append_assoc, findIn_on]
  · simp only [List.cons_append, findIn, wayAt_eq]
    show (if (entOn l h i).f0 = 0 then _ else _) = _
    by_cases h0 : (entOn l h i).f0 = 0
    · rw [if_pos h0, if_pos h0]
    · rw [if_neg h0, if_neg h0]
      have : (entOn l h i).f0 = 1 ∧ (entOn l h i).f1 = key := Classical.byContradiction fun hh => hs ⟨h0, hh⟩
      exact if_pos this
  · intro p hp'
    obtain ⟨j, hj, rfl⟩ := mem_upto.1 hp'
    exact hp j hj
theorem find_none {key : ByteArray} {l : List Ent} {h : Int} (hp : ∀ j, j < l.length → goesOn key (entOn l h j)) : findIn key (wayL l h) = -1 := by
  have := findIn_on (key := key) (wayL l h) [] (fun p hp' => by obtain ⟨j, hj, rfl⟩ := mem_upto.1 hp'; exact hp j hj)
  rw [List.append_nil] at this
  rw [this]; rfl
theorem first_stop (p : Nat → Prop) (n : Nat) : (∀ j, j < n → p j) ∨ ∃ i, i < n ∧ (∀ j, j < i → p j) ∧ ¬ p i := by
  induction n with
  | zero => exact .inl (fun j hj => by omega)
  | succ n ih =>
    rcases ih with h | ⟨i, hi, h⟩
    · by_cases hp : p n
      · exact .inl (fun j hj => (Nat.lt_or_eq_of_le (Nat.lt_succ_iff.1 hj)).elim (h j) (fun e => by rw [e]; exact hp))
      · exact .inr ⟨n, by omega, h, hp⟩
    · exact .inr ⟨i, by omega, h⟩
theorem find_cases (key : ByteArray) (l : List Ent) (h : Int) : (findIn key (wayL l h) = -1) ∨
    ∃ i, i < l.length ∧ (∀ j, j < i → goesOn key (entOn l h j)) ∧ (entOn l h i).f0 = 1 ∧ (entOn l h i).f1 = key ∧ findIn key (wayL l h) = pos h l.length i := by
  rcases first_stop (fun j => goesOn key (entOn l h j)) l.length with hp | ⟨i, hi, hp, hs⟩
  · exact .inl (find_none hp)
  · by_cases h0 : (entOn l h i).f0 = 0
    · left; rw [find_at hi hp hs, if_pos h0]
    · right
      have : (entOn l h i).f0 = 1 ∧ (entOn l h i).f1 = key := Classical.byContradiction fun hh => hs ⟨h0, hh⟩
      exact ⟨i, hi, hp, this.1, this.2, by rw [find_at hi hp hs, if_neg h0]⟩
theorem find_neg {key : ByteArray} {l : List Ent} {h : Int} (hf : findIn key (wayL l h) < 0) {i : Nat} (hi : i < l.length) (hl : ∀ j, j < i → (entOn l h j).f0 = 1) : ∀ j, j < i → goesOn key (entOn l h j) := by
  intro j hj
  rcases first_stop (fun j => goesOn key (entOn l h j)) i with hp | ⟨j', hj', hp, hs⟩
  · exact hp j hj
  · have e := find_at (by omega) hp hs
    rw [if_neg (by rw [hl j' hj']; decide)] at e
    have := (pos_range (h := h) (n := l.length) j' (by omega)).1
    omega

theorem room_at {l : List Ent} {h : Int} {i : Nat} (hi : i < l.length) (hp : ∀ j, j < i → (entOn l h j).f0 = 1) (hs : ¬ (entOn l h i).f0 = 1) : roomIn (wayL l h) = pos h l.length i := by
  obtain ⟨rest, hr⟩ := upto_split (wayAt l h) (k := i + 1) (n := l.length) hi
  rw [wayL, hr, upto_succ, List.append_assoc, roomIn_on]
  · simp only [List.cons_append, roomIn, wayAt_eq]
    exact if_neg hs
  · intro p hp'
    obtain ⟨j, hj, rfl⟩ := mem_upto.1 hp'
    exact hp j hj
theorem room_none {l : List Ent} {h : Int} (hp : ∀ j, j < l.length → (entOn l h j).f0 = 1) : roomIn (wayL l h) = -1 := by
  have := roomIn_on (wayL l h) [] (fun p hp' => by obtain ⟨j, hj, rfl⟩ := mem_upto.1 hp'; exact hp j hj)
  rw [List.append_nil] at this
  rw [this]; rfl
theorem room_cases (l : List Ent) (h : Int) : (roomIn (wayL l h) = -1 ∧ ∀ j, j < l.length → (entOn l h j).f0 = 1) ∨
    ∃ i, i < l.length ∧ (∀ j, j < i → (entOn l h j).f0 = 1) ∧ ¬ (entOn l h i).f0 = 1 ∧ roomIn (wayL l h) = pos h l.length i := by
  rcases first_stop (fun j => (entOn l h j).f0 = 1) l.length with hp | ⟨i, hi, hp, hs⟩
  · exact .inl ⟨room_none hp, hp⟩
  · exact .inr ⟨i, hi, hp, hs, room_at hi hp hs⟩

theorem join_some (h : Int) (s : ByteArray) (hs : s.size ≤ 140737488351232) : fnv_Join.f h s = some (hjoin h s.data.toList) := if_pos hs
theorem sum_some (s : ByteArray) (hs : s.size ≤ 140737488351232) : fnv_Sum.f s = some (hjoin 14695981039346656037 s.data.toList) := bind_of (join_some _ _ hs) rfl
theorem refnext_some (h : Int) (b : UInt8) : gangplankref02_Next.f h (b.toNat : Int) = some (hstep h b) := rfl
theorem refjoin_loop (s : ByteArray) (hs : s.size ≤ 140737488351232) (d : Nat) : ∀ (k i : Nat) (h : Int), s.size - i = d → i ≤ s.size → d < k →
    gangplankref02_Join.l0 k h s (i : Int) = some (hjoin h (s.data.toList.drop i)) := by
  induction d with
  | zero =>
    intro k i h hd hi hk
    obtain ⟨k, rfl⟩ : ∃ m, k = m + 1 := ⟨k - 1, by omega⟩
    simp only [gangplankref02_Join.l0]
    rw [if_neg (by omega), List.drop_of_length_le (by simp; omega)]
    rfl
  | succ d ih =>
    intro k i h hd hi hk
    obtain ⟨k, rfl⟩ : ∃ m, k = m + 1 := ⟨k - 1, by omega⟩
    simp only [gangplankref02_Join.l0]
    have hlt : i < s.size := by omega
    have e : bt s (i : Int) = (s[i].toNat : Int) := by simp [bt, hlt]
    have w : wrap64 ((i : Int) + 1) = ((i + 1 : Nat) : Int) := by unfold wrap64; omega
    rw [if_pos (by omega), if_pos (by omega), e, refnext_some]
    simp only [Option.bind_some]
    have ed : s.data.toList.drop i = s[i] :: s.data.toList.drop (i + 1) := List.drop_eq_getElem_cons (by simpa using hlt)
    rw [w, ih k (i + 1) _ (by omega) (by omega) (by omega), ed]
    rfl
theorem refsum_eq (s : ByteArray) (hs : s.size ≤ 140737488351232) (k : Nat) (hk : s.size < k) : gangplankref02_Sum.f k s = fnv_Sum.f s := by
  rw [sum_some s hs]
  have := refjoin_loop s hs s.size k 0 14695981039346656037 (by omega) (by omega) hk
  unfold gangplankref02_Sum.f gangplankref02_Join.f
  exact bind_of (by simpa using this) rfl
theorem refhome_eq (s : ByteArray) (n : Int) (hs : s.size ≤ 140737488351232) (k : Nat) (hk : s.size < k) : gangplankref11_Home.f k s n = probe_Home.f s n := by
  unfold gangplankref11_Home.f probe_Home.f
  rw [refsum_eq s hs k hk]

theorem wrap_i64n (n : Int) (h0 : 1 ≤ n) (h1 : n ≤ 9223372036854775807) : IntKind.u64.wrap n = n := by simp [IntKind.wrap, IntKind.bits, IntKind.signed]; omega
theorem home_some (s : ByteArray) (n : Int) (hs : s.size ≤ 140737488351232) (hn : n ≤ 9223372036854775807) : ∃ h, probe_Home.f s n = some h ∧ (1 ≤ n → (0 ≤ h ∧ h < n) ∧ h = Int.tmod (hjoin 14695981039346656037 s.data.toList) n) ∧ (n < 1 → h = 0) := by
  by_cases c : n < 1
  · exact ⟨0, by unfold probe_Home.f; rw [if_pos c], fun h => by omega, fun _ => rfl⟩
  · have e : probe_Home.f s n = some (wrap64 (Int.tmod (hjoin 14695981039346656037 s.data.toList) n)) := by
      unfold probe_Home.f
      rw [if_neg c]
      refine bind_of (sum_some s hs) ?_
      rw [wrap_i64n n (by omega) hn, if_neg (by omega)]
    have r := home_range e (by omega) hn
    obtain ⟨j0, j1⟩ := hjoin_range 14695981039346656037 s.data.toList (by decide) (by decide)
    refine ⟨_, e, fun _ => ⟨r, ?_⟩, fun h => absurd h c⟩
    rw [Int.tmod_eq_emod_of_nonneg j0]
    have a := Int.emod_nonneg (hjoin 14695981039346656037 s.data.toList) (b := n) (by omega)
    have b := Int.emod_lt_of_pos (hjoin 14695981039346656037 s.data.toList) (b := n) (by omega)
    generalize hjoin 14695981039346656037 s.data.toList % n = q at *
    unfold wrap64
    omega

theorem find_some {l : List Ent} {key : ByteArray} {h : Int} (hl : l.length ≤ 1000000) (hh : probe_Home.f key l.length = some h) : probe_Find.f l key = some (findIn key (wayL l h)) := by
  unfold probe_Find.f
  rw [if_pos hl]
  exact bind_of hh rfl
theorem room_some {l : List Ent} {key : ByteArray} {h : Int} (hl : l.length ≤ 1000000) (hh : probe_Home.f key l.length = some h) : probe_Room.f l key = some (if 0 ≤ findIn key (wayL l h) then -1 else roomIn (wayL l h)) := by
  unfold probe_Room.f
  refine bind_of (find_some hl hh) ?_
  by_cases c : 0 ≤ findIn key (wayL l h)
  · rw [if_pos c, if_pos c]
  · rw [if_neg c, if_neg c]
    exact bind_of hh rfl
theorem wrap_succ {i n : Nat} (h : i < n) (hn : n ≤ 1000000) : wrap64 ((i : Int) + 1) = ((i + 1 : Nat) : Int) := by unfold wrap64; omega

theorem pos_tmod {h : Int} {n i : Nat} (h0 : 0 ≤ h) (h1 : h < n) (hi : i < n) (hn : n ≤ 1000000) : Int.tmod (wrap64 (h + (i : Int))) (n : Int) = pos h n i := by
  rw [show wrap64 (h + (i : Int)) = h + i by unfold wrap64; omega, Int.tmod_eq_emod_of_nonneg (by omega)]
  rfl

theorem reffind_loop (l : List Ent) (key : ByteArray) (h : Int) (hl : l.length ≤ 1000000) (h0 : 0 ≤ h) (h1 : h < l.length) (d : Nat) : ∀ (k i : Nat), l.length - i = d → i ≤ l.length → d < k → (∀ j, j < i → goesOn key (entOn l h j)) →
    gangplankref11_Find.l0 k l key h (i : Int) = some (findIn key (wayL l h)) := by
  induction d with
  | zero =>
    intro k i hd hi hk hp
    obtain ⟨k, rfl⟩ : ∃ m, k = m + 1 := ⟨k - 1, by omega⟩
    simp only [gangplankref11_Find.l0]
    rw [if_neg (by omega), find_none (fun j hj => hp j (by omega))]
  | succ d ih =>
    intro k i hd hi hk hp
    obtain ⟨k, rfl⟩ : ∃ m, k = m + 1 := ⟨k - 1, by omega⟩
    have hlt : i < l.length := by omega
    have hr := pos_range (h := h) (n := l.length) i (by omega)
    simp only [gangplankref11_Find.l0]
    rw [if_pos (by omega), if_neg (by omega), pos_tmod h0 h1 hlt hl, if_pos hr.1, if_pos hr.2, wrap_succ (n := l.length) hlt hl]
    have next : goesOn key (entOn l h i) → gangplankref11_Find.l0 k l key h ((i + 1 : Nat) : Int) = some (findIn key (wayL l h)) := fun hg =>
      ih k (i + 1) (by omega) (by omega) (by omega) (fun j hj => (Nat.lt_or_eq_of_le (Nat.lt_succ_iff.1 hj)).elim (hp j) (fun e => by rw [e]; exact hg))
    show (if (entOn l h i).f0 = 0 then _ else if (entOn l h i).f0 = 1 then (if (entOn l h i).f1.toList = key.toList then _ else _) else _) = _
    by_cases c0 : (entOn l h i).f0 = 0
    · rw [if_pos c0, find_at hlt hp (fun hg => hg.1 c0), if_pos c0]
    · rw [if_neg c0]
      by_cases c1 : (entOn l h i).f0 = 1
      · rw [if_pos c1]
        by_cases c2 : (entOn l h i).f1.toList = key.toList
        · rw [if_pos c2, find_at hlt hp (fun hg => hg.2 ⟨c1, bytes_eq c2⟩), if_neg c0]
        · rw [if_neg c2]
          exact next ⟨c0, fun e => c2 (by rw [e.2])⟩
      · rw [if_neg c1]
        exact next ⟨c0, fun e => c1 e.1⟩
theorem reffind_some {l : List Ent} {key : ByteArray} {h : Int} (hl : l.length ≤ 1000000) (hs : key.size ≤ 140737488351232) (hh : probe_Home.f key l.length = some h) (k : Nat) (hk : key.size < k) (hk2 : l.length < k) : gangplankref11_Find.f k l key = some (findIn key (wayL l h)) := by
  unfold gangplankref11_Find.f
  refine bind_of ((refhome_eq key l.length hs k hk).trans hh) ?_
  by_cases c : l.length = 0
  · obtain ⟨k, rfl⟩ : ∃ m, k = m + 1 := ⟨k - 1, by omega⟩
    simp only [gangplankref11_Find.l0]
    rw [if_neg (by omega), find_none (fun j hj => by omega)]
  · obtain ⟨h0, h1⟩ := home_range hh (by omega) (by omega)
    exact reffind_loop l key h hl h0 h1 l.length k 0 (by omega) (by omega) hk2 (fun j hj => by omega)

theorem refroom_loop (l : List Ent) (h : Int) (hl : l.length ≤ 1000000) (h0 : 0 ≤ h) (h1 : h < l.length) (d : Nat) : ∀ (k i : Nat), l.length - i = d → i ≤ l.length → d < k → (∀ j, j < i → (entOn l h j).f0 = 1) →
    gangplankref11_Room.l0 k l h (i : Int) = some (roomIn (wayL l h)) := by
  induction d with
  | zero =>
    intro k i hd hi hk hp
    obtain ⟨k, rfl⟩ : ∃ m, k = m + 1 := ⟨k - 1, by omega⟩
    simp only [gangplankref11_Room.l0]
    rw [if_neg (by omega), room_none (fun j hj => hp j (by omega))]
  | succ d ih =>
    intro k i hd hi hk hp
    obtain ⟨k, rfl⟩ : ∃ m, k = m + 1 := ⟨k - 1, by omega⟩
    have hlt : i < l.length := by omega
    have hr := pos_range (h := h) (n := l.length) i (by omega)
    simp only [gangplankref11_Room.l0]
    rw [if_pos (by omega), if_neg (by omega), pos_tmod h0 h1 hlt hl, if_pos hr.1, if_pos hr.2, wrap_succ (n := l.length) hlt hl]
    show (if (entOn l h i).f0 = 1 then _ else _) = _
    by_cases c1 : (entOn l h i).f0 = 1
    · rw [if_pos c1]
      exact ih k (i + 1) (by omega) (by omega) (by omega) (fun j hj => (Nat.lt_or_eq_of_le (Nat.lt_succ_iff.1 hj)).elim (hp j) (fun e => by rw [e]; exact c1))
    · rw [if_neg c1, room_at hlt hp c1]
theorem refroom_some {l : List Ent} {key : ByteArray} {h : Int} (hl : l.length ≤ 1000000) (hs : key.size ≤ 140737488351232) (hh : probe_Home.f key l.length = some h) (k : Nat) (hk : key.size < k) (hk2 : l.length < k) :
    gangplankref11_Room.f k l key = some (if 0 ≤ findIn key (wayL l h) then -1 else roomIn (wayL l h)) := by
  unfold gangplankref11_Room.f
  refine bind_of (reffind_some hl hs hh k hk hk2) ?_
  by_cases c : 0 ≤ findIn key (wayL l h)
  · rw [if_pos c, if_pos c]
  · rw [if_neg (by omega), if_neg c]
    refine bind_of ((refhome_eq key l.length hs k hk).trans hh) ?_
    by_cases c : l.length = 0
    · obtain ⟨k, rfl⟩ : ∃ m, k = m + 1 := ⟨k - 1, by omega⟩
      simp only [gangplankref11_Room.l0]
      rw [if_neg (by omega), room_none (fun j hj => by omega)]
    · obtain ⟨h0, h1⟩ := home_range hh (by omega) (by omega)
      exact refroom_loop l h hl h0 h1 l.length k 0 (by omega) (by omega) hk2 (fun j hj => by omega)

theorem find_range {l : List Ent} {key : ByteArray} {h : Int} : findIn key (wayL l h) = -1 ∨ (0 ≤ findIn key (wayL l h) ∧ findIn key (wayL l h) < l.length) := by
  rcases find_cases key l h with e | ⟨i, hi, _, _, _, e⟩
  · exact .inl e
  · rw [e]; exact .inr (pos_range i (by omega))
theorem room_range {l : List Ent} {h : Int} : roomIn (wayL l h) = -1 ∨ (0 ≤ roomIn (wayL l h) ∧ roomIn (wayL l h) < l.length) := by
  rcases room_cases l h with ⟨e, _⟩ | ⟨i, hi, _, _, e⟩
  · exact .inl e
  · rw [e]; exact .inr (pos_range i (by omega))
/-- Where a key's way begins. -/
def hm (key : ByteArray) (n : Nat) : Int := (probe_Home.f key n).getD 0
theorem hm_some {key : ByteArray} {n : Nat} (hs : key.size ≤ 140737488351232) (hn : n ≤ 1000000) : probe_Home.f key (n : Int) = some (hm key n) := by
  obtain ⟨h, hh, _⟩ := home_some key n hs (by omega)
  unfold hm
  rw [hh]; rfl
def fnd (l : List Ent) (key : ByteArray) : Int := findIn key (wayL l (hm key l.length))
def rm (l : List Ent) (key : ByteArray) : Int := roomIn (wayL l (hm key l.length))
theorem fnd_some {l : List Ent} {key : ByteArray} (hs : key.size ≤ 140737488351232) (hl : l.length ≤ 1000000) : probe_Find.f l key = some (fnd l key) := find_some hl (hm_some hs hl)
theorem fnd_range (l : List Ent) (key : ByteArray) : fnd l key = -1 ∨ (0 ≤ fnd l key ∧ fnd l key < l.length) := find_range
/-- What is put in. -/
def putR (l : List Ent) (x : Ent) : Bool × List Ent := if fnd l x.f1 < 0 then (if rm l x.f1 < 0 then (false, l) else (true, l.set (rm l x.f1).toNat x)) else (true, l.set (fnd l x.f1).toNat x)
theorem rm_range (l : List Ent) (key : ByteArray) : rm l key = -1 ∨ (0 ≤ rm l key ∧ rm l key < l.length) := room_range
theorem put_some {l : List Ent} (x : Ent) (hs : x.f1.size ≤ 140737488351232) (hl : l.length ≤ 1000000) : flows_table_put.f l x.f0 x.f1 x.f2 x.f3 = some (putR l x) := by
  unfold flows_table_put.f putR
  refine bind_of (fnd_some hs hl) ?_
  have r := fnd_range l x.f1
  have r2 := rm_range l x.f1
  by_cases c : fnd l x.f1 < 0
  · rw [if_pos c, if_pos c]
    have e := room_some hl (hm_some hs hl)
    rw [if_neg (show ¬ 0 ≤ findIn x.f1 (wayL l (hm x.f1 l.length)) from by unfold fnd at c; omega)] at e
    refine bind_of e ?_
    show (if rm l x.f1 < 0 then _ else _) = _
    by_cases c2 : rm l x.f1 < 0
    · rw [if_pos c2, if_pos c2]
    · rw [if_neg c2, if_neg c2, if_pos (show 0 ≤ roomIn _ from by unfold rm at c2; omega), if_pos (show roomIn _ < _ from by unfold rm at r2 c2; omega)]
      rfl
  · rw [if_neg c, if_neg c, if_pos (by omega), if_pos (by omega)]
theorem fput_some {l : List Ent} {key : ByteArray} (b d : Int) (hs : key.size ≤ 140737488351232) (hl : l.length ≤ 1000000) : flows_Put.f l key b d = some (if (putR l ⟨1, key, b, d⟩).1 = true then ((putR l ⟨1, key, b, d⟩).2, 0) else (l, 12)) := by
  unfold flows_Put.f
  rw [if_pos hl]
  exact bind_of (put_some ⟨1, key, b, d⟩ hs hl) rfl
theorem putR_length (l : List Ent) (x : Ent) : (putR l x).2.length = l.length := by
  unfold putR
  split
  · split <;> simp
  · simp
theorem with_loop (l : List Ent) (hl : l.length ≤ 1000000) (j : Nat) (hj : j < l.length) (a : Int) (s : ByteArray) (b d' : Int) (d : Nat) : ∀ (k i : Nat), l.length - i = d → i ≤ l.length → d < k →
    gangplankref12_with.l0 k l (j : Int) ((l.set j (⟨a, s, b, d'⟩ : Ent)).take i) (i : Int) a s b d' = some (l.set j (⟨a, s, b, d'⟩ : Ent)) := by
  induction d with
  | zero =>
    intro k i hd hi hk
    obtain ⟨k, rfl⟩ : ∃ m, k = m + 1 := ⟨k - 1, by omega⟩
    simp only [gangplankref12_with.l0]
    rw [if_neg (by omega), List.take_of_length_le (by simp; omega)]
  | succ d ih =>
    intro k i hd hi hk
    obtain ⟨k, rfl⟩ : ∃ m, k = m + 1 := ⟨k - 1, by omega⟩
    have hlt : i < l.length := by omega
    have hlt' : i < (l.set j (⟨a, s, b, d'⟩ : Ent)).length := by rw [List.length_set]; exact hlt
    have hs := ih k (i + 1) (by omega) (by omega) (by omega)
    rw [List.take_succ_eq_append_getElem hlt', List.getElem_set] at hs
    have hln : ((l.set j (⟨a, s, b, d'⟩ : Ent)).take i).length ≤ i := by rw [List.length_take]; omega
    simp only [gangplankref12_with.l0]
    rw [if_pos (by omega), wrap_succ (n := l.length) hlt hl]
    by_cases c : i = j
    · subst c
      rw [if_pos rfl, if_pos (by omega)]
      rw [if_pos rfl] at hs
      exact hs
    · rw [if_neg (by omega), if_pos (by omega), if_pos (by omega)]
      rw [if_neg (fun e => c e.symm), ← rdE_nat l i hlt] at hs
      exact hs
theorem with_some {l : List Ent} (hl : l.length ≤ 1000000) {j : Int} (h0 : 0 ≤ j) (h1 : j < l.length) (a : Int) (s : ByteArray) (b d' : Int) (k : Nat) (hk : l.length < k) : gangplankref12_with.f k l j a s b d' = some (l.set j.toNat (⟨a, s, b, d'⟩ : Ent)) := by
  obtain ⟨m, rfl⟩ : ∃ m : Nat, j = m := ⟨j.toNat, by omega⟩
  exact with_loop l hl m (by omega) a s b d' l.length k 0 (by omega) (by omega) hk
theorem refput_some {l : List Ent} {key : ByteArray} (b d : Int) (hs : key.size ≤ 140737488351232) (hl : l.length ≤ 1000000) (k : Nat) (hk : key.size < k) (hk2 : l.length < k) : gangplankref12_Put.f k l key b d = some (if (putR l ⟨1, key, b, d⟩).1 = true then ((putR l ⟨1, key, b, d⟩).2, 0) else (l, 12)) := by
  have hh := hm_some hs hl
  unfold gangplankref12_Put.f
  refine bind_of (reffind_some hl hs hh k hk hk2) ?_
  have r := fnd_range l key
  have r2 := rm_range l key
  show (if fnd l key < 0 then _ else _) = _
  by_cases c : fnd l key < 0
  · rw [if_pos c]
    have e := refroom_some hl hs hh k hk hk2
    rw [if_neg (show ¬ 0 ≤ findIn key (wayL l (hm key l.length)) from by unfold fnd at c; omega)] at e
    refine bind_of e ?_
    show (if rm l key < 0 then _ else _) = _
    by_cases c2 : rm l key < 0
    · have ep : putR l ⟨1, key, b, d⟩ = (false, l) := by unfold putR; rw [if_pos c, if_pos c2]
      rw [if_pos c2, ep]; rfl
    · have ep : putR l ⟨1, key, b, d⟩ = (true, l.set (rm l key).toNat ⟨1, key, b, d⟩) := by unfold putR; rw [if_pos c, if_neg c2]
      rw [if_neg c2, ep]
      exact bind_of (with_some (j := rm l key) hl (by omega) (by omega) 1 key b d k hk2) rfl
  · have ep : putR l ⟨1, key, b, d⟩ = (true, l.set (fnd l key).toNat ⟨1, key, b, d⟩) := by unfold putR; rw [if_neg c]
    rw [if_neg c, ep]
    exact bind_of (with_some (j := fnd l key) hl (by omega) (by omega) 1 key b d k hk2) rfl
theorem refkeys_loop (t : List Ent) (ht : t.length ≤ 64) (d : Nat) : ∀ (k i : Nat), t.length - i = d → i ≤ t.length → d < k →
    gangplankref12_Keys.l0 k t ((liveUpto t i).map fun p => p.2.f1) (i : Int) = some ((liveL t).map fun p => p.2.f1) := by
  induction d with
  | zero =>
    intro k i hd hi hk
    obtain ⟨k, rfl⟩ : ∃ m, k = m + 1 := ⟨k - 1, by omega⟩
    obtain rfl : i = t.length := by omega
    simp only [gangplankref12_Keys.l0]
    rw [if_neg (by omega)]; rfl
  | succ d ih =>
    intro k i hd hi hk
    obtain ⟨k, rfl⟩ : ∃ m, k = m + 1 := ⟨k - 1, by omega⟩
    have hlt : i < t.length := by omega
    have hs := ih k (i + 1) (by omega) (by omega) (by omega)
    rw [liveUpto_succ] at hs
    have hle := liveUpto_le t i
    simp only [gangplankref12_Keys.l0]
    rw [if_pos (by omega), if_pos (by omega), wrap_succ (n := t.length) hlt (by omega)]
    by_cases c : (rdE t (i : Int)).f0 = 1
    · rw [if_pos c, if_pos (by rw [List.length_map]; omega)]
      rw [if_pos (show ((rd_T95 t (i : Int)).f0 == 1) = true by simpa using c), List.map_append] at hs
      exact hs
    · rw [if_neg c]
      rw [if_neg (show ¬ ((rd_T95 t (i : Int)).f0 == 1) = true by simpa using c), List.append_nil] at hs
      exact hs
theorem texts_loop (a : List ByteArray) (ha : a.length ≤ 1000000) (d : Nat) : ∀ (k i : Nat), a.length - i = d → i ≤ a.length → d < k → gangplankref12_Texts.l0 k a a (i : Int) = some true := by
  induction d with
  | zero =>
    intro k i hd hi hk
    obtain ⟨k, rfl⟩ : ∃ m, k = m + 1 := ⟨k - 1, by omega⟩
    simp only [gangplankref12_Texts.l0]
    rw [if_neg (by omega)]
  | succ d ih =>
    intro k i hd hi hk
    obtain ⟨k, rfl⟩ : ∃ m, k = m + 1 := ⟨k - 1, by omega⟩
    simp only [gangplankref12_Texts.l0]
    rw [if_pos (by omega), if_pos (by omega), if_pos (by omega), if_pos (by trivial), wrap_succ (n := a.length) (by omega) ha]
    exact ih k (i + 1) (by omega) (by omega) (by omega)
theorem refkeys_some (t : List Ent) (ht : t.length ≤ 64) : gangplankref12_Keys.f 1000 t = some (keysL t) := by
  have h := refkeys_loop t ht t.length 1000 0 (by omega) (by omega) (by omega)
  exact h
theorem keyOf_eq (t : List Ent) (ht : t.length ≤ 64) : Go.Proofs.Ytbbgeobnjdgpfaa.P.keyOf t = keysL t := by
  unfold Go.Proofs.Ytbbgeobnjdgpfaa.P.keyOf
  rw [refkeys_some t ht]
  rfl
theorem keysL_le (t : List Ent) : (keysL t).length ≤ t.length := by
  unfold keysL
  rw [List.length_map]
  exact liveUpto_le t t.length
theorem keysT_le : ∀ (ts : List (List Ent)), (∀ l ∈ ts, l.length ≤ 12) → (keysT ts).length ≤ 12 * ts.length
  | [], _ => Nat.zero_le _
  | l :: ts, h => by
    have h1 := keysT_le ts (fun x hx => h x (List.mem_cons_of_mem _ hx))
    have h2 := keysL_le l
    have h3 := h l List.mem_cons_self
    unfold keysT at h1 ⊢
    rw [List.flatMap_cons, List.length_append, List.length_cons]
    omega
theorem lvGo_same (n : Int) (ks : List ByteArray) (sh : List Int) : ∀ (d i : Nat) (ts : List (List Ent)), (∀ l ∈ ts, l.length ≤ 12) →
    lvGo n ks sh d i ts ts = some none ∨ ∃ us, lvGo n ks sh d i ts ts = some (some (us, us)) ∧ (∀ l ∈ us, l.length ≤ 12) ∧ us.length = ts.length := by
  intro d
  induction d with
  | zero => intro i ts h; exact .inr ⟨ts, rfl, h, rfl⟩
  | succ d ih =>
    intro i ts h
    simp only [lvGo]
    by_cases c : 60 < (ks.getD i ⟨#[]⟩).size ∨ sh.getD i 0 < 0 ∨ n ≤ sh.getD i 0
    · rw [if_pos c]; exact .inl rfl
    · rw [if_neg c]
      obtain ⟨key, hkey⟩ : ∃ key, ks.getD i ⟨#[]⟩ = key := ⟨_, rfl⟩
      obtain ⟨k, hk⟩ : ∃ k, (sh.getD i 0).toNat = k := ⟨_, rfl⟩
      rw [hkey] at c ⊢
      rw [hk]
      obtain ⟨l, hl⟩ : ∃ l, ts.getD k [] = l := ⟨_, rfl⟩
      have hl12 : l.length ≤ 12 := by
        rw [← hl, List.getD_eq_getElem?_getD]
        by_cases hkl : k < ts.length
        · rw [List.getElem?_eq_getElem hkl]; exact h _ (List.getElem_mem hkl)
        · rw [List.getElem?_eq_none (by omega)]; exact Nat.zero_le _
      have hsz : key.size ≤ 60 := by omega
      rw [hl, fput_some 1 1 (by omega) (by omega), refput_some 1 1 (by omega) (by omega) 1000 (by omega) (by omega)]
      simp only [Option.bind_some]
      obtain ⟨p, hp⟩ : ∃ p : List Ent × Int, (if (putR l ⟨1, key, 1, 1⟩).1 = true then ((putR l ⟨1, key, 1, 1⟩).2, (0 : Int)) else (l, 12)) = p := ⟨_, rfl⟩
      rw [hp]
      have hpl : p.1.length ≤ 12 := by
        rw [← hp]
        split
        · dsimp only; rw [putR_length]; exact hl12
        · exact hl12
      have hs : ∀ x ∈ ts.set k p.1, x.length ≤ 12 := fun x hx => by
        rcases List.mem_or_eq_of_mem_set hx with h1 | h1
        · exact h x h1
        · rw [h1]; exact hpl
      rcases ih (i + 1) (ts.set k p.1) hs with h1 | ⟨us, h1, h2, h3⟩
      · exact .inl h1
      · exact .inr ⟨us, h1, h2, by rw [h3, List.length_set]⟩
theorem flatMap_keyOf : ∀ (ts : List (List Ent)), (∀ l ∈ ts, l.length ≤ 12) → ts.flatMap Go.Proofs.Ytbbgeobnjdgpfaa.P.keyOf = keysT ts
  | [], _ => rfl
  | l :: ts, h => by
    have h1 := flatMap_keyOf ts (fun x hx => h x (List.mem_cons_of_mem _ hx))
    unfold keysT at h1 ⊢
    rw [List.flatMap_cons, List.flatMap_cons, h1, keyOf_eq l (by have := h l List.mem_cons_self; omega)]
theorem lvEnd_same (us : List (List Ent)) (h : ∀ l ∈ us, l.length ≤ 12) (hl : us.length ≤ 6) : lvEnd (some (us, us)) = some true := by
  have hk := keysT_le us h
  simp only [lvEnd]
  rw [flatMap_keyOf us h, if_pos ⟨List.all_eq_true.mpr (fun l hm => by rw [refkeys_some l (by have := h l hm; omega)]; rfl), List.all_eq_true.mpr (fun l hm => decide_eq_true (by have := h l hm; omega)), by omega, by omega⟩]
  unfold gangplankref12_Texts.f
  rw [if_pos rfl]
  exact texts_loop (keysT us) (by omega) (keysT us).length 1000 0 (by omega) (by omega) (by omega)
theorem WorldLive : gangplanklaw18_WorldLive.Pure := by
  unfold gangplanklaw18_WorldLive.Pure
  intro a b c d e l1 l2 _ _ _ _ _ _ _ _ _
  unfold gangplanklaw18_WorldLive.f
  have hsm : ∃ sm, gangplankref17_Small.f a b c d e = some sm ∧ (sm = true → b ≤ 6 ∧ c ≤ 12) := by
    unfold gangplankref17_Small.f
    split
    · split
      · exact ⟨_, rfl, fun h => ⟨by assumption, of_decide_eq_true h⟩⟩
      · exact ⟨_, rfl, fun h => by cases h⟩
    · exact ⟨_, rfl, fun h => by cases h⟩
  obtain ⟨sm, hsm, hb⟩ := hsm
  rw [hsm, Option.bind_some]
  by_cases g : sm = false ∨ 30 < (l1.length : Int) ∨ (l2.length : Int) < (l1.length : Int)
  · rw [if_pos g]
  · rw [if_neg g]
    by_cases hck : chk a b c d e ≠ 0
    · rw [if_pos hck]
    · rw [if_neg hck]
      obtain ⟨_, ⟨hb0, _⟩, ⟨hc0, _⟩, _, _⟩ := chk_zero (Classical.not_not.mp hck)
      obtain ⟨hb6, hc12⟩ := hb (by cases sm with | true => rfl | false => exact absurd (.inl rfl) g)
      have hT : ∀ l ∈ List.replicate b.toNat (List.replicate c.toNat z95), l.length ≤ 12 := fun l hl => by
        rw [List.eq_of_mem_replicate hl, List.length_replicate]; omega
      rcases lvGo_same b l1 l2 l1.length 0 _ hT with h1 | ⟨us, h1, h2, h3⟩
      · rw [h1]; rfl
      · rw [h1, Option.bind_some]
        exact lvEnd_same us h2 (by rw [h3, List.length_replicate]; omega)
end Go.Proofs.Ytbbgeobnjdgpfaa.Pure
