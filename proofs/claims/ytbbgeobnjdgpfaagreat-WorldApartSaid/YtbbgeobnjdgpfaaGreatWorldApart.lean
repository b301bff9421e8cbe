/- The statement WorldApart, over numbers and lists: of a table without flows a Put makes one of one flow. -/
import Derived.Test.YtbbgeobnjdgpfaaGreatHashLaw
import Derived.Test.YtbbgeobnjdgpfaaGreatPx6
import Derived.Test.YtbbgeobnjdgpfaaGreatPx2
import Derived.Test.YtbbgeobnjdgpfaaGreatPx7
import Derived.Test.YtbbgeobnjdgpfaaGreatPx3
import Derived.Test.YtbbgeobnjdgpfaaGreatPx8
import Derived.Test.YtbbgeobnjdgpfaaGreatPx9
set_option linter.unusedVariables false
set_option linter.unusedSimpArgs false
namespace Go.Proofs.YtbbgeobnjdgpfaaGreat.Pure
open Go.RowKit Go.Proofs.YtbbgeobnjdgpfaaGreat.P Go.Proofs.YtbbgeobnjdgpfaaGreatW.PrintWords Go.Proofs.YtbbgeobnjdgpfaaGreatW.PrintLast Go.Proofs.YtbbgeobnjdgpfaaGreatW.PrintMore Go.Proofs.YtbbgeobnjdgpfaaGreat.Hand
abbrev Ent := S97
abbrev rdE (l : List Ent) (i : Int) : Ent := rd_T97 l i
theorem rdE_nat (l : List Ent) (j : Nat) (h : j < l.length) : rdE l (j : Int) = l[j] := by simp [rdE, rd_T97, h]
theorem rdE_set (l : List Ent) (j : Int) (x : Ent) (i : Int) (hj0 : 0 ≤ j) (hj : j < l.length) (hi0 : 0 ≤ i) (hi : i < l.length) : rdE (l.set j.toNat x) i = if i = j then x else rdE l i := by
  unfold rdE rd_T97
  rw [List.getD_eq_getElem?_getD, List.getD_eq_getElem?_getD, List.getElem?_set]
  by_cases h : i = j
  · subst h
    have : i.toNat < l.length := by omega
    simp [this]
  · have : ¬ j.toNat = i.toNat := by omega
    simp [h, this]

/-- Step i of a way that begins at h. -/
def pos (h : Int) (n : Nat) (i : Nat) : Int := (h + i) % n
theorem wayAt_eq (l : List Ent) (h : Int) (i : Nat) : wayAt l h i = (pos h l.length i, rdE l (pos h l.length i)) := rfl
theorem pos_range {h : Int} {n : Nat} (i : Nat) (hn : 0 < n) : 0 ≤ pos h n i ∧ pos h n i < n := ⟨Int.emod_nonneg _ (by omega), Int.emod_lt_of_pos _ (by omega)⟩
theorem pos_inj {h : Int} {n i j : Nat} (hi : i < n) (hj : j < n) (e : pos h n i = pos h n j) : i = j := by
  unfold pos at e
  have e2 : ((h + i) - (h + j)) % (n : Int) = 0 := Int.emod_eq_emod_iff_emod_sub_eq_zero.1 e
  have e3 : (h + i) - (h + j) = (i : Int) - j := by omega
  rw [e3] at e2
  obtain ⟨c, hc⟩ := Int.dvd_of_emod_eq_zero e2
  have : c = 0 := by
    rcases Int.lt_trichotomy c 0 with h1 | h1 | h1
    · have : (n : Int) * c ≤ (n : Int) * (-1) := Int.mul_le_mul_of_nonneg_left (by omega) (by omega)
      omega
    · exact h1
    · have : (n : Int) * 1 ≤ (n : Int) * c := Int.mul_le_mul_of_nonneg_left (by omega) (by omega)
      omega
  subst this
  omega
theorem pos_surj {h : Int} {n : Nat} (hh0 : 0 ≤ h) (hh : h < n) (j : Int) (hj0 : 0 ≤ j) (hj : j < n) : ∃ i, i < n ∧ pos h n i = j := by
  by_cases c : h ≤ j
  · refine ⟨(j - h).toNat, by omega, ?_⟩
    unfold pos
    rw [show h + ((j - h).toNat : Int) = j by omega]
    exact Int.emod_eq_of_lt hj0 hj
  · refine ⟨(j - h + n).toNat, by omega, ?_⟩
    unfold pos
    rw [show h + ((j - h + n).toNat : Int) = j + n by omega, Int.add_emod_right]
    exact Int.emod_eq_of_lt hj0 hj

abbrev wayL (l : List Ent) (h : Int) : List (Int × Ent) := upto (wayAt l h) l.length
def entOn (l : List Ent) (h : Int) (i : Nat) : Ent := rdE l (pos h l.length i)

/-- What the first stop on a way decides. -/
theorem find_at {key : ByteArray} {l : List Ent} {h : Int} {i : Nat} (hi : i < l.length) (hp : ∀ j, j < i → goesOn key (entOn l h j)) (hs : ¬ goesOn key (entOn l h i)) :
    findIn key (wayL l h) = if (entOn l h i).f0 = 0 then -1 else pos h l.length i := by
  obtain ⟨rest, hr⟩ := upto_split (wayAt l h) (k := i + 1) (n := l.length) hi
  rw [wayL, hr, upto_succ, List.append_assoc, findIn_on]
  · simp only [List.cons_append, findIn, wayAt_eq]
    show (if (entOn l h i).f0 = 0 then _ else _) = _
    by_cases h0 : (entOn l h i).f0 = 0
    · rw [if_pos h0, if_pos h0]
    · rw [if_neg h0, if_neg h0]
      have : (entOn l h i).f0 = 1 ∧ (entOn l h i).f1 = key := Classical.byContradiction fun hh => hs ⟨h0, hh⟩
      exact if_pos this
  · intro p hp'
    obtain ⟨j, hj, rfl⟩ := mem_upto.1 hp'
    exact hp j hj
theorem find_none {key : ByteArray} {l : List Ent} {h : Int} (hp : ∀ j, j < l.length → goesOn key (entOn l h j)) : findIn key (wayL l h) = -1 := by
  have := findIn_on (key := key) (wayL l h) [] (fun p hp' => by obtain ⟨j, hj, rfl⟩ := mem_upto.1 hp'; exact hp j hj)
  rw [List.append_nil] at this
  rw [this]; rfl
theorem first_stop (p : Nat → Prop) (n : Nat) : (∀ j, j < n → p j) ∨ ∃ i, i < n ∧ (∀ j, j < i → p j) ∧ ¬ p i := by
  induction n with
  | zero => exact .inl (fun j hj => by omega)
  | succ n ih =>
    rcases ih with h | ⟨i, hi, h⟩
    · by_cases hp : p n
      · exact .inl (fun j hj => (Nat.lt_or_eq_of_le (Nat.lt_succ_iff.1 hj)).elim (h j) (fun e => by rw [e]; exact hp))
      · exact .inr ⟨n, by omega, h, hp⟩
    · exact .inr ⟨i, by omega, h⟩
theorem find_cases (key : ByteArray) (l : List Ent) (h : Int) : (findIn key (wayL l h) = -1) ∨
    ∃ i, i < l.length ∧ (∀ j, j < i → goesOn key (entOn l h j)) ∧ (entOn l h i).f0 = 1 ∧ (entOn l h i).f1 = key ∧ findIn key (wayL l h) = pos h l.length i := by
  rcases first_stop (fun j => goesOn key (entOn l h j)) l.length with hp | ⟨i, hi, hp, hs⟩
  · exact .inl (find_none hp)
  · by_cases h0 : (entOn l h i).f0 = 0
    · left; rw [find_at hi hp hs, if_pos h0]
    · right
      have : (entOn l h i).f0 = 1 ∧ (entOn l h i).f1 = key := Classical.byContradiction fun hh => hs ⟨h0, hh⟩
      exact ⟨i, hi, hp, this.1, this.2, by rw [find_at hi hp hs, if_neg h0]⟩
theorem find_neg {key : ByteArray} {l : List Ent} {h : Int} (hf : findIn key (wayL l h) < 0) {i : Nat} (hi : i < l.length) (hl : ∀ j, j < i → (entOn l h j).f0 = 1) : ∀ j, j < i → goesOn key (entOn l h j) := by
  intro j hj
  rcases first_stop (fun j => goesOn key (entOn l h j)) i with hp | ⟨j', hj', hp, hs⟩
  · exact hp j hj
  · have e := find_at (by omega) hp hs
    rw [if_neg (by rw [hl j' hj']; decide)] at e
    have := (pos_range (h := h) (n := l.length) j' (by omega)).1
    omega

theorem room_at {l : List Ent} {h : Int} {i : Nat} (hi : i < l.length) (hp : ∀ j, j < i → (entOn l h j).f0 = 1) (hs : ¬ (entOn l h i).f0 = 1) : roomIn (wayL l h) = pos h l.length i := by
  obtain ⟨rest, hr⟩ := upto_split (wayAt l h) (k := i + 1) (n := l.length) hi
  rw [wayL, hr, upto_succ, List.append_assoc, roomIn_on]
  · simp only [List.cons_append, roomIn, wayAt_eq]
    exact if_neg hs
  · intro p hp'
    obtain ⟨j, hj, rfl⟩ := mem_upto.1 hp'
    exact hp j hj
theorem room_none {l : List Ent} {h : Int} (hp : ∀ j, j < l.length → (entOn l h j).f0 = 1) : roomIn (wayL l h) = -1 := by
  have := roomIn_on (wayL l h) [] (fun p hp' => by obtain ⟨j, hj, rfl⟩ := mem_upto.1 hp'; exact hp j hj)
  rw [List.append_nil] at this
  rw [this]; rfl
theorem room_cases (l : List Ent) (h : Int) : (roomIn (wayL l h) = -1 ∧ ∀ j, j < l.length → (entOn l h j).f0 = 1) ∨
    ∃ i, i < l.length ∧ (∀ j, j < i → (entOn l h j).f0 = 1) ∧ ¬ (entOn l h i).f0 = 1 ∧ roomIn (wayL l h) = pos h l.length i := by
  rcases first_stop (fun j => (entOn l h j).f0 = 1) l.length with hp | ⟨i, hi, hp, hs⟩
  · exact .inl ⟨room_none hp, hp⟩
  · exact .inr ⟨i, hi, hp, hs, room_at hi hp hs⟩

theorem join_some (h : Int) (s : ByteArray) (hs : s.size ≤ 140737488351232) : fnv_Join.f h s = some (hjoin h s.data.toList) := if_pos hs
theorem sum_some (s : ByteArray) (hs : s.size ≤ 140737488351232) : fnv_Sum.f s = some (hjoin 14695981039346656037 s.data.toList) := bind_of (join_some _ _ hs) rfl
theorem wrap_i64n (n : Int) (h0 : 1 ≤ n) (h1 : n ≤ 9223372036854775807) : IntKind.u64.wrap n = n := by simp [IntKind.wrap, IntKind.bits, IntKind.signed]; omega
theorem home_some (s : ByteArray) (n : Int) (hs : s.size ≤ 140737488351232) (hn : n ≤ 9223372036854775807) : ∃ h, probe_Home.f s n = some h ∧ (1 ≤ n → (0 ≤ h ∧ h < n) ∧ h = Int.tmod (hjoin 14695981039346656037 s.data.toList) n) ∧ (n < 1 → h = 0) := by
  by_cases c : n < 1
  · exact ⟨0, by unfold probe_Home.f; rw [if_pos c], fun h => by omega, fun _ => rfl⟩
  · have e : probe_Home.f s n = some (wrap64 (Int.tmod (hjoin 14695981039346656037 s.data.toList) n)) := by
      unfold probe_Home.f
      rw [if_neg c]
      refine bind_of (sum_some s hs) ?_
      rw [wrap_i64n n (by omega) hn, if_neg (by omega)]
    have r := home_range e (by omega) hn
    obtain ⟨j0, j1⟩ := hjoin_range 14695981039346656037 s.data.toList (by decide) (by decide)
    refine ⟨_, e, fun _ => ⟨r, ?_⟩, fun h => absurd h c⟩
    rw [Int.tmod_eq_emod_of_nonneg j0]
    have a := Int.emod_nonneg (hjoin 14695981039346656037 s.data.toList) (b := n) (by omega)
    have b := Int.emod_lt_of_pos (hjoin 14695981039346656037 s.data.toList) (b := n) (by omega)
    generalize hjoin 14695981039346656037 s.data.toList % n = q at *
    unfold wrap64
    omega

theorem find_some {l : List Ent} {key : ByteArray} {h : Int} (hl : l.length ≤ 1000000) (hh : probe_Home.f key l.length = some h) : probe_Find.f l key = some (findIn key (wayL l h)) := by
  unfold probe_Find.f
  rw [if_pos hl]
  exact bind_of hh rfl
theorem room_some {l : List Ent} {key : ByteArray} {h : Int} (hl : l.length ≤ 1000000) (hh : probe_Home.f key l.length = some h) : probe_Room.f l key = some (if 0 ≤ findIn key (wayL l h) then -1 else roomIn (wayL l h)) := by
  unfold probe_Room.f
  refine bind_of (find_some hl hh) ?_
  by_cases c : 0 ≤ findIn key (wayL l h)
  · rw [if_pos c, if_pos c]
  · rw [if_neg c, if_neg c]
    exact bind_of hh rfl
theorem wrap_succ {i n : Nat} (h : i < n) (hn : n ≤ 1000000) : wrap64 ((i : Int) + 1) = ((i + 1 : Nat) : Int) := by unfold wrap64; omega

theorem pos_tmod {h : Int} {n i : Nat} (h0 : 0 ≤ h) (h1 : h < n) (hi : i < n) (hn : n ≤ 1000000) : Int.tmod (wrap64 (h + (i : Int))) (n : Int) = pos h n i := by
  rw [show wrap64 (h + (i : Int)) = h + i by unfold wrap64; omega, Int.tmod_eq_emod_of_nonneg (by omega)]
  rfl

theorem find_range {l : List Ent} {key : ByteArray} {h : Int} : findIn key (wayL l h) = -1 ∨ (0 ≤ findIn key (wayL l h) ∧ findIn key (wayL l h) < l.length) := by
  rcases find_cases key l h with e | ⟨i, hi, _, _, _, e⟩
  · exact .inl e
  · rw [e]; exact .inr (pos_range i (by omega))
theorem room_range {l : List Ent} {h : Int} : roomIn (wayL l h) = -1 ∨ (0 ≤ roomIn (wayL l h) ∧ roomIn (wayL l h) < l.length) := by
  rcases room_cases l h with ⟨e, _⟩ | ⟨i, hi, _, _, e⟩
  · exact .inl e
  · rw [e]; exact .inr (pos_range i (by omega))
/-- Where a key's way begins. -/
def hm (key : ByteArray) (n : Nat) : Int := (probe_Home.f key n).getD 0
theorem hm_some {key : ByteArray} {n : Nat} (hs : key.size ≤ 140737488351232) (hn : n ≤ 1000000) : probe_Home.f key (n : Int) = some (hm key n) := by
  obtain ⟨h, hh, _⟩ := home_some key n hs (by omega)
  unfold hm
  rw [hh]; rfl
def fnd (l : List Ent) (key : ByteArray) : Int := findIn key (wayL l (hm key l.length))
def rm (l : List Ent) (key : ByteArray) : Int := roomIn (wayL l (hm key l.length))
theorem fnd_some {l : List Ent} {key : ByteArray} (hs : key.size ≤ 140737488351232) (hl : l.length ≤ 1000000) : probe_Find.f l key = some (fnd l key) := find_some hl (hm_some hs hl)
theorem fnd_range (l : List Ent) (key : ByteArray) : fnd l key = -1 ∨ (0 ≤ fnd l key ∧ fnd l key < l.length) := find_range
/-- What is put in. -/
def putR (l : List Ent) (x : Ent) : Bool × List Ent := if fnd l x.f1 < 0 then (if rm l x.f1 < 0 then (false, l) else (true, l.set (rm l x.f1).toNat x)) else (true, l.set (fnd l x.f1).toNat x)
theorem rm_range (l : List Ent) (key : ByteArray) : rm l key = -1 ∨ (0 ≤ rm l key ∧ rm l key < l.length) := room_range
theorem put_some {l : List Ent} (x : Ent) (hs : x.f1.size ≤ 140737488351232) (hl : l.length ≤ 1000000) : flows_table_put.f l x.f0 x.f1 x.f2 x.f3 = some (putR l x) := by
  unfold flows_table_put.f putR
  refine bind_of (fnd_some hs hl) ?_
  have r := fnd_range l x.f1
  have r2 := rm_range l x.f1
  by_cases c : fnd l x.f1 < 0
  · rw [if_pos c, if_pos c]
    have e := room_some hl (hm_some hs hl)
    rw [if_neg (show ¬ 0 ≤ findIn x.f1 (wayL l (hm x.f1 l.length)) from by unfold fnd at c; omega)] at e
    refine bind_of e ?_
    show (if rm l x.f1 < 0 then _ else _) = _
    by_cases c2 : rm l x.f1 < 0
    · rw [if_pos c2, if_pos c2]
    · rw [if_neg c2, if_neg c2, if_pos (show 0 ≤ roomIn _ from by unfold rm at c2; omega), if_pos (show roomIn _ < _ from by unfold rm at r2 c2; omega)]
      rfl
  · rw [if_neg c, if_neg c, if_pos (by omega), if_pos (by omega)]
theorem fput_some {l : List Ent} {key : ByteArray} (b d : Int) (hs : key.size ≤ 140737488351232) (hl : l.length ≤ 1000000) : flows_Put.f l key b d = some (if (putR l ⟨1, key, b, d⟩).1 = true then ((putR l ⟨1, key, b, d⟩).2, 0) else (l, 12)) := by
  unfold flows_Put.f
  rw [if_pos hl]
  exact bind_of (put_some ⟨1, key, b, d⟩ hs hl) rfl
theorem putR_length (l : List Ent) (x : Ent) : (putR l x).2.length = l.length := by
  unfold putR
  split
  · split <;> simp
  · simp
theorem rd_put (c j : Nat) (x : Ent) (hj : j < c) (k : Nat) (hk : k < c) : rd_T97 ((List.replicate c z97).set j x) (k : Int) = if k = j then x else z97 := by
  unfold rd_T97
  rw [Int.toNat_natCast, List.getD_eq_getElem?_getD, List.getElem?_set]
  by_cases h : j = k
  · subst h
    rw [if_pos rfl, if_pos (by rw [List.length_replicate]; exact hj), if_pos rfl]
    rfl
  · rw [if_neg h, if_neg (fun e => h e.symm), List.getElem?_replicate, if_pos hk]
    rfl
theorem live_put (c j : Nat) (x : Ent) (hj : j < c) (hx : x.f0 = 1) : ∀ k, k ≤ c → (liveUpto ((List.replicate c z97).set j x) k).length = if j < k then 1 else 0
  | 0, _ => by rw [if_neg (by omega)]; rfl
  | k + 1, hk => by
    rw [liveUpto_succ, List.length_append, live_put c j x hj hx k (by omega), rd_put c j x hj k (by omega)]
    by_cases h : k = j
    · subst h
      simp [hx]
    · have hz : (z97).f0 = 0 := rfl
      simp only [if_neg h, hz]
      by_cases h2 : j < k
      · rw [if_pos h2, if_pos (show j < k + 1 by omega)]
        rfl
      · rw [if_neg h2, if_neg (show ¬ j < k + 1 by omega)]
        rfl
theorem put_ok (c : Int) (key : ByteArray) (h1 : 1 ≤ c) (h2 : c ≤ 64) (hs : key.size ≤ 60) : PutOk c key := by
  obtain ⟨n, rfl⟩ : ∃ n : Nat, c = (n : Int) := ⟨c.toNat, by omega⟩
  have hl : (List.replicate n z97).length = n := List.length_replicate
  have hset : ∃ j, j < n ∧ putR (List.replicate n z97) ⟨1, key, 1, 1⟩ = (true, (List.replicate n z97).set j ⟨1, key, 1, 1⟩) := by
    unfold putR
    rcases fnd_range (List.replicate n z97) key with hf | ⟨hf0, hf1⟩
    · rcases rm_range (List.replicate n z97) key with hr | ⟨hr0, hr1⟩
      · exfalso
        have hr2 : roomIn (wayL (List.replicate n z97) (hm key (List.replicate n z97).length)) = -1 := hr
        rcases room_cases (List.replicate n z97) (hm key (List.replicate n z97).length) with ⟨_, ha⟩ | ⟨i, hi, ha⟩
        · have h0 := ha 0 (by rw [hl]; omega)
          have hp := pos_range (h := hm key (List.replicate n z97).length) (n := (List.replicate n z97).length) 0 (by rw [hl]; omega)
          have hz : (entOn (List.replicate n z97) (hm key (List.replicate n z97).length) 0).f0 = 0 := by
            obtain ⟨j, hj⟩ : ∃ j : Nat, pos (hm key (List.replicate n z97).length) (List.replicate n z97).length 0 = (j : Int) := ⟨(pos (hm key (List.replicate n z97).length) (List.replicate n z97).length 0).toNat, by omega⟩
            unfold entOn
            rw [hj]
            unfold rdE rd_T97
            rw [Int.toNat_natCast, List.getD_eq_getElem?_getD, List.getElem?_replicate]
            split <;> rfl
          omega
        · have hp := pos_range (h := hm key (List.replicate n z97).length) (n := (List.replicate n z97).length) i (by rw [hl]; omega)
          have h3 := ha
          first | (have := h3.1; omega) | (have := h3.2; omega) | (have := h3.2.1; omega) | (have := h3.2.2; omega) | omega
      · refine ⟨(rm (List.replicate n z97) key).toNat, by rw [hl] at hr1; omega, ?_⟩
        rw [if_pos (by show fnd (List.replicate n z97) key < 0; omega), if_neg (by show ¬ rm (List.replicate n z97) key < 0; omega)]
    · refine ⟨(fnd (List.replicate n z97) key).toNat, by rw [hl] at hf1; omega, ?_⟩
      rw [if_neg (by show ¬ fnd (List.replicate n z97) key < 0; omega)]
  obtain ⟨j, hj, hp⟩ := hset
  refine ⟨(List.replicate n z97).set j ⟨1, key, 1, 1⟩, 0, ?_, ?_, ?_⟩
  · rw [Int.toNat_natCast, fput_some 1 1 (by omega) (by rw [hl]; omega), hp]
    rfl
  · show ((liveUpto _ _).map _).length = 1
    rw [List.length_map, List.length_set, hl, live_put n j _ hj rfl n (Nat.le_refl _), if_pos hj]
  · rw [List.length_set, hl]; omega
theorem WorldApart : gangplanklaw18_WorldApart.Pure := by
  intro a b c d e i key _ _ _ _ _ _ _
  refine if_pos fun hc hk => ?_
  obtain ⟨_, _, ⟨h1, h2⟩, _⟩ := chk_zero hc
  exact put_ok c key h1 h2 hk
end Go.Proofs.YtbbgeobnjdgpfaaGreat.Pure
