/- Where a flow stands (package probe): what is found, the document's answers, tables that are alike. -/
import Derived.Test.YthdkkmeiihbafaaProbeLaw
import Derived.Test.YthdkkmeiihbafaaPx9
import Derived.Test.YthdkkmeiihbafaaPx8
import Derived.Test.YthdkkmeiihbafaaPx7
import Derived.Test.YthdkkmeiihbafaaPx2
set_option linter.unusedVariables false
set_option linter.unusedSimpArgs false
namespace Go.Proofs.Ythdkkmeiihbafaa.Pure
open Go.RowKit Go.Proofs.Ythdkkmeiihbafaa.P Go.Proofs.YthdkkmeiihbafaaW.PrintWords Go.Proofs.YthdkkmeiihbafaaW.PrintLast Go.Proofs.Ythdkkmeiihbafaa.Hand Go.Proofs.Ythdkkmeiihbafaa.ProbeLaw
theorem join_some (h : Int) (s : ByteArray) (hs : s.size ≤ 140737488351232) : fnv_Join.f h s = some (hjoin h s.data.toList) := if_pos hs
theorem sum_some (s : ByteArray) (hs : s.size ≤ 140737488351232) : fnv_Sum.f s = some (hjoin 14695981039346656037 s.data.toList) := bind_of (join_some _ _ hs) rfl
theorem refnext_some (h : Int) (b : UInt8) : gangplankref02_Next.f h (b.toNat : Int) = some (hstep h b) := rfl
theorem refjoin_loop (s : ByteArray) (hs : s.size ≤ 140737488351232) (d : Nat) : ∀ (k i : Nat) (h : Int), s.size - i = d → i ≤ s.size → d < k →
    gangplankref02_Join.l0 k h s (i : Int) = some (hjoin h (s.data.toList.drop i)) := by
  induction d with
  | zero =>
    intro k i h hd hi hk
    obtain ⟨k, rfl⟩ : ∃ m, k = m + 1 := ⟨k - 1, by omega⟩
    simp only [gangplankref02_Join.l0]
    rw [if_neg (by omega), List.drop_of_length_le (by simp; omega)]
    rfl
  | succ d ih =>
    intro k i h hd hi hk
    obtain ⟨k, rfl⟩ : ∃ m, k = m + 1 := ⟨k - 1, by omega⟩
    simp only [gangplankref02_Join.l0]
    have hlt : i < s.size := by omega
    have e : bt s (i : Int) = (s[i].toNat : Int) := by simp [bt, hlt]
    have w : wrap64 ((i : Int) + 1) = ((i + 1 : Nat) : Int) := by unfold wrap64; omega
    rw [if_pos (by omega), if_pos (by omega), e, refnext_some]
    simp only [Option.bind_some]
    have ed : s.data.toList.drop i = s[i] :: s.data.toList.drop (i + 1) := List.drop_eq_getElem_cons (by simpa using hlt)
    rw [w, ih k (i + 1) _ (by omega) (by omega) (by omega), ed]
    rfl
theorem refsum_eq (s : ByteArray) (hs : s.size ≤ 140737488351232) (k : Nat) (hk : s.size < k) : gangplankref02_Sum.f k s = fnv_Sum.f s := by
  rw [sum_some s hs]
  have := refjoin_loop s hs s.size k 0 14695981039346656037 (by omega) (by omega) hk
  unfold gangplankref02_Sum.f gangplankref02_Join.f
  exact bind_of (by simpa using this) rfl
theorem refhome_eq (s : ByteArray) (n : Int) (hs : s.size ≤ 140737488351232) (k : Nat) (hk : s.size < k) : gangplankref11_Home.f k s n = probe_Home.f s n := by
  unfold gangplankref11_Home.f probe_Home.f
  rw [refsum_eq s hs k hk]

theorem wrap_i64n (n : Int) (h0 : 1 ≤ n) (h1 : n ≤ 9223372036854775807) : IntKind.u64.wrap n = n := by simp [IntKind.wrap, IntKind.bits, IntKind.signed]; omega
theorem home_some (s : ByteArray) (n : Int) (hs : s.size ≤ 140737488351232) (hn : n ≤ 9223372036854775807) : ∃ h, probe_Home.f s n = some h ∧ (1 ≤ n → (0 ≤ h ∧ h < n) ∧ h = Int.tmod (hjoin 14695981039346656037 s.data.toList) n) ∧ (n < 1 → h = 0) := by
  by_cases c : n < 1
  · exact ⟨0, by unfold probe_Home.f; rw [if_pos c], fun h => by omega, fun _ => rfl⟩
  · have e : probe_Home.f s n = some (wrap64 (Int.tmod (hjoin 14695981039346656037 s.data.toList) n)) := by
      unfold probe_Home.f
      rw [if_neg c]
      refine bind_of (sum_some s hs) ?_
      rw [wrap_i64n n (by omega) hn, if_neg (by omega)]
    have r := home_range e (by omega) hn
    obtain ⟨j0, j1⟩ := hjoin_range 14695981039346656037 s.data.toList (by decide) (by decide)
    refine ⟨_, e, fun _ => ⟨r, ?_⟩, fun h => absurd h c⟩
    rw [Int.tmod_eq_emod_of_nonneg j0]
    have a := Int.emod_nonneg (hjoin 14695981039346656037 s.data.toList) (b := n) (by omega)
    have b := Int.emod_lt_of_pos (hjoin 14695981039346656037 s.data.toList) (b := n) (by omega)
    generalize hjoin 14695981039346656037 s.data.toList % n = q at *
    unfold wrap64
    omega

theorem find_some {l : List Ent} {key : ByteArray} {h : Int} (hl : l.length ≤ 1000000) (hh : probe_Home.f key l.length = some h) : probe_Find.f l key = some (findIn key (wayL l h)) := by
  unfold probe_Find.f
  rw [if_pos hl]
  exact bind_of hh rfl
theorem room_some {l : List Ent} {key : ByteArray} {h : Int} (hl : l.length ≤ 1000000) (hh : probe_Home.f key l.length = some h) : probe_Room.f l key = some (if 0 ≤ findIn key (wayL l h) then -1 else roomIn (wayL l h)) := by
  unfold probe_Room.f
  refine bind_of (find_some hl hh) ?_
  by_cases c : 0 ≤ findIn key (wayL l h)
  · rw [if_pos c, if_pos c]
  · rw [if_neg c, if_neg c]
    exact bind_of hh rfl
theorem count_some {l : List Ent} (st : Int) (hl : l.length ≤ 1000000) : probe_Count.f l st = some (countIn st l : Int) := if_pos hl

theorem wrap_succ {i n : Nat} (h : i < n) (hn : n ≤ 1000000) : wrap64 ((i : Int) + 1) = ((i + 1 : Nat) : Int) := by unfold wrap64; omega

theorem few_loop (l : List Ent) (hl : l.length ≤ 80) (d : Nat) : ∀ (k i : Nat), l.length - i = d → i ≤ l.length → d < k →
    (gangplankref11_Few.l0 k l (i : Int) = some false) ∨ (gangplankref11_Few.l0 k l (i : Int) = some true ∧ ∀ j, i ≤ j → j < l.length → (rdE l (j : Int)).f1.size ≤ 60) := by
  induction d with
  | zero =>
    intro k i hd hi hk
    obtain ⟨k, rfl⟩ : ∃ m, k = m + 1 := ⟨k - 1, by omega⟩
    simp only [gangplankref11_Few.l0]
    rw [if_neg (by omega)]
    exact .inr ⟨rfl, fun j h1 h2 => by omega⟩
  | succ d ih =>
    intro k i hd hi hk
    obtain ⟨k, rfl⟩ : ∃ m, k = m + 1 := ⟨k - 1, by omega⟩
    simp only [gangplankref11_Few.l0]
    rw [if_pos (by omega), if_pos (by omega)]
    by_cases c : ((rdE l (i : Int)).f1.size : Int) > 60
    · rw [if_pos c]; exact .inl rfl
    · rw [if_neg c, wrap_succ (n := l.length) (by omega) (by omega)]
      rcases ih k (i + 1) (by omega) (by omega) (by omega) with h | ⟨h, h2⟩
      · exact .inl h
      · refine .inr ⟨h, fun j h1 h3 => ?_⟩
        rcases Nat.lt_or_eq_of_le h1 with h4 | rfl
        · exact h2 j h4 h3
        · omega
theorem few_cases (l : List Ent) (k : Nat) (hk : 100 ≤ k) : gangplankref11_Few.f k l = some false ∨ (gangplankref11_Few.f k l = some true ∧ l.length ≤ 80) := by
  unfold gangplankref11_Few.f
  by_cases c : (l.length : Int) > 80
  · rw [if_pos c]; exact .inl rfl
  · rw [if_neg c]
    rcases few_loop l (by omega) l.length k 0 (by omega) (by omega) (by omega) with h | ⟨h, _⟩
    · exact .inl h
    · exact .inr ⟨h, by omega⟩

theorem pos_tmod {h : Int} {n i : Nat} (h0 : 0 ≤ h) (h1 : h < n) (hi : i < n) (hn : n ≤ 1000000) : Int.tmod (wrap64 (h + (i : Int))) (n : Int) = pos h n i := by
  rw [show wrap64 (h + (i : Int)) = h + i by unfold wrap64; omega, Int.tmod_eq_emod_of_nonneg (by omega)]
  rfl

theorem reffind_loop (l : List Ent) (key : ByteArray) (h : Int) (hl : l.length ≤ 1000000) (h0 : 0 ≤ h) (h1 : h < l.length) (d : Nat) : ∀ (k i : Nat), l.length - i = d → i ≤ l.length → d < k → (∀ j, j < i → goesOn key (entOn l h j)) →
    gangplankref11_Find.l0 k l key h (i : Int) = some (findIn key (wayL l h)) := by
  induction d with
  | zero =>
    intro k i hd hi hk hp
    obtain ⟨k, rfl⟩ : ∃ m, k = m + 1 := ⟨k - 1, by omega⟩
    simp only [gangplankref11_Find.l0]
    rw [if_neg (by omega), find_none (fun j hj => hp j (by omega))]
  | succ d ih =>
    intro k i hd hi hk hp
    obtain ⟨k, rfl⟩ : ∃ m, k = m + 1 := ⟨k - 1, by omega⟩
    have hlt : i < l.length := by omega
    have hr := pos_range (h := h) (n := l.length) i (by omega)
    simp only [gangplankref11_Find.l0]
    rw [if_pos (by omega), if_neg (by omega), pos_tmod h0 h1 hlt hl, if_pos hr.1, if_pos hr.2, wrap_succ (n := l.length) hlt hl]
    have next : goesOn key (entOn l h i) → gangplankref11_Find.l0 k l key h ((i + 1 : Nat) : Int) = some (findIn key (wayL l h)) := fun hg =>
      ih k (i + 1) (by omega) (by omega) (by omega) (fun j hj => (Nat.lt_or_eq_of_le (Nat.lt_succ_iff.1 hj)).elim (hp j) (fun e => by rw [e]; exact hg))
    show (if (entOn l h i).f0 = 0 then _ else if (entOn l h i).f0 = 1 then (if (entOn l h i).f1.toList = key.toList then _ else _) else _) = _
    by_cases c0 : (entOn l h i).f0 = 0
    · rw [if_pos c0, find_at hlt hp (fun hg => hg.1 c0), if_pos c0]
    · rw [if_neg c0]
      by_cases c1 : (entOn l h i).f0 = 1
      · rw [if_pos c1]
        by_cases c2 : (entOn l h i).f1.toList = key.toList
        · rw [if_pos c2, find_at hlt hp (fun hg => hg.2 ⟨c1, bytes_eq c2⟩), if_neg c0]
        · rw [if_neg c2]
          exact next ⟨c0, fun e => c2 (by rw [e.2])⟩
      · rw [if_neg c1]
        exact next ⟨c0, fun e => c1 e.1⟩
theorem reffind_some {l : List Ent} {key : ByteArray} {h : Int} (hl : l.length ≤ 1000000) (hs : key.size ≤ 140737488351232) (hh : probe_Home.f key l.length = some h) (k : Nat) (hk : key.size < k) (hk2 : l.length < k) : gangplankref11_Find.f k l key = some (findIn key (wayL l h)) := by
  unfold gangplankref11_Find.f
  refine bind_of ((refhome_eq key l.length hs k hk).trans hh) ?_
  by_cases c : l.length = 0
  · obtain ⟨k, rfl⟩ : ∃ m, k = m + 1 := ⟨k - 1, by omega⟩
    simp only [gangplankref11_Find.l0]
    rw [if_neg (by omega), find_none (fun j hj => by omega)]
  · obtain ⟨h0, h1⟩ := home_range hh (by omega) (by omega)
    exact reffind_loop l key h hl h0 h1 l.length k 0 (by omega) (by omega) hk2 (fun j hj => by omega)

theorem refroom_loop (l : List Ent) (h : Int) (hl : l.length ≤ 1000000) (h0 : 0 ≤ h) (h1 : h < l.length) (d : Nat) : ∀ (k i : Nat), l.length - i = d → i ≤ l.length → d < k → (∀ j, j < i → (entOn l h j).f0 = 1) →
    gangplankref11_Room.l0 k l h (i : Int) = some (roomIn (wayL l h)) := by
  induction d with
  | zero =>
    intro k i hd hi hk hp
    obtain ⟨k, rfl⟩ : ∃ m, k = m + 1 := ⟨k - 1, by omega⟩
    simp only [gangplankref11_Room.l0]
    rw [if_neg (by omega), room_none (fun j hj => hp j (by omega))]
  | succ d ih =>
    intro k i hd hi hk hp
    obtain ⟨k, rfl⟩ : ∃ m, k = m + 1 := ⟨k - 1, by omega⟩
    have hlt : i < l.length := by omega
    have hr := pos_range (h := h) (n := l.length) i (by omega)
    simp only [gangplankref11_Room.l0]
    rw [if_pos (by omega), if_neg (by omega), pos_tmod h0 h1 hlt hl, if_pos hr.1, if_pos hr.2, wrap_succ (n := l.length) hlt hl]
    show (if (entOn l h i).f0 = 1 then _ else _) = _
    by_cases c1 : (entOn l h i).f0 = 1
    · rw [if_pos c1]
      exact ih k (i + 1) (by omega) (by omega) (by omega) (fun j hj => (Nat.lt_or_eq_of_le (Nat.lt_succ_iff.1 hj)).elim (hp j) (fun e => by rw [e]; exact c1))
    · rw [if_neg c1, room_at hlt hp c1]
theorem refroom_some {l : List Ent} {key : ByteArray} {h : Int} (hl : l.length ≤ 1000000) (hs : key.size ≤ 140737488351232) (hh : probe_Home.f key l.length = some h) (k : Nat) (hk : key.size < k) (hk2 : l.length < k) :
    gangplankref11_Room.f k l key = some (if 0 ≤ findIn key (wayL l h) then -1 else roomIn (wayL l h)) := by
  unfold gangplankref11_Room.f
  refine bind_of (reffind_some hl hs hh k hk hk2) ?_
  by_cases c : 0 ≤ findIn key (wayL l h)
  · rw [if_pos c, if_pos c]
  · rw [if_neg (by omega), if_neg c]
    refine bind_of ((refhome_eq key l.length hs k hk).trans hh) ?_
    by_cases c : l.length = 0
    · obtain ⟨k, rfl⟩ : ∃ m, k = m + 1 := ⟨k - 1, by omega⟩
      simp only [gangplankref11_Room.l0]
      rw [if_neg (by omega), room_none (fun j hj => by omega)]
    · obtain ⟨h0, h1⟩ := home_range hh (by omega) (by omega)
      exact refroom_loop l h hl h0 h1 l.length k 0 (by omega) (by omega) hk2 (fun j hj => by omega)

theorem refcount_loop (l : List Ent) (st : Int) (hl : l.length ≤ 1000000) (d : Nat) : ∀ (k i : Nat), l.length - i = d → i ≤ l.length → d < k →
    gangplankref11_Count.l0 k l st (countIn st (l.take i) : Int) (i : Int) = some (countIn st l : Int) := by
  induction d with
  | zero =>
    intro k i hd hi hk
    obtain ⟨k, rfl⟩ : ∃ m, k = m + 1 := ⟨k - 1, by omega⟩
    simp only [gangplankref11_Count.l0]
    rw [if_neg (by omega), List.take_of_length_le (by omega)]
  | succ d ih =>
    intro k i hd hi hk
    obtain ⟨k, rfl⟩ : ∃ m, k = m + 1 := ⟨k - 1, by omega⟩
    have hlt : i < l.length := by omega
    simp only [gangplankref11_Count.l0]
    rw [if_pos (by omega), if_pos (by omega), wrap_succ (n := l.length) hlt hl]
    have hsn : countIn st (l.take (i + 1)) = countIn st (l.take i) + if (l[i].f0 == st) = true then 1 else 0 := by
      rw [List.take_succ_eq_append_getElem hlt, countIn_snoc]
    have hle := countIn_le st (l.take i)
    have hle2 : (l.take i).length ≤ i := List.length_take_le _ _
    have he := rdE_nat l i hlt
    have nx := ih k (i + 1) (by omega) (by omega) (by omega)
    rw [show rd_T31 l (i : Int) = l[i] from he]
    by_cases c : l[i].f0 = st
    · rw [if_pos c]
      rw [if_pos (by simpa using c)] at hsn
      rw [show wrap64 ((countIn st (l.take i) : Int) + 1) = (countIn st (l.take (i + 1)) : Int) by rw [hsn]; unfold wrap64; omega]
      exact nx
    · rw [if_neg c]
      rw [if_neg (by simpa using c)] at hsn
      rw [show countIn st (l.take i) = countIn st (l.take (i + 1)) by omega]
      exact nx
theorem refcount_some (l : List Ent) (st : Int) (hl : l.length ≤ 1000000) (k : Nat) (hk : l.length < k) : gangplankref11_Count.f k l st = some (countIn st l : Int) := by
  have := refcount_loop l st hl l.length k 0 (by omega) (by omega) hk
  unfold gangplankref11_Count.f
  simpa [countIn] using this

theorem same_loop (a b : List Ent) (n : Int) (hn : n = a.length) : ∀ (k : Nat) (i : Int), api_Entry_62.l0 k a b n i = gangplankref11_Same.l0 k a b i := by
  intro k
  induction k with
  | zero => intro i; rfl
  | succ k ih =>
    intro i
    subst hn
    simp only [api_Entry_62.l0, gangplankref11_Same.l0]
    rw [ih]
    by_cases c : i < (a.length : Int)
    · simp only [if_pos c]
    · rw [if_neg c, if_neg c]
theorem same_def (a b : List Ent) (ha : a.length ≤ 1000000) (hab : a.length = b.length) (d : Nat) : ∀ (k i : Nat), a.length - i = d → i ≤ a.length → d < k → ∃ r, gangplankref11_Same.l0 k a b (i : Int) = some r := by
  induction d with
  | zero =>
    intro k i hd hi hk
    obtain ⟨k, rfl⟩ : ∃ m, k = m + 1 := ⟨k - 1, by omega⟩
    simp only [gangplankref11_Same.l0]
    exact ⟨true, by rw [if_neg (by omega)]⟩
  | succ d ih =>
    intro k i hd hi hk
    obtain ⟨k, rfl⟩ : ∃ m, k = m + 1 := ⟨k - 1, by omega⟩
    simp only [gangplankref11_Same.l0]
    rw [if_pos (by omega), if_pos (by omega), if_pos (by omega), wrap_succ (n := a.length) (by omega) ha]
    split
    · exact ⟨_, rfl⟩
    · exact ih k (i + 1) (by omega) (by omega) (by omega)
theorem same_some (a b : List Ent) (ha : a.length ≤ 1000000) (k : Nat) (hk : a.length < k) : ∃ r, gangplankref11_Same.f k a b = some r ∧ probe_Same.f k a b = some r := by
  unfold gangplankref11_Same.f probe_Same.f api_Entry_62.f
  by_cases c : (a.length : Int) = b.length
  · rw [if_pos c, if_pos c, same_loop a b _ rfl]
    obtain ⟨r, hr⟩ := same_def a b ha (by omega) a.length k 0 (by omega) (by omega) hk
    exact ⟨r, hr, bind_of hr rfl⟩
  · rw [if_neg c, if_neg c]
    exact ⟨false, rfl, rfl⟩

theorem find_range {l : List Ent} {key : ByteArray} {h : Int} : findIn key (wayL l h) = -1 ∨ (0 ≤ findIn key (wayL l h) ∧ findIn key (wayL l h) < l.length) := by
  rcases find_cases key l h with e | ⟨i, hi, _, _, _, e⟩
  · exact .inl e
  · rw [e]; exact .inr (pos_range i (by omega))
theorem room_range {l : List Ent} {h : Int} : roomIn (wayL l h) = -1 ∨ (0 ≤ roomIn (wayL l h) ∧ roomIn (wayL l h) < l.length) := by
  rcases room_cases l h with ⟨e, _⟩ | ⟨i, hi, _, _, e⟩
  · exact .inl e
  · rw [e]; exact .inr (pos_range i (by omega))
theorem all_live {l : List Ent} {h : Int} (hr : l.length ≠ 0 → 0 ≤ h ∧ h < l.length) (ha : ∀ j, j < l.length → (entOn l h j).f0 = 1) : countIn 1 l = l.length := by
  refine count_all 1 l (fun j hj => ?_)
  obtain ⟨h0, h1⟩ := hr (by omega)
  obtain ⟨i, hi, e⟩ := pos_surj h0 h1 (j : Int) (by omega) (by omega)
  have := ha i hi
  unfold entOn at this
  rw [e, rdE_nat l j hj] at this
  exact this

theorem count_put (t : List Ent) (j : Int) (x : Ent) (h0 : 0 ≤ j) (h1 : j < t.length) : countIn 1 (t.set j.toNat x) + (if (rdE t j).f0 = 1 then 1 else 0) = countIn 1 t + (if x.f0 = 1 then 1 else 0) := by
  have := count_set 1 t j.toNat x (by omega)
  have e := rdE_nat t j.toNat (by omega)
  rw [Int.toNat_of_nonneg h0] at e
  rw [← e] at this
  exact this

theorem same_refl_loop (a : List Ent) (ha : a.length ≤ 1000000) (d : Nat) : ∀ (k i : Nat), a.length - i = d → i ≤ a.length → d < k → gangplankref11_Same.l0 k a a (i : Int) = some true := by
  induction d with
  | zero =>
    intro k i hd hi hk
    obtain ⟨k, rfl⟩ : ∃ m, k = m + 1 := ⟨k - 1, by omega⟩
    simp only [gangplankref11_Same.l0]
    rw [if_neg (by omega)]
  | succ d ih =>
    intro k i hd hi hk
    obtain ⟨k, rfl⟩ : ∃ m, k = m + 1 := ⟨k - 1, by omega⟩
    simp only [gangplankref11_Same.l0]
    rw [if_pos (by omega), if_pos (by omega), if_pos (by omega), wrap_succ (n := a.length) (by omega) ha, if_neg (by simp)]
    exact ih k (i + 1) (by omega) (by omega) (by omega)
theorem same_refl (a : List Ent) (ha : a.length ≤ 1000000) (k : Nat) (hk : a.length < k) : gangplankref11_Same.f k a a = some true ∧ probe_Same.f k a a = some true := by
  unfold gangplankref11_Same.f probe_Same.f api_Entry_62.f
  rw [if_pos rfl, if_pos rfl, same_loop a a _ rfl]
  have hr := same_refl_loop a ha a.length k 0 (by omega) (by omega) hk
  exact ⟨hr, bind_of hr rfl⟩

end Go.Proofs.Ythdkkmeiihbafaa.Pure
