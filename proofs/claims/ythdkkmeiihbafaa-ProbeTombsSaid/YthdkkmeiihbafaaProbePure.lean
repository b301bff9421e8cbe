/- The statements of where a flow stands (package probe), over numbers and lists. -/
import Derived.Test.YthdkkmeiihbafaaProbeLaw
import Derived.Test.YthdkkmeiihbafaaPx5
import Derived.Test.YthdkkmeiihbafaaPx6
import Derived.Test.YthdkkmeiihbafaaPx7
set_option linter.unusedVariables false
set_option linter.unusedSimpArgs false
namespace Go.Proofs.Ythdkkmeiihbafaa.Pure
open Go.RowKit Go.Proofs.Ythdkkmeiihbafaa.P Go.Proofs.YthdkkmeiihbafaaW.PrintWords Go.Proofs.YthdkkmeiihbafaaW.PrintLast Go.Proofs.Ythdkkmeiihbafaa.Hand Go.Proofs.Ythdkkmeiihbafaa.ProbeLaw

theorem works11_8 : gangplanklaw11_works.f 8 = some true := by decide +kernel
theorem works11 (k : Nat) (hk : 8 ≤ k) : gangplanklaw11_works.f k = some true := at_rounds gangplanklaw11_works.mono hk works11_8

theorem join_some (h : Int) (s : ByteArray) (hs : s.size ≤ 140737488351232) : fnv_Join.f h s = some (hjoin h s.data.toList) := if_pos hs
theorem sum_some (s : ByteArray) (hs : s.size ≤ 140737488351232) : fnv_Sum.f s = some (hjoin 14695981039346656037 s.data.toList) := bind_of (join_some _ _ hs) rfl
theorem refnext_some (h : Int) (b : UInt8) : gangplankref02_Next.f h (b.toNat : Int) = some (hstep h b) := rfl
theorem refjoin_loop (s : ByteArray) (hs : s.size ≤ 140737488351232) (d : Nat) : ∀ (k i : Nat) (h : Int), s.size - i = d → i ≤ s.size → d < k →
    gangplankref02_Join.l0 k h s (i : Int) = some (hjoin h (s.data.toList.drop i)) := by
  induction d with
  | zero =>
    intro k i h hd hi hk
    obtain ⟨k, rfl⟩ : ∃ m, k = m + 1 := ⟨k - 1, by omega⟩
    simp only [gangplankref02_Join.l0]
    rw [if_neg (by omega), List.drop_of_length_le (by simp; omega)]
    rfl
  | succ d ih =>
    intro k i h hd hi hk
    obtain ⟨k, rfl⟩ : ∃ m, k = m + 1 := ⟨k - 1, by omega⟩
    simp only [gangplankref02_Join.l0]
    have hlt : i < s.size := by omega
    have e : bt s (i : Int) = (s[i].toNat : Int) := by simp [bt, hlt]
    have w : wrap64 ((i : Int) + 1) = ((i + 1 : Nat) : Int) := by unfold wrap64; omega
    rw [if_pos (by omega), if_pos (by omega), e, refnext_some]
    simp only [Option.bind_some]
    have ed : s.data.toList.drop i = s[i] :: s.data.toList.drop (i + 1) := List.drop_eq_getElem_cons (by simpa using hlt)
    rw [w, ih k (i + 1) _ (by omega) (by omega) (by omega), ed]
    rfl
theorem refsum_eq (s : ByteArray) (hs : s.size ≤ 140737488351232) (k : Nat) (hk : s.size < k) : gangplankref02_Sum.f k s = fnv_Sum.f s := by
  rw [sum_some s hs]
  have := refjoin_loop s hs s.size k 0 14695981039346656037 (by omega) (by omega) hk
  unfold gangplankref02_Sum.f gangplankref02_Join.f
  exact bind_of (by simpa using this) rfl
theorem refhome_eq (s : ByteArray) (n : Int) (hs : s.size ≤ 140737488351232) (k : Nat) (hk : s.size < k) : gangplankref11_Home.f k s n = probe_Home.f s n := by
  unfold gangplankref11_Home.f probe_Home.f
  rw [refsum_eq s hs k hk]

theorem wrap_i64n (n : Int) (h0 : 1 ≤ n) (h1 : n ≤ 9223372036854775807) : IntKind.u64.wrap n = n := by simp [IntKind.wrap, IntKind.bits, IntKind.signed]; omega
theorem home_some (s : ByteArray) (n : Int) (hs : s.size ≤ 140737488351232) (hn : n ≤ 9223372036854775807) : ∃ h, probe_Home.f s n = some h ∧ (1 ≤ n → (0 ≤ h ∧ h < n) ∧ h = Int.tmod (hjoin 14695981039346656037 s.data.toList) n) ∧ (n < 1 → h = 0) := by
  by_cases c : n < 1
  · exact ⟨0, by unfold probe_Home.f; rw [if_pos c], fun h => by omega, fun _ => rfl⟩
  · have e : probe_Home.f s n = some (wrap64 (Int.tmod (hjoin 14695981039346656037 s.data.toList) n)) := by
      unfold probe_Home.f
      rw [if_neg c]
      refine bind_of (sum_some s hs) ?_
      rw [wrap_i64n n (by omega) hn, if_neg (by omega)]
    have r := home_range e (by omega) hn
    obtain ⟨j0, j1⟩ := hjoin_range 14695981039346656037 s.data.toList (by decide) (by decide)
    refine ⟨_, e, fun _ => ⟨r, ?_⟩, fun h => absurd h c⟩
    rw [Int.tmod_eq_emod_of_nonneg j0]
    have a := Int.emod_nonneg (hjoin 14695981039346656037 s.data.toList) (b := n) (by omega)
    have b := Int.emod_lt_of_pos (hjoin 14695981039346656037 s.data.toList) (b := n) (by omega)
    generalize hjoin 14695981039346656037 s.data.toList % n = q at *
    unfold wrap64
    omega

theorem find_some {l : List Ent} {key : ByteArray} {h : Int} (hl : l.length ≤ 1000000) (hh : probe_Home.f key l.length = some h) : probe_Find.f l key = some (findIn key (wayL l h)) := by
  unfold probe_Find.f
  rw [if_pos hl]
  exact bind_of hh rfl
theorem room_some {l : List Ent} {key : ByteArray} {h : Int} (hl : l.length ≤ 1000000) (hh : probe_Home.f key l.length = some h) : probe_Room.f l key = some (if 0 ≤ findIn key (wayL l h) then -1 else roomIn (wayL l h)) := by
  unfold probe_Room.f
  refine bind_of (find_some hl hh) ?_
  by_cases c : 0 ≤ findIn key (wayL l h)
  · rw [if_pos c, if_pos c]
  · rw [if_neg c, if_neg c]
    exact bind_of hh rfl
theorem count_some {l : List Ent} (st : Int) (hl : l.length ≤ 1000000) : probe_Count.f l st = some (countIn st l : Int) := if_pos hl

theorem wrap_succ {i n : Nat} (h : i < n) (hn : n ≤ 1000000) : wrap64 ((i : Int) + 1) = ((i + 1 : Nat) : Int) := by unfold wrap64; omega

theorem few_loop (l : List Ent) (hl : l.length ≤ 80) (d : Nat) : ∀ (k i : Nat), l.length - i = d → i ≤ l.length → d < k →
    (gangplankref11_Few.l0 k l (i : Int) = some false) ∨ (gangplankref11_Few.l0 k l (i : Int) = some true ∧ ∀ j, i ≤ j → j < l.length → (rdE l (j : Int)).f1.size ≤ 60) := by
  induction d with
  | zero =>
    intro k i hd hi hk
    obtain ⟨k, rfl⟩ : ∃ m, k = m + 1 := ⟨k - 1, by omega⟩
    simp only [gangplankref11_Few.l0]
    rw [if_neg (by omega)]
    exact .inr ⟨rfl, fun j h1 h2 => by omega⟩
  | succ d ih =>
    intro k i hd hi hk
    obtain ⟨k, rfl⟩ : ∃ m, k = m + 1 := ⟨k - 1, by omega⟩
    simp only [gangplankref11_Few.l0]
    rw [if_pos (by omega), if_pos (by omega)]
    by_cases c : ((rdE l (i : Int)).f1.size : Int) > 60
    · rw [if_pos c]; exact .inl rfl
    · rw [if_neg c, wrap_succ (n := l.length) (by omega) (by omega)]
      rcases ih k (i + 1) (by omega) (by omega) (by omega) with h | ⟨h, h2⟩
      · exact .inl h
      · refine .inr ⟨h, fun j h1 h3 => ?_⟩
        rcases Nat.lt_or_eq_of_le h1 with h4 | rfl
        · exact h2 j h4 h3
        · omega
theorem few_cases (l : List Ent) (k : Nat) (hk : 100 ≤ k) : gangplankref11_Few.f k l = some false ∨ (gangplankref11_Few.f k l = some true ∧ l.length ≤ 80) := by
  unfold gangplankref11_Few.f
  by_cases c : (l.length : Int) > 80
  · rw [if_pos c]; exact .inl rfl
  · rw [if_neg c]
    rcases few_loop l (by omega) l.length k 0 (by omega) (by omega) (by omega) with h | ⟨h, _⟩
    · exact .inl h
    · exact .inr ⟨h, by omega⟩

theorem pos_tmod {h : Int} {n i : Nat} (h0 : 0 ≤ h) (h1 : h < n) (hi : i < n) (hn : n ≤ 1000000) : Int.tmod (wrap64 (h + (i : Int))) (n : Int) = pos h n i := by
  rw [show wrap64 (h + (i : Int)) = h + i by unfold wrap64; omega, Int.tmod_eq_emod_of_nonneg (by omega)]
  rfl

theorem reffind_loop (l : List Ent) (key : ByteArray) (h : Int) (hl : l.length ≤ 1000000) (h0 : 0 ≤ h) (h1 : h < l.length) (d : Nat) : ∀ (k i : Nat), l.length - i = d → i ≤ l.length → d < k → (∀ j, j < i → goesOn key (entOn l h j)) →
    gangplankref11_Find.l0 k l key h (i : Int) = some (findIn key (wayL l h)) := by
  induction d with
  | zero =>
    intro k i hd hi hk hp
    obtain ⟨k, rfl⟩ : ∃ m, k = m + 1 := ⟨k - 1, by omega⟩
    simp only [gangplankref11_Find.l0]
    rw [if_neg (by omega), find_none (fun j hj => hp j (by omega))]
  | succ d ih =>
    intro k i hd hi hk hp
    obtain ⟨k, rfl⟩ : ∃ m, k = m + 1 := ⟨k - 1, by omega⟩
    have hlt : i < l.length := by omega
    have hr := pos_range (h := h) (n := l.length) i (by omega)
    simp only [gangplankref11_Find.l0]
    rw [if_pos (by omega), if_neg (by omega), pos_tmod h0 h1 hlt hl, if_pos hr.1, if_pos hr.2, wrap_succ (n := l.length) hlt hl]
    have next : goesOn key (entOn l h i) → gangplankref11_Find.l0 k l key h ((i + 1 : Nat) : Int) = some (findIn key (wayL l h)) := fun hg =>
      ih k (i + 1) (by omega) (by omega) (by omega) (fun j hj => (Nat.lt_or_eq_of_le (Nat.lt_succ_iff.1 hj)).elim (hp j) (fun e => by rw [e]; exact hg))
    show (if (entOn l h i).f0 = 0 then _ else if (entOn l h i).f0 = 1 then (if (entOn l h i).f1.toList = key.toList then _ else _) else _) = _
    by_cases c0 : (entOn l h i).f0 = 0
    · rw [if_pos c0, find_at hlt hp (fun hg => hg.1 c0), if_pos c0]
    · rw [if_neg c0]
      by_cases c1 : (entOn l h i).f0 = 1
      · rw [if_pos c1]
        by_cases c2 : (entOn l h i).f1.toList = key.toList
        · rw [if_pos c2, find_at hlt hp (fun hg => hg.2 ⟨c1, bytes_eq c2⟩), if_neg c0]
        · rw [if_neg c2]
          exact next ⟨c0, fun e => c2 (by rw [e.2])⟩
      · rw [if_neg c1]
        exact next ⟨c0, fun e => c1 e.1⟩
theorem reffind_some {l : List Ent} {key : ByteArray} {h : Int} (hl : l.length ≤ 1000000) (hs : key.size ≤ 140737488351232) (hh : probe_Home.f key l.length = some h) (k : Nat) (hk : key.size < k) (hk2 : l.length < k) : gangplankref11_Find.f k l key = some (findIn key (wayL l h)) := by
  unfold gangplankref11_Find.f
  refine bind_of ((refhome_eq key l.length hs k hk).trans hh) ?_
  by_cases c : l.length = 0
  · obtain ⟨k, rfl⟩ : ∃ m, k = m + 1 := ⟨k - 1, by omega⟩
    simp only [gangplankref11_Find.l0]
    rw [if_neg (by omega), find_none (fun j hj => by omega)]
  · obtain ⟨h0, h1⟩ := home_range hh (by omega) (by omega)
    exact reffind_loop l key h hl h0 h1 l.length k 0 (by omega) (by omega) hk2 (fun j hj => by omega)

theorem refroom_loop (l : List Ent) (h : Int) (hl : l.length ≤ 1000000) (h0 : 0 ≤ h) (h1 : h < l.length) (d : Nat) : ∀ (k i : Nat), l.length - i = d → i ≤ l.length → d < k → (∀ j, j < i → (entOn l h j).f0 = 1) →
    gangplankref11_Room.l0 k l h (i : Int) = some (roomIn (wayL l h)) := by
  induction d with
  | zero =>
    intro k i hd hi hk hp
    obtain ⟨k, rfl⟩ : ∃ m, k = m + 1 := ⟨k - 1, by omega⟩
    simp only [gangplankref11_Room.l0]
    rw [if_neg (by omega), room_none (fun j hj => hp j (by omega))]
  | succ d ih =>
    intro k i hd hi hk hp
    obtain ⟨k, rfl⟩ : ∃ m, k = m + 1 := ⟨k - 1, by omega⟩
    have hlt : i < l.length := by omega
    have hr := pos_range (h := h) (n := l.length) i (by omega)
    simp only [gangplankref11_Room.l0]
    rw [if_pos (by omega), if_neg (by omega), pos_tmod h0 h1 hlt hl, if_pos hr.1, if_pos hr.2, wrap_succ (n := l.length) hlt hl]
    show (if (entOn l h i).f0 = 1 then _ else _) = _
    by_cases c1 : (entOn l h i).f0 = 1
    · rw [if_pos c1]
      exact ih k (i + 1) (by omega) (by omega) (by omega) (fun j hj => (Nat.lt_or_eq_of_le (Nat.lt_succ_iff.1 hj)).elim (hp j) (fun e => by rw [e]; exact c1))
    · rw [if_neg c1, room_at hlt hp c1]
theorem refroom_some {l : List Ent} {key : ByteArray} {h : Int} (hl : l.length ≤ 1000000) (hs : key.size ≤ 140737488351232) (hh : probe_Home.f key l.length = some h) (k : Nat) (hk : key.size < k) (hk2 : l.length < k) :
    gangplankref11_Room.f k l key = some (if 0 ≤ findIn key (wayL l h) then -1 else roomIn (wayL l h)) := by
  unfold gangplankref11_Room.f
  refine bind_of (reffind_some hl hs hh k hk hk2) ?_
  by_cases c : 0 ≤ findIn key (wayL l h)
  · rw [if_pos c, if_pos c]
  · rw [if_neg (by omega), if_neg c]
    refine bind_of ((refhome_eq key l.length hs k hk).trans hh) ?_
    by_cases c : l.length = 0
    · obtain ⟨k, rfl⟩ : ∃ m, k = m + 1 := ⟨k - 1, by omega⟩
      simp only [gangplankref11_Room.l0]
      rw [if_neg (by omega), room_none (fun j hj => by omega)]
    · obtain ⟨h0, h1⟩ := home_range hh (by omega) (by omega)
      exact refroom_loop l h hl h0 h1 l.length k 0 (by omega) (by omega) hk2 (fun j hj => by omega)

theorem refcount_loop (l : List Ent) (st : Int) (hl : l.length ≤ 1000000) (d : Nat) : ∀ (k i : Nat), l.length - i = d → i ≤ l.length → d < k →
    gangplankref11_Count.l0 k l st (countIn st (l.take i) : Int) (i : Int) = some (countIn st l : Int) := by
  induction d with
  | zero =>
    intro k i hd hi hk
    obtain ⟨k, rfl⟩ : ∃ m, k = m + 1 := ⟨k - 1, by omega⟩
    simp only [gangplankref11_Count.l0]
    rw [if_neg (by omega), List.take_of_length_le (by omega)]
  | succ d ih =>
    intro k i hd hi hk
    obtain ⟨k, rfl⟩ : ∃ m, k = m + 1 := ⟨k - 1, by omega⟩
    have hlt : i < l.length := by omega
    simp only [gangplankref11_Count.l0]
    rw [if_pos (by omega), if_pos (by omega), wrap_succ (n := l.length) hlt hl]
    have hsn : countIn st (l.take (i + 1)) = countIn st (l.take i) + if (l[i].f0 == st) = true then 1 else 0 := by
      rw [List.take_succ_eq_append_getElem hlt, countIn_snoc]
    have hle := countIn_le st (l.take i)
    have hle2 : (l.take i).length ≤ i := List.length_take_le _ _
    have he := rdE_nat l i hlt
    have nx := ih k (i + 1) (by omega) (by omega) (by omega)
    rw [show rd_T31 l (i : Int) = l[i] from he]
    by_cases c : l[i].f0 = st
    · rw [if_pos c]
      rw [if_pos (by simpa using c)] at hsn
      rw [show wrap64 ((countIn st (l.take i) : Int) + 1) = (countIn st (l.take (i + 1)) : Int) by rw [hsn]; unfold wrap64; omega]
      exact nx
    · rw [if_neg c]
      rw [if_neg (by simpa using c)] at hsn
      rw [show countIn st (l.take i) = countIn st (l.take (i + 1)) by omega]
      exact nx
theorem refcount_some (l : List Ent) (st : Int) (hl : l.length ≤ 1000000) (k : Nat) (hk : l.length < k) : gangplankref11_Count.f k l st = some (countIn st l : Int) := by
  have := refcount_loop l st hl l.length k 0 (by omega) (by omega) hk
  unfold gangplankref11_Count.f
  simpa [countIn] using this

theorem same_loop (a b : List Ent) (n : Int) (hn : n = a.length) : ∀ (k : Nat) (i : Int), api_Entry_62.l0 k a b n i = gangplankref11_Same.l0 k a b i := by
  intro k
  induction k with
  | zero => intro i; rfl
  | succ k ih =>
    intro i
    subst hn
    simp only [api_Entry_62.l0, gangplankref11_Same.l0]
    rw [ih]
    by_cases c : i < (a.length : Int)
    · simp only [if_pos c]
    · rw [if_neg c, if_neg c]
theorem same_def (a b : List Ent) (ha : a.length ≤ 1000000) (hab : a.length = b.length) (d : Nat) : ∀ (k i : Nat), a.length - i = d → i ≤ a.length → d < k → ∃ r, gangplankref11_Same.l0 k a b (i : Int) = some r := by
  induction d with
  | zero =>
    intro k i hd hi hk
    obtain ⟨k, rfl⟩ : ∃ m, k = m + 1 := ⟨k - 1, by omega⟩
    simp only [gangplankref11_Same.l0]
    exact ⟨true, by rw [if_neg (by omega)]⟩
  | succ d ih =>
    intro k i hd hi hk
    obtain ⟨k, rfl⟩ : ∃ m, k = m + 1 := ⟨k - 1, by omega⟩
    simp only [gangplankref11_Same.l0]
    rw [if_pos (by omega), if_pos (by omega), if_pos (by omega), wrap_succ (n := a.length) (by omega) ha]
    split
    · exact ⟨_, rfl⟩
    · exact ih k (i + 1) (by omega) (by omega) (by omega)
theorem same_some (a b : List Ent) (ha : a.length ≤ 1000000) (k : Nat) (hk : a.length < k) : ∃ r, gangplankref11_Same.f k a b = some r ∧ probe_Same.f k a b = some r := by
  unfold gangplankref11_Same.f probe_Same.f api_Entry_62.f
  by_cases c : (a.length : Int) = b.length
  · rw [if_pos c, if_pos c, same_loop a b _ rfl]
    obtain ⟨r, hr⟩ := same_def a b ha (by omega) a.length k 0 (by omega) (by omega) hk
    exact ⟨r, hr, bind_of hr rfl⟩
  · rw [if_neg c, if_neg c]
    exact ⟨false, rfl, rfl⟩

theorem ProbeTells : gangplanklaw11_ProbeTells.Pure := by
  intro t u key n st _ _ _ _ hkey hn _
  obtain ⟨n0, n1⟩ := i64_wf hn
  refine ⟨202, ?_⟩
  unfold gangplanklaw11_ProbeTells.f
  refine bind_of (works11 _ (by omega)) ?_
  rw [if_pos rfl]
  have out : ∀ b : Bool, (b = true → t.length ≤ 80 ∧ u.length ≤ 80) → gangplanklaw11_ProbeTells.j0 202 t u key n st true b = some true := by
    intro b hb
    simp only [gangplanklaw11_ProbeTells.j0]
    cases b with
    | false => rw [if_neg (by decide)]; simp only [gangplanklaw11_ProbeTells.j1]; rw [if_pos (by trivial)]
    | true =>
      rw [if_pos (by trivial)]
      obtain ⟨ht, hu⟩ := hb rfl
      simp only [gangplanklaw11_ProbeTells.j1]
      by_cases c : (key.size : Int) > 60
      · rw [decide_eq_true c, if_pos (by trivial)]
      · rw [decide_eq_false c, if_neg (by decide)]
        obtain ⟨r, hr1, hr2⟩ := same_some t u (by omega) 200 (by omega)
        obtain ⟨h, hh, _⟩ := home_some key t.length hkey (by omega)
        obtain ⟨h', hh', _⟩ := home_some key n hkey (by omega)
        refine bind_of hr1 ?_
        rw [if_pos (by trivial)]
        refine bind_of (find_some (by omega) hh) (bind_of (reffind_some (by omega) hkey hh 200 (by omega) (by omega)) ?_)
        rw [if_pos rfl]
        refine bind_of (room_some (by omega) hh) (bind_of (refroom_some (by omega) hkey hh 200 (by omega) (by omega)) ?_)
        rw [if_pos rfl]
        refine bind_of hh' (bind_of ((refhome_eq key n hkey 200 (by omega)).trans hh') ?_)
        rw [if_pos rfl]
        refine bind_of (count_some st (by omega)) (bind_of (refcount_some t st (by omega) 200 (by omega)) ?_)
        rw [if_pos rfl]
        refine bind_of hr2 ?_
        rw [beq_self_eq_true]
  rcases few_cases t 202 (by omega) with h | ⟨h, ht⟩
  · exact bind_of h (by rw [if_neg (by decide)]; exact out false (fun h => by cases h))
  · refine bind_of h ?_
    rw [if_pos rfl]
    rcases few_cases u 202 (by omega) with h | ⟨h, hu⟩
    · exact bind_of h (out false (fun h => by cases h))
    · exact bind_of h (out true (fun _ => ⟨ht, hu⟩))

theorem find_range {l : List Ent} {key : ByteArray} {h : Int} : findIn key (wayL l h) = -1 ∨ (0 ≤ findIn key (wayL l h) ∧ findIn key (wayL l h) < l.length) := by
  rcases find_cases key l h with e | ⟨i, hi, _, _, _, e⟩
  · exact .inl e
  · rw [e]; exact .inr (pos_range i (by omega))
theorem room_range {l : List Ent} {h : Int} : roomIn (wayL l h) = -1 ∨ (0 ≤ roomIn (wayL l h) ∧ roomIn (wayL l h) < l.length) := by
  rcases room_cases l h with ⟨e, _⟩ | ⟨i, hi, _, _, e⟩
  · exact .inl e
  · rw [e]; exact .inr (pos_range i (by omega))
theorem all_live {l : List Ent} {h : Int} (hr : l.length ≠ 0 → 0 ≤ h ∧ h < l.length) (ha : ∀ j, j < l.length → (entOn l h j).f0 = 1) : countIn 1 l = l.length := by
  refine count_all 1 l (fun j hj => ?_)
  obtain ⟨h0, h1⟩ := hr (by omega)
  obtain ⟨i, hi, e⟩ := pos_surj h0 h1 (j : Int) (by omega) (by omega)
  have := ha i hi
  unfold entOn at this
  rw [e, rdE_nat l j hj] at this
  exact this

theorem ProbeFinds : gangplanklaw11_ProbeFinds.Pure := by
  intro t key _ _ hkey
  refine ⟨202, ?_⟩
  unfold gangplanklaw11_ProbeFinds.f
  refine bind_of (works11 _ (by omega)) ?_
  rw [if_pos rfl]
  have out : gangplanklaw11_ProbeFinds.j0 202 t key true true = some true := by simp only [gangplanklaw11_ProbeFinds.j0]; rw [if_pos (by trivial)]
  rcases few_cases t 202 (by omega) with h | ⟨h, ht⟩
  · exact bind_of h (by rw [if_neg (by decide)]; exact out)
  · refine bind_of h ?_
    rw [if_pos rfl]
    by_cases c : (key.size : Int) > 60
    · rw [decide_eq_true c]; exact out
    · rw [decide_eq_false c]
      simp only [gangplanklaw11_ProbeFinds.j0]
      rw [if_neg (by decide)]
      obtain ⟨h, hh, hr, _⟩ := home_some key t.length hkey (by omega)
      refine bind_of (find_some (by omega) hh) (bind_of (room_some (by omega) hh) ?_)
      rcases find_cases key t h with e | ⟨i, hi, hp, hf0, hf1, e⟩
      · rw [e, if_neg (show ¬ (0 : Int) ≤ -1 by decide)]
        rcases room_cases t h with ⟨q, ha⟩ | ⟨i, hi, hp, hs, q⟩
        · rw [q, if_neg (by omega), if_neg (by omega), if_neg (by omega), if_neg (by omega), if_neg (by omega)]
          simp only [gangplanklaw11_ProbeFinds.j1]
          rw [if_neg (by decide), if_neg (by omega), if_neg (by omega), if_pos (by trivial)]
          refine bind_of (count_some 1 (by omega)) ?_
          rw [all_live (h := h) (fun hn => (hr (by omega)).1) ha, beq_self_eq_true]
        · have r := pos_range (h := h) (n := t.length) i (by omega)
          rw [q, if_neg (by omega), if_neg (by omega), if_neg (by omega), if_neg (by omega), if_neg (by omega)]
          simp only [gangplanklaw11_ProbeFinds.j1]
          rw [if_neg (by decide), if_neg (by omega), if_pos r.1, if_pos (by trivial), if_pos r.1, if_pos r.2]
          have : (rd_T31 t (pos h t.length i)).f0 ≠ 1 := hs
          simpa using this
      · have r := pos_range (h := h) (n := t.length) i (by omega)
        rw [e, if_pos r.1, if_neg (by omega), if_neg (by omega), if_neg (by omega), if_neg (by omega), if_pos r.1, decide_eq_false (by decide)]
        simp only [gangplanklaw11_ProbeFinds.j1]
        rw [if_neg (by decide), if_pos r.1, if_pos (by trivial), if_pos r.1, if_pos r.2]
        have h0 : (rd_T31 t (pos h t.length i)).f0 = 1 := hf0
        have h1 : (rd_T31 t (pos h t.length i)).f1 = key := hf1
        rw [if_pos h0, h1, beq_self_eq_true]

theorem count_put (t : List Ent) (j : Int) (x : Ent) (h0 : 0 ≤ j) (h1 : j < t.length) : countIn 1 (t.set j.toNat x) + (if (rdE t j).f0 = 1 then 1 else 0) = countIn 1 t + (if x.f0 = 1 then 1 else 0) := by
  have := count_set 1 t j.toNat x (by omega)
  have e := rdE_nat t j.toNat (by omega)
  rw [Int.toNat_of_nonneg h0] at e
  rw [← e] at this
  exact this

theorem ProbePuts : gangplanklaw11_ProbePuts.Pure := by
  intro t key other _ _ hkey hother
  refine ⟨202, ?_⟩
  unfold gangplanklaw11_ProbePuts.f
  refine bind_of (works11 _ (by omega)) ?_
  rw [if_pos rfl]
  have out : gangplanklaw11_ProbePuts.j0 202 t key other true true = some true := by simp only [gangplanklaw11_ProbePuts.j0]; rw [if_pos (by trivial)]
  rcases few_cases t 202 (by omega) with h | ⟨h, ht⟩
  · exact bind_of h (by rw [if_neg (by decide)]; exact out)
  · refine bind_of h ?_
    rw [if_pos rfl]
    by_cases c : (key.size : Int) > 60
    · rw [if_pos c]; exact out
    · rw [if_neg c]
      by_cases c' : (other.size : Int) > 60
      · rw [decide_eq_true c']; exact out
      · rw [decide_eq_false c']
        simp only [gangplanklaw11_ProbePuts.j0]
        rw [if_neg (by decide)]
        obtain ⟨h, hh, hr, _⟩ := home_some key t.length hkey (by omega)
        obtain ⟨g, hg, _, _⟩ := home_some other t.length hother (by omega)
        refine bind_of (room_some (by omega) hh) ?_
        have neg : ∀ q : Int, q = -1 → (if q < 0 then gangplanklaw11_ProbePuts.j1 201 t key other true q true else gangplanklaw11_ProbePuts.j1 201 t key other true q (decide (q ≥ (t.length : Int)))) = some true := by
          rintro q rfl
          rw [if_pos (by decide)]
          simp only [gangplanklaw11_ProbePuts.j1]
          rw [if_pos (by trivial), if_pos (by trivial)]
          rfl
        by_cases e0 : 0 ≤ findIn key (wayL t h)
        · rw [if_pos e0]; exact neg _ rfl
        · rw [if_neg e0]
          rcases room_cases t h with ⟨q, _⟩ | ⟨i, hi, hp, hs, q⟩
          · exact neg _ q
          · have r := pos_range (h := h) (n := t.length) i (by omega)
            rw [q, if_neg (by omega), decide_eq_false (by omega)]
            simp only [gangplanklaw11_ProbePuts.j1]
            rw [if_neg (by decide)]
            refine bind_of rfl ?_
            rw [if_pos (by simp; omega)]
            refine bind_of rfl ?_
            rw [List.nil_append, if_pos r.1, if_pos r.2]
            refine bind_of rfl ?_
            have hlen : (t.set (pos h t.length i).toNat (⟨1, key, 0, 0⟩ : Ent)).length = t.length := List.length_set
            have hh' : probe_Home.f key ((t.set (pos h t.length i).toNat (⟨1, key, 0, 0⟩ : Ent)).length : Int) = some h := by rw [hlen]; exact hh
            have hg' : probe_Home.f other ((t.set (pos h t.length i).toNat (⟨1, key, 0, 0⟩ : Ent)).length : Int) = some g := by rw [hlen]; exact hg
            have gone := find_neg (key := key) (l := t) (h := h) (by omega) hi hp
            have fk : findIn key (wayL (t.set (pos h t.length i).toNat (⟨1, key, 0, 0⟩ : Ent)) h) = pos h t.length i := by
              have ei : entOn (t.set (pos h t.length i).toNat (⟨1, key, 0, 0⟩ : Ent)) h i = ⟨1, key, 0, 0⟩ := by rw [entOn_set _ _ _ _ _ r.1 r.2 hi, if_pos rfl]
              rw [find_at (i := i) (by omega) (fun j hj => ?_) (by rw [ei]; exact fun hg => hg.2 ⟨rfl, rfl⟩), ei, if_neg (show ¬ (1 : Int) = 0 by decide), hlen]
              rw [entOn_set _ _ _ _ _ r.1 r.2 (by omega), if_neg (fun e => by have := pos_inj (by omega) hi e; omega)]
              exact gone j hj
            refine bind_of (find_some (by omega) hg) (bind_of (find_some (by omega) hg') (bind_of (find_some (by omega) hh') ?_))
            rw [if_pos fk]
            refine bind_of (count_some 1 (by omega)) (bind_of (count_some 1 (by omega)) ?_)
            have cp := count_put t (pos h t.length i) ⟨1, key, 0, 0⟩ r.1 r.2
            rw [if_neg (show ¬ (rdE t (pos h t.length i)).f0 = 1 from hs), if_pos rfl] at cp
            have cl := countIn_le 1 t
            rw [if_pos (by rw [show wrap64 ((countIn 1 t : Int) + 1) = ((countIn 1 t + 1 : Nat) : Int) by unfold wrap64; omega]; omega), if_pos (by trivial)]
            by_cases ek : key.toList = other.toList
            · rw [if_pos ek]
            · rw [if_neg ek]
              rcases find_cases other t g with f | ⟨i2, hi2, hp2, hl0, hl1, f⟩
              · rw [if_pos (by omega)]
              · have r2 := pos_range (h := g) (n := t.length) i2 (by omega)
                rw [if_neg (by omega)]
                have hko : ¬ key = other := fun e => ek (by rw [e])
                have ne : ∀ j, j < t.length → pos g t.length j = pos h t.length i → ¬ (entOn t g j).f0 = 1 := fun j hj e => by
                  unfold entOn; rw [e]; exact hs
                have ei : entOn (t.set (pos h t.length i).toNat (⟨1, key, 0, 0⟩ : Ent)) g i2 = entOn t g i2 := by
                  rw [entOn_set _ _ _ _ _ r.1 r.2 hi2, if_neg (fun e => ne i2 hi2 e hl0)]
                rw [find_at (i := i2) (by omega) (fun j hj => ?_) (by rw [ei]; exact fun hg => hg.2 ⟨hl0, hl1⟩), ei, if_neg (by rw [hl0]; decide), hlen, f, beq_self_eq_true]
                rw [entOn_set _ _ _ _ _ r.1 r.2 (by omega)]
                by_cases e : pos g t.length j = pos h t.length i
                · rw [if_pos e]; exact ⟨show (1 : Int) ≠ 0 by decide, fun x => hko x.2⟩
                · rw [if_neg e]; exact hp2 j hj

theorem ProbeTombs : gangplanklaw11_ProbeTombs.Pure := by
  intro t key other _ _ hkey hother
  refine ⟨202, ?_⟩
  unfold gangplanklaw11_ProbeTombs.f
  refine bind_of (works11 _ (by omega)) ?_
  rw [if_pos rfl]
  have out : gangplanklaw11_ProbeTombs.j0 202 t key other true true = some true := by simp only [gangplanklaw11_ProbeTombs.j0]; rw [if_pos (by trivial)]
  rcases few_cases t 202 (by omega) with h | ⟨h, ht⟩
  · exact bind_of h (by rw [if_neg (by decide)]; exact out)
  · refine bind_of h ?_
    rw [if_pos rfl]
    by_cases c : (key.size : Int) > 60
    · rw [if_pos c]; exact out
    · rw [if_neg c]
      by_cases c' : (other.size : Int) > 60
      · rw [decide_eq_true c']; exact out
      · rw [decide_eq_false c']
        simp only [gangplanklaw11_ProbeTombs.j0]
        rw [if_neg (by decide)]
        obtain ⟨h, hh, hr, _⟩ := home_some key t.length hkey (by omega)
        obtain ⟨g, hg, _, _⟩ := home_some other t.length hother (by omega)
        refine bind_of (find_some (by omega) hh) ?_
        rcases find_cases key t h with e | ⟨i, hi, hp, hf0, hf1, e⟩
        · rw [e, if_pos (by decide)]
          simp only [gangplanklaw11_ProbeTombs.j1]
          rw [if_pos (by trivial), if_pos (by trivial)]
          rfl
        · have r := pos_range (h := h) (n := t.length) i (by omega)
          rw [e, if_neg (by omega), decide_eq_false (by omega)]
          simp only [gangplanklaw11_ProbeTombs.j1]
          rw [if_neg (by decide)]
          refine bind_of rfl ?_
          rw [if_pos (by simp; omega)]
          refine bind_of rfl ?_
          rw [List.nil_append, if_pos r.1, if_pos r.2]
          refine bind_of rfl ?_
          rw [if_pos (by trivial)]
          have hlen : (t.set (pos h t.length i).toNat (⟨2, ⟨#[]⟩, 0, 0⟩ : Ent)).length = t.length := List.length_set
          have hg' : probe_Home.f other ((t.set (pos h t.length i).toNat (⟨2, ⟨#[]⟩, 0, 0⟩ : Ent)).length : Int) = some g := by rw [hlen]; exact hg
          have cp := count_put t (pos h t.length i) ⟨2, ⟨#[]⟩, 0, 0⟩ r.1 r.2
          rw [if_pos (show (rdE t (pos h t.length i)).f0 = 1 from hf0), if_neg (show ¬ (2 : Int) = 1 by decide)] at cp
          have cl := countIn_le 1 t
          have counts : ((probe_Count.f (t.set (pos h t.length i).toNat (⟨2, ⟨#[]⟩, 0, 0⟩ : Ent)) 1).bind fun a => (probe_Count.f t 1).bind fun b => some (a == wrap64 (b - 1))) = some true := by
            refine bind_of (count_some 1 (by omega)) (bind_of (count_some 1 (by omega)) ?_)
            rw [show wrap64 ((countIn 1 t : Int) - 1) = (countIn 1 (t.set (pos h t.length i).toNat (⟨2, ⟨#[]⟩, 0, 0⟩ : Ent)) : Int) by unfold wrap64; omega, beq_self_eq_true]
          by_cases ek : key.toList = other.toList
          · rw [if_pos ek]; exact counts
          · rw [if_neg ek]
            have hko : ¬ key = other := fun e => ek (by rw [e])
            refine bind_of (find_some (by omega) hg') (bind_of (find_some (by omega) hg) ?_)
            rw [if_pos]
            · exact counts
            · refine find_congr hlen (fun j hj => ?_)
              rw [entOn_set _ _ _ _ _ r.1 r.2 hj]
              by_cases e : pos g t.length j = pos h t.length i
              · right
                rw [if_pos e]
                refine ⟨⟨show (2 : Int) ≠ 0 by decide, fun x => absurd x.1 (show ¬ (2 : Int) = 1 by decide)⟩, ?_⟩
                have e2 : entOn t g j = entOn t h i := by unfold entOn; rw [e]
                rw [e2]
                exact ⟨by rw [hf0]; decide, fun x => hko (hf1.symm.trans x.2)⟩
              · rw [if_neg e]; exact .inl rfl

theorem entOn_zero (n : Nat) (h : Int) (i : Nat) (hi : i < n) : entOn (List.replicate n z31) h i = z31 := by
  unfold entOn
  have r := pos_range (h := h) (n := n) i (by omega)
  rw [List.length_replicate]
  have e := rdE_nat (List.replicate n z31) (pos h n i).toNat (by simp; omega)
  rw [Int.toNat_of_nonneg r.1] at e
  rw [e]; simp

theorem key_q (key : ByteArray) : ¬ key ++ (⟨#[63]⟩ : ByteArray) = key := fun e => by
  have := congrArg ByteArray.size e
  rw [ByteArray.size_append] at this
  have h1 : (⟨#[63]⟩ : ByteArray).size = 1 := rfl
  omega

theorem way_loop (key : ByteArray) (n m : Nat) (h : Int) (hs : key.size ≤ 60) (hn : n ≤ 64) (hm : m < n) (h0 : 0 ≤ h) (h1 : h < n) (hh : probe_Home.f key n = some h) (d : Nat) : ∀ (k i : Nat) (T : List Ent), m - i = d → i ≤ m → d < k → T.length = n →
    (∀ j, j < n → entOn T h j = if j < i then ⟨1, key ++ (⟨#[63]⟩ : ByteArray), 0, 0⟩ else z31) → gangplanklaw11_ProbeWay.l0 k key (n : Int) (m : Int) true T h (i : Int) = some true := by
  induction d with
  | zero =>
    intro k i T hd hi hk hT hE
    obtain ⟨k, rfl⟩ : ∃ m, k = m + 1 := ⟨k - 1, by omega⟩
    obtain rfl : i = m := by omega
    have r := pos_range (h := h) (n := n) i (by omega)
    simp only [gangplanklaw11_ProbeWay.l0]
    rw [if_neg (by omega), if_neg (by omega), pos_tmod h0 h1 hm (by omega)]
    have hh' : probe_Home.f key (T.length : Int) = some h := by rw [hT]; exact hh
    have on : ∀ j, j < i → goesOn key (entOn T h j) := fun j hj => by
      rw [hE j (by omega), if_pos hj]
      exact ⟨show (1 : Int) ≠ 0 by decide, fun x => key_q key x.2⟩
    have ei : entOn T h i = z31 := by rw [hE i (by omega), if_neg (by omega)]
    have fm : findIn key (wayL T h) = -1 := by
      rw [find_at (i := i) (by omega) on (by rw [ei]; exact fun hg => hg.1 rfl), ei, if_pos (show z31.f0 = 0 from rfl)]
    have rm : roomIn (wayL T h) = pos h n i := by
      rw [room_at (i := i) (by omega) (fun j hj => by rw [hE j (by omega), if_pos hj]) (by rw [ei]; decide), hT]
    refine bind_of (room_some (by omega) hh') ?_
    rw [if_neg (show ¬ 0 ≤ findIn key (wayL T h) by omega), rm, if_pos rfl, if_pos r.1, if_pos (by rw [hT]; exact r.2), if_pos (by trivial)]
    have hlen : (T.set (pos h n i).toNat (⟨1, key, 0, 0⟩ : Ent)).length = n := by rw [List.length_set, hT]
    have hh2 : probe_Home.f key ((T.set (pos h n i).toNat (⟨1, key, 0, 0⟩ : Ent)).length : Int) = some h := by rw [hlen]; exact hh
    refine bind_of (find_some (by omega) hh2) ?_
    have es : ∀ j, j < n → entOn (T.set (pos h n i).toNat (⟨1, key, 0, 0⟩ : Ent)) h j = if pos h n j = pos h n i then ⟨1, key, 0, 0⟩ else entOn T h j := fun j hj => by
      rw [entOn_set _ _ _ _ _ r.1 (by rw [hT]; exact r.2) (by omega), hT]
    have e2 : entOn (T.set (pos h n i).toNat (⟨1, key, 0, 0⟩ : Ent)) h i = ⟨1, key, 0, 0⟩ := by rw [es i hm, if_pos rfl]
    rw [find_at (i := i) (by omega) (fun j hj => ?_) (by rw [e2]; exact fun hg => hg.2 ⟨rfl, rfl⟩), e2, if_neg (show ¬ (1 : Int) = 0 by decide), hlen, beq_self_eq_true]
    rw [es j (by omega), if_neg (fun e => by have := pos_inj (by omega) hm e; omega)]
    exact on j hj
  | succ d ih =>
    intro k i T hd hi hk hT hE
    obtain ⟨k, rfl⟩ : ∃ m, k = m + 1 := ⟨k - 1, by omega⟩
    have r := pos_range (h := h) (n := n) i (by omega)
    simp only [gangplanklaw11_ProbeWay.l0]
    rw [if_pos (by omega), if_neg (by omega), if_pos (by omega), pos_tmod h0 h1 (by omega) (by omega), if_pos r.1, if_pos (by rw [hT]; exact r.2), wrap_succ (n := n) (by omega) (by omega)]
    refine ih k (i + 1) _ (by omega) (by omega) (by omega) (by rw [List.length_set, hT]) (fun j hj => ?_)
    rw [entOn_set _ _ _ _ _ r.1 (by rw [hT]; exact r.2) (by omega), hT]
    by_cases e : j = i
    · subst e; rw [if_pos rfl, if_pos (by omega)]
    · rw [if_neg (fun e' => e (pos_inj hj (by omega) e')), hE j hj]
      by_cases c : j < i
      · rw [if_pos c, if_pos (by omega)]
      · rw [if_neg c, if_neg (by omega)]

theorem ProbeWay : gangplanklaw11_ProbeWay.Pure := by
  intro key a1 a2 hkey _ _
  refine ⟨100, ?_⟩
  unfold gangplanklaw11_ProbeWay.f
  refine bind_of (works11 _ (by omega)) ?_
  rw [if_pos rfl]
  have out : gangplanklaw11_ProbeWay.j0 100 key a1 a2 true true = some true := by simp only [gangplanklaw11_ProbeWay.j0]; rw [if_pos (by trivial)]
  by_cases c : (key.size : Int) > 60
  · rw [if_pos c]; exact out
  rw [if_neg c]
  by_cases c1 : a1 < 1
  · rw [if_pos c1]; exact out
  rw [if_neg c1]
  by_cases c2 : a1 > 64
  · rw [if_pos c2]; exact out
  rw [if_neg c2]
  by_cases c3 : a2 < 0
  · rw [if_pos c3]; exact out
  rw [if_neg c3]
  by_cases c4 : a2 ≥ a1
  · rw [decide_eq_true c4]; exact out
  rw [decide_eq_false c4]
  obtain ⟨n, rfl⟩ := Int.eq_ofNat_of_zero_le (show 0 ≤ a1 by omega)
  obtain ⟨m, rfl⟩ := Int.eq_ofNat_of_zero_le (show 0 ≤ a2 by omega)
  simp only [gangplanklaw11_ProbeWay.j0]
  rw [if_neg (by decide), if_pos (by omega), if_pos (by omega), Int.toNat_natCast]
  refine bind_of rfl ?_
  obtain ⟨h, hh, hr, _⟩ := home_some key (n : Int) hkey (by omega)
  obtain ⟨⟨h0, h1⟩, _⟩ := hr (by omega)
  have hlen : (List.replicate n z31).length = n := List.length_replicate
  have hh' : probe_Home.f key ((List.replicate n z31).length : Int) = some h := by rw [hlen]; exact hh
  refine bind_of hh ?_
  rw [if_neg (by omega), if_neg (by omega)]
  have e0 := entOn_zero n h 0 (by omega)
  have f0 : findIn key (wayL (List.replicate n z31) h) = -1 := by
    rw [find_at (i := 0) (by omega) (fun j hj => by omega) (by rw [e0]; exact fun hg => hg.1 rfl), e0, if_pos (show z31.f0 = 0 from rfl)]
  have r0 : roomIn (wayL (List.replicate n z31) h) = h := by
    rw [room_at (i := 0) (by omega) (fun j hj => by omega) (by rw [e0]; decide), hlen]
    unfold pos
    rw [show h + ((0 : Nat) : Int) = h by omega]
    exact Int.emod_eq_of_lt h0 h1
  refine bind_of (room_some (by omega) hh') ?_
  rw [if_neg (show ¬ 0 ≤ findIn key (wayL (List.replicate n z31) h) by omega), if_pos r0]
  refine bind_of (find_some (by omega) hh') ?_
  rw [f0]
  show gangplanklaw11_ProbeWay.j1 99 key (n : Int) (m : Int) true (List.replicate n z31) h false = some true
  simp only [gangplanklaw11_ProbeWay.j1]
  rw [if_neg (by decide)]
  exact way_loop key n m h (by omega) (by omega) (by omega) h0 h1 hh m 98 0 _ (by omega) (by omega) (by omega) hlen (fun j hj => by rw [entOn_zero n h j hj, if_neg (by omega)])

theorem ProbeHome : gangplanklaw11_ProbeHome.Pure := by
  intro key n hkey hn
  obtain ⟨n0, n1⟩ := i64_wf hn
  refine ⟨8, ?_⟩
  unfold gangplanklaw11_ProbeHome.f
  refine bind_of (works11 _ (by omega)) ?_
  rw [if_pos rfl]
  by_cases c : (key.size : Int) > 60
  · rw [if_pos c]
  · rw [if_neg c]
    obtain ⟨h, hh, h1, h2⟩ := home_some key n hkey (by omega)
    refine bind_of hh ?_
    by_cases c2 : n < 1
    · rw [if_pos c2, h2 c2]; rfl
    · rw [if_neg c2]
      obtain ⟨⟨r0, r1⟩, r2⟩ := h1 (by omega)
      rw [if_pos (by omega), if_pos r1]
      refine bind_of (sum_some key hkey) ?_
      rw [wrap_i64n n (by omega) (by omega), if_neg (by omega), ← r2]
      have : IntKind.u64.wrap h = h := by simp [IntKind.wrap, IntKind.bits, IntKind.signed]; omega
      rw [this, beq_self_eq_true]

end Go.Proofs.Ythdkkmeiihbafaa.Pure
