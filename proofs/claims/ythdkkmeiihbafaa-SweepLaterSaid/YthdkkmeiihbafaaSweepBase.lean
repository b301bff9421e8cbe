/- Tables that are swept: what is said of tables of flows, and of a sweep. Laws with no program in sight. -/
import Derived.Test.YthdkkmeiihbafaaFlowBase
import Derived.Test.YthdkkmeiihbafaaPx7
import Derived.Test.YthdkkmeiihbafaaPx2
import Derived.Test.YthdkkmeiihbafaaPx3
set_option linter.unusedVariables false
set_option linter.unusedSimpArgs false
namespace Go.Proofs.Ythdkkmeiihbafaa.Pure
open Go.RowKit Go.Proofs.Ythdkkmeiihbafaa.P Go.Proofs.YthdkkmeiihbafaaW.PrintWords Go.Proofs.YthdkkmeiihbafaaW.PrintLast Go.Proofs.YthdkkmeiihbafaaW.PrintMore Go.Proofs.Ythdkkmeiihbafaa.Hand Go.Proofs.Ythdkkmeiihbafaa.ProbeLaw
/-- Where a key's way begins. -/
def hm (key : ByteArray) (n : Nat) : Int := (probe_Home.f key n).getD 0
theorem hm_some {key : ByteArray} {n : Nat} (hs : key.size ≤ 140737488351232) (hn : n ≤ 1000000) : probe_Home.f key (n : Int) = some (hm key n) := by
  obtain ⟨h, hh, _⟩ := home_some key n hs (by omega)
  unfold hm
  rw [hh]; rfl
def fnd (l : List Ent) (key : ByteArray) : Int := findIn key (wayL l (hm key l.length))
def rm (l : List Ent) (key : ByteArray) : Int := roomIn (wayL l (hm key l.length))
theorem fnd_some {l : List Ent} {key : ByteArray} (hs : key.size ≤ 140737488351232) (hl : l.length ≤ 1000000) : probe_Find.f l key = some (fnd l key) := find_some hl (hm_some hs hl)
theorem fnd_range (l : List Ent) (key : ByteArray) : fnd l key = -1 ∨ (0 ≤ fnd l key ∧ fnd l key < l.length) := find_range
theorem fnd_live {l : List Ent} {key : ByteArray} (h : 0 ≤ fnd l key) : (rdE l (fnd l key)).f0 = 1 ∧ (rdE l (fnd l key)).f1 = key := by
  rcases find_cases key l (hm key l.length) with f | ⟨i, hi, hp, h0, h1, f⟩
  · unfold fnd at h; omega
  · have e : fnd l key = pos (hm key l.length) l.length i := f
    rw [e]; exact ⟨h0, h1⟩

/-- Another entry at a place, over which a key's way goes on, and where the key did not stand: it stands where it stood. -/
theorem set_fnd {l : List Ent} {j : Int} {x : Ent} {key : ByteArray} (h0 : 0 ≤ j) (h1 : j < l.length) (hx : goesOn key x) (hj : ¬ ((rdE l j).f0 = 1 ∧ (rdE l j).f1 = key)) (h : 0 ≤ fnd l key) : fnd (l.set j.toNat x) key = fnd l key := by
  rcases find_cases key l (hm key l.length) with f | ⟨i, hi, hp, hl0, hl1, f⟩
  · unfold fnd at h; omega
  · have hlen : (l.set j.toNat x).length = l.length := List.length_set
    have ei : entOn (l.set j.toNat x) (hm key l.length) i = entOn l (hm key l.length) i := by
      rw [entOn_set _ _ _ _ _ h0 h1 hi, if_neg (fun e => hj (by unfold entOn at hl0 hl1; rw [e] at hl0 hl1; exact ⟨hl0, hl1⟩))]
    have e : fnd l key = pos (hm key l.length) l.length i := f
    rw [e]
    unfold fnd
    rw [hlen, find_at (i := i) (by omega) (fun j' hj' => ?_) (by rw [ei]; exact fun hg => hg.2 ⟨hl0, hl1⟩), ei, if_neg (by rw [hl0]; decide), hlen]
    rw [entOn_set _ _ _ _ _ h0 h1 (by omega)]
    by_cases e : pos (hm key l.length) l.length j' = j
    · rw [if_pos e]; exact hx
    · rw [if_neg e]; exact hp j' hj'
theorem set_fnd_both {l : List Ent} {j : Int} {x : Ent} {key : ByteArray} (h0 : 0 ≤ j) (h1 : j < l.length) (hx : goesOn key x) (hj : goesOn key (rdE l j)) : fnd (l.set j.toNat x) key = fnd l key := by
  have hlen : (l.set j.toNat x).length = l.length := List.length_set
  unfold fnd
  rw [hlen]
  refine find_congr hlen (fun i hi => ?_)
  rw [entOn_set _ _ _ _ _ h0 h1 hi]
  by_cases e : pos (hm key l.length) l.length i = j
  · rw [if_pos e]; right; refine ⟨hx, ?_⟩; unfold entOn; rw [e]; exact hj
  · rw [if_neg e]; exact .inl rfl

/-- What is put in. -/
def putR (l : List Ent) (x : Ent) : Bool × List Ent := if fnd l x.f1 < 0 then (if rm l x.f1 < 0 then (false, l) else (true, l.set (rm l x.f1).toNat x)) else (true, l.set (fnd l x.f1).toNat x)
theorem rm_range (l : List Ent) (key : ByteArray) : rm l key = -1 ∨ (0 ≤ rm l key ∧ rm l key < l.length) := room_range
theorem put_some {l : List Ent} (x : Ent) (hs : x.f1.size ≤ 140737488351232) (hl : l.length ≤ 1000000) : flows_table_put.f l x.f0 x.f1 x.f2 x.f3 = some (putR l x) := by
  unfold flows_table_put.f putR
  refine bind_of (fnd_some hs hl) ?_
  have r := fnd_range l x.f1
  have r2 := rm_range l x.f1
  by_cases c : fnd l x.f1 < 0
  · rw [if_pos c, if_pos c]
    have e := room_some hl (hm_some hs hl)
    rw [if_neg (show ¬ 0 ≤ findIn x.f1 (wayL l (hm x.f1 l.length)) from by unfold fnd at c; omega)] at e
    refine bind_of e ?_
    show (if rm l x.f1 < 0 then _ else _) = _
    by_cases c2 : rm l x.f1 < 0
    · rw [if_pos c2, if_pos c2]
    · rw [if_neg c2, if_neg c2, if_pos (show 0 ≤ roomIn _ from by unfold rm at c2; omega), if_pos (show roomIn _ < _ from by unfold rm at r2 c2; omega)]
      rfl
  · rw [if_neg c, if_neg c, if_pos (by omega), if_pos (by omega)]
/-- It is put in at a place; or there is no room. -/
theorem putR_cases (l : List Ent) (x : Ent) (hx : x.f0 = 1) (hs : x.f1.size ≤ 140737488351232) (hl : l.length ≤ 1000000) :
    (∃ j : Int, 0 ≤ j ∧ j < l.length ∧ putR l x = (true, l.set j.toNat x) ∧ fnd (l.set j.toNat x) x.f1 = j ∧ ((fnd l x.f1 = j ∧ (rdE l j).f0 = 1 ∧ (rdE l j).f1 = x.f1) ∨ (fnd l x.f1 = -1 ∧ (rdE l j).f0 ≠ 1))) ∨
    (putR l x = (false, l) ∧ fnd l x.f1 = -1 ∧ countIn 1 l = l.length) := by
  have r := fnd_range l x.f1
  have r2 := rm_range l x.f1
  by_cases c : fnd l x.f1 < 0
  · have cm : fnd l x.f1 = -1 := by omega
    rcases room_cases l (hm x.f1 l.length) with ⟨q, ha⟩ | ⟨i, hi, hp, hs', q⟩
    · right
      have q' : rm l x.f1 = -1 := q
      refine ⟨by unfold putR; rw [if_pos c, if_pos (by omega)], cm, ?_⟩
      obtain ⟨h, hh, hr, _⟩ := home_some x.f1 l.length hs (by omega)
      have e : hm x.f1 l.length = h := by unfold hm; rw [hh]; rfl
      exact all_live (h := h) (fun hz => (hr (by omega)).1) (by rw [← e]; exact ha)
    · left
      have q' : rm l x.f1 = pos (hm x.f1 l.length) l.length i := q
      have pr := pos_range (h := hm x.f1 l.length) (n := l.length) i (by omega)
      have gone := find_neg (key := x.f1) (l := l) (h := hm x.f1 l.length) c hi hp
      have hlen : (l.set (pos (hm x.f1 l.length) l.length i).toNat x).length = l.length := List.length_set
      refine ⟨rm l x.f1, by omega, by omega, by unfold putR; rw [if_pos c, if_neg (by omega)], ?_, .inr ⟨cm, by rw [q']; exact hs'⟩⟩
      rw [q']
      have ei : entOn (l.set (pos (hm x.f1 l.length) l.length i).toNat x) (hm x.f1 l.length) i = x := by rw [entOn_set _ _ _ _ _ pr.1 pr.2 hi, if_pos rfl]
      unfold fnd
      rw [hlen, find_at (i := i) (by omega) (fun j hj => ?_) (by rw [ei]; exact fun hg => hg.2 ⟨hx, rfl⟩), ei, if_neg (by rw [hx]; decide), hlen]
      rw [entOn_set _ _ _ _ _ pr.1 pr.2 (by omega), if_neg (fun e => by have := pos_inj (by omega) hi e; omega)]
      exact gone j hj
  · left
    have lv := fnd_live (l := l) (key := x.f1) (by omega)
    refine ⟨fnd l x.f1, by omega, by omega, by unfold putR; rw [if_neg c], ?_, .inl ⟨rfl, lv⟩⟩
    have h0 : 0 ≤ fnd l x.f1 := by omega
    have h1 : fnd l x.f1 < l.length := by omega
    rcases find_cases x.f1 l (hm x.f1 l.length) with f | ⟨i, hi, hp, hl0, hl1, f⟩
    · unfold fnd at c; omega
    · have e : fnd l x.f1 = pos (hm x.f1 l.length) l.length i := f
      have hlen : (l.set (fnd l x.f1).toNat x).length = l.length := List.length_set
      have ei : entOn (l.set (fnd l x.f1).toNat x) (hm x.f1 l.length) i = x := by rw [entOn_set _ _ _ _ _ h0 h1 hi, if_pos e.symm]
      show findIn x.f1 (wayL _ (hm x.f1 (l.set (fnd l x.f1).toNat x).length)) = _
      rw [hlen, find_at (i := i) (by omega) (fun j hj => ?_) (by rw [ei]; exact fun hg => hg.2 ⟨hx, rfl⟩), ei, if_neg (by rw [hx]; decide), hlen]
      · exact e.symm
      rw [entOn_set _ _ _ _ _ h0 h1 (by omega), if_neg (fun e' => by have := pos_inj (by omega) hi (e'.trans e); omega)]
      exact hp j hj

/-- All flows are found where they stand. -/
def RightP (l : List Ent) : Prop := ∀ j : Int, 0 ≤ j → j < l.length → (rdE l j).f0 = 1 → fnd l (rdE l j).f1 = j
theorem right_fnd {l : List Ent} (hR : RightP l) {j : Int} {key : ByteArray} (h0 : 0 ≤ j) (h1 : j < l.length) (hv : (rdE l j).f0 = 1) (hk : (rdE l j).f1 = key) : fnd l key = j := by
  have := hR j h0 h1 hv
  rw [hk] at this; exact this
theorem right_set {l : List Ent} {j : Int} {x : Ent} (hR : RightP l) (h0 : 0 ≤ j) (h1 : j < l.length) (hx0 : x.f0 ≠ 0) (hx1 : x.f0 = 1 → (fnd l x.f1 = j ∨ fnd l x.f1 < 0) ∧ fnd (l.set j.toNat x) x.f1 = j) : RightP (l.set j.toNat x) := by
  intro i hi0 hi1 hv
  rw [List.length_set] at hi1
  rw [rdE_set l j x i h0 h1 hi0 hi1] at hv ⊢
  by_cases e : i = j
  · rw [if_pos e] at hv ⊢
    rw [e]; exact (hx1 hv).2
  · rw [if_neg e] at hv ⊢
    have hf := hR i hi0 hi1 hv
    rw [set_fnd h0 h1 ⟨hx0, fun hh => ?_⟩ (fun hh => ?_) (by omega)]
    · exact hf
    · have := (hx1 hh.1).1
      rw [hh.2] at this; omega
    · have := hR j h0 h1 hh.1
      rw [hh.2] at this; omega
theorem right_put {l : List Ent} {x : Ent} (hR : RightP l) (hx : x.f0 = 1) (hs : x.f1.size ≤ 140737488351232) (hl : l.length ≤ 1000000) : RightP (putR l x).2 := by
  rcases putR_cases l x hx hs hl with ⟨j, h0, h1, e, hf, hc⟩ | ⟨e, _, _⟩
  · rw [e]
    exact right_set hR h0 h1 (by rw [hx]; decide) (fun _ => ⟨hc.elim (fun h => .inl h.1) (fun h => .inr (by omega)), hf⟩)
  · rw [e]; exact hR

/-- All keys are so short that they are asked about. -/
def Keys60 (l : List Ent) : Prop := ∀ j : Nat, j < l.length → (rdE l (j : Int)).f1.size ≤ 60
theorem few_cases2 (l : List Ent) (k : Nat) (hk : 100 ≤ k) : gangplanklaw13_few.f k l = some false ∨ (gangplanklaw13_few.f k l = some true ∧ l.length ≤ 64 ∧ Keys60 l) := by
  unfold gangplanklaw13_few.f gangplankref11_Few.f
  by_cases c : (l.length : Int) > 80
  · rw [if_pos c]; exact .inl rfl
  · rw [if_neg c]
    rcases few_loop l (by omega) l.length k 0 (by omega) (by omega) (by omega) with h | ⟨h, hk⟩
    · left; exact bind_of h rfl
    · by_cases c2 : (l.length : Int) ≤ 64
      · right; exact ⟨bind_of h (by rw [if_pos rfl, decide_eq_true c2]), by omega, fun j hj => hk j (Nat.zero_le _) hj⟩
      · left; exact bind_of h (by rw [if_pos rfl, decide_eq_false c2])
theorem mem_live {l : List Ent} {p : Int × Ent} : p ∈ liveL l ↔ ∃ j : Nat, j < l.length ∧ p = ((j : Int), rdE l j) ∧ (rdE l (j : Int)).f0 = 1 := by
  unfold liveL liveUpto
  rw [List.mem_filter, mem_upto]
  constructor
  · rintro ⟨⟨j, hj, rfl⟩, hv⟩
    exact ⟨j, hj, rfl, by simpa using hv⟩
  · rintro ⟨j, hj, rfl, hv⟩
    exact ⟨⟨j, hj, rfl⟩, by simpa using hv⟩
theorem right_some {l : List Ent} (hl : l.length ≤ 1000000) (hk : Keys60 l) : ∃ b, flows_Right.f l = some b ∧ (b = true ↔ RightP l) := by
  have hk' : ∀ p ∈ liveL l, p.2.f1.size ≤ 140737488351232 := fun p hp => by
    obtain ⟨j, hj, rfl, _⟩ := mem_live.1 hp
    have := hk j hj
    show (rdE l (j : Int)).f1.size ≤ _
    omega
  unfold flows_Right.f
  rw [if_pos hl, if_pos (List.all_eq_true.2 (fun p hp => by rw [fnd_some (hk' p hp) hl]; rfl))]
  refine ⟨_, rfl, ?_⟩
  rw [List.all_eq_true]
  constructor
  · intro h j h0 h1 hv
    have := h ((j.toNat : Int), rdE l (j.toNat : Int)) (mem_live.2 ⟨j.toNat, by omega, rfl, by rw [Int.toNat_of_nonneg h0]; exact hv⟩)
    rw [Int.toNat_of_nonneg h0] at this
    have hs := hk j.toNat (by omega)
    rw [Int.toNat_of_nonneg h0] at hs
    rw [fnd_some (by show (rdE l j).f1.size ≤ _; omega) hl] at this
    simpa using this
  · intro h p hp
    rw [fnd_some (hk' p hp) hl]
    obtain ⟨j, hj, rfl, hv⟩ := mem_live.1 hp
    have := h (j : Int) (by omega) (by omega) hv
    simpa using this
theorem fput_some {l : List Ent} {key : ByteArray} (b d : Int) (hs : key.size ≤ 140737488351232) (hl : l.length ≤ 1000000) : flows_Put.f l key b d = some (if (putR l ⟨1, key, b, d⟩).1 = true then ((putR l ⟨1, key, b, d⟩).2, 0) else (l, 12)) := by
  unfold flows_Put.f
  rw [if_pos hl]
  exact bind_of (put_some ⟨1, key, b, d⟩ hs hl) rfl
theorem putR_length (l : List Ent) (x : Ent) : (putR l x).2.length = l.length := by
  unfold putR
  split
  · split <;> simp
  · simp
theorem keys_put {l : List Ent} {x : Ent} {j : Int} (h0 : 0 ≤ j) (h1 : j < l.length) (hk : Keys60 l) (hx : x.f1.size ≤ 60) : Keys60 (l.set j.toNat x) := by
  intro i hi
  rw [List.length_set] at hi
  rw [rdE_set l j x i h0 h1 (by omega) (by omega)]
  by_cases e : (i : Int) = j
  · rw [if_pos e]; exact hx
  · rw [if_neg e]; exact hk i hi
/-- A flow stands in a table. -/
def Has (l : List Ent) (e : Ent) : Prop := ∃ j : Int, 0 ≤ j ∧ j < l.length ∧ rdE l j = e ∧ e.f0 = 1
def Clean (l : List Ent) : Prop := ∀ j : Int, 0 ≤ j → j < l.length → (rdE l j).f0 = 0 ∨ (rdE l j).f0 = 1
theorem has_fnd {l : List Ent} {key : ByteArray} (h : 0 ≤ fnd l key) : Has l (rdE l (fnd l key)) ∧ (rdE l (fnd l key)).f1 = key := by
  obtain ⟨l1, l2⟩ := fnd_live h
  have r := fnd_range l key
  exact ⟨⟨fnd l key, h, by omega, rfl, l1⟩, l2⟩
theorem right_has {l : List Ent} (hR : RightP l) {e : Ent} {key : ByteArray} (h : Has l e) (hk : e.f1 = key) : 0 ≤ fnd l key ∧ rdE l (fnd l key) = e := by
  obtain ⟨j, h0, h1, h2, h3⟩ := h
  have := right_fnd hR h0 h1 (key := key) (by rw [h2]; exact h3) (by rw [h2]; exact hk)
  exact ⟨by omega, by rw [this]; exact h2⟩
/-- Tables that are right and hold the same flows: the same is found. -/
theorem same_flows {l u : List Ent} (hl : RightP l) (hu : RightP u) {key : ByteArray} (h : ∀ e, e.f1 = key → (Has u e ↔ Has l e)) : (0 ≤ fnd u key ↔ 0 ≤ fnd l key) ∧ (0 ≤ fnd l key → rdE u (fnd u key) = rdE l (fnd l key)) := by
  have a : ∀ {a b : List Ent}, RightP b → (∀ e, e.f1 = key → Has a e → Has b e) → 0 ≤ fnd a key → 0 ≤ fnd b key ∧ rdE b (fnd b key) = rdE a (fnd a key) := fun hb hab h0 => by
    obtain ⟨h1, h2⟩ := has_fnd h0
    exact right_has hb (hab _ h2 h1) h2
  exact ⟨⟨fun h0 => (a hl (fun e he => (h e he).1) h0).1, fun h0 => (a hu (fun e he => (h e he).2) h0).1⟩, fun h0 => (a hu (fun e he => (h e he).2) h0).2⟩
theorem has_set {l : List Ent} {j : Int} {x e : Ent} (h0 : 0 ≤ j) (h1 : j < l.length) : Has (l.set j.toNat x) e ↔ (e = x ∧ x.f0 = 1) ∨ ∃ i : Int, 0 ≤ i ∧ i < l.length ∧ i ≠ j ∧ rdE l i = e ∧ e.f0 = 1 := by
  constructor
  · rintro ⟨i, i0, i1, i2, i3⟩
    rw [List.length_set] at i1
    rw [rdE_set _ _ _ _ h0 h1 i0 i1] at i2
    by_cases c : i = j
    · rw [if_pos c] at i2; left; exact ⟨i2.symm, by rw [i2]; exact i3⟩
    · rw [if_neg c] at i2; right; exact ⟨i, i0, i1, c, i2, i3⟩
  · rintro (⟨rfl, h⟩ | ⟨i, i0, i1, i2, i3, i4⟩)
    · exact ⟨j, h0, by rw [List.length_set]; exact h1, by rw [rdE_set _ _ _ _ h0 h1 h0 h1, if_pos rfl], h⟩
    · exact ⟨i, i0, by rw [List.length_set]; exact i1, by rw [rdE_set _ _ _ _ h0 h1 i0 i1, if_neg i2]; exact i3, i4⟩
theorem has_set_dead {l : List Ent} {j : Int} {x e : Ent} (h0 : 0 ≤ j) (h1 : j < l.length) (hd : (rdE l j).f0 ≠ 1) (hx : x.f0 = 1) : Has (l.set j.toNat x) e ↔ (Has l e ∨ e = x) := by
  rw [has_set h0 h1]
  constructor
  · rintro (⟨rfl, _⟩ | ⟨i, i0, i1, i2, i3, i4⟩)
    · exact .inr rfl
    · exact .inl ⟨i, i0, i1, i3, i4⟩
  · rintro (⟨i, i0, i1, i3, i4⟩ | rfl)
    · exact .inr ⟨i, i0, i1, fun c => hd (by rw [← c, i3]; exact i4), i3, i4⟩
    · exact .inl ⟨rfl, hx⟩
theorem mem_iff_rd (l : List Ent) (e : Ent) : e ∈ l ↔ ∃ j : Int, 0 ≤ j ∧ j < l.length ∧ rdE l j = e := by
  constructor
  · intro h
    obtain ⟨i, hi, rfl⟩ := List.getElem_of_mem h
    exact ⟨(i : Int), by omega, by omega, rdE_nat l i hi⟩
  · rintro ⟨j, h0, h1, rfl⟩
    have := rdE_nat l j.toNat (by omega)
    rw [Int.toNat_of_nonneg h0] at this
    rw [this]; exact List.getElem_mem _
theorem has_filter (l : List Ent) (e : Ent) : e ∈ l.filter (fun x => x.f0 == 1) ↔ Has l e := by
  rw [List.mem_filter, mem_iff_rd]
  constructor
  · rintro ⟨⟨j, h0, h1, h2⟩, h3⟩
    exact ⟨j, h0, h1, h2, by simpa using h3⟩
  · rintro ⟨j, h0, h1, h2, h3⟩
    exact ⟨⟨j, h0, h1, h2⟩, by simpa using h3⟩

/-- So far these flows have been put into a table without tombs. -/
structure Inv (n : Nat) (c : List Ent) (es : List Ent) : Prop where
  len : c.length = n
  right : RightP c
  clean : Clean c
  has : ∀ e, Has c e ↔ e ∈ es
  count : countIn 1 c = es.length
  keys : Keys60 c
theorem inv_new (n : Nat) : Inv n (List.replicate n z31) [] := by
  have z : ∀ j : Int, 0 ≤ j → j < (List.replicate n z31).length → rdE (List.replicate n z31) j = z31 := fun j h0 h1 => by
    have := rdE_nat (List.replicate n z31) j.toNat (by omega)
    rw [Int.toNat_of_nonneg h0] at this
    rw [this, List.getElem_replicate]
  refine ⟨List.length_replicate, fun j h0 h1 hv => ?_, fun j h0 h1 => ?_, fun e => ?_, ?_, fun j hj => ?_⟩
  · rw [z j h0 h1] at hv; exact absurd hv (by decide)
  · rw [z j h0 h1]; exact .inl rfl
  · constructor
    · rintro ⟨j, h0, h1, h2, h3⟩
      rw [z j h0 h1] at h2; subst h2; exact absurd h3 (by decide)
    · intro h; exact absurd h (by simp)
  · unfold countIn
    rw [List.length_eq_zero_iff.2 (List.filter_eq_nil_iff.2 (fun x hx => by rw [(List.mem_replicate.1 hx).2]; decide))]; rfl
  · rw [z j (by omega) (by omega)]; decide
theorem inv_step {n : Nat} {c es : List Ent} (hn : n ≤ 64) (h : Inv n c es) (x : Ent) (hx : x.f0 = 1) (hs : x.f1.size ≤ 60) (hd : ∀ e ∈ es, e.f1 ≠ x.f1) (hroom : es.length < n) : (putR c x).1 = true ∧ Inv n (putR c x).2 (es ++ [x]) := by
  have hl := h.len
  have hr := right_put h.right hx (show x.f1.size ≤ 140737488351232 by omega) (by omega)
  rcases putR_cases c x hx (by omega) (by omega) with ⟨j, h0, h1, e, hf, hc⟩ | ⟨e, hneg, hall⟩
  · rw [e] at hr ⊢
    rcases hc with ⟨_, hv, hk⟩ | ⟨_, hv⟩
    · exact absurd hk (hd _ ((h.has _).1 ⟨j, h0, h1, rfl, hv⟩))
    · have cp := count_put c j x h0 h1
      rw [if_neg hv, if_pos hx] at cp
      refine ⟨rfl, by show (c.set j.toNat x).length = n; rw [List.length_set]; exact hl, hr, fun i i0 i1 => ?_, fun e => ?_, ?_, keys_put h0 h1 h.keys hs⟩
      · rw [List.length_set] at i1
        rw [rdE_set _ _ _ _ h0 h1 i0 i1]
        by_cases q : i = j
        · rw [if_pos q]; exact .inr hx
        · rw [if_neg q]; exact h.clean i i0 i1
      · rw [has_set_dead h0 h1 hv hx, h.has]; simp
      · have := h.count; simp only [List.length_append, List.length_cons, List.length_nil]; omega
  · have := h.count; omega
theorem tidyStep_eq {c : List Ent} {x : Ent} (hs : x.f1.size ≤ 140737488351232) (hl : c.length ≤ 1000000) : tidyStep c x = (putR c x).2 := by
  unfold tidyStep
  rw [put_some x hs hl]; rfl
theorem tidy_inv {n : Nat} (hn : n ≤ 64) : ∀ (rest : List (Int × Ent)) (es c : List Ent), Inv n c es → (∀ p ∈ rest, p.2.f0 = 1 ∧ p.2.f1.size ≤ 60) → rest.Pairwise (fun p q => p.2.f1 ≠ q.2.f1) → (∀ p ∈ rest, ∀ e ∈ es, e.f1 ≠ p.2.f1) → es.length + rest.length ≤ n → Inv n (tidyAll c rest) (es ++ rest.map (fun p => p.2))
  | [], es, c, h, _, _, _, _ => by simpa [tidyAll] using h
  | p :: rest, es, c, h, h1, h2, h3, h4 => by
    have hp := h1 p (by simp)
    simp only [List.length_cons] at h4
    have hi := (inv_step hn h p.2 hp.1 hp.2 (h3 p (by simp)) (by omega)).2
    have hl := h.len
    rw [← tidyStep_eq (by omega) (by omega)] at hi
    rw [List.pairwise_cons] at h2
    have := tidy_inv hn rest (es ++ [p.2]) (tidyStep c p.2) hi (fun q hq => h1 q (by simp [hq])) h2.2 (fun q hq e he => by
      rcases List.mem_append.1 he with he | he
      · exact h3 q (by simp [hq]) e he
      · simp at he; subst he; exact h2.1 q hq) (by simp; omega)
    simpa [tidyAll] using this
theorem live_pair (l : List Ent) : (liveL l).Pairwise (fun p q => p.1 < q.1) := by
  unfold liveL liveUpto upto
  refine List.Pairwise.filter _ ?_
  rw [List.pairwise_map]
  exact List.pairwise_lt_range.imp (fun h => by show ((_ : Nat) : Int) < _; omega)
theorem upto_rd2 (l : List Ent) : upto (fun i => rdE l ((i : Nat) : Int)) l.length = l := by
  apply List.ext_getElem
  · rw [upto_length]
  · intro i h1 h2
    simp only [upto, List.getElem_map, List.getElem_range]
    exact rdE_nat l i h2
theorem live_snd2 (l : List Ent) : (liveL l).map (fun p => p.2) = l.filter (fun x => x.f0 == 1) := by
  conv => rhs; rw [← upto_rd2 l]
  unfold liveL liveUpto upto
  rw [List.filter_map, List.map_map, List.filter_map]
  rfl
theorem live_len (l : List Ent) : (liveL l).length = countIn 1 l := by
  unfold countIn
  rw [← live_snd2]; simp
theorem new_some (n : Nat) (hn : n ≤ 64) : flows_New.f (n : Int) = some (List.replicate n z31) := by
  unfold flows_New.f
  have e : mx 0 (mn (n : Int) 64) = n := by unfold mx mn; split <;> split <;> omega
  rw [e, if_pos (by omega), if_pos (by omega)]; simp
/-- Tidied: the same flows, no tombs. -/
theorem tidy_spec {t : List Ent} (hn : t.length ≤ 64) (hk : Keys60 t) (hR : RightP t) : ∃ u, flows_Tidy.f t = some u ∧ Inv t.length u (t.filter fun x => x.f0 == 1) := by
  have hm : ∀ p ∈ liveL t, p.2.f0 = 1 ∧ p.2.f1.size ≤ 60 := fun p hp => by
    obtain ⟨j, hj, rfl, hv⟩ := mem_live.1 hp
    exact ⟨hv, hk j hj⟩
  unfold flows_Tidy.f
  rw [if_pos (by omega), if_pos (List.all_eq_true.2 (fun p hp => by have := (hm p hp).2; exact decide_eq_true (by omega)))]
  refine ⟨_, bind_of (new_some _ hn) rfl, ?_⟩
  have := tidy_inv hn (liveL t) [] _ (inv_new t.length) hm ((live_pair t).imp_of_mem (fun {p q} hp hq h e => by
    obtain ⟨i, hi, rfl, hi2⟩ := mem_live.1 hp
    obtain ⟨j, hj, rfl, hj2⟩ := mem_live.1 hq
    have a := right_fnd hR (j := (i : Int)) (key := (rdE t (i : Int)).f1) (by omega) (by omega) hi2 rfl
    have b := right_fnd hR (j := (j : Int)) (key := (rdE t (i : Int)).f1) (by omega) (by omega) hj2 e.symm
    dsimp only at h
    omega)) (fun p _ e he => absurd he (by simp)) (by rw [live_len]; have := countIn_le 1 t; simp; omega)
  rw [List.nil_append, live_snd2] at this
  exact this
theorem inv_tombs {n : Nat} {c es : List Ent} (h : Inv n c es) : countIn 2 c = 0 := by
  unfold countIn
  rw [List.length_eq_zero_iff.2 (List.filter_eq_nil_iff.2 (fun x hx => by
    obtain ⟨j, h0, h1, rfl⟩ := (mem_iff_rd c x).1 hx
    rcases h.clean j h0 h1 with e | e <;> (rw [e]; decide)))]
theorem inv_filter {n : Nat} {c t : List Ent} (h : Inv n c (t.filter fun x => x.f0 == 1)) (e : Ent) : Has c e ↔ Has t e := by rw [h.has, has_filter]
theorem ftidy_some (t : List Ent) (ht : t.length ≤ 64) (hks : Keys60 t) : flows_Tidy.f t = some (tidyAll (List.replicate t.length z31) (liveL t)) ∧ (tidyAll (List.replicate t.length z31) (liveL t)).length = t.length := by
  have hm : ∀ p ∈ liveL t, p.2.f1.size ≤ 60 := fun p hp => by
    obtain ⟨j, hj, rfl, hv⟩ := mem_live.1 hp
    exact hks j hj
  constructor
  · unfold flows_Tidy.f
    rw [if_pos (by omega), if_pos (List.all_eq_true.2 (fun p hp => by have := hm p hp; exact decide_eq_true (by omega)))]
    exact bind_of (new_some _ ht) rfl
  · rw [tidyAll_length _ _ (fun p hp => by have := hm p hp; omega) (by simp; omega), List.length_replicate]
theorem w64 {x : Int} (h0 : -1000000000 ≤ x) (h1 : x ≤ 1000000000) : wrap64 x = x := by unfold wrap64; omega
theorem works13_12 : gangplanklaw13_works.f 12 = some true := by decide +kernel
theorem works13 (k : Nat) (hk : 12 ≤ k) : gangplanklaw13_works.f k = some true := at_rounds gangplanklaw13_works.mono hk works13_12
/-- Where one begins; how many places are looked at; where one looks next. -/
def fvOf (f : Int) (n : Nat) : Int := if f < 0 ∨ (n : Int) ≤ f then 0 else f
def nOf (a : Int) (n : Nat) : Nat := (if (n : Int) < (if a < 0 then 0 else a) then (n : Int) else (if a < 0 then 0 else a) : Int).toNat
def nxt (f a : Int) (n : Nat) : Int := if 0 < n then placeAt (fvOf f n) n (nOf a n) else 0
theorem nOf_le (a : Int) (n : Nat) : nOf a n ≤ n := by unfold nOf; split <;> split <;> omega
theorem fvOf_range (f : Int) (n : Nat) : 0 ≤ fvOf f n ∧ (0 < n → fvOf f n < n) ∧ (n = 0 → fvOf f n = 0) := by
  unfold fvOf
  split
  · exact ⟨by omega, fun h => by omega, fun _ => rfl⟩
  · exact ⟨by omega, fun _ => by omega, fun _ => by omega⟩
theorem placeAt_range {f : Int} {n : Nat} (i : Nat) (hn : 0 < n) : 0 ≤ placeAt f n i ∧ placeAt f n i < n := ⟨Int.emod_nonneg _ (by omega), Int.emod_lt_of_pos _ (by omega)⟩
theorem placeAt_succ {f : Int} {n : Nat} (hn : 0 < n) (i : Nat) : placeAt f n (i + 1) = if placeAt f n i + 1 = n then 0 else placeAt f n i + 1 := by
  have r := placeAt_range (f := f) i hn
  have e : placeAt f n (i + 1) = (placeAt f n i + 1) % n := by
    unfold placeAt
    rw [Int.emod_add_emod]
    congr 1
    omega
  rw [e]
  by_cases c : placeAt f n i + 1 = n
  · rw [if_pos c, c, Int.emod_self]
  · rw [if_neg c, Int.emod_eq_of_lt (by omega) (by omega)]
theorem placeAt_zero {f : Int} {n : Nat} (h0 : 0 ≤ f) (h1 : f < n) : placeAt f n 0 = f := by
  unfold placeAt
  rw [Int.emod_eq_of_lt (by omega) (by omega)]; simp
theorem placeAt_add {f : Int} {n : Nat} (i j : Nat) : placeAt (placeAt f n i) n j = placeAt f n (i + j) := by
  unfold placeAt
  rw [Int.emod_add_emod]
  congr 1
  omega
theorem mem_upto_range {f : Int} {n N : Nat} (hN : N ≤ n) : ∀ j ∈ upto (placeAt f n) N, 0 ≤ j ∧ j < n := fun j hj => by
  obtain ⟨i, hi, rfl⟩ := mem_upto.1 hj
  exact placeAt_range i (by omega)
theorem upto_cons {α : Type} (g : Nat → α) (d : Nat) : upto g (d + 1) = g 0 :: upto (fun i => g (i + 1)) d := by
  unfold upto
  rw [List.range_succ_eq_map, List.map_cons, List.map_map]; rfl
theorem upto_split {α : Type} (g : Nat → α) (n : Nat) : ∀ m, upto g (n + m) = upto g n ++ upto (fun i => g (n + i)) m
  | 0 => by simp [upto]
  | m + 1 => by
    rw [show n + (m + 1) = (n + m) + 1 from rfl, upto_succ, upto_split g n m, upto_succ, List.append_assoc]

theorem stepAll_ind (now : Int) (P : List Ent × Int → Prop) (n : Nat) (hs : ∀ (s : List Ent × Int) (j : Int), 0 ≤ j → j < n → s.1.length = n → P s → overB now (rdE s.1 j) = true → P (s.1.set j.toNat tombS, s.2 + 1)) : ∀ (js : List Int) (s : List Ent × Int), (∀ j ∈ js, 0 ≤ j ∧ j < n) → s.1.length = n → P s → P (stepAll now s js)
  | [], s, _, _, h => h
  | j :: js, s, hj, hl, h => by
    have hj0 := hj j (by simp)
    have e : stepAll now s (j :: js) = stepAll now (stepOne now s j) js := rfl
    rw [e]
    have h1 : P (stepOne now s j) := by
      unfold stepOne
      split
      · exact hs s j hj0.1 hj0.2 hl h (by assumption)
      · exact h
    have h2 : (stepOne now s j).1.length = n := by unfold stepOne; split <;> simp [hl]
    exact stepAll_ind now P n hs js _ (fun i hi => hj i (by simp [hi])) h2 h1
theorem keys_step {now : Int} {t : List Ent} {g : Int} {js : List Int} (hj : ∀ j ∈ js, 0 ≤ j ∧ j < t.length) (hk : Keys60 t) : Keys60 (stepAll now (t, g) js).1 :=
  stepAll_ind now (fun s => Keys60 s.1) t.length (fun s j h0 h1 hl h _ => keys_put h0 (by omega) h (by decide)) js (t, g) hj rfl hk
theorem right_step {now : Int} {t : List Ent} {g : Int} {js : List Int} (hj : ∀ j ∈ js, 0 ≤ j ∧ j < t.length) (hR : RightP t) : RightP (stepAll now (t, g) js).1 :=
  stepAll_ind now (fun s => RightP s.1) t.length (fun s j h0 h1 hl h _ => right_set h h0 (by omega) (by decide) (fun h => absurd h (by decide))) js (t, g) hj rfl hR
theorem over_live {now : Int} {x : Ent} (h : overB now x = true) : x.f0 = 1 ∧ x.f3 < now := by
  unfold overB at h
  split at h
  · exact ⟨by assumption, by simpa using h⟩
  · exact absurd h (by decide)
theorem over_of {now : Int} {x : Ent} (h0 : x.f0 = 1) (h1 : x.f3 < now) : overB now x = true := by
  unfold overB
  rw [if_pos h0]; simpa using h1
theorem live_step {now : Int} {t : List Ent} {js : List Int} (hj : ∀ j ∈ js, 0 ≤ j ∧ j < t.length) : (countIn 1 (stepAll now (t, 0) js).1 : Int) + (stepAll now (t, 0) js).2 = countIn 1 t :=
  stepAll_ind now (fun s => (countIn 1 s.1 : Int) + s.2 = countIn 1 t) t.length (fun s j h0 h1 hl h ho => by
    have c := count_put s.1 j tombS h0 (by omega)
    rw [if_pos (over_live ho).1, if_neg (by decide)] at c
    show (countIn 1 (s.1.set j.toNat tombS) : Int) + (s.2 + 1) = _
    omega) js (t, 0) hj rfl (by simp)
theorem tomb_step {now : Int} {t : List Ent} {js : List Int} (hj : ∀ j ∈ js, 0 ≤ j ∧ j < t.length) : (countIn 2 (stepAll now (t, 0) js).1 : Int) = countIn 2 t + (stepAll now (t, 0) js).2 :=
  stepAll_ind now (fun s => (countIn 2 s.1 : Int) = countIn 2 t + s.2) t.length (fun s j h0 h1 hl h ho => by
    have c := count_set 2 s.1 j.toNat tombS (by omega)
    have e : (s.1[j.toNat]'(by omega)) = rdE s.1 j := by
      have := rdE_nat s.1 j.toNat (by omega)
      rw [Int.toNat_of_nonneg h0] at this; exact this.symm
    rw [e, (over_live ho).1, if_neg (by decide), if_pos (by decide)] at c
    show (countIn 2 (s.1.set j.toNat tombS) : Int) = _ + (s.2 + 1)
    omega) js (t, 0) hj rfl (by simp)
theorem same_step {now : Int} {t : List Ent} {js : List Int} (hj : ∀ j ∈ js, 0 ≤ j ∧ j < t.length) : 0 ≤ (stepAll now (t, 0) js).2 ∧ ((stepAll now (t, 0) js).2 = 0 → (stepAll now (t, 0) js).1 = t) :=
  stepAll_ind now (fun s => 0 ≤ s.2 ∧ (s.2 = 0 → s.1 = t)) t.length (fun s j h0 h1 hl h ho => ⟨by show 0 ≤ s.2 + 1; have := h.1; omega, fun e => by have e' : s.2 + 1 = 0 := e; have := h.1; omega⟩) js (t, 0) hj rfl ⟨Int.le_refl _, fun _ => rfl⟩
/-- What stands there stood there, and what stood there stands there or was over. -/
theorem has_step {now : Int} {t : List Ent} {js : List Int} (hj : ∀ j ∈ js, 0 ≤ j ∧ j < t.length) (e : Ent) : (Has (stepAll now (t, 0) js).1 e → Has t e) ∧ (Has t e → Has (stepAll now (t, 0) js).1 e ∨ overB now e = true) :=
  stepAll_ind now (fun s => (Has s.1 e → Has t e) ∧ (Has t e → Has s.1 e ∨ overB now e = true)) t.length (fun s j h0 h1 hl h ho => by
    refine ⟨fun hh => ?_, fun hh => ?_⟩
    · rcases (has_set h0 (by omega)).1 hh with ⟨_, h2⟩ | ⟨i, i0, i1, i2, i3, i4⟩
      · exact absurd h2 (by decide)
      · exact h.1 ⟨i, i0, i1, i3, i4⟩
    · rcases h.2 hh with ⟨i, i0, i1, i3, i4⟩ | h2
      · by_cases c : i = j
        · subst c; right; rw [← i3]; exact ho
        · left; exact (has_set h0 (by omega)).2 (.inr ⟨i, i0, i1, c, i3, i4⟩)
      · exact .inr h2) js (t, 0) hj rfl ⟨fun h => h, fun h => .inl h⟩
theorem tomb_not (now : Int) : overB now tombS = false := by
  unfold overB
  rw [if_neg (by decide)]
/-- Where one has looked nothing is over any more. -/
theorem done_step {now : Int} {n : Nat} : ∀ (js : List Int) (s : List Ent × Int), (∀ j ∈ js, 0 ≤ j ∧ j < n) → s.1.length = n → ∀ i : Int, 0 ≤ i → i < n → (i ∈ js ∨ overB now (rdE s.1 i) = false) → overB now (rdE (stepAll now s js).1 i) = false
  | [], s, _, _, i, _, _, h => h.elim (fun h => absurd h (by simp)) (fun h => h)
  | j :: js, s, hj, hl, i, i0, i1, h => by
    have hj0 := hj j (by simp)
    have h2 : (stepOne now s j).1.length = n := by unfold stepOne; split <;> simp [hl]
    refine done_step js (stepOne now s j) (fun i hi => hj i (by simp [hi])) h2 i i0 i1 ?_
    by_cases c : i ∈ js
    · exact .inl c
    · right
      by_cases c2 : i = j
      · subst c2
        unfold stepOne
        split
        · show overB now (rdE (s.1.set i.toNat tombS) i) = false
          rw [rdE_set _ _ _ _ i0 (by omega) i0 (by omega), if_pos rfl, tomb_not]
        · rename_i hh; simpa using hh
      · have h3 : overB now (rdE s.1 i) = false := by
          rcases h with h | h
          · rcases List.mem_cons.1 h with h | h
            · exact absurd h c2
            · exact absurd h c
          · exact h
        unfold stepOne
        split
        · show overB now (rdE (s.1.set j.toNat tombS) i) = false
          rw [rdE_set _ _ _ _ hj0.1 (by omega) i0 (by omega), if_neg c2]; exact h3
        · exact h3
theorem none_step {now : Int} {t : List Ent} (h : ∀ e, Has t e → overB now e = false) (g : Int) : ∀ (js : List Int), (∀ j ∈ js, 0 ≤ j ∧ j < t.length) → stepAll now (t, g) js = (t, g)
  | [], _ => rfl
  | j :: js, hj => by
    have hj0 := hj j (by simp)
    have e : stepOne now (t, g) j = (t, g) := by
      unfold stepOne
      by_cases c : overB now (rdE t j) = true
      · have := h _ ⟨j, hj0.1, hj0.2, rfl, (over_live c).1⟩
        rw [c] at this; exact absurd this (by decide)
      · exact if_neg c
    have e2 : stepAll now (t, g) (j :: js) = stepAll now (stepOne now (t, g) j) js := rfl
    rw [e2, e]
    exact none_step h g js (fun i hi => hj i (by simp [hi]))
theorem shift_step (now : Int) : ∀ (js : List Int) (t : List Ent) (g : Int), stepAll now (t, g) js = ((stepAll now (t, 0) js).1, g + (stepAll now (t, 0) js).2)
  | [], t, g => by simp [stepAll]
  | j :: js, t, g => by
    have e : ∀ g, stepAll now (t, g) (j :: js) = stepAll now (stepOne now (t, g) j) js := fun _ => rfl
    rw [e, e]
    have e1 : ∀ g, stepOne now (t, g) j = if overB now (rdE t j) = true then (t.set j.toNat tombS, g + 1) else (t, g) := fun _ => rfl
    rw [e1, e1]
    by_cases c : overB now (rdE t j) = true
    · rw [if_pos c, if_pos c, shift_step now js _ (g + 1), shift_step now js _ (0 + 1)]
      dsimp only
      rw [Prod.mk.injEq]
      exact ⟨rfl, by omega⟩
    · rw [if_neg c, if_neg c]; exact shift_step now js t g

/-- Tidied if anything is gone and tombs stand in more than half of the places. -/
def settle (T : List Ent) (G : Int) : List Ent := if 0 < G then (if 2 * (countIn 2 T : Int) > (T.length : Int) then tidyAll (List.replicate T.length z31) (liveL T) else T) else T
theorem settle_len {T : List Ent} {G : Int} (ht : T.length ≤ 64) (hks : Keys60 T) : (settle T G).length = T.length := by
  unfold settle
  split
  · split
    · exact (ftidy_some T ht hks).2
    · rfl
  · rfl
theorem settle_spec {T : List Ent} {G : Int} (ht : T.length ≤ 64) (hks : Keys60 T) (hR : RightP T) : RightP (settle T G) ∧ Keys60 (settle T G) ∧ (∀ e, Has (settle T G) e ↔ Has T e) ∧ countIn 1 (settle T G) = countIn 1 T := by
  have no : RightP T ∧ Keys60 T ∧ (∀ e, Has T e ↔ Has T e) ∧ countIn 1 T = countIn 1 T := ⟨hR, hks, fun _ => Iff.rfl, rfl⟩
  unfold settle
  split
  · split
    · obtain ⟨u, hu, hi⟩ := tidy_spec ht hks hR
      rw [(ftidy_some T ht hks).1] at hu
      obtain rfl := Option.some.inj hu
      exact ⟨hi.right, hi.keys, fun e => inv_filter hi e, hi.count⟩
    · exact no
  · exact no
def swp (now : Int) (t : List Ent) (f a : Int) : List Ent × Int := stepAll now (t, 0) (upto (placeAt (fvOf f t.length) t.length) (nOf a t.length))
theorem swp_in (t : List Ent) (f a : Int) : ∀ j ∈ upto (placeAt (fvOf f t.length) t.length) (nOf a t.length), 0 ≤ j ∧ j < t.length := mem_upto_range (nOf_le _ _)
theorem swp_len (now : Int) (t : List Ent) (f a : Int) : (swp now t f a).1.length = t.length := stepAll_length now _ _
theorem next_eq (f a : Int) (n : Nat) (hn : n ≤ 1000000) : (if (n : Int) > 0 then Int.tmod (wrap64 (fvOf f n + (nOf a n : Int))) (n : Int) else fvOf f n) = nxt f a n := by
  have r := fvOf_range f n
  have r2 := nOf_le a n
  unfold nxt
  by_cases c : 0 < n
  · have := r.2.1 c
    rw [if_pos (by omega), if_pos c, show wrap64 (fvOf f n + (nOf a n : Int)) = fvOf f n + (nOf a n : Int) by unfold wrap64; omega, Int.tmod_eq_emod_of_nonneg (by omega)]
    rfl
  · rw [if_neg (by omega), if_neg c, r.2.2 (by omega)]
theorem step_some {t : List Ent} (ht : t.length ≤ 64) (hks : Keys60 t) (f a now : Int) : sweep_Step.f t f a now = some (settle (swp now t f a).1 (swp now t f a).2, nxt f a t.length, (swp now t f a).2) := by
  have hTk : Keys60 (swp now t f a).1 := keys_step (swp_in t f a) hks
  have hl := swp_len now t f a
  have hn : ((nOf a t.length : Nat) : Int) = (if (t.length : Int) < (if a < 0 then 0 else a) then (t.length : Int) else (if a < 0 then 0 else a)) := by
    unfold nOf; rw [Int.toNat_of_nonneg]; split <;> split <;> omega
  have hx := next_eq f a t.length (by omega)
  rw [hn] at hx
  unfold sweep_Step.f
  rw [if_pos (by omega)]
  dsimp only
  have e : stepAll now (t, 0) (upto (placeAt (if f < 0 ∨ (t.length : Int) ≤ f then 0 else f) t.length) (if (t.length : Int) < (if a < 0 then 0 else a) then (t.length : Int) else (if a < 0 then 0 else a)).toNat) = swp now t f a := rfl
  have e2 : (if f < 0 ∨ (t.length : Int) ≤ f then 0 else f) = fvOf f t.length := rfl
  rw [e, e2, hx]
  obtain ⟨⟨T, G⟩, hs⟩ : ∃ s, swp now t f a = s := ⟨_, rfl⟩
  rw [hs] at hTk hl ⊢
  dsimp only at hTk hl ⊢
  unfold settle
  by_cases c : 0 < G
  · rw [if_pos c, if_pos c]
    refine bind_of (count_some 2 (by omega)) ?_
    have cl := countIn_le 2 T
    rw [show wrap64 (2 * (countIn 2 T : Int)) = 2 * (countIn 2 T : Int) by unfold wrap64; omega]
    by_cases c2 : 2 * (countIn 2 T : Int) > (T.length : Int)
    · rw [if_pos (by omega), if_pos c2]
      exact bind_of (ftidy_some T (by omega) hTk).1 rfl
    · rw [if_neg (by omega), if_neg c2]
  · rw [if_neg c, if_neg c]
theorem all_some {t : List Ent} (ht : t.length ≤ 64) (hks : Keys60 t) (now : Int) : sweep_All.f t now = some (settle (swp now t 0 t.length).1 (swp now t 0 t.length).2, (swp now t 0 t.length).2) := by
  unfold sweep_All.f
  exact bind_of (step_some ht hks 0 t.length now) rfl
theorem due_some (x : Ent) (now : Int) : sweep_Due.f x.f0 x.f1 x.f2 x.f3 now = some (overB now x) := by
  unfold sweep_Due.f
  exact bind_of (over_some now x) rfl
theorem swp_keys {t : List Ent} (hks : Keys60 t) (now f a : Int) : Keys60 (swp now t f a).1 := keys_step (swp_in t f a) hks
theorem swp_right {t : List Ent} (hR : RightP t) (now f a : Int) : RightP (swp now t f a).1 := right_step (swp_in t f a) hR
theorem left_len {t : List Ent} (ht : t.length ≤ 64) (hks : Keys60 t) (now f a : Int) : (settle (swp now t f a).1 (swp now t f a).2).length = t.length := by
  have hl := swp_len now t f a
  rw [settle_len (by omega) (swp_keys hks now f a)]; exact hl
theorem swp_cnt (t : List Ent) (now f a : Int) : 0 ≤ (swp now t f a).2 ∧ (swp now t f a).2 ≤ t.length := by
  have h := stepAll_count now (upto (placeAt (fvOf f t.length) t.length) (nOf a t.length)) (t, 0)
  have h2 := nOf_le a t.length
  rw [upto_length] at h
  unfold swp
  dsimp only at h
  omega
/-- What is left is right, and holds what was there and was not over. -/
theorem left_spec {t : List Ent} (ht : t.length ≤ 64) (hks : Keys60 t) (hR : RightP t) (now f a : Int) : RightP (settle (swp now t f a).1 (swp now t f a).2) ∧ Keys60 (settle (swp now t f a).1 (swp now t f a).2) ∧ (∀ e, Has (settle (swp now t f a).1 (swp now t f a).2) e → Has t e) ∧ (∀ e, Has t e → Has (settle (swp now t f a).1 (swp now t f a).2) e ∨ (overB now e = true ∧ 0 < (swp now t f a).2)) ∧ (countIn 1 (settle (swp now t f a).1 (swp now t f a).2) : Int) + (swp now t f a).2 = countIn 1 t := by
  have hl := swp_len now t f a
  have hc := swp_cnt t now f a
  obtain ⟨h1, h2, h3, h4⟩ := settle_spec (G := (swp now t f a).2) (by omega) (swp_keys hks now f a) (swp_right hR now f a)
  refine ⟨h1, h2, fun e he => ?_, fun e he => ?_, ?_⟩
  · exact (has_step (swp_in t f a) e).1 ((h3 e).1 he)
  · by_cases c : 0 < (swp now t f a).2
    · rcases (has_step (now := now) (swp_in t f a) e).2 he with h | h
      · exact .inl ((h3 e).2 h)
      · exact .inr ⟨h, c⟩
    · left
      have e0 : (swp now t f a).1 = t := (same_step (now := now) (swp_in t f a)).2 (show (swp now t f a).2 = 0 by omega)
      rw [h3, e0]; exact he
  · rw [h4]; exact live_step (swp_in t f a)
/-- Of all places. -/
theorem all_gone (t : List Ent) (now : Int) (e : Ent) (h : Has (swp now t 0 t.length).1 e) : overB now e = false := by
  obtain ⟨j, j0, j1, j2, j3⟩ := h
  rw [swp_len] at j1
  rw [← j2]
  refine done_step _ (t, 0) (swp_in t 0 t.length) rfl j j0 j1 (.inl ?_)
  rw [mem_upto]
  have hf : fvOf 0 t.length = 0 := by unfold fvOf; split <;> rfl
  have hn : nOf (t.length : Int) t.length = t.length := by unfold nOf; rw [if_neg (by omega), if_neg (by omega)]; simp
  refine ⟨j.toNat, by rw [hn]; omega, ?_⟩
  rw [hf]
  unfold placeAt
  rw [Int.emod_eq_of_lt (by omega) (by omega)]; omega
theorem all_left {t : List Ent} (ht : t.length ≤ 64) (hks : Keys60 t) (hR : RightP t) (now : Int) (e : Ent) : Has (settle (swp now t 0 t.length).1 (swp now t 0 t.length).2) e ↔ (Has t e ∧ overB now e = false) := by
  obtain ⟨h1, h2, h3, h4, h5⟩ := left_spec ht hks hR now 0 t.length
  have hl := swp_len now t 0 t.length
  have hq := (settle_spec (G := (swp now t 0 t.length).2) (by omega) (swp_keys hks now 0 t.length) (swp_right hR now 0 t.length)).2.2.1
  constructor
  · intro h
    exact ⟨h3 e h, all_gone t now e ((hq e).1 h)⟩
  · rintro ⟨h, ho⟩
    rcases h4 e h with h | ⟨h, _⟩
    · exact h
    · rw [ho] at h; exact absurd h (by decide)
theorem eq_sym {α : Type} {a b : α} : a ≠ b → b ≠ a := fun h e => h e.symm
/-- Tables that are right and hold the same flows have as many. -/
theorem sub_length {α : Type} : ∀ (a b : List α), a.Pairwise (· ≠ ·) → (∀ x ∈ a, x ∈ b) → a.length ≤ b.length
  | [], _, _, _ => by simp
  | x :: a, b, hp, hs => by
    obtain ⟨b1, b2, rfl⟩ := List.append_of_mem (hs x (by simp))
    rw [List.pairwise_cons] at hp
    have := sub_length a (b1 ++ b2) hp.2 (fun y hy => by
      have h1 := hs y (by simp [hy])
      have h2 := hp.1 y hy
      simp only [List.mem_append, List.mem_cons] at h1 ⊢
      rcases h1 with h | h | h
      · exact .inl h
      · exact absurd h.symm h2
      · exact .inr h)
    simp only [List.length_append, List.length_cons] at this ⊢
    omega
theorem live_nodup {l : List Ent} (hR : RightP l) : (l.filter fun x => x.f0 == 1).Pairwise (· ≠ ·) := by
  rw [← live_snd2, List.pairwise_map]
  refine (live_pair l).imp_of_mem (fun {p q} hp hq h e => ?_)
  obtain ⟨i, hi, rfl, hi2⟩ := mem_live.1 hp
  obtain ⟨j, hj, rfl, hj2⟩ := mem_live.1 hq
  have e' : rdE l (i : Int) = rdE l (j : Int) := e
  have a := right_fnd hR (j := (i : Int)) (key := (rdE l (i : Int)).f1) (by omega) (by omega) hi2 rfl
  have b := right_fnd hR (j := (j : Int)) (key := (rdE l (i : Int)).f1) (by omega) (by omega) hj2 (by rw [e'])
  dsimp only at h
  omega
theorem count_same {l u : List Ent} (hl : RightP l) (hu : RightP u) (h : ∀ e, Has u e ↔ Has l e) : countIn 1 u = countIn 1 l := by
  have a := sub_length _ _ (live_nodup hl) (fun x hx => (has_filter u x).2 ((h x).2 ((has_filter l x).1 hx)))
  have b := sub_length _ _ (live_nodup hu) (fun x hx => (has_filter l x).2 ((h x).1 ((has_filter u x).1 hx)))
  exact Nat.le_antisymm b a
theorem fvOf_id {x : Int} {n : Nat} (h0 : 0 ≤ x) (h1 : x < n) : fvOf x n = x := by
  unfold fvOf
  rw [if_neg (by omega)]
theorem nxt_self (f a : Int) (n : Nat) : fvOf (nxt f a n) n = nxt f a n := by
  by_cases c : 0 < n
  · have r := placeAt_range (f := fvOf f n) (nOf a n) c
    have e : nxt f a n = placeAt (fvOf f n) n (nOf a n) := if_pos c
    rw [e]; exact fvOf_id r.1 r.2
  · have e : nxt f a n = 0 := if_neg c
    rw [e]
    unfold fvOf
    split <;> rfl
theorem putR_keys {l : List Ent} {x : Ent} (hk : Keys60 l) (hx : x.f1.size ≤ 60) : Keys60 (putR l x).2 := by
  have r := fnd_range l x.f1
  have r2 := rm_range l x.f1
  unfold putR
  by_cases c : fnd l x.f1 < 0
  · rw [if_pos c]
    by_cases c2 : rm l x.f1 < 0
    · rw [if_pos c2]; exact hk
    · rw [if_neg c2]; exact keys_put (by omega) (by omega) hk hx
  · rw [if_neg c]; exact keys_put (by omega) (by omega) hk hx
theorem tidy_keys : ∀ (rest : List (Int × Ent)) (c : List Ent), c.length ≤ 1000000 → Keys60 c → (∀ p ∈ rest, p.2.f1.size ≤ 60) → Keys60 (tidyAll c rest)
  | [], c, _, hk, _ => hk
  | p :: rest, c, hl, hk, h => by
    have hp := h p (by simp)
    have e : tidyAll c (p :: rest) = tidyAll (tidyStep c p.2) rest := rfl
    rw [e, tidyStep_eq (by omega) hl]
    exact tidy_keys rest _ (by rw [putR_length]; exact hl) (putR_keys hk hp) (fun q hq => h q (by simp [hq]))
theorem left_keys {t : List Ent} (ht : t.length ≤ 64) (hks : Keys60 t) (now f a : Int) : Keys60 (settle (swp now t f a).1 (swp now t f a).2) := by
  have hTk := swp_keys hks now f a
  have hTl := swp_len now t f a
  unfold settle
  split
  · split
    · refine tidy_keys _ _ (by rw [List.length_replicate]; omega) (inv_new _).keys (fun p hp => ?_)
      obtain ⟨j, hj, rfl, _⟩ := mem_live.1 hp
      exact hTk j hj
    · exact hTk
  · exact hTk

end Go.Proofs.Ythdkkmeiihbafaa.Pure
