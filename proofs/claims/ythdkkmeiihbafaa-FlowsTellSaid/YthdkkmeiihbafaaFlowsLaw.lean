/- Tables of flows: what is put, deleted, tidied; which tables are right. Laws with no program in sight. -/
import Derived.Test.YthdkkmeiihbafaaFlowBase
import Derived.Test.YthdkkmeiihbafaaPx4
import Derived.Test.YthdkkmeiihbafaaPx5
import Derived.Test.YthdkkmeiihbafaaPx3
import Derived.Test.YthdkkmeiihbafaaPx2
set_option linter.unusedVariables false
set_option linter.unusedSimpArgs false
namespace Go.Proofs.Ythdkkmeiihbafaa.Pure
open Go.RowKit Go.Proofs.Ythdkkmeiihbafaa.P Go.Proofs.YthdkkmeiihbafaaW.PrintWords Go.Proofs.YthdkkmeiihbafaaW.PrintLast Go.Proofs.Ythdkkmeiihbafaa.Hand Go.Proofs.Ythdkkmeiihbafaa.ProbeLaw

theorem works12_8 : gangplanklaw12_works.f 8 = some true := by decide +kernel
theorem works12 (k : Nat) (hk : 8 ≤ k) : gangplanklaw12_works.f k = some true := at_rounds gangplanklaw12_works.mono hk works12_8

/-- Where a key's way begins. -/
def hm (key : ByteArray) (n : Nat) : Int := (probe_Home.f key n).getD 0
theorem hm_some {key : ByteArray} {n : Nat} (hs : key.size ≤ 140737488351232) (hn : n ≤ 1000000) : probe_Home.f key (n : Int) = some (hm key n) := by
  obtain ⟨h, hh, _⟩ := home_some key n hs (by omega)
  unfold hm
  rw [hh]; rfl
def fnd (l : List Ent) (key : ByteArray) : Int := findIn key (wayL l (hm key l.length))
def rm (l : List Ent) (key : ByteArray) : Int := roomIn (wayL l (hm key l.length))
theorem fnd_some {l : List Ent} {key : ByteArray} (hs : key.size ≤ 140737488351232) (hl : l.length ≤ 1000000) : probe_Find.f l key = some (fnd l key) := find_some hl (hm_some hs hl)
theorem fnd_range (l : List Ent) (key : ByteArray) : fnd l key = -1 ∨ (0 ≤ fnd l key ∧ fnd l key < l.length) := find_range
theorem fnd_live {l : List Ent} {key : ByteArray} (h : 0 ≤ fnd l key) : (rdE l (fnd l key)).f0 = 1 ∧ (rdE l (fnd l key)).f1 = key := by
  rcases find_cases key l (hm key l.length) with f | ⟨i, hi, hp, h0, h1, f⟩
  · unfold fnd at h; omega
  · have e : fnd l key = pos (hm key l.length) l.length i := f
    rw [e]; exact ⟨h0, h1⟩

/-- Another entry at a place, over which a key's way goes on, and where the key did not stand: it stands where it stood. -/
theorem set_fnd {l : List Ent} {j : Int} {x : Ent} {key : ByteArray} (h0 : 0 ≤ j) (h1 : j < l.length) (hx : goesOn key x) (hj : ¬ ((rdE l j).f0 = 1 ∧ (rdE l j).f1 = key)) (h : 0 ≤ fnd l key) : fnd (l.set j.toNat x) key = fnd l key := by
  rcases find_cases key l (hm key l.length) with f | ⟨i, hi, hp, hl0, hl1, f⟩
  · unfold fnd at h; omega
  · have hlen : (l.set j.toNat x).length = l.length := List.length_set
    have ei : entOn (l.set j.toNat x) (hm key l.length) i = entOn l (hm key l.length) i := by
      rw [entOn_set _ _ _ _ _ h0 h1 hi, if_neg (fun e => hj (by unfold entOn at hl0 hl1; rw [e] at hl0 hl1; exact ⟨hl0, hl1⟩))]
    have e : fnd l key = pos (hm key l.length) l.length i := f
    rw [e]
    unfold fnd
    rw [hlen, find_at (i := i) (by omega) (fun j' hj' => ?_) (by rw [ei]; exact fun hg => hg.2 ⟨hl0, hl1⟩), ei, if_neg (by rw [hl0]; decide), hlen]
    rw [entOn_set _ _ _ _ _ h0 h1 (by omega)]
    by_cases e : pos (hm key l.length) l.length j' = j
    · rw [if_pos e]; exact hx
    · rw [if_neg e]; exact hp j' hj'
theorem set_fnd_both {l : List Ent} {j : Int} {x : Ent} {key : ByteArray} (h0 : 0 ≤ j) (h1 : j < l.length) (hx : goesOn key x) (hj : goesOn key (rdE l j)) : fnd (l.set j.toNat x) key = fnd l key := by
  have hlen : (l.set j.toNat x).length = l.length := List.length_set
  unfold fnd
  rw [hlen]
  refine find_congr hlen (fun i hi => ?_)
  rw [entOn_set _ _ _ _ _ h0 h1 hi]
  by_cases e : pos (hm key l.length) l.length i = j
  · rw [if_pos e]; right; refine ⟨hx, ?_⟩; unfold entOn; rw [e]; exact hj
  · rw [if_neg e]; exact .inl rfl

/-- What is put in. -/
def putR (l : List Ent) (x : Ent) : Bool × List Ent := if fnd l x.f1 < 0 then (if rm l x.f1 < 0 then (false, l) else (true, l.set (rm l x.f1).toNat x)) else (true, l.set (fnd l x.f1).toNat x)
theorem rm_range (l : List Ent) (key : ByteArray) : rm l key = -1 ∨ (0 ≤ rm l key ∧ rm l key < l.length) := room_range
theorem put_some {l : List Ent} (x : Ent) (hs : x.f1.size ≤ 140737488351232) (hl : l.length ≤ 1000000) : flows_table_put.f l x.f0 x.f1 x.f2 x.f3 = some (putR l x) := by
  unfold flows_table_put.f putR
  refine bind_of (fnd_some hs hl) ?_
  have r := fnd_range l x.f1
  have r2 := rm_range l x.f1
  by_cases c : fnd l x.f1 < 0
  · rw [if_pos c, if_pos c]
    have e := room_some hl (hm_some hs hl)
    rw [if_neg (show ¬ 0 ≤ findIn x.f1 (wayL l (hm x.f1 l.length)) from by unfold fnd at c; omega)] at e
    refine bind_of e ?_
    show (if rm l x.f1 < 0 then _ else _) = _
    by_cases c2 : rm l x.f1 < 0
    · rw [if_pos c2, if_pos c2]
    · rw [if_neg c2, if_neg c2, if_pos (show 0 ≤ roomIn _ from by unfold rm at c2; omega), if_pos (show roomIn _ < _ from by unfold rm at r2 c2; omega)]
      rfl
  · rw [if_neg c, if_neg c, if_pos (by omega), if_pos (by omega)]
/-- It is put in at a place; or there is no room. -/
theorem putR_cases (l : List Ent) (x : Ent) (hx : x.f0 = 1) (hs : x.f1.size ≤ 140737488351232) (hl : l.length ≤ 1000000) :
    (∃ j : Int, 0 ≤ j ∧ j < l.length ∧ putR l x = (true, l.set j.toNat x) ∧ fnd (l.set j.toNat x) x.f1 = j ∧ ((fnd l x.f1 = j ∧ (rdE l j).f0 = 1 ∧ (rdE l j).f1 = x.f1) ∨ (fnd l x.f1 = -1 ∧ (rdE l j).f0 ≠ 1))) ∨
    (putR l x = (false, l) ∧ fnd l x.f1 = -1 ∧ countIn 1 l = l.length) := by
  have r := fnd_range l x.f1
  have r2 := rm_range l x.f1
  by_cases c : fnd l x.f1 < 0
  · have cm : fnd l x.f1 = -1 := by omega
    rcases room_cases l (hm x.f1 l.length) with ⟨q, ha⟩ | ⟨i, hi, hp, hs', q⟩
    · right
      have q' : rm l x.f1 = -1 := q
      refine ⟨by unfold putR; rw [if_pos c, if_pos (by omega)], cm, ?_⟩
      obtain ⟨h, hh, hr, _⟩ := home_some x.f1 l.length hs (by omega)
      have e : hm x.f1 l.length = h := by unfold hm; rw [hh]; rfl
      exact all_live (h := h) (fun hz => (hr (by omega)).1) (by rw [← e]; exact ha)
    · left
      have q' : rm l x.f1 = pos (hm x.f1 l.length) l.length i := q
      have pr := pos_range (h := hm x.f1 l.length) (n := l.length) i (by omega)
      have gone := find_neg (key := x.f1) (l := l) (h := hm x.f1 l.length) c hi hp
      have hlen : (l.set (pos (hm x.f1 l.length) l.length i).toNat x).length = l.length := List.length_set
      refine ⟨rm l x.f1, by omega, by omega, by unfold putR; rw [if_pos c, if_neg (by omega)], ?_, .inr ⟨cm, by rw [q']; exact hs'⟩⟩
      rw [q']
      have ei : entOn (l.set (pos (hm x.f1 l.length) l.length i).toNat x) (hm x.f1 l.length) i = x := by rw [entOn_set _ _ _ _ _ pr.1 pr.2 hi, if_pos rfl]
      unfold fnd
      rw [hlen, find_at (i := i) (by omega) (fun j hj => ?_) (by rw [ei]; exact fun hg => hg.2 ⟨hx, rfl⟩), ei, if_neg (by rw [hx]; decide), hlen]
      rw [entOn_set _ _ _ _ _ pr.1 pr.2 (by omega), if_neg (fun e => by have := pos_inj (by omega) hi e; omega)]
      exact gone j hj
  · left
    have lv := fnd_live (l := l) (key := x.f1) (by omega)
    refine ⟨fnd l x.f1, by omega, by omega, by unfold putR; rw [if_neg c], ?_, .inl ⟨rfl, lv⟩⟩
    have h0 : 0 ≤ fnd l x.f1 := by omega
    have h1 : fnd l x.f1 < l.length := by omega
    rcases find_cases x.f1 l (hm x.f1 l.length) with f | ⟨i, hi, hp, hl0, hl1, f⟩
    · unfold fnd at c; omega
    · have e : fnd l x.f1 = pos (hm x.f1 l.length) l.length i := f
      have hlen : (l.set (fnd l x.f1).toNat x).length = l.length := List.length_set
      have ei : entOn (l.set (fnd l x.f1).toNat x) (hm x.f1 l.length) i = x := by rw [entOn_set _ _ _ _ _ h0 h1 hi, if_pos e.symm]
      show findIn x.f1 (wayL _ (hm x.f1 (l.set (fnd l x.f1).toNat x).length)) = _
      rw [hlen, find_at (i := i) (by omega) (fun j hj => ?_) (by rw [ei]; exact fun hg => hg.2 ⟨hx, rfl⟩), ei, if_neg (by rw [hx]; decide), hlen]
      · exact e.symm
      rw [entOn_set _ _ _ _ _ h0 h1 (by omega), if_neg (fun e' => by have := pos_inj (by omega) hi (e'.trans e); omega)]
      exact hp j hj

/-- All flows are found where they stand. -/
def RightP (l : List Ent) : Prop := ∀ j : Int, 0 ≤ j → j < l.length → (rdE l j).f0 = 1 → fnd l (rdE l j).f1 = j
theorem right_fnd {l : List Ent} (hR : RightP l) {j : Int} {key : ByteArray} (h0 : 0 ≤ j) (h1 : j < l.length) (hv : (rdE l j).f0 = 1) (hk : (rdE l j).f1 = key) : fnd l key = j := by
  have := hR j h0 h1 hv
  rw [hk] at this; exact this
theorem right_set {l : List Ent} {j : Int} {x : Ent} (hR : RightP l) (h0 : 0 ≤ j) (h1 : j < l.length) (hx0 : x.f0 ≠ 0) (hx1 : x.f0 = 1 → (fnd l x.f1 = j ∨ fnd l x.f1 < 0) ∧ fnd (l.set j.toNat x) x.f1 = j) : RightP (l.set j.toNat x) := by
  intro i hi0 hi1 hv
  rw [List.length_set] at hi1
  rw [rdE_set l j x i h0 h1 hi0 hi1] at hv ⊢
  by_cases e : i = j
  · rw [if_pos e] at hv ⊢
    rw [e]; exact (hx1 hv).2
  · rw [if_neg e] at hv ⊢
    have hf := hR i hi0 hi1 hv
    rw [set_fnd h0 h1 ⟨hx0, fun hh => ?_⟩ (fun hh => ?_) (by omega)]
    · exact hf
    · have := (hx1 hh.1).1
      rw [hh.2] at this; omega
    · have := hR j h0 h1 hh.1
      rw [hh.2] at this; omega
theorem right_put {l : List Ent} {x : Ent} (hR : RightP l) (hx : x.f0 = 1) (hs : x.f1.size ≤ 140737488351232) (hl : l.length ≤ 1000000) : RightP (putR l x).2 := by
  rcases putR_cases l x hx hs hl with ⟨j, h0, h1, e, hf, hc⟩ | ⟨e, _, _⟩
  · rw [e]
    exact right_set hR h0 h1 (by rw [hx]; decide) (fun _ => ⟨hc.elim (fun h => .inl h.1) (fun h => .inr (by omega)), hf⟩)
  · rw [e]; exact hR

/-- All keys are so short that they are asked about. -/
def Keys60 (l : List Ent) : Prop := ∀ j : Nat, j < l.length → (rdE l (j : Int)).f1.size ≤ 60
theorem few_cases2 (l : List Ent) (k : Nat) (hk : 100 ≤ k) : gangplanklaw12_few.f k l = some false ∨ (gangplanklaw12_few.f k l = some true ∧ l.length ≤ 64 ∧ Keys60 l) := by
  unfold gangplanklaw12_few.f gangplankref11_Few.f
  by_cases c : (l.length : Int) > 80
  · rw [if_pos c]; exact .inl rfl
  · rw [if_neg c]
    rcases few_loop l (by omega) l.length k 0 (by omega) (by omega) (by omega) with h | ⟨h, hk⟩
    · left; exact bind_of h rfl
    · by_cases c2 : (l.length : Int) ≤ 64
      · right; exact ⟨bind_of h (by rw [if_pos rfl, decide_eq_true c2]), by omega, fun j hj => hk j (Nat.zero_le _) hj⟩
      · left; exact bind_of h (by rw [if_pos rfl, decide_eq_false c2])
theorem mem_live {l : List Ent} {p : Int × Ent} : p ∈ liveL l ↔ ∃ j : Nat, j < l.length ∧ p = ((j : Int), rdE l j) ∧ (rdE l (j : Int)).f0 = 1 := by
  unfold liveL liveUpto
  rw [List.mem_filter, mem_upto]
  constructor
  · rintro ⟨⟨j, hj, rfl⟩, hv⟩
    exact ⟨j, hj, rfl, by simpa using hv⟩
  · rintro ⟨j, hj, rfl, hv⟩
    exact ⟨⟨j, hj, rfl⟩, by simpa using hv⟩
theorem right_some {l : List Ent} (hl : l.length ≤ 1000000) (hk : Keys60 l) : ∃ b, flows_Right.f l = some b ∧ (b = true ↔ RightP l) := by
  have hk' : ∀ p ∈ liveL l, p.2.f1.size ≤ 140737488351232 := fun p hp => by
    obtain ⟨j, hj, rfl, _⟩ := mem_live.1 hp
    have := hk j hj
    show (rdE l (j : Int)).f1.size ≤ _
    omega
  unfold flows_Right.f
  rw [if_pos hl, if_pos (List.all_eq_true.2 (fun p hp => by rw [fnd_some (hk' p hp) hl]; rfl))]
  refine ⟨_, rfl, ?_⟩
  rw [List.all_eq_true]
  constructor
  · intro h j h0 h1 hv
    have := h ((j.toNat : Int), rdE l (j.toNat : Int)) (mem_live.2 ⟨j.toNat, by omega, rfl, by rw [Int.toNat_of_nonneg h0]; exact hv⟩)
    rw [Int.toNat_of_nonneg h0] at this
    have hs := hk j.toNat (by omega)
    rw [Int.toNat_of_nonneg h0] at hs
    rw [fnd_some (by show (rdE l j).f1.size ≤ _; omega) hl] at this
    simpa using this
  · intro h p hp
    rw [fnd_some (hk' p hp) hl]
    obtain ⟨j, hj, rfl, hv⟩ := mem_live.1 hp
    have := h (j : Int) (by omega) (by omega) hv
    simpa using this
theorem fput_some {l : List Ent} {key : ByteArray} (b d : Int) (hs : key.size ≤ 140737488351232) (hl : l.length ≤ 1000000) : flows_Put.f l key b d = some (if (putR l ⟨1, key, b, d⟩).1 = true then ((putR l ⟨1, key, b, d⟩).2, 0) else (l, 12)) := by
  unfold flows_Put.f
  rw [if_pos hl]
  exact bind_of (put_some ⟨1, key, b, d⟩ hs hl) rfl
theorem putR_length (l : List Ent) (x : Ent) : (putR l x).2.length = l.length := by
  unfold putR
  split
  · split <;> simp
  · simp
theorem keys_put {l : List Ent} {x : Ent} {j : Int} (h0 : 0 ≤ j) (h1 : j < l.length) (hk : Keys60 l) (hx : x.f1.size ≤ 60) : Keys60 (l.set j.toNat x) := by
  intro i hi
  rw [List.length_set] at hi
  rw [rdE_set l j x i h0 h1 (by omega) (by omega)]
  by_cases e : (i : Int) = j
  · rw [if_pos e]; exact hx
  · rw [if_neg e]; exact hk i hi
end Go.Proofs.Ythdkkmeiihbafaa.Pure
