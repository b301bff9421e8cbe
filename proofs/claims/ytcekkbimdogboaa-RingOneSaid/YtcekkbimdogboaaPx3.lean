/- Each Go function that the laws reach, as a plain function, with the proof that the machine's call comes to what it says; of a law: its row. Made by a program of this seat (wip/hp.py, over the print). -/
import Derived.Test.YtcekkbimdogboaaPx0
import Derived.Test.YtcekkbimdogboaaPx1
import Derived.Test.YtcekkbimdogboaaPx2
namespace Go.Proofs.Ytcekkbimdogboaa.P
open Go.RowKit Go.Proofs.YtcekkbimdogboaaW.PrintWords Go.Proofs.YtcekkbimdogboaaW.PrintLast Go.Proofs.YtcekkbimdogboaaW.PrintMore
attribute [local go_sem] max2_int min2_int max_two min_two max_three min_three max_four min_four   -- for this text's walks alone
set_option linter.unusedVariables false
set_option linter.unusedSimpArgs false

/-! ### pool_Check: function 25 -/
section
open Go.Shelf Go.Proofs.Ytcekkbimdogboaa.Hand Go.Maps
theorem plainElem_bool_inv {H : Type} {P : Program} {e : TypeId} (he : P.underlying e = some .bool) {v : Value} {z : DataW H × List MemPlace} (h : plainElem P e v = some z) : ∃ y, v = .bool y ∧ z = (.lit (.bool y), []) := by
  unfold plainElem at h
  rw [he] at h
  cases v <;> simp at h
  exact ⟨_, rfl, h.symm⟩
theorem atKey_foldN {H : Type} (u : DataW H) (k : Lit) (z : DataW H) : ∀ (acc : List Lit) (m : DataW H), k ∉ acc → (acc.foldl (fun m x => m.put x u) m).atKey k z = m.atKey k z
  | [], m, _ => rfl
  | x :: acc, m, h => by
    rw [List.foldl_cons, atKey_foldN u k z acc (m.put x u) (fun h1 => h (List.mem_cons_of_mem _ h1)), atKey_put_other (fun e : k = x => h (by rw [e]; exact List.mem_cons_self))]
theorem atKey_foldY {H : Type} (u : DataW H) (k : Lit) (hk : WideAt.IsKeyLit k) (z : DataW H) : ∀ (acc : List Lit) (m : DataW H), IsMap m → k ∈ acc → (acc.foldl (fun m x => m.put x u) m).atKey k z = u
  | [], m, _, h => by cases h
  | x :: acc, m, hm, h => by
    rw [List.foldl_cons]
    by_cases h1 : k ∈ acc
    · exact atKey_foldY u k hk z acc _ (hm.put x u) h1
    · rcases List.mem_cons.1 h with rfl | h2
      · rw [atKey_foldN u k z acc _ h1, atKey_put_same hm hk]
      · exact absurd h2 h1
/-- The ids seen so far, as the map holds them. -/
def seenD (ids : List Int) : DataW Unit := setOf (.lit (.bool true)) (ids.map (Lit.int .i64))
theorem seenD_snoc (ids : List Int) (x : Int) : seenD (ids ++ [x]) = (seenD ids).put (.int .i64 x) (.lit (.bool true)) := by
  unfold seenD; rw [List.map_append, List.map_singleton, setOf_snoc]
set_option maxRecDepth 100000 in
theorem seen_look (ids : List Int) (b n : Nat) (W : World) (x : Int) (hx : (Lit.int .i64 x).wf = true) (h : W.ownsMap Try.prog 3 (plainElem Try.prog 4) b n (seenD ids)) :
    (Instr.lookup 71 (.map (some b)) (.int .i64 x) false).run Try.prog W = .ok (.bool (decide (x ∈ ids))) W := by
  have K : Keyed Try.prog 3 := int_keyed Try.underlying3
  have hkey := keyOf_int_mk (P := Try.prog) Try.underlying3 hx
  obtain ⟨v, ps, hrun, hv⟩ := h.lookup K Try.underlying71 (Try.zeroValue4 W) (plainElem_bool Try.underlying4 false) hkey
  obtain ⟨y, rfl, hy⟩ := plainElem_bool_inv Try.underlying4 hv
  have e : (seenD ids).atKey (.int .i64 x) (.lit (.bool false)) = .lit (.bool (decide (x ∈ ids))) := by
    unfold seenD setOf
    by_cases hm : x ∈ ids
    · rw [atKey_foldY _ _ (K.key hkey) _ _ _ isMap_empty (List.mem_map.2 ⟨x, hm, rfl⟩), decide_eq_true hm]
    · rw [atKey_foldN _ _ _ _ _ (fun h => by obtain ⟨a, ha, e⟩ := List.mem_map.1 h; cases e; exact hm ha), decide_eq_false hm]
      rfl
  rw [e] at hy
  have hy1 := congrArg Prod.fst hy
  have hy2 : decide (x ∈ ids) = y := by injection hy1 with h1; injection h1
  subst hy2
  exact hrun
/-- Is one of a pool's backends one that may not be? -/
def badFrom : List S39 → List Int → Bool
  | [], _ => false
  | b :: r, seen => decide (b.f0 ∈ seen) || (outP (b.f0, 65535) || outP (b.f1, 16)) || badFrom r (seen ++ [b.f0])
def checkL (l : List S39) : Int := if badFrom l [] = true then 10 else if 32 < l.length then 10 else 0
def idsL (l : List S39) : List Int := l.map (·.f0)
theorem badFrom_step (l : List S39) (k : Nat) (h : k < l.length) : badFrom (l.drop k) (idsL (l.take k)) = (decide ((l.getD k z39).f0 ∈ idsL (l.take k)) || (outP ((l.getD k z39).f0, 65535) || outP ((l.getD k z39).f1, 16)) || badFrom (l.drop (k + 1)) (idsL (l.take (k + 1)))) := by
  rw [List.drop_eq_getElem_cons h]
  have e : idsL (l.take (k + 1)) = idsL (l.take k) ++ [l[k].f0] := by unfold idsL; rw [List.take_succ_eq_append_getElem h, List.map_append]; rfl
  rw [e]
  simp [badFrom, h]
theorem idsL_take (l : List S39) (k : Nat) (h : k < l.length) : idsL (l.take (k + 1)) = idsL (l.take k) ++ [(l.getD k z39).f0] := by
  unfold idsL; rw [List.take_succ_eq_append_getElem h, List.map_append]; simp [h]
def idsWf (l : List S39) : Bool := l.all fun b => (Lit.int .i64 b.f0).wf
theorem check_nums (n k : Nat) (hl : n ≤ 1000000) (h : k < n) : decide ((k : Int) < (n : Int)) = true ∧ (0 : Int) ≤ (k : Int) ∧ (k : Int) < (n : Int) ∧ wrap64 ((k : Int) + 1) = ((k + 1 : Nat) : Int) ∧ k < maxLen :=
  ⟨decide_eq_true (by omega), by omega, by omega, by unfold wrap64; omega, by unfold maxLen; omega⟩
theorem check_meas (n k : Nat) (h : k < n) : n - (((k + 1 : Nat) : Int)).toNat < n - ((k : Int)).toNat := by
  rw [Int.toNat_natCast, Int.toNat_natCast]; omega
set_option maxRecDepth 100000 in
set_option maxHeartbeats 8000000 in
theorem Check_any (A : Option Addr) (c : Nat) (l : List S39) (hl : l.length ≤ 1000000) (hwf : idsWf l = true) (w : World) (hC : Kd.C k39 w A l.length l) :
    Calls Try.prog 25 #[.slice A l.length c] w fun e w' => e = .returned (.int .i64 (checkL l)) ∧ Below w.heap.size w w' := by
  have hmm := @run_makeMap Try.prog
  have HC := Lib.hid hC
  have HL := Lib.hid hl
  have HWF := Lib.hid hwf
  clear hC hl hwf
  have hown0 := World.ownsMap_made w Try.prog 3 (plainElem (H := Unit) Try.prog 4)
  have hb0 := below_alloc (Below.refl w.heap.size w) (.map #[] 0)
  have HO0 := Lib.hid hown0
  have HB0 := Lib.hid hb0
  clear hown0 hb0
  obtain ⟨r, hr⟩ : ∃ r, checkL l = r := ⟨_, rfl⟩
  rw [hr]
  have HR := Lib.hid hr
  clear hr
  go_enter Try.func25, Try.ntmps25
  go_wp2
  go_loopw [9] (fun i wr => ∃ (k : Nat), k ≤ l.length ∧ i = .int .i64 k ∧ Aside0 (wr.ownsMap Try.prog 3 (plainElem Try.prog 4) w.heap.size k (seenD (idsL (l.take k)))) ∧ Aside0 (badFrom (l.drop k) (idsL (l.take k)) = badFrom l []) ∧ Aside0 (Below w.heap.size w wr))
    (fun i _ => l.length - (intOf i).toNat)
  case atStart => exact ⟨0, Nat.zero_le _, rfl, ⟨HO0.out⟩, ⟨rfl⟩, ⟨HB0.out⟩⟩
  case round =>
    obtain ⟨k, hk, rfl, HO, HK, HBr⟩ := hrel
    by_cases hlt : k < l.length
    · obtain ⟨ad, hA, c0, c1⟩ := at_T39 (Kd.C_below HC.out HBr.out) (k : Int) (by omega) (by omega)
      subst hA
      have hst := HK.out
      have hid := idsL_take l k hlt
      rw [badFrom_step l k hlt] at hst
      rw [show rd_T39 l (k : Int) = l.getD k z39 from rfl] at c0 c1
      have hbw : (Lit.int .i64 (l.getD k z39).f0).wf = true := by
        have h := List.all_eq_true.1 HWF.out (l.getD k z39) (by simp [hlt])
        exact h
      obtain ⟨b, hb⟩ : ∃ b, l.getD k z39 = b := ⟨_, rfl⟩
      rw [hb] at c0 c1 hst hbw hid
      rw [Int.toNat_natCast] at c0 c1
      obtain ⟨q1, q2, q3, hwk, hkm⟩ := check_nums l.length k HL.out hlt
      have HST := Lib.hid hst
      have HBW := Lib.hid HBr.out
      have HID := Lib.hid hid
      have HWB := Lib.hid hbw
      have HKM := Lib.hid hkm
      clear hst hb HK HBr hid hbw hkm
      obtain ⟨b0, b1⟩ := b
      go_upto_region 5 with (fail)
      have hbx := Blk.new wr 39 [.int .i64 b0, .int .i64 b1]
      have hb1 := below_alloc HBW.out (.cells #[.int .i64 b0, .int .i64 b1] 39)
      have ho1 := HO.out.alloc (.cells #[.int .i64 b0, .int .i64 b1] 39)
      obtain ⟨g5, hg5⟩ : ∃ g5, wr.heap.size = g5 := ⟨_, rfl⟩
      obtain ⟨W1, hW1⟩ : ∃ W1, (wr.alloc (.cells #[.int .i64 b0, .int .i64 b1] 39)) = W1 := ⟨_, rfl⟩
      rw [hg5] at hbx ⊢
      rw [hW1] at hbx hb1 ho1 ⊢
      clear hg5 hW1 c0 c1 HBW HO
      have c0 : W1.cell? ⟨g5, 0, none⟩ = some (.int .i64 b0) := hbx.cell 0
      have c1 : W1.cell? ⟨g5, 1, none⟩ = some (.int .i64 b1) := hbx.cell 1
      have hlook := seen_look _ _ _ W1 b0 HWB.out ho1
      have HB1 := Lib.hid hb1
      have HO1 := Lib.hid ho1
      have HBX := Lib.hid hbx
      clear hb1 ho1 hbx
      obtain ⟨sn, hsn⟩ : ∃ sn, decide (b0 ∈ idsL (l.take k)) = sn := ⟨_, rfl⟩
      have hst := HST.out
      rw [hsn] at hlook hst
      clear HST hsn
      have HLK := Lib.hid hlook
      clear hlook
      cases sn with
      | true =>
        have hr1 : r = 10 := by rw [← HR.out]; unfold checkL; rw [← hst]; rfl
        have HR1 := Lib.hid hr1
        clear hst hr1
        have hlook := HLK.out
        clear HLK
        go_wp2
        go_ret
        exact ⟨by rw [HR1.out]; rfl, HB1.out⟩
      | false =>
        obtain ⟨ou, hou⟩ : ∃ ou, (outP (b0, 65535) || outP (b1, 16)) = ou := ⟨_, rfl⟩
        have hwi := within_any W1.heap.size b0 b1 (W1.alloc (.cells #[.int .i64 b0, .int .i64 65535, .int .i64 b1, .int .i64 16] 73)) (Blk.new W1 73 [.int .i64 b0, .int .i64 65535, .int .i64 b1, .int .i64 16])
        rw [hou] at hwi hst
        clear hou
        have HWI := Lib.hid hwi
        have hlook := HLK.out
        clear HLK hwi
        cases ou with
        | true =>
          have hr1 : r = 10 := by rw [← HR.out]; unfold checkL; rw [← hst]; rfl
          have HR1 := Lib.hid hr1
          clear hst hr1
          go_wp2_with (go_at_call 49; refine HWI.out.mono ?_; rintro e w3 ⟨rfl, hb3⟩; have HB3 := Lib.hid hb3; clear hb3)
          go_ret
          exact ⟨by rw [HR1.out]; rfl, (below_alloc HB1.out _).trans (HB3.out.mono (below_alloc HB1.out _).size)⟩
        | false =>
          have HST := Lib.hid (show badFrom (l.drop (k + 1)) (idsL (l.take (k + 1))) = badFrom l [] from by simpa using hst)
          clear hst
          have hkey := keyOf_int_mk (P := Try.prog) Try.underlying3 HWB.out
          have hb2 := below_alloc HB1.out (.cells #[.int .i64 b0, .int .i64 65535, .int .i64 b1, .int .i64 16] 73)
          have ho2 := HO1.out.alloc (.cells #[.int .i64 b0, .int .i64 65535, .int .i64 b1, .int .i64 16] 73)
          have hx2 := HBX.out.alloc (.cells #[.int .i64 b0, .int .i64 65535, .int .i64 b1, .int .i64 16] 73)
          have HB2 := Lib.hid hb2
          have HO2 := Lib.hid ho2
          have HX2 := Lib.hid hx2
          have HKEY := Lib.hid hkey
          clear hb2 ho2 hx2 hkey
          go_wp2_with (first
            | (go_at_call 49; refine HWI.out.mono ?_; rintro e w3 ⟨rfl, hb3⟩; have HB3 := Lib.hid (HB2.out.trans (hb3.mono HB2.out.size)); have HO3 := Lib.hid (HO2.out.kept (grown_of_below hb3 none) (by simp)); have HX3 := Lib.hid (HX2.out.below hb3); clear hb3; have c3 : w3.cell? ⟨g5, 0, none⟩ = some (.int .i64 b0) := HX3.out.cell 0)
            | (at_mapUpdate; refine wpList_mapUpdate_own _ rfl _ _ _ 71 rfl 3 4 (int_keyed Try.underlying3) Try.underlying71 (plainElem Try.prog 4) w.heap.size k _ rfl HO3.out HKM.out _ _ _ rfl rfl HKEY.out _ [] (plainElem_bool Try.underlying4 true) ?_; intro w4 hown4 hgrow4; have HO4 := Aside0.mk (show w4.ownsMap Try.prog 3 (plainElem Try.prog 4) w.heap.size (k + 1) (seenD (idsL (l.take (k + 1)))) from by rw [HID.out, seenD_snoc]; exact hown4); have HB4 := Aside0.mk (HB3.out.grown hgrow4 HB3.out.size (fun k e => by cases e; exact Nat.le_refl _)); clear hown4 hgrow4))
          go_roundw
          case rel => exact ⟨k + 1, Nat.succ_le_of_lt hlt, by rw [hwk], HO4, ⟨HST.out⟩, HB4⟩
          case measure =>
            rw [hwk]
            exact check_meas _ _ hlt
    · obtain rfl : k = l.length := Nat.le_antisymm hk (Nat.le_of_not_lt hlt)
      have q1 : decide ((l.length : Int) < (l.length : Int)) = false := decide_eq_false (by omega)
      have hb0 : badFrom l [] = false := by have h := HK.out; rw [List.drop_length] at h; exact h.symm
      clear HK HO
      by_cases h32 : 32 < l.length
      · have hr1 : r = 10 := by rw [← HR.out]; unfold checkL; rw [hb0, if_pos h32]; rfl
        have HR1 := Lib.hid hr1
        clear hr1 hb0
        have q2 : decide ((32 : Int) < (l.length : Int)) = true := decide_eq_true (by omega)
        go_wp2
        go_ret
        exact ⟨by rw [HR1.out]; rfl, HBr.out⟩
      · have hr1 : r = 0 := by rw [← HR.out]; unfold checkL; rw [hb0, if_neg h32]; rfl
        have HR1 := Lib.hid hr1
        clear hr1 hb0
        have q2 : decide ((32 : Int) < (l.length : Int)) = false := decide_eq_false (by omega)
        go_wp2
        go_ret
        exact ⟨by rw [HR1.out]; rfl, HBr.out⟩
def pool_Check.f (l0 : List S39) : Option Int := if l0.length ≤ 1000000 ∧ idsWf l0 = true then some (checkL l0) else none
theorem pool_Check.calls (A0 : Option Addr) (c0 : Nat) (l0 : List S39) (r : Int) (w : World) (hr0 : Kd.C k39 w A0 l0.length l0) (hc0 : l0.length ≤ c0) (h : pool_Check.f l0 = some r) :
    Calls Try.prog 25 #[.slice A0 l0.length c0] w fun e w' => e = .returned (.int .i64 r) ∧ Below w.heap.size w w' := by
  unfold pool_Check.f at h
  by_cases hl : l0.length ≤ 1000000 ∧ idsWf l0 = true
  · rw [if_pos hl] at h
    obtain rfl := Option.some.inj h
    exact Check_any A0 c0 l0 hl.1 hl.2 w hr0
  · rw [if_neg hl] at h
    exact absurd h (by simp)
end

-- NOT PRINTED: function 50 (api_Backend_50)

-- NOT PRINTED: function 72 (pool_named_1)

-- NOT PRINTED: function 51 (pool_named)

/-! ### pool_Find: function 26 -/
section
open Go.Shelf Go.Proofs.Ytcekkbimdogboaa.Hand
def findAt (id : Int) : List S39 → Int → Int
  | [], _ => -1
  | b :: l, i => if b.f0 = id then i else findAt id l (i + 1)
/-- Where a backend stands, or -1. -/
def findL (l : List S39) (id : Int) : Int := findAt id l 0
theorem findAt_step (id : Int) (l : List S39) (k : Nat) (h : k < l.length) (i : Int) : findAt id (l.drop k) i = if (l.getD k z39).f0 = id then i else findAt id (l.drop (k + 1)) (i + 1) := by
  rw [List.drop_eq_getElem_cons h]
  simp [findAt, h]
theorem findAt_end (id : Int) (l : List S39) (i : Int) : findAt id (l.drop l.length) i = -1 := by
  rw [List.drop_length]; rfl
theorem findAt_cases (id : Int) : ∀ (l : List S39) (i : Int), (findAt id l i = -1 ∧ ∀ b ∈ l, b.f0 ≠ id) ∨ ∃ k : Nat, ∃ h : k < l.length, findAt id l i = i + k ∧ l[k].f0 = id ∧ ∀ j (hj : j < k), l[j].f0 ≠ id
  | [], i => .inl ⟨rfl, fun b hb => by cases hb⟩
  | b :: l, i => by
    by_cases hb : b.f0 = id
    · exact .inr ⟨0, by simp, by simp [findAt, hb], hb, fun j hj => absurd hj (Nat.not_lt_zero _)⟩
    · rcases findAt_cases id l (i + 1) with ⟨h1, h2⟩ | ⟨k, h, h1, h2, h3⟩
      · exact .inl ⟨by simp [findAt, hb, h1], fun x hx => by rcases List.mem_cons.1 hx with rfl | hx; exact hb; exact h2 x hx⟩
      · refine .inr ⟨k + 1, by simp; omega, by simp [findAt, hb, h1]; omega, by simpa using h2, fun j hj => ?_⟩
        cases j with
        | zero => simpa using hb
        | succ j => simpa using h3 j (by omega)
theorem findL_cases (l : List S39) (id : Int) : (findL l id = -1 ∧ ∀ b ∈ l, b.f0 ≠ id) ∨ ∃ k : Nat, ∃ h : k < l.length, findL l id = k ∧ l[k].f0 = id ∧ ∀ j (hj : j < k), l[j].f0 ≠ id := by
  rcases findAt_cases id l 0 with h | ⟨k, h, h1, h2⟩
  · exact .inl h
  · exact .inr ⟨k, h, by unfold findL; omega, h2⟩
set_option maxHeartbeats 1000000 in
theorem named1_any (id : Int) (B : Nat) (x : S39) (W : World) (hc : W.cell? ⟨B, 0, none⟩ = some (.int .i64 id)) (hB : B < W.heap.size) :
    Calls Try.prog 72 #[.agg #[.int .i64 x.f0, .int .i64 x.f1], .pointer (some ⟨B, 0, none⟩)] W fun e w' => e = .returned (.bool (x.f0 == id)) ∧ w' = W.alloc (.cells #[.int .i64 x.f0, .int .i64 x.f1] 39) := by
  obtain ⟨x0, x1⟩ := x
  have hne : B ≠ W.heap.size := by omega
  go_enter Try.func72, Try.ntmps72
  go_wp2
  go_ret
  exact ⟨rfl, rfl⟩
set_option maxHeartbeats 1000000 in
theorem named_any (id : Int) (W : World) :
    Calls Try.prog 51 #[.int .i64 id] W fun e w' => e = .returned (.func (.func 72) #[] #[.pointer (some ⟨W.heap.size, 0, none⟩)]) ∧ w' = W.alloc (.cells #[.int .i64 id] 3) := by
  go_enter Try.func51, Try.ntmps51
  go_wp2
  go_ret
  exact ⟨rfl, rfl⟩
set_option maxRecDepth 100000 in
set_option maxHeartbeats 4000000 in
theorem IndexFunc_named (id : Int) (B : Nat) (A : Option Addr) (c : Nat) (l : List S39) (hl : l.length ≤ 4611686018427387904) (w : World) (hC : Kd.C k39 w A l.length l) (hB : B < w.heap.size) (hc : w.cell? ⟨B, 0, none⟩ = some (.int .i64 id)) :
    Calls Try.prog 50 #[.slice A l.length c, .func (.func 72) #[] #[.pointer (some ⟨B, 0, none⟩)]] w fun e w' => e = .returned (.int .i64 (findL l id)) ∧ Below w.heap.size w w' := by
  have HC := Lib.hid hC
  have HL := Lib.hid hl
  have HB := Lib.hid hB
  have HCC := Lib.hid hc
  clear hC hl hB hc
  unfold findL
  obtain ⟨r, hr⟩ : ∃ r, findAt id l 0 = r := ⟨_, rfl⟩
  rw [hr]
  have eg := enters_of Try.func72 (by kernel_rfl) rfl
  have HR := Lib.hid hr
  clear hr
  go_enter Try.func50, Try.ntmps50
  go_wp2
  go_loopw [8] (fun i wr => ∃ (k : Nat), k ≤ l.length ∧ i = .int .i64 k ∧ Aside0 (findAt id (l.drop k) (k : Int) = r) ∧ Aside0 (Below w.heap.size w wr))
    (fun i _ => l.length - (intOf i).toNat)
  case atStart => exact ⟨0, Nat.zero_le _, rfl, ⟨HR.out⟩, ⟨Below.refl _ _⟩⟩
  case round =>
    obtain ⟨k, hk, rfl, HK, HBr⟩ := hrel
    by_cases hlt : k < l.length
    · obtain ⟨ad, hA, c0, c1⟩ := at_T39 (Kd.C_below HC.out HBr.out) (k : Int) (by omega) (by omega)
      subst hA
      have hst := HK.out
      rw [findAt_step id l k hlt] at hst
      rw [show rd_T39 l (k : Int) = l.getD k z39 from rfl] at c0 c1
      obtain ⟨b, hb⟩ : ∃ b, l.getD k z39 = b := ⟨_, rfl⟩
      rw [hb] at c0 c1 hst
      rw [Int.toNat_natCast] at c0 c1
      have hcall := named1_any id B b wr ((HBr.out.cell (p := ⟨B, 0, none⟩) HB.out).trans HCC.out) (Nat.lt_of_lt_of_le HB.out HBr.out.size)
      have HST := Lib.hid hst
      have HBW := Lib.hid HBr.out
      have q1 : decide ((k : Int) < (l.length : Int)) = true := decide_eq_true (by omega)
      have q2 : (0 : Int) ≤ (k : Int) := by omega
      have q3 : (k : Int) < (l.length : Int) := by omega
      have hwk : wrap64 ((k : Int) + 1) = ((k + 1 : Nat) : Int) := by have := HL.out; unfold wrap64; omega
      have hbe : (b.f0 == id) = true ∨ (b.f0 == id) = false := by cases (b.f0 == id) <;> simp
      clear hst hb HK HBr
      rcases hbe with hbe | hbe
      · rw [hbe] at hcall
        have hr2 : (k : Int) = r := by have h := HST.out; rw [if_pos (by simpa using hbe)] at h; exact h
        have HR2 := Lib.hid hr2
        clear hr2 hbe
        have HCL := Lib.hid hcall
        clear hcall
        go_wp2_with fail
        refine HCL.out.mono ?_
        rintro e w3 ⟨rfl, rfl⟩
        go_wp2
        go_ret
        exact ⟨by rw [HR2.out]; rfl, below_alloc HBW.out _⟩
      · rw [hbe] at hcall
        have hr2 : findAt id (l.drop (k + 1)) ((k : Int) + 1) = r := by have h := HST.out; rw [if_neg (by simpa using hbe)] at h; exact h
        have HR2 := Lib.hid hr2
        clear hr2 hbe
        have HCL := Lib.hid hcall
        clear hcall
        go_wp2_with fail
        refine HCL.out.mono ?_
        rintro e w3 ⟨rfl, rfl⟩
        go_wp2
        go_roundw
        case rel => exact ⟨k + 1, Nat.succ_le_of_lt hlt, by rw [hwk], ⟨HR2.out⟩, ⟨below_alloc HBW.out _⟩⟩
        case measure =>
          rw [hwk]
          show l.length - (((k + 1 : Nat) : Int)).toNat < l.length - ((k : Int)).toNat
          rw [Int.toNat_natCast, Int.toNat_natCast]
          exact Nat.sub_succ_lt_self _ _ hlt
    · obtain rfl : k = l.length := Nat.le_antisymm hk (Nat.le_of_not_lt hlt)
      have q1 : decide ((l.length : Int) < (l.length : Int)) = false := decide_eq_false (by omega)
      have HR2 := Lib.hid (HK.out.symm.trans (findAt_end id l _))
      clear HK
      go_wp2
      go_ret
      exact ⟨by rw [HR2.out]; rfl, HBr.out⟩
def pool_Find.f (l0 : List S39) (a1 : Int) : Option Int := if l0.length ≤ 8796093021952 then some (findL l0 a1) else none
set_option maxHeartbeats 1000000 in
theorem Find_any (A : Option Addr) (c : Nat) (l : List S39) (hl : l.length ≤ 8796093021952) (id : Int) (w : World) (hC : Kd.C k39 w A l.length l) :
    Calls Try.prog 26 #[.slice A l.length c, .int .i64 id] w fun e w' => e = .returned (.int .i64 (findL l id)) ∧ Below w.heap.size w w' := by
  have hI := IndexFunc_named id w.heap.size A c l (Nat.le_trans hl (by decide)) (w.alloc (.cells #[.int .i64 id] 3)) (Kd.C_alloc hC _) (by simp) ((Blk.new w 3 [.int .i64 id]).cell 0)
  have HI := Lib.hid hI
  clear hI hC hl
  go_enter Try.func26, Try.ntmps26
  go_wp2_with (first
    | (go_at_call 51; refine (named_any _ _).mono ?_; rintro e w1 ⟨rfl, rfl⟩)
    | (go_at_call 50; refine HI.out.mono ?_; rintro e w2 ⟨rfl, hb⟩; have HB2 := Lib.hid hb; clear hb))
  go_ret
  exact ⟨rfl, (below_alloc (Below.refl _ _) _).trans (HB2.out.mono (by simp))⟩
theorem pool_Find.calls (A0 : Option Addr) (c0 : Nat) (l0 : List S39) (a1 : Int) (r : Int) (w : World) (hr0 : Kd.C k39 w A0 l0.length l0) (hc0 : l0.length ≤ c0) (h : pool_Find.f l0 a1 = some r) :
    Calls Try.prog 26 #[.slice A0 l0.length c0, .int .i64 a1] w fun e w' => e = .returned (.int .i64 r) ∧ Below w.heap.size w w' := by
  unfold pool_Find.f at h
  by_cases hl : l0.length ≤ 8796093021952
  · rw [if_pos hl] at h
    obtain rfl := Option.some.inj h
    exact Find_any A0 c0 l0 hl a1 w hr0
  · rw [if_neg hl] at h
    exact absurd h (by simp)
end

-- NOT PRINTED: function 73 (sort_Search)

-- NOT PRINTED: function 74 (ring_circle_succ_1)

/-! ### ring_circle_succ: function 52 -/
section
open Go.Shelf Go.Proofs.Ytcekkbimdogboaa.Hand
/-- Where a binary search comes to. -/
def srch (p : Nat → Bool) : Nat → Nat → Nat → Nat
  | 0, i, _ => i
  | f + 1, i, j => if i < j then (if p ((i + j) / 2) = true then srch p f i ((i + j) / 2) else srch p f ((i + j) / 2 + 1) j) else i
theorem srch_le (p : Nat → Bool) : ∀ f i j, i ≤ j → srch p f i j ≤ j
  | 0, i, j, h => h
  | f + 1, i, j, h => by
    unfold srch
    split
    · split
      · exact Nat.le_trans (srch_le p f _ _ (by omega)) (by omega)
      · exact srch_le p f _ _ (by omega)
    · exact h
theorem srch_end (p : Nat → Bool) (f i : Nat) : srch p f i i = i := by
  cases f with
  | zero => rfl
  | succ f => unfold srch; rw [if_neg (Nat.lt_irrefl i)]
theorem search_nums (i j n m : Nat) (hm : (i + j) / 2 = m) (hij : i < j) (hj : j ≤ n) (hn : n ≤ 1000000000) : decide ((i : Int) < (j : Int)) = true ∧ wrap64 (IntKind.u64.wrap (wrap64 ((i : Int) + (j : Int))) / 2) = (m : Int) ∧ wrap64 ((m : Int) + 1) = ((m + 1 : Nat) : Int) ∧ m < n := by
  refine ⟨decide_eq_true (by omega), ?_, by unfold wrap64; omega, by omega⟩
  have e0 : wrap64 ((i : Int) + (j : Int)) = (i : Int) + (j : Int) := by unfold wrap64; omega
  have e : IntKind.u64.wrap ((i : Int) + (j : Int)) = (i : Int) + (j : Int) := by simp [IntKind.wrap, IntKind.bits, IntKind.signed]; omega
  rw [e0, e]
  unfold wrap64
  omega
theorem search_facts (i j m f : Nat) (hm : (i + j) / 2 = m) (hij : i < j) (hf : j - i ≤ f + 1) : m - i ≤ f ∧ j - (m + 1) ≤ f ∧ i ≤ m ∧ m + 1 ≤ j := by omega
theorem search_step (p : Nat → Bool) (i j f r m : Nat) (pm : Bool) (hm : (i + j) / 2 = m) (hij : i < j) (hp : p m = pm) (h : srch p (f + 1) i j = r) : (pm = true → srch p f i m = r) ∧ (pm = false → srch p f (m + 1) j = r) := by
  unfold srch at h
  rw [if_pos hij, hm, hp] at h
  cases pm with
  | true => exact ⟨fun _ => (if_pos rfl).symm.trans h, fun e => absurd e (by decide)⟩
  | false => exact ⟨fun e => absurd e (by decide), fun _ => (if_neg (by decide)).symm.trans h⟩
theorem search_meas (i j m : Nat) (hm : (i + j) / 2 = m) (h : i < j) : ((m : Int)).toNat - ((i : Int)).toNat < ((j : Int)).toNat - ((i : Int)).toNat ∧ ((j : Int)).toNat - (((m + 1 : Nat) : Int)).toNat < ((j : Int)).toNat - ((i : Int)).toNat := by
  simp only [Int.toNat_natCast]; omega
set_option maxRecDepth 100000 in
set_option maxHeartbeats 4000000 in
theorem Search_any (p : Nat → Bool) (cb : Array Value) (c1 c2 : Value) (hcb : cb = #[c1, c2]) (n : Nat) (hn : n ≤ 1000000000) (w : World)
    (hf : ∀ (W : World) (i : Nat), i < n → Below w.heap.size w W → Calls Try.prog 74 #[.int .i64 (i : Int), c1, c2] W fun e w' => e = .returned (.bool (p i)) ∧ Below w.heap.size w w') :
    Calls Try.prog 73 #[.int .i64 (n : Int), .func (.func 74) #[] cb] w fun e w' => e = .returned (.int .i64 (srch p n 0 n : Int)) ∧ Below w.heap.size w w' := by
  subst hcb
  obtain ⟨r, hr⟩ : ∃ r, srch p n 0 n = r := ⟨_, rfl⟩
  rw [hr]
  have HR := Lib.hid hr
  have HF := Lib.hid hf
  have HN := Lib.hid hn
  clear hr hf hn
  go_enter Try.func73, Try.ntmps73
  go_wp2
  go_loopw [5, 6] (fun s5 s6 wr => ∃ (i j f : Nat), s5 = .int .i64 i ∧ s6 = .int .i64 j ∧ i ≤ j ∧ j ≤ n ∧ Aside0 (j - i ≤ f ∧ srch p f i j = r) ∧ Aside0 (Below w.heap.size w wr))
    (fun s5 s6 _ => (intOf s6).toNat - (intOf s5).toNat)
  case atStart => exact ⟨0, n, n, rfl, rfl, Nat.zero_le _, Nat.le_refl _, ⟨by omega, HR.out⟩, ⟨Below.refl _ _⟩⟩
  case round =>
    obtain ⟨i, j, f, rfl, rfl, hij, hjn, HS, HB⟩ := hrel
    by_cases hlt : i < j
    · obtain ⟨m, hmm⟩ : ∃ m, (i + j) / 2 = m := ⟨_, rfl⟩
      obtain ⟨q1, q5, q6, hm⟩ := search_nums i j n m hmm hlt hjn HN.out
      have hcall := HF.out wr m hm HB.out
      obtain ⟨m1, m2⟩ := search_meas i j m hmm hlt
      obtain ⟨f', rfl⟩ : ∃ q, f = q + 1 := ⟨f - 1, by have := HS.out.1; omega⟩
      obtain ⟨n1, n2, n3, n5⟩ := search_facts i j m f' hmm hlt HS.out.1
      have n4 : m ≤ n := Nat.le_of_lt hm
      obtain ⟨pm, hpm⟩ : ∃ pm, p m = pm := ⟨_, rfl⟩
      obtain ⟨ht, hfa⟩ := search_step p i j f' r m pm hmm hlt hpm HS.out.2
      rw [hpm] at hcall
      have N1 := Lib.hid n1
      have N2 := Lib.hid n2
      have N3 := Lib.hid n3
      have N4 := Lib.hid n4
      have N5 := Lib.hid n5
      have M1 := Lib.hid m1
      have M2 := Lib.hid m2
      have HCL := Lib.hid hcall
      have HT := Lib.hid ht
      have HFA := Lib.hid hfa
      clear n1 n2 n3 n4 n5 m1 m2 HS hm hpm hmm hcall ht hfa
      cases pm with
      | true =>
        have HS2 := Lib.hid (HT.out rfl)
        go_wp2_with fail
        (with_reducible refine HCL.out.mono ?_)
        rintro e w3 ⟨rfl, hb3⟩
        have HB3 := Lib.hid hb3
        clear hb3
        go_wp2
        go_roundw
        case rel => exact ⟨i, m, f', rfl, rfl, N3.out, N4.out, ⟨N1.out, HS2.out⟩, ⟨HB3.out⟩⟩
        case measure => exact M1.out
      | false =>
        have HS2 := Lib.hid (HFA.out rfl)
        go_wp2_with fail
        (with_reducible refine HCL.out.mono ?_)
        rintro e w3 ⟨rfl, hb3⟩
        have HB3 := Lib.hid hb3
        clear hb3
        go_wp2
        go_roundw
        case rel => exact ⟨m + 1, j, f', by rw [q6], rfl, N5.out, hjn, ⟨N2.out, HS2.out⟩, ⟨HB3.out⟩⟩
        case measure => rw [q6]; exact M2.out
    · obtain rfl : i = j := Nat.le_antisymm hij (Nat.le_of_not_lt hlt)
      have q1 : decide ((i : Int) < (i : Int)) = false := decide_eq_false (by omega)
      have hri : i = r := by have h := HS.out.2; rwa [srch_end] at h
      have HRI := Lib.hid hri
      clear hri HS
      go_wp2
      go_ret
      exact ⟨by rw [HRI.out]; rfl, HB.out⟩
/-- Where a hash goes to, on a list of points. -/
def geP (l : List S30) (h : Int) (i : Nat) : Bool := decide (h ≤ (l.getD i z30).f0)
def succL (l : List S30) (h : Int) : Int := if l.length = 0 then -1 else (l.getD (srch (geP l h) l.length 0 l.length % l.length) z30).f1
set_option maxRecDepth 100000 in
set_option maxHeartbeats 4000000 in
theorem succ1_any (l : List S30) (h : Int) (A : Option Addr) (c : Nat) (B1 B2 : Nat) (i : Nat) (hi : i < l.length) (W : World) (hC : Kd.C k30 W A l.length l) (b1 : Blk W B1 77 [.slice A l.length c]) (b2 : Blk W B2 28 [.int .u64 h]) :
    Calls Try.prog 74 #[.int .i64 (i : Int), .pointer (some ⟨B1, 0, none⟩), .pointer (some ⟨B2, 0, none⟩)] W fun e w' => e = .returned (.bool (geP l h i)) ∧ ∃ q, w' = W.drewN q := by
  have hlen := hC.2.1
  obtain ⟨ad, hA, c0, c1⟩ := at_T30 hC (i : Int) (by omega) (by omega)
  subst hA
  have z1 : W.cell? ⟨B1, 0, none⟩ = some (.slice (some ad) l.length c) := b1.cell 0
  have z2 : W.cell? ⟨B2, 0, none⟩ = some (.int .u64 h) := b2.cell 0
  unfold geP
  rw [show rd_T30 l (i : Int) = l.getD i z30 from rfl] at c0 c1
  rw [Int.toNat_natCast] at c0 c1
  obtain ⟨b, hb⟩ : ∃ b, l.getD i z30 = b := ⟨_, rfl⟩
  rw [hb] at c0 c1 ⊢
  have q2 : (0 : Int) ≤ (i : Int) := by omega
  have q3 : (i : Int) < (l.length : Int) := by omega
  clear hb hC b1 b2 hlen c1
  go_enter Try.func74, Try.ntmps74
  go_wp2
  go_quiet (fail)
  go_wp2
  go_ret
  exact ⟨rfl, _, rfl⟩
set_option maxHeartbeats 4000000 in
theorem succ_empty (h : Int) (A : Option Addr) (c : Nat) (w : World) :
    Calls Try.prog 52 #[.slice A 0 c, .int .u64 h] w fun e w' => e = .returned (.int .i64 (-1)) ∧ Below w.heap.size w w' := by
  go_enter Try.func52, Try.ntmps52
  go_wp2
  go_ret
  exact ⟨rfl, below_alloc (below_alloc (Below.refl _ _) _) _⟩
theorem below_drewN2 {B : Nat} {w W : World} (h : Below B w W) (q : Nat) : Below B w (W.drewN q) := ⟨h.os, h.tape, h.output, h.size, h.block⟩
theorem succ_nums (n m k : Nat) (hn : 0 < n) (hl : n ≤ 1000000000) (hk : m % n = k) (hkl : k < n) : ((n : Int) == 0) = false ∧ (m : Int).tmod (n : Int) = (k : Int) ∧ (0 : Int) ≤ (k : Int) ∧ (k : Int) < (n : Int) :=
  ⟨beq_eq_false_iff_ne.2 (by omega), by rw [Int.tmod_eq_emod_of_nonneg (by omega), ← hk]; rfl, by omega, by omega⟩
set_option maxRecDepth 100000 in
set_option maxHeartbeats 4000000 in
theorem succ_some (l : List S30) (h : Int) (A : Option Addr) (c : Nat) (hn : 0 < l.length) (hl : l.length ≤ 1000000000) (w : World) (hC : Kd.C k30 w A l.length l) :
    Calls Try.prog 52 #[.slice A l.length c, .int .u64 h] w fun e w' => e = .returned (.int .i64 (l.getD (srch (geP l h) l.length 0 l.length % l.length) z30).f1) ∧ Below w.heap.size w w' := by
  have hb1 := (Blk.new w 77 [.slice A l.length c]).alloc (.cells #[.int .u64 h] 28)
  have hb2 := Blk.new (w.alloc (.cells #[.slice A l.length c] 77)) 28 [.int .u64 h]
  have hw0 := below_alloc (below_alloc (Below.refl w.heap.size w) (.cells #[.slice A l.length c] 77)) (.cells #[.int .u64 h] 28)
  have hC0 := Kd.C_below hC hw0
  have hs0 : (w.alloc (.cells #[.slice A l.length c] 77)).heap.size = w.heap.size + 1 := by simp
  obtain ⟨m, hm⟩ : ∃ m, srch (geP l h) l.length 0 l.length = m := ⟨_, rfl⟩
  have hml : m ≤ l.length := by rw [← hm]; exact srch_le _ _ _ _ (Nat.zero_le _)
  obtain ⟨W0, hW0⟩ : ∃ W0, ((w.alloc (.cells #[.slice A l.length c] 77)).alloc (.cells #[.int .u64 h] 28)) = W0 := ⟨_, rfl⟩
  have hS := Search_any (geP l h) #[.pointer (some ⟨w.heap.size, 0, none⟩), .pointer (some ⟨w.heap.size + 1, 0, none⟩)] _ _ rfl l.length hl W0 (fun W i hi hb => by
    rw [← hW0] at hb
    rw [hs0] at hb2
    refine (succ1_any l h A c w.heap.size (w.heap.size + 1) i hi W (Kd.C_below hC0 hb) (hb1.below hb) (hb2.below hb)).mono ?_
    rintro e w' ⟨rfl, q, rfl⟩
    rw [← hW0]
    exact ⟨rfl, below_drewN2 hb q⟩)
  rw [hm] at hS
  rw [hm]
  obtain ⟨k, hk⟩ : ∃ k, m % l.length = k := ⟨_, rfl⟩
  have hkl : k < l.length := by rw [← hk]; exact Nat.mod_lt _ hn
  rw [hk]
  have hC1 := Kd.C_below hC hw0
  rw [hW0] at hC1 hb1
  rw [hW0, hs0] at hb2
  have hlen := hC.2.1
  obtain ⟨q0, qr, q2, q3⟩ := succ_nums l.length m k hn hl hk hkl
  obtain ⟨b, hb⟩ : ∃ b, l.getD k z30 = b := ⟨_, rfl⟩
  rw [hb]
  have HS := Lib.hid hS
  have HW0 := Lib.hid hW0
  have HC1 := Lib.hid hC1
  have HB1 := Lib.hid hb1
  have HB2 := Lib.hid hb2
  have HBW := Lib.hid hw0
  have HK := Lib.hid hkl
  have HBB := Lib.hid hb
  clear hS hm hml hk hkl hC hC0 hC1 hb1 hb2 hw0 hs0 hb hlen hn hl
  have z1 : W0.cell? ⟨w.heap.size, 0, none⟩ = some (.slice A l.length c) := HB1.out.cell 0
  go_enter Try.func52, Try.ntmps52
  go_upto_region 1 with (fail)
  clear hW0
  go_wp2_with (go_at_call 73; (with_reducible refine HS.out.mono ?_); rintro e w2 ⟨rfl, hb2⟩; have HB3 := Lib.hid hb2; clear hb2)
  obtain ⟨ad, hA, c0, c1⟩ := at_T30 (Kd.C_below HC1.out HB3.out) (k : Int) q2 (by have := HK.out; omega)
  subst hA
  rw [show rd_T30 l (k : Int) = l.getD k z30 from rfl, HBB.out, Int.toNat_natCast] at c0 c1
  have z2 : w2.cell? ⟨w.heap.size, 0, none⟩ = some (.slice (some ad) l.length c) := (HB1.out.below HB3.out).cell 0
  clear z1 c0
  go_quiet (fail)
  go_wp2
  go_ret
  refine ⟨rfl, below_drewN2 ?_ _⟩
  have h := HBW.out
  rw [HW0.out] at h
  exact h.trans (HB3.out.mono h.size)
def ring_circle_succ.f (l0 : List S30) (a1 : Int) : Option Int := if l0.length ≤ 1000000000 then some (succL l0 a1) else none
theorem ring_circle_succ.calls (A0 : Option Addr) (c0 : Nat) (l0 : List S30) (a1 : Int) (r : Int) (w : World) (hr0 : Kd.C k30 w A0 l0.length l0) (hc0 : l0.length ≤ c0) (h : ring_circle_succ.f l0 a1 = some r) :
    Calls Try.prog 52 #[.slice A0 l0.length c0, .int .u64 a1] w fun e w' => e = .returned (.int .i64 r) ∧ Below w.heap.size w w' := by
  unfold ring_circle_succ.f at h
  by_cases hl : l0.length ≤ 1000000000
  · rw [if_pos hl] at h
    obtain rfl := Option.some.inj h
    unfold succL
    by_cases h0 : l0.length = 0
    · rw [if_pos h0, h0]
      exact succ_empty a1 A0 c0 w
    · rw [if_neg h0]
      exact succ_some l0 a1 A0 c0 (by omega) hl w hr0
  · rw [if_neg hl] at h
    exact absurd h (by simp)
end

/-! ### ring_Succ: function 28 -/
def ring_Succ.f (l0 : List (S30)) (a1 : Int) : Option (Int) := (ring_circle_succ.f l0 a1).bind fun t120 => (some t120)
set_option maxHeartbeats 8000000 in
set_option maxRecDepth 100000 in
theorem ring_Succ.calls (A0 : Option Addr) (c0 : Nat) (l0 : List (S30)) (a1 : Int) (r : Int) (w : World) (hr0 : Kd.C k30 w A0 l0.length l0) (hc0 : l0.length ≤ c0) (h : ring_Succ.f l0 a1 = some r) :
    Calls Try.prog 28 #[.slice A0 l0.length c0, .int .u64 a1] w fun e w' => e = .returned (.int .i64 r) ∧ Below w.heap.size w w' := by
  have HR0 := Aside0.mk hr0
  have HC0 := Aside0.mk hc0
  clear hr0 hc0
  have HB := Aside0.mk (Below.refl w.heap.size w)
  have H : ((ring_circle_succ.f l0 a1).bind fun t120 => (some t120)) = some r := h
  clear h
  replace H := Option.bind_eq_some_iff.mp H
  obtain ⟨t120, A30, H⟩ := H
  replace H : (some t120) = some r := H
  have A3 := Aside0.mk A30
  clear A30
  obtain rfl := Option.some.inj H
  go_enter Try.func28, Try.ntmps28
  go_wp2_with (first | ((with_reducible refine gate_callee (f := 52) rfl ?_); refine goesL_ (some 7) rfl rfl Try.func52 (by kernel_rfl) rfl #[.slice A0 l0.length c0, .int .u64 a1] rfl (by (try simp only [List.map_toArray, List.map_cons, List.map_nil]); first | done | rfl | (simp only [List.length_drop, List.length_take]; rfl)) ?_; (with_reducible refine (ring_circle_succ.calls _ _ l0 a1 t120 _ ?side1 ?side2 A3.out).mono ?_); (case side1 => repeat (first | exact HR0.out | (with_reducible refine Kd.C_alloc ?_ _) | (with_reducible refine Kd.C_drewN ?_ _) | (with_reducible refine Kd.C_drew ?_))); (case side2 => exact HC0.out); (try clear A3); rintro e w4 ⟨rfl, hb⟩; refine ⟨_, rfl, ?_⟩; have n0_ := Aside0.mk (below_step (by repeat (first | (with_reducible first | exact HB.out | apply below_alloc | apply pw_below_drewN | apply below_drew1) | exact HB.out)) hb); clear HB; have HB := n0_; clear n0_; (try clear hb); (try clear hb2); (try clear hk); (try clear hi)))
  go_ret
  exact ⟨by first | rfl | (simp [errW_none, errW_some] <;> rfl) | (simp [*, errW_none, errW_some] <;> rfl), by repeat (first | (with_reducible first | exact HB.out | apply below_alloc | apply pw_below_drewN | apply below_drew1) | exact HB.out)⟩

-- NOT PRINTED: function 75 (ring_both_1)

/-! ### ring_both: function 53 -/
section
open Go.Shelf Go.Proofs.Ytcekkbimdogboaa.Hand
attribute [local go_sem] Oper.semAt_some
def bothAt (la lb : List S30) (hs : List Int) (i : Nat) : Int × Int × Int := ((i : Int), succL la (hs.getD i 0), succL lb (hs.getD i 0))
def bothL (la lb : List S30) (hs : List Int) : List (Int × Int × Int) := (List.range hs.length).map (bothAt la lb hs)
theorem bothL_len (la lb : List S30) (hs : List Int) : (bothL la lb hs).length = hs.length := by simp [bothL]
theorem bothL_take (la lb : List S30) (hs : List Int) (k : Nat) (h : k < hs.length) : (bothL la lb hs).take (k + 1) = (bothL la lb hs).take k ++ [bothAt la lb hs k] := by
  rw [List.take_succ_eq_append_getElem (by rw [bothL_len]; exact h)]
  simp [bothL]
theorem both_nums (n k : Nat) (hl : n ≤ 1000000) (h : k < n) : decide ((k : Int) < (n : Int)) = true ∧ (0 : Int) ≤ (k : Int) ∧ (k : Int) < (n : Int) ∧ wrap64 ((k : Int) + 1) = ((k + 1 : Nat) : Int) :=
  ⟨decide_eq_true (by omega), by omega, by omega, by unfold wrap64; omega⟩
theorem both_meas (n k : Nat) (h : k < n) : n - (((k + 1 : Nat) : Int)).toNat < n - ((k : Int)).toNat := by
  rw [Int.toNat_natCast, Int.toNat_natCast]; omega
theorem cell_u64 {W : World} {A : Option Addr} {xs : List Int} (h : Kd.C (Kd.int .u64) W A xs.length xs) (k : Nat) (hk : k < xs.length) : ∃ ad, A = some ad ∧ W.cell? (ad.add k) = some (.int .u64 (xs.getD k 0)) := by
  obtain ⟨ad, c, e, _, hK, hc⟩ := Kd.C_get h (0 : Int) (k : Int) (by omega) (by omega)
  rw [Int.toNat_natCast] at hK hc
  obtain rfl : c = [.int .u64 (xs.getD k 0)] := hK
  refine ⟨ad, e, ?_⟩
  have h1 := hc 0 _ rfl
  rw [show (Kd.int .u64).sz = 1 from rfl, Nat.mul_one, Nat.add_zero] at h1
  exact h1
theorem circle_any (l : List S30) (hl : l.length ≤ 1000000000) (A : Option Addr) (c : Nat) (hc : l.length ≤ c) (h : Int) (W : World) (hC : Kd.C k30 W A l.length l) :
    Calls Try.prog 52 #[.slice A l.length c, .int .u64 h] W fun e w' => e = .returned (.int .i64 (succL l h)) ∧ Below W.heap.size W w' :=
  ring_circle_succ.calls A c l h _ W hC hc (if_pos hl)
set_option maxRecDepth 100000 in
set_option maxHeartbeats 16000000 in
theorem both1_in (n : Nat) (hn : 2 ≤ n) (y B1 B2 B3 n₀ : Nat) (ts : List TypeId) (ht1 : 78 ∉ ts) (ht2 : 44 ∉ ts) (A1 A2 AH : Option Addr) (c1 c2 cH : Nat) (la lb : List S30) (hs : List Int)
    (hla : la.length ≤ 1000000000) (hlb : lb.length ≤ 1000000000) (hca : la.length ≤ c1) (hcb : lb.length ≤ c2) (hhs : hs.length ≤ 1000000)
    (w : World) (hw : w.heap.size = n₀) (hCa : Kd.C k30 w A1 la.length la) (hCb : Kd.C k30 w A2 lb.length lb) (hCh : Kd.C (Kd.int .u64) w AH hs.length hs)
    (J Jx : List (Int × Int × Int) → World → Prop) (B : Nat) (hJ : AbidesFrom B J)
    (hY : ∀ pre x W, J pre W → pre.length < (bothL la lb hs).length → YieldAt Fence.wide (n - 1) Try.prog y #[.int .i64 x.1, .agg #[.int .i64 x.2.1, .int .i64 x.2.2]] W fun e W' =>
      (e = .returned (.bool true) ∧ J (pre ++ [x]) W' ∧ KpT n₀ ts W W') ∨ (e = .returned (.bool false) ∧ Jx (pre ++ [x]) W'))
    (W : World) (hB : Below n₀ w W) (hnW : n₀ ≤ W.heap.size) (b1 : Blk W B1 78 [.func (.func 52) #[.slice A1 la.length c1] #[]]) (b2 : Blk W B2 78 [.func (.func 52) #[.slice A2 lb.length c2] #[]]) (b3 : Blk W B3 44 [.slice AH hs.length cH]) (h0 : J [] W) (hBB : B ≤ W.heap.size) :
    CallsIn Fence.wide n Try.prog 75 #[.func (.yield y) #[] #[], .pointer (some ⟨B3, 0, none⟩), .pointer (some ⟨B1, 0, none⟩), .pointer (some ⟨B2, 0, none⟩)] W fun e W' => (∃ v, e = .returned v) ∧
      ((∃ ys, ys = bothL la lb hs ∧ J ys W') ∨ (∃ pre, (pre <+: bothL la lb hs) ∧ Jx pre W')) := by
  have hro : Fence.wide.round = none := rfl
  refine callsIn_of_wp Try.func75 rfl trivial ?_ hro
  simp only [Try.ntmps75, List.size_toArray, List.length_cons, List.length_nil, Nat.reduceAdd, Nat.reduceSub, Array.replicate_succ, Array.replicate_zero, List.push_toArray, List.append_toArray, List.nil_append, List.cons_append]
  have z0 : W.cell? ⟨B3, 0, none⟩ = some (.slice AH hs.length cH) := b3.cell 0
  have HPS := Lib.hid hhs
  have HCA := Lib.hid hCa
  have HCB := Lib.hid hCb
  have HCH := Lib.hid hCh
  have HB := Lib.hid hB
  have HW0 := Lib.hid hw
  have HNW := Lib.hid hnW
  have HY := Lib.hid hY
  have HJ := Lib.hid hJ
  have H0 := Lib.hid h0
  have HBB := Lib.hid hBB
  have HN := Lib.hid hn
  have HB1 := Lib.hid b1
  have HB2 := Lib.hid b2
  have HFA := Lib.hid (circle_any la hla A1 c1 hca)
  have HFB := Lib.hid (circle_any lb hlb A2 c2 hcb)
  clear hhs hCa hCb hCh hB hw hY hJ h0 hn hBB b1 b2 b3 hla hlb hca hcb hnW
  gi_wp2
  gi_loopw [9] (fun i wr => ∃ (k : Nat), k ≤ hs.length ∧ i = .int .i64 k ∧ J ((bothL la lb hs).take k) wr ∧ Below n₀ w wr ∧ W.heap.size ≤ wr.heap.size ∧ Blk wr B1 78 [.func (.func 52) #[.slice A1 la.length c1] #[]] ∧ Blk wr B2 78 [.func (.func 52) #[.slice A2 lb.length c2] #[]])
    (fun i _ => hs.length - (intOf i).toNat)
  case atStart => exact ⟨0, Nat.zero_le _, rfl, by simpa using H0.out, HB.out, Nat.le_refl _, HB1.out, HB2.out⟩
  case round =>
    obtain ⟨k, hk', rfl, hJs, hnx, hsz, hb1, hb2⟩ := hrel
    by_cases hlt : k < hs.length
    · have hBr : Below w.heap.size w wr := by rw [HW0.out]; exact hnx
      obtain ⟨q1, q2, q3, hwk⟩ := both_nums hs.length k HPS.out hlt
      obtain ⟨ad, hA, c0⟩ := cell_u64 (Kd.C_below HCH.out hBr) k hlt
      subst hA
      have htk := bothL_take la lb hs k hlt
      have hpx : (bothL la lb hs).take (k + 1) <+: bothL la lb hs := List.take_prefix _ _
      have hln : ((bothL la lb hs).take k).length < (bothL la lb hs).length := by rw [List.length_take, bothL_len]; exact Nat.lt_of_le_of_lt (Nat.min_le_left _ _) hlt
      unfold bothAt at htk
      obtain ⟨h, hh⟩ : ∃ h, hs.getD k 0 = h := ⟨_, rfl⟩
      rw [hh] at c0 htk
      have HTK := Lib.hid htk
      have HPX := Lib.hid hpx
      have HLN := Lib.hid hln
      have HJ1 := Lib.hid hJs
      have HNX := Lib.hid hnx
      have HSZ := Lib.hid hsz
      have HBR := Lib.hid hBr
      have HK1 := Lib.hid hb1
      have HK2 := Lib.hid hb2
      have z1 : wr.cell? ⟨B1, 0, none⟩ = some (.func (.func 52) #[.slice A1 la.length c1] #[]) := hb1.cell 0
      have z2 : wr.cell? ⟨B2, 0, none⟩ = some (.func (.func 52) #[.slice A2 lb.length c2] #[]) := hb2.cell 0
      clear htk hpx hln hh hJs hnx hsz hBr hb1 hb2
      gi_wp2
      gi_region_with (first
        | (refine ⟨trivial, fun _ => (by have := HN.out; omega), ?_⟩; (with_reducible refine (callsIn_wide.2 (HFA.out h _ ?hCa)).mono ?_); (case hCa => first | exact Kd.C_drew (Kd.C_below HCA.out HBR.out) | exact Kd.C_drewN (Kd.C_below HCA.out HBR.out) _ | exact Kd.C_below HCA.out HBR.out); rintro e w3 ⟨rfl, hb3⟩; have HBW := Lib.hid (show Below wr.heap.size wr w3 from by first | exact hb3 | exact (below_drew (Below.refl _ _)).trans hb3 | exact (pw_below_drewN (Below.refl _ _) _).trans hb3); clear hb3; have g3 : w3.cell? ⟨B2, 0, none⟩ = some (.func (.func 52) #[.slice A2 lb.length c2] #[]) := (HK2.out.below HBW.out).cell 0)
        | (refine ⟨trivial, fun _ => (by have := HN.out; omega), ?_⟩; (with_reducible refine (callsIn_wide.2 (HFB.out h _ ?hCb)).mono ?_); (case hCb => first | exact Kd.C_below (Kd.C_below HCB.out HBR.out) HBW.out | exact Kd.C_drew (Kd.C_below (Kd.C_below HCB.out HBR.out) HBW.out) | exact Kd.C_drewN (Kd.C_below (Kd.C_below HCB.out HBR.out) HBW.out) _); rintro e w4 ⟨rfl, hb4⟩; have HBX := Lib.hid (show Below wr.heap.size wr w4 from HBW.out.trans ((show Below w3.heap.size w3 w4 from by first | exact hb4 | exact (below_drew (Below.refl _ _)).trans hb4 | exact (pw_below_drewN (Below.refl _ _) _).trans hb4).mono HBW.out.size)); clear hb4; obtain ⟨fn, tmps, assign, body, hy, hYR⟩ := HY.out _ ((k : Int), succL la h, succL lb h) w4 (HJ.out _ _ _ none HJ1.out (grown_of_below HBX.out none) (fun r e => by cases e)) HLN.out; have HYR := Lib.hid hYR; clear hYR)
        | (refine ⟨fun _ => (by have := HN.out; omega), HYR.out.mono ?_⟩; rintro e W3 hh; obtain ⟨bo, rfl, hA, hB⟩ := two_ways hh; have HA := Lib.hid hA; have HX := Lib.hid hB; clear hh hA hB))
      all_goals
        cases bo
        · have HX3 := Lib.hid (HX.out rfl)
          clear HA HX
          gi_wp2
          refine bodyPost_ret (results_none rfl _ _ _) rfl ?_
          exact ⟨⟨_, rfl⟩, .inr ⟨(bothL la lb hs).take k ++ [((k : Int), succL la h, succL lb h)], by rw [← HTK.out]; exact HPX.out, HX3.out⟩⟩
        · have HJ3 := Lib.hid (HA.out rfl).1
          have HK3 := Lib.hid (HA.out rfl).2
          clear HA HX
          gi_wp2
          go_roundw
          case rel => exact ⟨k + 1, Nat.succ_le_of_lt hlt, by rw [hwk], by rw [HTK.out]; exact HJ3.out, (HNX.out.trans (HBX.out.mono (Nat.le_trans HNW.out HSZ.out))).trans HK3.out.1, Nat.le_trans HSZ.out (Nat.le_trans HBX.out.size HK3.out.2.1), HK3.out.blk (HK1.out.below HBX.out) ht1, HK3.out.blk (HK2.out.below HBX.out) ht1⟩
          case measure =>
            rw [hwk]
            exact both_meas _ _ hlt
    · obtain rfl : k = hs.length := Nat.le_antisymm hk' (Nat.le_of_not_lt hlt)
      have q1 : decide ((hs.length : Int) < (hs.length : Int)) = false := decide_eq_false (by omega)
      have HJ3 := Lib.hid hJs
      clear hJs hnx hsz hb1 hb2
      gi_wp2
      go_end0
      exact ⟨⟨_, rfl⟩, .inl ⟨_, by rw [List.take_of_length_le (by rw [bothL_len]; exact Nat.le_refl _)], HJ3.out⟩⟩
end

/-! ### ring_Moved: function 32 -/
section
open Go.Shelf Go.Proofs.Ytcekkbimdogboaa.Hand
attribute [local go_sem] Oper.semAt_some
theorem both_stops (d : Nat) (hd : 2 ≤ d) (B1 B2 B3 n₀ : Nat) (ts : List TypeId) (ht1 : 78 ∉ ts) (ht2 : 44 ∉ ts) (A1 A2 AH : Option Addr) (c1 c2 cH : Nat) (la lb : List S30) (hs : List Int)
    (hla : la.length ≤ 1000000000) (hlb : lb.length ≤ 1000000000) (hca : la.length ≤ c1) (hcb : lb.length ≤ c2) (hhs : hs.length ≤ 1000000)
    (w W : World) (hw : w.heap.size = n₀) (hCa : Kd.C k30 w A1 la.length la) (hCb : Kd.C k30 w A2 lb.length lb) (hCh : Kd.C (Kd.int .u64) w AH hs.length hs) (hB : Below n₀ w W) (hnW : n₀ ≤ W.heap.size)
    (b1 : Blk W B1 78 [.func (.func 52) #[.slice A1 la.length c1] #[]]) (b2 : Blk W B2 78 [.func (.func 52) #[.slice A2 lb.length c2] #[]]) (b3 : Blk W B3 44 [.slice AH hs.length cH]) :
    SeqStopsK Fence.wide d Try.prog 75 #[.pointer (some ⟨B3, 0, none⟩), .pointer (some ⟨B1, 0, none⟩), .pointer (some ⟨B2, 0, none⟩)] (fun x : Int × Int × Int => #[.int .i64 x.1, .agg #[.int .i64 x.2.1, .int .i64 x.2.2]]) (KpT n₀ ts) (fun ys => ys = bothL la lb hs) (fun pre => pre <+: bothL la lb hs) (bothL la lb hs).length W := fun y J Jx W' hW hJ _ hY h0 =>
  both1_in d hd y B1 B2 B3 n₀ ts ht1 ht2 A1 A2 AH c1 c2 cH la lb hs hla hlb hca hcb hhs w hw hCa hCb hCh J Jx _ hJ hY W' (hB.trans (hW.mono hnW)) (Nat.le_trans hnW hW.size) (b1.below hW) (b2.below hW) (b3.below hW) h0 (Nat.le_refl _)
set_option maxHeartbeats 1000000 in
theorem both_any (f1 f2 : Value) (h1 : ∃ g b c, f1 = .func g b c) (h2 : ∃ g b c, f2 = .func g b c) (A : Option Addr) (n c : Nat) (w : World) :
    Calls Try.prog 53 #[f1, f2, .slice A n c] w fun e w' => e = .returned (.func (.func 75) #[] #[.pointer (some ⟨w.heap.size + 1 + 1, 0, none⟩), .pointer (some ⟨w.heap.size, 0, none⟩), .pointer (some ⟨w.heap.size + 1, 0, none⟩)]) ∧ w' = ((w.alloc (.cells #[f1] 78)).alloc (.cells #[f2] 78)).alloc (.cells #[.slice A n c] 44) := by
  obtain ⟨g1, b1, d1, rfl⟩ := h1
  obtain ⟨g2, b2, d2, rfl⟩ := h2
  go_enter Try.func53, Try.ntmps53
  go_wp2
  go_ret
  exact ⟨rfl, rfl⟩
/-- The places of what goes elsewhere. -/
def mvL (l : List (Int × Int × Int)) : List Int := (l.filter fun x => x.2.1 != x.2.2).map (·.1)
def movedL (la lb : List S30) (hs : List Int) : List Int := mvL (bothL la lb hs)
theorem mvL_len (l : List (Int × Int × Int)) : (mvL l).length ≤ l.length := by unfold mvL; rw [List.length_map]; exact List.length_filter_le _ _
theorem infoInt : (Try.prog.info? 3).map (fun i => (i.zero, i.size, i.bytes)) = some (some (.int .i64 0), 1, 8) := by kernel_rfl
set_option maxRecDepth 100000 in
set_option maxHeartbeats 16000000 in
theorem Moved_in (A1 A2 AH : Option Addr) (c1 c2 cH : Nat) (p q : List S39) (hs : List Int) (hp : p.length ≤ 100000) (hq : q.length ≤ 100000) (hpc : p.length ≤ c1) (hqc : q.length ≤ c2) (hhs : hs.length ≤ 1000000) (w : World)
    (hC1 : Kd.C k39 w A1 p.length p) (hC2 : Kd.C k39 w A2 q.length q) (hCh : Kd.C (Kd.int .u64) w AH hs.length hs) :
    CallsIn Fence.wide 6 Try.prog 32 #[.slice A1 p.length c1, .slice A2 q.length c2, .slice AH hs.length cH] w fun e W' => ∃ v, e = .returned v ∧ Kd.R (Kd.int .i64) 3 W' w.heap.size (fun _ => True) v (movedL (ofL p) (ofL q) hs) ∧ Below w.heap.size w W' := by
  have hro : Fence.wide.round = none := rfl
  obtain ⟨i0, hi, hz0, hz1, hz2⟩ := info_parts infoInt
  have hlp : (ofL p).length ≤ 1000000000 := by have := ptsT_len p; unfold ofL; rw [List.length_map, srtL_len]; omega
  have hlq : (ofL q).length ≤ 1000000000 := by have := ptsT_len q; unfold ofL; rw [List.length_map, srtL_len]; omega
  have HO1 := Lib.hid (Of_any A1 c1 p hp hpc w hC1)
  have HO2 := Lib.hid (fun W h => Of_any A2 c2 q hq hqc W h)
  have HLP := Lib.hid hlp
  have HLQ := Lib.hid hlq
  have HC2 := Lib.hid hC2
  have HCH := Lib.hid hCh
  have HHS := Lib.hid hhs
  unfold movedL
  obtain ⟨la, hla⟩ : ∃ la, ofL p = la := ⟨_, rfl⟩
  obtain ⟨lb, hlb⟩ : ∃ lb, ofL q = lb := ⟨_, rfl⟩
  rw [hla] at HO1 HLP ⊢
  rw [hlb] at HO2 HLQ ⊢
  clear hC1 hC2 hCh hp hq hpc hqc hhs hlp hlq hla hlb
  refine callsIn_of_wp_marks Try.func32 rfl trivial ?_ hro
  simp only [Try.ntmps32, List.size_toArray, List.length_cons, List.length_nil, Nat.reduceAdd, Nat.reduceSub, Array.replicate_succ, Array.replicate_zero, List.push_toArray, List.append_toArray, List.nil_append, List.cons_append]
  gi_wp2_with (first
    | (refine ⟨trivial, ?_⟩; gi_at_call 17; (with_reducible refine (callsIn_wide.2 HO1.out).mono ?_); rintro e w1 ⟨v1, rfl, hr1, hb1⟩; obtain ⟨P1, d1, rfl⟩ := Kd.R_slice hr1; have HR1 := Lib.hid hr1; have HB1 := Lib.hid hb1; clear hr1 hb1)
    | (refine ⟨trivial, ?_⟩; gi_at_call 17; (with_reducible refine (callsIn_wide.2 (HO2.out w1 (Kd.C_below HC2.out HB1.out))).mono ?_); rintro e w2 ⟨v2, rfl, hr2, hb2⟩; obtain ⟨P2, d2, rfl⟩ := Kd.R_slice hr2; have HR2 := Lib.hid hr2; have HB2 := Lib.hid hb2; clear hr2 hb2)
    | (refine ⟨trivial, ?_⟩; gi_at_call 53; refine (callsIn_wide.2 (both_any _ _ ⟨_, _, _, rfl⟩ ⟨_, _, _, rfl⟩ _ _ _ _)).mono ?_; rintro e w3 ⟨rfl, rfl⟩))
  have b0 := Boxed.new w2 46 (.slice none 0 0)
  have b1 := Blk.new (w2.alloc (.cells #[.slice none 0 0] 46)) 78 [.func (.func 52) #[.slice P1 la.length d1] #[]]
  have b2 := Blk.new ((w2.alloc (.cells #[.slice none 0 0] 46)).alloc (.cells #[.func (.func 52) #[.slice P1 la.length d1] #[]] 78)) 78 [.func (.func 52) #[.slice P2 lb.length d2] #[]]
  have b3 := Blk.new (((w2.alloc (.cells #[.slice none 0 0] 46)).alloc (.cells #[.func (.func 52) #[.slice P1 la.length d1] #[]] 78)).alloc (.cells #[.func (.func 52) #[.slice P2 lb.length d2] #[]] 78)) 44 [.slice AH hs.length cH]
  replace b0 := ((b0.alloc (.cells #[.func (.func 52) #[.slice P1 la.length d1] #[]] 78)).alloc (.cells #[.func (.func 52) #[.slice P2 lb.length d2] #[]] 78)).alloc (.cells #[.slice AH hs.length cH] 44)
  replace b1 := (b1.alloc (.cells #[.func (.func 52) #[.slice P2 lb.length d2] #[]] 78)).alloc (.cells #[.slice AH hs.length cH] 44)
  replace b2 := b2.alloc (.cells #[.slice AH hs.length cH] 44)
  have hB0 : Below w2.heap.size w2 ((((w2.alloc (.cells #[.slice none 0 0] 46)).alloc (.cells #[.func (.func 52) #[.slice P1 la.length d1] #[]] 78)).alloc (.cells #[.func (.func 52) #[.slice P2 lb.length d2] #[]] 78)).alloc (.cells #[.slice AH hs.length cH] 44)) := below_alloc (below_alloc (below_alloc (below_alloc (Below.refl _ _) _) _) _) _
  simp only [World.size_alloc] at b1 b2 b3
  obtain ⟨W0, hW0⟩ : ∃ W0, ((((w2.alloc (.cells #[.slice none 0 0] 46)).alloc (.cells #[.func (.func 52) #[.slice P1 la.length d1] #[]] 78)).alloc (.cells #[.func (.func 52) #[.slice P2 lb.length d2] #[]] 78)).alloc (.cells #[.slice AH hs.length cH] 44)) = W0 := ⟨_, rfl⟩
  rw [hW0] at b0 b1 b2 b3 hB0 ⊢
  clear hW0
  refine wpIn_rangeFunc_ownH hro (by omega) (gf := 75) (lb := #[.pointer (some ⟨w2.heap.size + 1 + 1 + 1, 0, none⟩), .pointer (some ⟨w2.heap.size + 1, 0, none⟩), .pointer (some ⟨w2.heap.size + 1 + 1, 0, none⟩)]) rfl trivial (enters_of Try.func75 (by kernel_rfl) rfl)
    (both_stops (6 - 1) (by omega) (w2.heap.size + 1) (w2.heap.size + 1 + 1) (w2.heap.size + 1 + 1 + 1) w2.heap.size [3, 46] (by decide) (by decide) P1 P2 AH d1 d2 cH la lb hs HLP.out HLQ.out (Kd.R_reads' HR1.out).2.1 (Kd.R_reads' HR2.out).2.1 HHS.out w2 W0 rfl (Kd.C_below (Kd.R_reads' HR1.out).2.2 HB2.out) (Kd.R_reads' HR2.out).2.2 (Kd.C_below (Kd.C_below HCH.out HB1.out) HB2.out) hB0 hB0.size b1 b2 b3) (fun h k => h.trans k) (fun W L o o' hL h1 h2 h3 => KpT.putObj (w := W0) hB0.size W L o o' hL h1 h2 h3) (Below.refl _ _) (fun _ => rfl)
    (fun pre W => (∃ v, Boxed W w2.heap.size 46 v ∧ W.ownsRow w2.heap.size 3 1 v (mvL pre).length (encs (Value.int .i64) (mvL pre)) ∧ True) ∧ Below w2.heap.size w2 W)
    (fun _ _ _ => False)
    (OwnFrom.and (Own.from (holdsRow_own w2.heap.size w2.heap.size 46 3 1 (fun pre => (mvL pre).length) (fun pre => encs (Value.int .i64) (mvL pre)) (fun pre v => True)) _) (ownFrom_below (Nat.le_refl _) hB0.size))
    (fun _ _ _ _ _ hs _ _ => hs)
    ⟨⟨_, b0, World.ownsRow_nil _ _ _ _, trivial⟩, hB0⟩
    (fun x a' W => ∃ q5, w2.heap.size ≤ q5 ∧ Blk W q5 73 [.int .i64 x.2.1, .int .i64 x.2.2] ∧ a' = { tmps := #[.slice A1 p.length c1, .slice A2 q.length c2, .slice AH hs.length cH, undef, undef, undef, .slice none 0 0, .slice P1 la.length d1, .slice P2 lb.length d2, .pointer (some ⟨w2.heap.size, 0, none⟩), .int .i64 x.1, .pointer (some ⟨q5, 0, none⟩), .slice A1 p.length c1, .slice P1 la.length d1, .slice A2 q.length c2, .slice P2 lb.length d2, .slice P1 la.length d1, .func (.func 52) #[.slice P1 la.length d1] #[], .slice P2 lb.length d2, .func (.func 52) #[.slice P2 lb.length d2] #[], .slice AH hs.length cH, .func (.func 75) #[] #[.pointer (some ⟨w2.heap.size + 1 + 1 + 1, 0, none⟩), .pointer (some ⟨w2.heap.size + 1, 0, none⟩), .pointer (some ⟨w2.heap.size + 1 + 1, 0, none⟩)], .int .i64 x.1, .agg #[.int .i64 x.2.1, .int .i64 x.2.2], undef, undef, undef, undef, undef, undef, undef, undef, undef, undef], defers := [] })
    (fun x a' => OwnFrom.ex fun q5 => OwnFrom.and (OwnFrom.pure fun _ => w2.heap.size ≤ q5) (OwnFrom.and (blk_ownFrom _ q5 73 (fun _ => [.int .i64 x.2.1, .int .i64 x.2.2])) (OwnFrom.pure fun _ => _))) ?assign ?body ?done ?stop
  case assign =>
    rintro y pre x W K ⟨⟨v, hv, hrow, _⟩, hB⟩ hK
    gi_wp2
    have hbn := Blk.new W 73 [.int .i64 x.2.1, .int .i64 x.2.2]
    exact hK _ _ ((KeepsOthers.alloc _ _).from _) (KpT.alloc _ _ hB.size) ⟨⟨v, hv.alloc _, hrow.alloc _, trivial⟩, hB.trans ((Below.refl _ _).alloc hB.size _)⟩ ⟨_, hB.size, hbn, rfl⟩
  case body =>
    rintro y pre x a' W hy ⟨r, hr⟩ ⟨⟨v, hv, hrow, _⟩, hB⟩ ⟨q5, hq5, hbq, rfl⟩ hlt
    have hc := hv.cell
    have e0 := hbq.cell 0
    have e1 := hbq.cell 1
    have hml := mvL_len pre
    rw [bothL_len] at hlt
    have HML := Lib.hid (show (mvL pre).length + 1 ≤ 1000000 by have := HHS.out; omega)
    have hmx : (1000000 : Nat) < maxLen := by decide
    have HMX := Lib.hid hmx
    clear hml hlt hmx
    by_cases hne : x.2.1 = x.2.2
    · have ek : mvL (pre ++ [x]) = mvL pre := by unfold mvL; rw [List.filter_append]; simp [hne]
      have qne : (x.2.1 != x.2.2) = false := by simp [hne]
      have EK := Lib.hid ek
      clear ek hne
      gi_wp2
      exact ⟨KeepsFrom.refl _ _, KpT.refl _ _ _, ⟨v, hv, by rw [EK.out]; exact hrow, trivial⟩, hB⟩
    · have ek : mvL (pre ++ [x]) = mvL pre ++ [x.1] := by unfold mvL; rw [List.filter_append, List.map_append]; simp [hne]
      have qne : (x.2.1 != x.2.2) = true := by simp [hne]
      have EK := Lib.hid ek
      clear ek hne
      gi_wp2_with (gi_at_builtin; refine wpListIn_append_own_at _ rfl _ _ 46 rfl w2.heap.size 3 i0 (.int .i64 0) 1 8 Try.underlying46 hi hz0 hz1 hz2 rfl (by decide) _ _ _ rfl (hrow.alloc _) ⟨W.heap.size, 0, none⟩ 1 1 [.int .i64 x.1] rfl rfl (cell_one_new _ _ _) (by simp [Value.oneCell']) (by have := HML.out; have := HMX.out; omega) (by have := HML.out; omega) (by have := hB.size; simp; omega) ?_; intro v' w5 hown' hgrow _ hat; obtain ⟨g', cap', rfl⟩ := ownsRow_succ hown'; obtain ⟨hv1, hv2, hr2, hk2, hb2⟩ := hv.appended (by decide) hrow hB.size (Nat.le_refl _) hown' hgrow; have hkp := KpT.appended (ts := [3, 46]) (by decide) (by decide) hv (by decide) hrow hB.size (Nat.le_refl _) hown' hgrow; have hc1 := hv1.cell; have hf1 := hv1.frozen)
      exact ⟨hk2.from _, hkp, ⟨_, hv2, by rw [EK.out, encs_append]; simpa [encs] using hr2, trivial⟩, hB.trans hb2⟩
  case done =>
    rintro D ys W hD hys ⟨⟨v, hv, hrow, _⟩, hB⟩ hK
    subst hys
    have hc := hv.cell
    gi_wp2
    refine ⟨by simp, .inl ⟨_, _, rfl, run_takeDeferred hK, ?_⟩⟩
    have hr2 := ownsRow_putObj hrow (.deferred none) hK rfl
    have hbw : Below w.heap.size w w2 := HB1.out.trans (HB2.out.mono HB1.out.size)
    have hbd := hB.trans (belowK_b (w := w2) (Nat.le_refl _) W D _ (.deferred none) (Nat.le_trans hB0.size hD) hK rfl rfl)
    exact ⟨_, results_tmp rfl _ _ _, v, rfl, Kd.R_lower (Kd.R_of_own hr2 (fun _ _ => trivial)) hbw.size, hbw.trans (hbd.mono hbw.size)⟩
  case stop =>
    rintro D c pre W _ _ h _
    exact h.elim
def ring_Moved.f (l0 : List S39) (l1 : List S39) (l2 : List Int) : Option (List Int) := if l0.length ≤ 100000 ∧ l1.length ≤ 100000 ∧ l2.length ≤ 1000000 then some (movedL (ofL l0) (ofL l1) l2) else none
theorem ring_Moved.calls (A0 : Option Addr) (c0 : Nat) (l0 : List S39) (A1 : Option Addr) (c1 : Nat) (l1 : List S39) (A2 : Option Addr) (c2 : Nat) (l2 : List Int) (r : List Int) (w : World) (hr0 : Kd.C k39 w A0 l0.length l0) (hc0 : l0.length ≤ c0) (hr1 : Kd.C k39 w A1 l1.length l1) (hc1 : l1.length ≤ c1) (hr2 : Kd.C (Kd.int .u64) w A2 l2.length l2) (hc2 : l2.length ≤ c2) (h : ring_Moved.f l0 l1 l2 = some r) :
    Calls Try.prog 32 #[.slice A0 l0.length c0, .slice A1 l1.length c1, .slice A2 l2.length c2] w fun e w' => ∃ v0_ : Value, e = .returned v0_ ∧ Kd.R (Kd.int .i64) 3 w' w.heap.size (fun _ => True) v0_ r ∧ Below w.heap.size w w' := by
  unfold ring_Moved.f at h
  by_cases hl : l0.length ≤ 100000 ∧ l1.length ≤ 100000 ∧ l2.length ≤ 1000000
  · rw [if_pos hl] at h
    obtain rfl := Option.some.inj h
    exact (callsIn_wide (n := 6)).1 (Moved_in A0 A1 A2 c0 c1 c2 l0 l1 l2 hl.1 hl.2.1 hc0 hc1 hl.2.2 w hr0 hr1 hr2)
  · rw [if_neg hl] at h
    exact absurd h (by simp)
end

/-! ### ring_Pick: function 34 -/
def ring_Pick.f (l0 : List (S39)) (a1 : Int) : Option (Int) := (points_Of.f l0).bind fun t121 => ((ring_Succ.f t121 a1).bind fun t124 => (some t124))
set_option maxHeartbeats 8000000 in
set_option maxRecDepth 100000 in
theorem ring_Pick.calls (A0 : Option Addr) (c0 : Nat) (l0 : List (S39)) (a1 : Int) (r : Int) (w : World) (hr0 : Kd.C k39 w A0 l0.length l0) (hc0 : l0.length ≤ c0) (h : ring_Pick.f l0 a1 = some r) :
    Calls Try.prog 34 #[.slice A0 l0.length c0, .int .u64 a1] w fun e w' => e = .returned (.int .i64 r) ∧ Below w.heap.size w w' := by
  have HR0 := Aside0.mk hr0
  have HC0 := Aside0.mk hc0
  clear hr0 hc0
  have HB := Aside0.mk (Below.refl w.heap.size w)
  have H : ((points_Of.f l0).bind fun t121 => ((ring_Succ.f t121 a1).bind fun t124 => (some t124))) = some r := h
  clear h
  replace H := Option.bind_eq_some_iff.mp H
  obtain ⟨t121, A30, H⟩ := H
  replace H : ((ring_Succ.f t121 a1).bind fun t124 => (some t124)) = some r := H
  have A3 := Aside0.mk A30
  clear A30
  replace H := Option.bind_eq_some_iff.mp H
  obtain ⟨t124, A40, H⟩ := H
  replace H : (some t124) = some r := H
  have A4 := Aside0.mk A40
  clear A40
  obtain rfl := Option.some.inj H
  go_enter Try.func34, Try.ntmps34
  go_wp2_with (first | ((with_reducible refine gate_callee (f := 17) rfl ?_); refine goesL_ (some 6) rfl rfl Try.func17 (by kernel_rfl) rfl #[.slice A0 l0.length c0] rfl (by (try simp only [List.map_toArray, List.map_cons, List.map_nil]); first | done | rfl | (simp only [List.length_drop, List.length_take]; rfl)) ?_; (with_reducible refine (points_Of.calls _ _ l0 t121 _ ?side1 ?side2 A3.out).mono ?_); (case side1 => repeat (first | exact HR0.out | (with_reducible refine Kd.C_alloc ?_ _) | (with_reducible refine Kd.C_drewN ?_ _) | (with_reducible refine Kd.C_drew ?_))); (case side2 => exact HC0.out); (try clear A3); rintro e w5 ⟨v122, rfl, ho0, hb⟩; refine ⟨_, rfl, ?_⟩; have n0_ := Aside0.mk (Kd.R_lower ho0 (below_size (by repeat (first | (with_reducible first | exact HB.out | apply below_alloc | apply pw_below_drewN | apply below_drew1) | exact HB.out)))); have n1_ := Aside0.mk (below_step (by repeat (first | (with_reducible first | exact HB.out | apply below_alloc | apply pw_below_drewN | apply below_drew1) | exact HB.out)) hb); clear HB; have HO123 := n0_; have HB := n1_; clear n0_ n1_; (try clear hb); (try clear hb2); (try clear hk); (try clear hi); (try clear ho0); obtain ⟨Ao6, co6, eo6⟩ := Kd.R_slice HO123.out; subst eo6) | ((with_reducible refine gate_callee (f := 28) rfl ?_); refine goesL_ (some 8) rfl rfl Try.func28 (by kernel_rfl) rfl #[.slice Ao6 t121.length co6, .int .u64 a1] rfl (by (try simp only [List.map_toArray, List.map_cons, List.map_nil]); first | done | rfl | (simp only [List.length_drop, List.length_take]; rfl)) ?_; (with_reducible refine (ring_Succ.calls _ _ t121 a1 t124 _ ?side1 ?side2 A4.out).mono ?_); (case side1 => repeat (first | exact (Kd.R_reads' HO123.out).2.2 | (with_reducible refine Kd.C_alloc ?_ _) | (with_reducible refine Kd.C_drewN ?_ _) | (with_reducible refine Kd.C_drew ?_))); (case side2 => exact (Kd.R_reads' HO123.out).2.1); (try clear A4); rintro e w7 ⟨rfl, hb⟩; refine ⟨_, rfl, ?_⟩; have n0_ := Aside0.mk (Kd.R_below (by (with_reducible repeat (first | apply Kd.R_alloc | apply Kd.R_drewN | apply Kd.R_drew)); exact HO123.out) hb); have n1_ := Aside0.mk (below_step (by repeat (first | (with_reducible first | exact HB.out | apply below_alloc | apply pw_below_drewN | apply below_drew1) | exact HB.out)) hb); clear HO123; clear HB; have HO123 := n0_; have HB := n1_; clear n0_ n1_; (try clear hb); (try clear hb2); (try clear hk); (try clear hi)))
  go_ret
  exact ⟨by first | rfl | (simp [errW_none, errW_some] <;> rfl) | (simp [*, errW_none, errW_some] <;> rfl), by repeat (first | (with_reducible first | exact HB.out | apply below_alloc | apply pw_below_drewN | apply below_drew1) | exact HB.out)⟩

end Go.Proofs.Ytcekkbimdogboaa.P
