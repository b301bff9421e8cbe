/- Each Go function that the laws reach, as a plain function, with the proof that the machine's call comes to what it says; of a law: its row. Made by a program of this seat (wip/hp.py, over the print). -/
import Derived.Test.YtklngklmeanhcaaPx0
import Derived.Test.YtklngklmeanhcaaPx1
namespace Go.Proofs.Ytklngklmeanhcaa.P
open Go.RowKit Go.Proofs.YtklngklmeanhcaaW.PrintWords Go.Proofs.YtklngklmeanhcaaW.PrintLast Go.Proofs.YtklngklmeanhcaaW.PrintMore
attribute [local go_sem] max2_int min2_int max_two min_two max_three min_three max_four min_four   -- for this text's walks alone
set_option linter.unusedVariables false
set_option linter.unusedSimpArgs false

attribute [local go_sem high] eqA56
/-- What is known of a value of struct type 56 that came in. -/
def okS56 (x : S56) : Prop := (Lit.int .i64 x.f0).wf = true ∧ (Lit.int .i64 x.f1).wf = true

-- NOT PRINTED: function 93 (slices_IndexFunc_2_int_2_int)

-- NOT PRINTED: function 77 (slices_ContainsFunc_2_int_2_int)

-- NOT PRINTED: function 78 (pool_within_1)

/-! ### pool_within: function 58 -/
section
open Go.Shelf Go.Proofs.Ytklngklmeanhcaa.Hand
def encPr (x : Int × Int) : List Value := [.int .i64 x.1, .int .i64 x.2]
def outP (x : Int × Int) : Bool := decide (x.1 < 1) || decide (x.2 < x.1)
set_option maxHeartbeats 1000000 in
theorem within1_any (x : Int × Int) (W : World) : Calls Try.prog 78 #[.agg #[.int .i64 x.1, .int .i64 x.2]] W fun e w' => e = .returned (.bool (outP x)) ∧ w' = W.alloc (.cells #[.int .i64 x.1, .int .i64 x.2] 89) := by
  obtain ⟨a, b⟩ := x
  by_cases h1 : a < 1
  · have q1 : decide (a < 1) = true := decide_eq_true h1
    have hO : outP (a, b) = true := by simp [outP, h1]
    rw [hO]
    clear hO
    go_enter Try.func78, Try.ntmps78
    go_wp2
    go_ret
    exact ⟨rfl, rfl⟩
  · have q1 : decide (a < 1) = false := decide_eq_false h1
    have hO : outP (a, b) = decide (b < a) := by simp [outP, h1]
    rw [hO]
    clear hO
    go_enter Try.func78, Try.ntmps78
    go_wp2
    go_ret
    exact ⟨rfl, rfl⟩
set_option maxRecDepth 100000 in
set_option maxHeartbeats 1000000 in
theorem within_any (g : Nat) (a b : Int) (W : World) (h : Blk W g 89 [.int .i64 a, .int .i64 65535, .int .i64 b, .int .i64 16]) :
    Calls Try.prog 58 #[.slice (some ⟨g, 0, none⟩) 2 2] W fun e w' => e = .returned (.bool (!(outP (a, 65535) || outP (b, 16)))) ∧ Below W.heap.size W w' := by
  have eg : ∀ args w, (callFunc 78 args).run Try.prog w = .ok (.enter 78 args) w := enters_of Try.func78 (by kernel_rfl) rfl
  have hcon := AnyQ.slices_ContainsFunc Try.anyPr 2 Try.isAgg89 Try.sizeOf89 encPr (fun _ => rfl) outP 78 #[] eg g 0 2 2 [(a, 65535), (b, 16)] W
    (fun W' x hb => (within1_any x W').mono fun e w' ⟨he, hw⟩ => ⟨he, by subst hw; exact hb.alloc hb.size _⟩) (by simp) (by decide) h.lt (fun j hj i v hv => by
      have c0 := h.cell 0
      have c1 := h.cell 1
      have c2 := h.cell 2
      have c3 := h.cell 3
      match j, hj, i, hv with
      | 0, _, 0, hv => simp [encPr] at hv; rw [← hv]; exact c0
      | 0, _, 1, hv => simp [encPr] at hv; rw [← hv]; exact c1
      | 1, _, 0, hv => simp [encPr] at hv; rw [← hv]; exact c2
      | 1, _, 1, hv => simp [encPr] at hv; rw [← hv]; exact c3
      | 0, _, i + 2, hv => simp [encPr] at hv
      | 1, _, i + 2, hv => simp [encPr] at hv
      | j + 2, hj, _, _ => simp at hj; omega)
  change Calls Try.prog 77 _ _ _ at hcon
  have e : ([(a, (65535 : Int)), (b, 16)].take 2).any outP = (outP (a, 65535) || outP (b, 16)) := by simp
  rw [e] at hcon
  generalize (outP (a, 65535) || outP (b, 16)) = r at hcon ⊢
  have HCON := Lib.hid hcon
  clear hcon h e eg
  go_enter Try.func58, Try.ntmps58
  go_wp2_with (go_at_call 77; refine HCON.out.mono ?_; rintro e w1 ⟨rfl, hb⟩; have HB := Lib.hid hb; clear hb)
  go_ret
  exact ⟨rfl, HB.out⟩
end

/-! ### pool_Check: function 26 -/
section
open Go.Shelf Go.Proofs.Ytklngklmeanhcaa.Hand Go.Maps
theorem plainElem_bool_inv {H : Type} {P : Program} {e : TypeId} (he : P.underlying e = some .bool) {v : Value} {z : DataW H × List MemPlace} (h : plainElem P e v = some z) : ∃ y, v = .bool y ∧ z = (.lit (.bool y), []) := by
  unfold plainElem at h
  rw [he] at h
  cases v <;> simp at h
  exact ⟨_, rfl, h.symm⟩
theorem atKey_foldN {H : Type} (u : DataW H) (k : Lit) (z : DataW H) : ∀ (acc : List Lit) (m : DataW H), k ∉ acc → (acc.foldl (fun m x => m.put x u) m).atKey k z = m.atKey k z
  | [], m, _ => rfl
  | x :: acc, m, h => by
    rw [List.foldl_cons, atKey_foldN u k z acc (m.put x u) (fun h1 => h (List.mem_cons_of_mem _ h1)), atKey_put_other (fun e : k = x => h (by rw [e]; exact List.mem_cons_self))]
theorem atKey_foldY {H : Type} (u : DataW H) (k : Lit) (hk : WideAt.IsKeyLit k) (z : DataW H) : ∀ (acc : List Lit) (m : DataW H), IsMap m → k ∈ acc → (acc.foldl (fun m x => m.put x u) m).atKey k z = u
  | [], m, _, h => by cases h
  | x :: acc, m, hm, h => by
    rw [List.foldl_cons]
    by_cases h1 : k ∈ acc
    · exact atKey_foldY u k hk z acc _ (hm.put x u) h1
    · rcases List.mem_cons.1 h with rfl | h2
      · rw [atKey_foldN u k z acc _ h1, atKey_put_same hm hk]
      · exact absurd h2 h1
/-- The ids seen so far, as the map holds them. -/
def seenD (ids : List Int) : DataW Unit := setOf (.lit (.bool true)) (ids.map (Lit.int .i64))
theorem seenD_snoc (ids : List Int) (x : Int) : seenD (ids ++ [x]) = (seenD ids).put (.int .i64 x) (.lit (.bool true)) := by
  unfold seenD; rw [List.map_append, List.map_singleton, setOf_snoc]
set_option maxRecDepth 100000 in
theorem seen_look (ids : List Int) (b n : Nat) (W : World) (x : Int) (hx : (Lit.int .i64 x).wf = true) (h : W.ownsMap Try.prog 3 (plainElem Try.prog 4) b n (seenD ids)) :
    (Instr.lookup 87 (.map (some b)) (.int .i64 x) false).run Try.prog W = .ok (.bool (decide (x ∈ ids))) W := by
  have K : Keyed Try.prog 3 := int_keyed Try.underlying3
  have hkey := keyOf_int_mk (P := Try.prog) Try.underlying3 hx
  obtain ⟨v, ps, hrun, hv⟩ := h.lookup K Try.underlying87 (Try.zeroValue4 W) (plainElem_bool Try.underlying4 false) hkey
  obtain ⟨y, rfl, hy⟩ := plainElem_bool_inv Try.underlying4 hv
  have e : (seenD ids).atKey (.int .i64 x) (.lit (.bool false)) = .lit (.bool (decide (x ∈ ids))) := by
    unfold seenD setOf
    by_cases hm : x ∈ ids
    · rw [atKey_foldY _ _ (K.key hkey) _ _ _ isMap_empty (List.mem_map.2 ⟨x, hm, rfl⟩), decide_eq_true hm]
    · rw [atKey_foldN _ _ _ _ _ (fun h => by obtain ⟨a, ha, e⟩ := List.mem_map.1 h; cases e; exact hm ha), decide_eq_false hm]
      rfl
  rw [e] at hy
  have hy1 := congrArg Prod.fst hy
  have hy2 : decide (x ∈ ids) = y := by injection hy1 with h1; injection h1
  subst hy2
  exact hrun
/-- Is one of a pool's backends one that may not be? -/
def badFrom : List S56 → List Int → Bool
  | [], _ => false
  | b :: r, seen => decide (b.f0 ∈ seen) || (outP (b.f0, 65535) || outP (b.f1, 16)) || badFrom r (seen ++ [b.f0])
def checkL (l : List S56) : Int := if badFrom l [] = true then 10 else if 32 < l.length then 10 else 0
def idsL (l : List S56) : List Int := l.map (·.f0)
theorem badFrom_step (l : List S56) (k : Nat) (h : k < l.length) : badFrom (l.drop k) (idsL (l.take k)) = (decide ((l.getD k z56).f0 ∈ idsL (l.take k)) || (outP ((l.getD k z56).f0, 65535) || outP ((l.getD k z56).f1, 16)) || badFrom (l.drop (k + 1)) (idsL (l.take (k + 1)))) := by
  rw [List.drop_eq_getElem_cons h]
  have e : idsL (l.take (k + 1)) = idsL (l.take k) ++ [l[k].f0] := by unfold idsL; rw [List.take_succ_eq_append_getElem h, List.map_append]; rfl
  rw [e]
  simp [badFrom, h]
theorem idsL_take (l : List S56) (k : Nat) (h : k < l.length) : idsL (l.take (k + 1)) = idsL (l.take k) ++ [(l.getD k z56).f0] := by
  unfold idsL; rw [List.take_succ_eq_append_getElem h, List.map_append]; simp [h]
def idsWf (l : List S56) : Bool := l.all fun b => (Lit.int .i64 b.f0).wf
theorem check_nums (n k : Nat) (hl : n ≤ 1000000) (h : k < n) : decide ((k : Int) < (n : Int)) = true ∧ (0 : Int) ≤ (k : Int) ∧ (k : Int) < (n : Int) ∧ wrap64 ((k : Int) + 1) = ((k + 1 : Nat) : Int) ∧ k < maxLen :=
  ⟨decide_eq_true (by omega), by omega, by omega, by unfold wrap64; omega, by unfold maxLen; omega⟩
theorem check_meas (n k : Nat) (h : k < n) : n - (((k + 1 : Nat) : Int)).toNat < n - ((k : Int)).toNat := by
  rw [Int.toNat_natCast, Int.toNat_natCast]; omega
set_option maxRecDepth 100000 in
set_option maxHeartbeats 8000000 in
theorem Check_any (A : Option Addr) (c : Nat) (l : List S56) (hl : l.length ≤ 1000000) (hwf : idsWf l = true) (w : World) (hC : Kd.C k56 w A l.length l) :
    Calls Try.prog 26 #[.slice A l.length c] w fun e w' => e = .returned (.int .i64 (checkL l)) ∧ Below w.heap.size w w' := by
  have hmm := @run_makeMap Try.prog
  have HC := Lib.hid hC
  have HL := Lib.hid hl
  have HWF := Lib.hid hwf
  clear hC hl hwf
  have hown0 := World.ownsMap_made w Try.prog 3 (plainElem (H := Unit) Try.prog 4)
  have hb0 := below_alloc (Below.refl w.heap.size w) (.map #[] 0)
  have HO0 := Lib.hid hown0
  have HB0 := Lib.hid hb0
  clear hown0 hb0
  obtain ⟨r, hr⟩ : ∃ r, checkL l = r := ⟨_, rfl⟩
  rw [hr]
  have HR := Lib.hid hr
  clear hr
  go_enter Try.func26, Try.ntmps26
  go_wp2
  go_loopw [9] (fun i wr => ∃ (k : Nat), k ≤ l.length ∧ i = .int .i64 k ∧ Aside0 (wr.ownsMap Try.prog 3 (plainElem Try.prog 4) w.heap.size k (seenD (idsL (l.take k)))) ∧ Aside0 (badFrom (l.drop k) (idsL (l.take k)) = badFrom l []) ∧ Aside0 (Below w.heap.size w wr))
    (fun i _ => l.length - (intOf i).toNat)
  case atStart => exact ⟨0, Nat.zero_le _, rfl, ⟨HO0.out⟩, ⟨rfl⟩, ⟨HB0.out⟩⟩
  case round =>
    obtain ⟨k, hk, rfl, HO, HK, HBr⟩ := hrel
    by_cases hlt : k < l.length
    · obtain ⟨ad, hA, c0, c1⟩ := at_T56 (Kd.C_below HC.out HBr.out) (k : Int) (by omega) (by omega)
      subst hA
      have hst := HK.out
      have hid := idsL_take l k hlt
      rw [badFrom_step l k hlt] at hst
      rw [show rd_T56 l (k : Int) = l.getD k z56 from rfl] at c0 c1
      have hbw : (Lit.int .i64 (l.getD k z56).f0).wf = true := by
        have h := List.all_eq_true.1 HWF.out (l.getD k z56) (by simp [hlt])
        exact h
      obtain ⟨b, hb⟩ : ∃ b, l.getD k z56 = b := ⟨_, rfl⟩
      rw [hb] at c0 c1 hst hbw hid
      rw [Int.toNat_natCast] at c0 c1
      obtain ⟨q1, q2, q3, hwk, hkm⟩ := check_nums l.length k HL.out hlt
      have HST := Lib.hid hst
      have HBW := Lib.hid HBr.out
      have HID := Lib.hid hid
      have HWB := Lib.hid hbw
      have HKM := Lib.hid hkm
      clear hst hb HK HBr hid hbw hkm
      obtain ⟨b0, b1⟩ := b
      go_upto_region 5 with (fail)
      have hbx := Blk.new wr 56 [.int .i64 b0, .int .i64 b1]
      have hb1 := below_alloc HBW.out (.cells #[.int .i64 b0, .int .i64 b1] 56)
      have ho1 := HO.out.alloc (.cells #[.int .i64 b0, .int .i64 b1] 56)
      obtain ⟨g5, hg5⟩ : ∃ g5, wr.heap.size = g5 := ⟨_, rfl⟩
      obtain ⟨W1, hW1⟩ : ∃ W1, (wr.alloc (.cells #[.int .i64 b0, .int .i64 b1] 56)) = W1 := ⟨_, rfl⟩
      rw [hg5] at hbx ⊢
      rw [hW1] at hbx hb1 ho1 ⊢
      clear hg5 hW1 c0 c1 HBW HO
      have c0 : W1.cell? ⟨g5, 0, none⟩ = some (.int .i64 b0) := hbx.cell 0
      have c1 : W1.cell? ⟨g5, 1, none⟩ = some (.int .i64 b1) := hbx.cell 1
      have hlook := seen_look _ _ _ W1 b0 HWB.out ho1
      have HB1 := Lib.hid hb1
      have HO1 := Lib.hid ho1
      have HBX := Lib.hid hbx
      clear hb1 ho1 hbx
      obtain ⟨sn, hsn⟩ : ∃ sn, decide (b0 ∈ idsL (l.take k)) = sn := ⟨_, rfl⟩
      have hst := HST.out
      rw [hsn] at hlook hst
      clear HST hsn
      have HLK := Lib.hid hlook
      clear hlook
      cases sn with
      | true =>
        have hr1 : r = 10 := by rw [← HR.out]; unfold checkL; rw [← hst]; rfl
        have HR1 := Lib.hid hr1
        clear hst hr1
        have hlook := HLK.out
        clear HLK
        go_wp2
        go_ret
        exact ⟨by rw [HR1.out]; rfl, HB1.out⟩
      | false =>
        obtain ⟨ou, hou⟩ : ∃ ou, (outP (b0, 65535) || outP (b1, 16)) = ou := ⟨_, rfl⟩
        have hwi := within_any W1.heap.size b0 b1 (W1.alloc (.cells #[.int .i64 b0, .int .i64 65535, .int .i64 b1, .int .i64 16] 89)) (Blk.new W1 89 [.int .i64 b0, .int .i64 65535, .int .i64 b1, .int .i64 16])
        rw [hou] at hwi hst
        clear hou
        have HWI := Lib.hid hwi
        have hlook := HLK.out
        clear HLK hwi
        cases ou with
        | true =>
          have hr1 : r = 10 := by rw [← HR.out]; unfold checkL; rw [← hst]; rfl
          have HR1 := Lib.hid hr1
          clear hst hr1
          go_wp2_with (go_at_call 58; refine HWI.out.mono ?_; rintro e w3 ⟨rfl, hb3⟩; have HB3 := Lib.hid hb3; clear hb3)
          go_ret
          exact ⟨by rw [HR1.out]; rfl, (below_alloc HB1.out _).trans (HB3.out.mono (below_alloc HB1.out _).size)⟩
        | false =>
          have HST := Lib.hid (show badFrom (l.drop (k + 1)) (idsL (l.take (k + 1))) = badFrom l [] from by simpa using hst)
          clear hst
          have hkey := keyOf_int_mk (P := Try.prog) Try.underlying3 HWB.out
          have hb2 := below_alloc HB1.out (.cells #[.int .i64 b0, .int .i64 65535, .int .i64 b1, .int .i64 16] 89)
          have ho2 := HO1.out.alloc (.cells #[.int .i64 b0, .int .i64 65535, .int .i64 b1, .int .i64 16] 89)
          have hx2 := HBX.out.alloc (.cells #[.int .i64 b0, .int .i64 65535, .int .i64 b1, .int .i64 16] 89)
          have HB2 := Lib.hid hb2
          have HO2 := Lib.hid ho2
          have HX2 := Lib.hid hx2
          have HKEY := Lib.hid hkey
          clear hb2 ho2 hx2 hkey
          go_wp2_with (first
            | (go_at_call 58; refine HWI.out.mono ?_; rintro e w3 ⟨rfl, hb3⟩; have HB3 := Lib.hid (HB2.out.trans (hb3.mono HB2.out.size)); have HO3 := Lib.hid (HO2.out.kept (grown_of_below hb3 none) (by simp)); have HX3 := Lib.hid (HX2.out.below hb3); clear hb3; have c3 : w3.cell? ⟨g5, 0, none⟩ = some (.int .i64 b0) := HX3.out.cell 0)
            | (at_mapUpdate; refine wpList_mapUpdate_own _ rfl _ _ _ 87 rfl 3 4 (int_keyed Try.underlying3) Try.underlying87 (plainElem Try.prog 4) w.heap.size k _ rfl HO3.out HKM.out _ _ _ rfl rfl HKEY.out _ [] (plainElem_bool Try.underlying4 true) ?_; intro w4 hown4 hgrow4; have HO4 := Aside0.mk (show w4.ownsMap Try.prog 3 (plainElem Try.prog 4) w.heap.size (k + 1) (seenD (idsL (l.take (k + 1)))) from by rw [HID.out, seenD_snoc]; exact hown4); have HB4 := Aside0.mk (HB3.out.grown hgrow4 HB3.out.size (fun k e => by cases e; exact Nat.le_refl _)); clear hown4 hgrow4))
          go_roundw
          case rel => exact ⟨k + 1, Nat.succ_le_of_lt hlt, by rw [hwk], HO4, ⟨HST.out⟩, HB4⟩
          case measure =>
            rw [hwk]
            exact check_meas _ _ hlt
    · obtain rfl : k = l.length := Nat.le_antisymm hk (Nat.le_of_not_lt hlt)
      have q1 : decide ((l.length : Int) < (l.length : Int)) = false := decide_eq_false (by omega)
      have hb0 : badFrom l [] = false := by have h := HK.out; rw [List.drop_length] at h; exact h.symm
      clear HK HO
      by_cases h32 : 32 < l.length
      · have hr1 : r = 10 := by rw [← HR.out]; unfold checkL; rw [hb0, if_pos h32]; rfl
        have HR1 := Lib.hid hr1
        clear hr1 hb0
        have q2 : decide ((32 : Int) < (l.length : Int)) = true := decide_eq_true (by omega)
        go_wp2
        go_ret
        exact ⟨by rw [HR1.out]; rfl, HBr.out⟩
      · have hr1 : r = 0 := by rw [← HR.out]; unfold checkL; rw [hb0, if_neg h32]; rfl
        have HR1 := Lib.hid hr1
        clear hr1 hb0
        have q2 : decide ((32 : Int) < (l.length : Int)) = false := decide_eq_false (by omega)
        go_wp2
        go_ret
        exact ⟨by rw [HR1.out]; rfl, HBr.out⟩
def pool_Check.f (l0 : List S56) : Option Int := if l0.length ≤ 1000000 ∧ idsWf l0 = true then some (checkL l0) else none
theorem pool_Check.calls (A0 : Option Addr) (c0 : Nat) (l0 : List S56) (r : Int) (w : World) (hr0 : Kd.C k56 w A0 l0.length l0) (hc0 : l0.length ≤ c0) (h : pool_Check.f l0 = some r) :
    Calls Try.prog 26 #[.slice A0 l0.length c0] w fun e w' => e = .returned (.int .i64 r) ∧ Below w.heap.size w w' := by
  unfold pool_Check.f at h
  by_cases hl : l0.length ≤ 1000000 ∧ idsWf l0 = true
  · rw [if_pos hl] at h
    obtain rfl := Option.some.inj h
    exact Check_any A0 c0 l0 hl.1 hl.2 w hr0
  · rw [if_neg hl] at h
    exact absurd h (by simp)
end

-- NOT PRINTED: function 62 (api_Backend_62)

-- NOT PRINTED: function 82 (pool_named_1)

-- NOT PRINTED: function 63 (pool_named)

/-! ### pool_Find: function 29 -/
section
open Go.Shelf Go.Proofs.Ytklngklmeanhcaa.Hand
def findAt (id : Int) : List S56 → Int → Int
  | [], _ => -1
  | b :: l, i => if b.f0 = id then i else findAt id l (i + 1)
/-- Where a backend stands, or -1. -/
def findL (l : List S56) (id : Int) : Int := findAt id l 0
theorem findAt_step (id : Int) (l : List S56) (k : Nat) (h : k < l.length) (i : Int) : findAt id (l.drop k) i = if (l.getD k z56).f0 = id then i else findAt id (l.drop (k + 1)) (i + 1) := by
  rw [List.drop_eq_getElem_cons h]
  simp [findAt, h]
theorem findAt_end (id : Int) (l : List S56) (i : Int) : findAt id (l.drop l.length) i = -1 := by
  rw [List.drop_length]; rfl
theorem findAt_cases (id : Int) : ∀ (l : List S56) (i : Int), (findAt id l i = -1 ∧ ∀ b ∈ l, b.f0 ≠ id) ∨ ∃ k : Nat, ∃ h : k < l.length, findAt id l i = i + k ∧ l[k].f0 = id ∧ ∀ j (hj : j < k), l[j].f0 ≠ id
  | [], i => .inl ⟨rfl, fun b hb => by cases hb⟩
  | b :: l, i => by
    by_cases hb : b.f0 = id
    · exact .inr ⟨0, by simp, by simp [findAt, hb], hb, fun j hj => absurd hj (Nat.not_lt_zero _)⟩
    · rcases findAt_cases id l (i + 1) with ⟨h1, h2⟩ | ⟨k, h, h1, h2, h3⟩
      · exact .inl ⟨by simp [findAt, hb, h1], fun x hx => by rcases List.mem_cons.1 hx with rfl | hx; exact hb; exact h2 x hx⟩
      · refine .inr ⟨k + 1, by simp; omega, by simp [findAt, hb, h1]; omega, by simpa using h2, fun j hj => ?_⟩
        cases j with
        | zero => simpa using hb
        | succ j => simpa using h3 j (by omega)
theorem findL_cases (l : List S56) (id : Int) : (findL l id = -1 ∧ ∀ b ∈ l, b.f0 ≠ id) ∨ ∃ k : Nat, ∃ h : k < l.length, findL l id = k ∧ l[k].f0 = id ∧ ∀ j (hj : j < k), l[j].f0 ≠ id := by
  rcases findAt_cases id l 0 with h | ⟨k, h, h1, h2⟩
  · exact .inl h
  · exact .inr ⟨k, h, by unfold findL; omega, h2⟩
set_option maxHeartbeats 1000000 in
theorem named1_any (id : Int) (B : Nat) (x : S56) (W : World) (hc : W.cell? ⟨B, 0, none⟩ = some (.int .i64 id)) (hB : B < W.heap.size) :
    Calls Try.prog 82 #[.agg #[.int .i64 x.f0, .int .i64 x.f1], .pointer (some ⟨B, 0, none⟩)] W fun e w' => e = .returned (.bool (x.f0 == id)) ∧ w' = W.alloc (.cells #[.int .i64 x.f0, .int .i64 x.f1] 56) := by
  obtain ⟨x0, x1⟩ := x
  have hne : B ≠ W.heap.size := by omega
  go_enter Try.func82, Try.ntmps82
  go_wp2
  go_ret
  exact ⟨rfl, rfl⟩
set_option maxHeartbeats 1000000 in
theorem named_any (id : Int) (W : World) :
    Calls Try.prog 63 #[.int .i64 id] W fun e w' => e = .returned (.func (.func 82) #[] #[.pointer (some ⟨W.heap.size, 0, none⟩)]) ∧ w' = W.alloc (.cells #[.int .i64 id] 3) := by
  go_enter Try.func63, Try.ntmps63
  go_wp2
  go_ret
  exact ⟨rfl, rfl⟩
set_option maxRecDepth 100000 in
set_option maxHeartbeats 4000000 in
theorem IndexFunc_named (id : Int) (B : Nat) (A : Option Addr) (c : Nat) (l : List S56) (hl : l.length ≤ 4611686018427387904) (w : World) (hC : Kd.C k56 w A l.length l) (hB : B < w.heap.size) (hc : w.cell? ⟨B, 0, none⟩ = some (.int .i64 id)) :
    Calls Try.prog 62 #[.slice A l.length c, .func (.func 82) #[] #[.pointer (some ⟨B, 0, none⟩)]] w fun e w' => e = .returned (.int .i64 (findL l id)) ∧ Below w.heap.size w w' := by
  have HC := Lib.hid hC
  have HL := Lib.hid hl
  have HB := Lib.hid hB
  have HCC := Lib.hid hc
  clear hC hl hB hc
  unfold findL
  obtain ⟨r, hr⟩ : ∃ r, findAt id l 0 = r := ⟨_, rfl⟩
  rw [hr]
  have eg := enters_of Try.func82 (by kernel_rfl) rfl
  have HR := Lib.hid hr
  clear hr
  go_enter Try.func62, Try.ntmps62
  go_wp2
  go_loopw [8] (fun i wr => ∃ (k : Nat), k ≤ l.length ∧ i = .int .i64 k ∧ Aside0 (findAt id (l.drop k) (k : Int) = r) ∧ Aside0 (Below w.heap.size w wr))
    (fun i _ => l.length - (intOf i).toNat)
  case atStart => exact ⟨0, Nat.zero_le _, rfl, ⟨HR.out⟩, ⟨Below.refl _ _⟩⟩
  case round =>
    obtain ⟨k, hk, rfl, HK, HBr⟩ := hrel
    by_cases hlt : k < l.length
    · obtain ⟨ad, hA, c0, c1⟩ := at_T56 (Kd.C_below HC.out HBr.out) (k : Int) (by omega) (by omega)
      subst hA
      have hst := HK.out
      rw [findAt_step id l k hlt] at hst
      rw [show rd_T56 l (k : Int) = l.getD k z56 from rfl] at c0 c1
      obtain ⟨b, hb⟩ : ∃ b, l.getD k z56 = b := ⟨_, rfl⟩
      rw [hb] at c0 c1 hst
      rw [Int.toNat_natCast] at c0 c1
      have hcall := named1_any id B b wr ((HBr.out.cell (p := ⟨B, 0, none⟩) HB.out).trans HCC.out) (Nat.lt_of_lt_of_le HB.out HBr.out.size)
      have HST := Lib.hid hst
      have HBW := Lib.hid HBr.out
      have q1 : decide ((k : Int) < (l.length : Int)) = true := decide_eq_true (by omega)
      have q2 : (0 : Int) ≤ (k : Int) := by omega
      have q3 : (k : Int) < (l.length : Int) := by omega
      have hwk : wrap64 ((k : Int) + 1) = ((k + 1 : Nat) : Int) := by have := HL.out; unfold wrap64; omega
      have hbe : (b.f0 == id) = true ∨ (b.f0 == id) = false := by cases (b.f0 == id) <;> simp
      clear hst hb HK HBr
      rcases hbe with hbe | hbe
      · rw [hbe] at hcall
        have hr2 : (k : Int) = r := by have h := HST.out; rw [if_pos (by simpa using hbe)] at h; exact h
        have HR2 := Lib.hid hr2
        clear hr2 hbe
        have HCL := Lib.hid hcall
        clear hcall
        go_wp2_with fail
        refine HCL.out.mono ?_
        rintro e w3 ⟨rfl, rfl⟩
        go_wp2
        go_ret
        exact ⟨by rw [HR2.out]; rfl, below_alloc HBW.out _⟩
      · rw [hbe] at hcall
        have hr2 : findAt id (l.drop (k + 1)) ((k : Int) + 1) = r := by have h := HST.out; rw [if_neg (by simpa using hbe)] at h; exact h
        have HR2 := Lib.hid hr2
        clear hr2 hbe
        have HCL := Lib.hid hcall
        clear hcall
        go_wp2_with fail
        refine HCL.out.mono ?_
        rintro e w3 ⟨rfl, rfl⟩
        go_wp2
        go_roundw
        case rel => exact ⟨k + 1, Nat.succ_le_of_lt hlt, by rw [hwk], ⟨HR2.out⟩, ⟨below_alloc HBW.out _⟩⟩
        case measure =>
          rw [hwk]
          show l.length - (((k + 1 : Nat) : Int)).toNat < l.length - ((k : Int)).toNat
          rw [Int.toNat_natCast, Int.toNat_natCast]
          exact Nat.sub_succ_lt_self _ _ hlt
    · obtain rfl : k = l.length := Nat.le_antisymm hk (Nat.le_of_not_lt hlt)
      have q1 : decide ((l.length : Int) < (l.length : Int)) = false := decide_eq_false (by omega)
      have HR2 := Lib.hid (HK.out.symm.trans (findAt_end id l _))
      clear HK
      go_wp2
      go_ret
      exact ⟨by rw [HR2.out]; rfl, HBr.out⟩
def pool_Find.f (l0 : List S56) (a1 : Int) : Option Int := if l0.length ≤ 8796093021952 then some (findL l0 a1) else none
set_option maxHeartbeats 1000000 in
theorem Find_any (A : Option Addr) (c : Nat) (l : List S56) (hl : l.length ≤ 8796093021952) (id : Int) (w : World) (hC : Kd.C k56 w A l.length l) :
    Calls Try.prog 29 #[.slice A l.length c, .int .i64 id] w fun e w' => e = .returned (.int .i64 (findL l id)) ∧ Below w.heap.size w w' := by
  have hI := IndexFunc_named id w.heap.size A c l (Nat.le_trans hl (by decide)) (w.alloc (.cells #[.int .i64 id] 3)) (Kd.C_alloc hC _) (by simp) ((Blk.new w 3 [.int .i64 id]).cell 0)
  have HI := Lib.hid hI
  clear hI hC hl
  go_enter Try.func29, Try.ntmps29
  go_wp2_with (first
    | (go_at_call 63; refine (named_any _ _).mono ?_; rintro e w1 ⟨rfl, rfl⟩)
    | (go_at_call 62; refine HI.out.mono ?_; rintro e w2 ⟨rfl, hb⟩; have HB2 := Lib.hid hb; clear hb))
  go_ret
  exact ⟨rfl, (below_alloc (Below.refl _ _) _).trans (HB2.out.mono (by simp))⟩
theorem pool_Find.calls (A0 : Option Addr) (c0 : Nat) (l0 : List S56) (a1 : Int) (r : Int) (w : World) (hr0 : Kd.C k56 w A0 l0.length l0) (hc0 : l0.length ≤ c0) (h : pool_Find.f l0 a1 = some r) :
    Calls Try.prog 29 #[.slice A0 l0.length c0, .int .i64 a1] w fun e w' => e = .returned (.int .i64 r) ∧ Below w.heap.size w w' := by
  unfold pool_Find.f at h
  by_cases hl : l0.length ≤ 8796093021952
  · rw [if_pos hl] at h
    obtain rfl := Option.some.inj h
    exact Find_any A0 c0 l0 hl a1 w hr0
  · rw [if_neg hl] at h
    exact absurd h (by simp)
end

/-! ### gangplankref08_Same: function 33 -/
def gangplankref08_Same.l0 : Nat → List (S56) → List (S56) → Int → Option (Bool)
  | 0, _, _, _ => none
  | k + 1, x0, x1, x5 => if x5 < (x0.length : Int) then (if 0 ≤ x5 then (if x5 < (x1.length : Int) then (if (!(((rd_T56 x0 x5).f0) == ((rd_T56 x1 x5).f0)) || (!(((rd_T56 x0 x5).f1) == ((rd_T56 x1 x5).f1)))) = true then (some false) else (gangplankref08_Same.l0 k x0 x1 (wrap64 (x5 + 1)))) else (none)) else (none)) else (some true)
def gangplankref08_Same.f (k : Nat) (l0 : List (S56)) (l1 : List (S56)) : Option (Bool) := if (l0.length : Int) = (l1.length : Int) then (gangplankref08_Same.l0 k l0 l1 0) else (some false)
theorem gangplankref08_Same.mono_l : ∀ k, (∀ y0 y1 y2, LeO (gangplankref08_Same.l0 k y0 y1 y2) (gangplankref08_Same.l0 (k + 1) y0 y1 y2))
  | 0 => fun _ _ _ r h => by simp [gangplankref08_Same.l0] at h
  | k + 1 => by
    have ih0 := gangplankref08_Same.mono_l k
    · intro y0 y1 y2
      unfold gangplankref08_Same.l0
      repeat' first
      | (with_reducible exact ih0 _ _ _)
      | (with_reducible exact LeO.refl _)
      | (with_reducible exact LeO.none _)
      | (with_reducible refine LeO.ite ?_ ?_)
      | (with_reducible refine LeO.bind ?_ (fun _ => ?_))
      | exact ih0 _ _ _
      | exact LeO.none _
      | refine LeO.ite ?_ ?_
      | refine LeO.bind ?_ (fun _ => ?_)
theorem gangplankref08_Same.mono : ∀ a0 a1 k, LeO (gangplankref08_Same.f k a0 a1) (gangplankref08_Same.f (k + 1) a0 a1) := by
  intro a0 a1 k
  have ih0 := gangplankref08_Same.mono_l k
  unfold gangplankref08_Same.f
  repeat' first
      | (with_reducible exact ih0 _ _ _)
      | (with_reducible exact LeO.refl _)
      | (with_reducible exact LeO.none _)
      | (with_reducible refine LeO.ite ?_ ?_)
      | (with_reducible refine LeO.bind ?_ (fun _ => ?_))
      | exact ih0 _ _ _
      | exact LeO.none _
      | refine LeO.ite ?_ ?_
      | refine LeO.bind ?_ (fun _ => ?_)
set_option maxHeartbeats 8000000 in
set_option maxRecDepth 100000 in
theorem gangplankref08_Same.calls (k : Nat) (A0 : Option Addr) (c0 : Nat) (l0 : List (S56)) (A1 : Option Addr) (c1 : Nat) (l1 : List (S56)) (r : Bool) (w : World) (hr0 : Kd.C k56 w A0 l0.length l0) (hc0 : l0.length ≤ c0) (hr1 : Kd.C k56 w A1 l1.length l1) (hc1 : l1.length ≤ c1) (h : gangplankref08_Same.f k l0 l1 = some r) :
    Calls Try.prog 33 #[.slice A0 l0.length c0, .slice A1 l1.length c1] w fun e w' => e = .returned (.bool r) ∧ Drawn0 w w' := by
  have hu56 := Try.underlying56
  have HR0 := Aside0.mk hr0
  have HC0 := Aside0.mk hc0
  clear hr0 hc0
  have HR1 := Aside0.mk hr1
  have HC1 := Aside0.mk hc1
  clear hr1 hc1
  have H : (if (l0.length : Int) = (l1.length : Int) then (gangplankref08_Same.l0 k l0 l1 0) else (some false)) = some r := h
  clear h
  by_cases c3 : (l0.length : Int) = (l1.length : Int)
  · rw [if_pos c3] at H
    have c3b0 : ((l0.length : Int) == (l1.length : Int)) = true := beq_iff_eq.mpr c3
    have c3b1 : ((l0.length : Int) != (l1.length : Int)) = false := bne_eq_false_iff_eq.mpr c3
    have c3b2 : (l0.length == l1.length) = true := by first | simpa using c3 | (simp at c3 ⊢; omega)
    clear c3
    have H' := Aside0.mk H
    clear H
    go_enter Try.func33, Try.ntmps33
    go_wp2
    repeat (go_quiet (fail); try go_wp2)
    go_loopg [5] k (fun kq v5 w' => ∃ (x5_1 : Int), v5 = .int .i64 x5_1 ∧ Aside0 (gangplankref08_Same.l0 kq l0 l1 x5_1 = some r) ∧ Aside0 (kq ≤ k) ∧ Drawn0 w w')
    case atStart => exact ⟨(0), (by first | rfl | (simp; done) | (simp [*]; done)), H', ⟨Nat.le_refl _⟩, by repeat (first | exact Drawn0.refl _ | apply Drawn0.step)⟩
    case round =>
      clear H'
      try clear c1
      try clear p2
      try clear c3
      try clear c3b0
      try clear c3b1
      try clear c3b2
      obtain ⟨x5_1, rfl, HA, HK1, ⟨m1, rfl⟩⟩ := hrel
      cases gk with
      | zero => exact absurd HA.out (by simp [gangplankref08_Same.l0])
      | succ k1 =>
        have H := HA.out
        clear HA
        simp only [gangplankref08_Same.l0] at H
        by_cases c4 : x5_1 < (l0.length : Int)
        · rw [if_pos c4] at H
          have c4b0 : decide (x5_1 < (l0.length : Int)) = true := decide_eq_true c4
          clear c4
          by_cases c5 : 0 ≤ x5_1
          · rw [if_pos c5] at H
            have c5b0 : decide (0 ≤ x5_1) = true := decide_eq_true c5
            clear c5
            by_cases c6 : x5_1 < (l1.length : Int)
            · rw [if_pos c6] at H
              have c6b0 : decide (x5_1 < (l1.length : Int)) = true := decide_eq_true c6
              clear c6
              by_cases c7 : (!(((rd_T56 l0 x5_1).f0) == ((rd_T56 l1 x5_1).f0)) || (!(((rd_T56 l0 x5_1).f1) == ((rd_T56 l1 x5_1).f1)))) = true
              · rw [if_pos c7] at H
                have c7b0 : (!(((rd_T56 l0 x5_1).f0) == ((rd_T56 l1 x5_1).f0)) || (!(((rd_T56 l0 x5_1).f1) == ((rd_T56 l1 x5_1).f1)))) = true := c7
                clear c7
                obtain rfl := Option.some.inj H
                have p101 : 0 ≤ (x5_1 : Int) := of_decide_eq_true (by first | (with_reducible assumption) | assumption)
                have q101 : x5_1 < (l0.length : Int) := of_decide_eq_true (by first | (with_reducible assumption) | assumption)
                obtain ⟨ad101, e101, hx101_0, hx101_1⟩ := at_T56 HR0.out x5_1 p101 q101
                cases e101
                replace p101 := eq_true p101
                replace q101 := eq_true q101
                have p102 : 0 ≤ (x5_1 : Int) := of_decide_eq_true (by first | (with_reducible assumption) | assumption)
                have q102 : x5_1 < (l1.length : Int) := of_decide_eq_true (by first | (with_reducible assumption) | assumption)
                obtain ⟨ad102, e102, hx102_0, hx102_1⟩ := at_T56 HR1.out x5_1 p102 q102
                cases e102
                replace p102 := eq_true p102
                replace q102 := eq_true q102
                go_wp2
                repeat (go_quiet (fail); try go_wp2)
                go_ret
                exact ⟨by first | rfl | (simp; done) | (simp [*]; done), by repeat (first | exact Drawn0.refl _ | apply Drawn0.step)⟩
              · rw [if_neg c7] at H
                have c7b0 : (!(((rd_T56 l0 x5_1).f0) == ((rd_T56 l1 x5_1).f0)) || (!(((rd_T56 l0 x5_1).f1) == ((rd_T56 l1 x5_1).f1)))) = false := by simpa using c7
                clear c7
                have H' := Aside0.mk H
                clear H
                have p101 : 0 ≤ (x5_1 : Int) := of_decide_eq_true (by first | (with_reducible assumption) | assumption)
                have q101 : x5_1 < (l0.length : Int) := of_decide_eq_true (by first | (with_reducible assumption) | assumption)
                obtain ⟨ad101, e101, hx101_0, hx101_1⟩ := at_T56 HR0.out x5_1 p101 q101
                cases e101
                replace p101 := eq_true p101
                replace q101 := eq_true q101
                have p102 : 0 ≤ (x5_1 : Int) := of_decide_eq_true (by first | (with_reducible assumption) | assumption)
                have q102 : x5_1 < (l1.length : Int) := of_decide_eq_true (by first | (with_reducible assumption) | assumption)
                obtain ⟨ad102, e102, hx102_0, hx102_1⟩ := at_T56 HR1.out x5_1 p102 q102
                cases e102
                replace p102 := eq_true p102
                replace q102 := eq_true q102
                go_wp2
                repeat (go_quiet (fail); try go_wp2)
                go_roundg k1
                case measure => have := HK1.out; omega
                case rel => exact ⟨(wrap64 (x5_1 + 1)), (by first | rfl | (simp; done) | (simp [*]; done)), H', ⟨by have := HK1.out; omega⟩, by repeat (first | exact Drawn0.refl _ | apply Drawn0.step)⟩
            · rw [if_neg c6] at H
              exact absurd H (by simp)
          · rw [if_neg c5] at H
            exact absurd H (by simp)
        · rw [if_neg c4] at H
          have c4b0 : decide (x5_1 < (l0.length : Int)) = false := decide_eq_false c4
          clear c4
          obtain rfl := Option.some.inj H
          go_wp2
          repeat (go_quiet (fail); try go_wp2)
          go_ret
          exact ⟨by first | rfl | (simp; done) | (simp [*]; done), by repeat (first | exact Drawn0.refl _ | apply Drawn0.step)⟩
  · rw [if_neg c3] at H
    have c3b0 : ((l0.length : Int) == (l1.length : Int)) = false := beq_eq_false_iff_ne.mpr c3
    have c3b1 : ((l0.length : Int) != (l1.length : Int)) = true := bne_iff_ne.mpr c3
    have c3b2 : (l0.length == l1.length) = false := by first | simpa using c3 | (simp at c3 ⊢; omega)
    obtain rfl := Option.some.inj H
    go_enter Try.func33, Try.ntmps33
    go_wp2
    repeat (go_quiet (fail); try go_wp2)
    go_ret
    exact ⟨by first | rfl | (simp; done) | (simp [*]; done), by repeat (first | exact Drawn0.refl _ | apply Drawn0.step)⟩

-- NOT PRINTED: function 100 (api_Backend_100)

-- NOT PRINTED: function 83 (api_Backend_83)

-- NOT PRINTED: function 122 (api_Backend_122)

-- NOT PRINTED: function 150 (api_Backend_150)

-- NOT PRINTED: function 142 (api_Backend_142)

-- NOT PRINTED: function 123 (api_Backend_123)

end Go.Proofs.Ytklngklmeanhcaa.P
