/- Each Go function that the laws reach, as a plain function, with the proof that the machine's call comes to what it says; of a law: its row. Made by a program of this seat (wip/hp.py, over the print). -/
import Derived.Test.YtbbgeobnjdgpfaaGreatPx0
import Derived.Test.YtbbgeobnjdgpfaaGreatPx2
import Derived.Test.YtbbgeobnjdgpfaaGreatPx3
namespace Go.Proofs.YtbbgeobnjdgpfaaGreat.P
open Go.RowKit Go.Proofs.YtbbgeobnjdgpfaaGreatW.PrintWords Go.Proofs.YtbbgeobnjdgpfaaGreatW.PrintLast Go.Proofs.YtbbgeobnjdgpfaaGreatW.PrintMore
attribute [local go_sem] max2_int min2_int max_two min_two max_three min_three max_four min_four   -- for this text's walks alone
set_option linter.unusedVariables false
set_option linter.unusedSimpArgs false

/-! ### pool_Check: function 33 -/
section
open Go.Shelf Go.Proofs.YtbbgeobnjdgpfaaGreat.Hand Go.Maps
theorem plainElem_bool_inv {H : Type} {P : Program} {e : TypeId} (he : P.underlying e = some .bool) {v : Value} {z : DataW H × List MemPlace} (h : plainElem P e v = some z) : ∃ y, v = .bool y ∧ z = (.lit (.bool y), []) := by
  unfold plainElem at h
  rw [he] at h
  cases v <;> simp at h
  exact ⟨_, rfl, h.symm⟩
theorem atKey_foldN {H : Type} (u : DataW H) (k : Lit) (z : DataW H) : ∀ (acc : List Lit) (m : DataW H), k ∉ acc → (acc.foldl (fun m x => m.put x u) m).atKey k z = m.atKey k z
  | [], m, _ => rfl
  | x :: acc, m, h => by
    rw [List.foldl_cons, atKey_foldN u k z acc (m.put x u) (fun h1 => h (List.mem_cons_of_mem _ h1)), atKey_put_other (fun e : k = x => h (by rw [e]; exact List.mem_cons_self))]
theorem atKey_foldY {H : Type} (u : DataW H) (k : Lit) (hk : WideAt.IsKeyLit k) (z : DataW H) : ∀ (acc : List Lit) (m : DataW H), IsMap m → k ∈ acc → (acc.foldl (fun m x => m.put x u) m).atKey k z = u
  | [], m, _, h => by cases h
  | x :: acc, m, hm, h => by
    rw [List.foldl_cons]
    by_cases h1 : k ∈ acc
    · exact atKey_foldY u k hk z acc _ (hm.put x u) h1
    · rcases List.mem_cons.1 h with rfl | h2
      · rw [atKey_foldN u k z acc _ h1, atKey_put_same hm hk]
      · exact absurd h2 h1
/-- The ids seen so far, as the map holds them. -/
def seenD (ids : List Int) : DataW Unit := setOf (.lit (.bool true)) (ids.map (Lit.int .i64))
theorem seenD_snoc (ids : List Int) (x : Int) : seenD (ids ++ [x]) = (seenD ids).put (.int .i64 x) (.lit (.bool true)) := by
  unfold seenD; rw [List.map_append, List.map_singleton, setOf_snoc]
set_option maxRecDepth 100000 in
theorem seen_look (ids : List Int) (b n : Nat) (W : World) (x : Int) (hx : (Lit.int .i64 x).wf = true) (h : W.ownsMap Tryz.prog 3 (plainElem Tryz.prog 4) b n (seenD ids)) :
    (Instr.lookup 110 (.map (some b)) (.int .i64 x) false).run Tryz.prog W = .ok (.bool (decide (x ∈ ids))) W := by
  have K : Keyed Tryz.prog 3 := int_keyed Tryz.underlying3
  have hkey := keyOf_int_mk (P := Tryz.prog) Tryz.underlying3 hx
  obtain ⟨v, ps, hrun, hv⟩ := h.lookup K Tryz.underlying110 (Tryz.zeroValue4 W) (plainElem_bool Tryz.underlying4 false) hkey
  obtain ⟨y, rfl, hy⟩ := plainElem_bool_inv Tryz.underlying4 hv
  have e : (seenD ids).atKey (.int .i64 x) (.lit (.bool false)) = .lit (.bool (decide (x ∈ ids))) := by
    unfold seenD setOf
    by_cases hm : x ∈ ids
    · rw [atKey_foldY _ _ (K.key hkey) _ _ _ isMap_empty (List.mem_map.2 ⟨x, hm, rfl⟩), decide_eq_true hm]
    · rw [atKey_foldN _ _ _ _ _ (fun h => by obtain ⟨a, ha, e⟩ := List.mem_map.1 h; cases e; exact hm ha), decide_eq_false hm]
      rfl
  rw [e] at hy
  have hy1 := congrArg Prod.fst hy
  have hy2 : decide (x ∈ ids) = y := by injection hy1 with h1; injection h1
  subst hy2
  exact hrun
/-- Is one of a pool's backends one that may not be? -/
def badFrom : List S90 → List Int → Bool
  | [], _ => false
  | b :: r, seen => decide (b.f0 ∈ seen) || (outP (b.f0, 65535) || outP (b.f1, 16)) || badFrom r (seen ++ [b.f0])
def checkL (l : List S90) : Int := if badFrom l [] = true then 10 else if 32 < l.length then 10 else 0
def idsL (l : List S90) : List Int := l.map (·.f0)
theorem badFrom_step (l : List S90) (k : Nat) (h : k < l.length) : badFrom (l.drop k) (idsL (l.take k)) = (decide ((l.getD k z90).f0 ∈ idsL (l.take k)) || (outP ((l.getD k z90).f0, 65535) || outP ((l.getD k z90).f1, 16)) || badFrom (l.drop (k + 1)) (idsL (l.take (k + 1)))) := by
  rw [List.drop_eq_getElem_cons h]
  have e : idsL (l.take (k + 1)) = idsL (l.take k) ++ [l[k].f0] := by unfold idsL; rw [List.take_succ_eq_append_getElem h, List.map_append]; rfl
  rw [e]
  simp [badFrom, h]
theorem idsL_take (l : List S90) (k : Nat) (h : k < l.length) : idsL (l.take (k + 1)) = idsL (l.take k) ++ [(l.getD k z90).f0] := by
  unfold idsL; rw [List.take_succ_eq_append_getElem h, List.map_append]; simp [h]
def idsWf (l : List S90) : Bool := l.all fun b => (Lit.int .i64 b.f0).wf
theorem check_nums (n k : Nat) (hl : n ≤ 1000000) (h : k < n) : decide ((k : Int) < (n : Int)) = true ∧ (0 : Int) ≤ (k : Int) ∧ (k : Int) < (n : Int) ∧ wrap64 ((k : Int) + 1) = ((k + 1 : Nat) : Int) ∧ k < maxLen :=
  ⟨decide_eq_true (by omega), by omega, by omega, by unfold wrap64; omega, by unfold maxLen; omega⟩
theorem check_meas (n k : Nat) (h : k < n) : n - (((k + 1 : Nat) : Int)).toNat < n - ((k : Int)).toNat := by
  rw [Int.toNat_natCast, Int.toNat_natCast]; omega
set_option maxRecDepth 100000 in
set_option maxHeartbeats 8000000 in
theorem Check_any (A : Option Addr) (c : Nat) (l : List S90) (hl : l.length ≤ 1000000) (hwf : idsWf l = true) (w : World) (hC : Kd.C k90 w A l.length l) :
    Calls Tryz.prog 33 #[.slice A l.length c] w fun e w' => e = .returned (.int .i64 (checkL l)) ∧ Below w.heap.size w w' := by
  have hmm := @run_makeMap Tryz.prog
  have HC := Lib.hid hC
  have HL := Lib.hid hl
  have HWF := Lib.hid hwf
  clear hC hl hwf
  have hown0 := World.ownsMap_made w Tryz.prog 3 (plainElem (H := Unit) Tryz.prog 4)
  have hb0 := below_alloc (Below.refl w.heap.size w) (.map #[] 0)
  have HO0 := Lib.hid hown0
  have HB0 := Lib.hid hb0
  clear hown0 hb0
  obtain ⟨r, hr⟩ : ∃ r, checkL l = r := ⟨_, rfl⟩
  rw [hr]
  have HR := Lib.hid hr
  clear hr
  go_enter Tryz.func33, Tryz.ntmps33
  go_wp2
  go_loopw [9] (fun i wr => ∃ (k : Nat), k ≤ l.length ∧ i = .int .i64 k ∧ Aside0 (wr.ownsMap Tryz.prog 3 (plainElem Tryz.prog 4) w.heap.size k (seenD (idsL (l.take k)))) ∧ Aside0 (badFrom (l.drop k) (idsL (l.take k)) = badFrom l []) ∧ Aside0 (Below w.heap.size w wr))
    (fun i _ => l.length - (intOf i).toNat)
  case atStart => exact ⟨0, Nat.zero_le _, rfl, ⟨HO0.out⟩, ⟨rfl⟩, ⟨HB0.out⟩⟩
  case round =>
    obtain ⟨k, hk, rfl, HO, HK, HBr⟩ := hrel
    by_cases hlt : k < l.length
    · obtain ⟨ad, hA, c0, c1⟩ := at_T90 (Kd.C_below HC.out HBr.out) (k : Int) (by omega) (by omega)
      subst hA
      have hst := HK.out
      have hid := idsL_take l k hlt
      rw [badFrom_step l k hlt] at hst
      rw [show rd_T90 l (k : Int) = l.getD k z90 from rfl] at c0 c1
      have hbw : (Lit.int .i64 (l.getD k z90).f0).wf = true := by
        have h := List.all_eq_true.1 HWF.out (l.getD k z90) (by simp [hlt])
        exact h
      obtain ⟨b, hb⟩ : ∃ b, l.getD k z90 = b := ⟨_, rfl⟩
      rw [hb] at c0 c1 hst hbw hid
      rw [Int.toNat_natCast] at c0 c1
      obtain ⟨q1, q2, q3, hwk, hkm⟩ := check_nums l.length k HL.out hlt
      have HST := Lib.hid hst
      have HBW := Lib.hid HBr.out
      have HID := Lib.hid hid
      have HWB := Lib.hid hbw
      have HKM := Lib.hid hkm
      clear hst hb HK HBr hid hbw hkm
      obtain ⟨b0, b1⟩ := b
      go_upto_region 5 with (fail)
      have hbx := Blk.new wr 90 [.int .i64 b0, .int .i64 b1]
      have hb1 := below_alloc HBW.out (.cells #[.int .i64 b0, .int .i64 b1] 90)
      have ho1 := HO.out.alloc (.cells #[.int .i64 b0, .int .i64 b1] 90)
      obtain ⟨g5, hg5⟩ : ∃ g5, wr.heap.size = g5 := ⟨_, rfl⟩
      obtain ⟨W1, hW1⟩ : ∃ W1, (wr.alloc (.cells #[.int .i64 b0, .int .i64 b1] 90)) = W1 := ⟨_, rfl⟩
      rw [hg5] at hbx ⊢
      rw [hW1] at hbx hb1 ho1 ⊢
      clear hg5 hW1 c0 c1 HBW HO
      have c0 : W1.cell? ⟨g5, 0, none⟩ = some (.int .i64 b0) := hbx.cell 0
      have c1 : W1.cell? ⟨g5, 1, none⟩ = some (.int .i64 b1) := hbx.cell 1
      have hlook := seen_look _ _ _ W1 b0 HWB.out ho1
      have HB1 := Lib.hid hb1
      have HO1 := Lib.hid ho1
      have HBX := Lib.hid hbx
      clear hb1 ho1 hbx
      obtain ⟨sn, hsn⟩ : ∃ sn, decide (b0 ∈ idsL (l.take k)) = sn := ⟨_, rfl⟩
      have hst := HST.out
      rw [hsn] at hlook hst
      clear HST hsn
      have HLK := Lib.hid hlook
      clear hlook
      cases sn with
      | true =>
        have hr1 : r = 10 := by rw [← HR.out]; unfold checkL; rw [← hst]; rfl
        have HR1 := Lib.hid hr1
        clear hst hr1
        have hlook := HLK.out
        clear HLK
        go_wp2
        go_ret
        exact ⟨by rw [HR1.out]; rfl, HB1.out⟩
      | false =>
        obtain ⟨ou, hou⟩ : ∃ ou, (outP (b0, 65535) || outP (b1, 16)) = ou := ⟨_, rfl⟩
        have hwi := within_any W1.heap.size b0 b1 (W1.alloc (.cells #[.int .i64 b0, .int .i64 65535, .int .i64 b1, .int .i64 16] 112)) (Blk.new W1 112 [.int .i64 b0, .int .i64 65535, .int .i64 b1, .int .i64 16])
        rw [hou] at hwi hst
        clear hou
        have HWI := Lib.hid hwi
        have hlook := HLK.out
        clear HLK hwi
        cases ou with
        | true =>
          have hr1 : r = 10 := by rw [← HR.out]; unfold checkL; rw [← hst]; rfl
          have HR1 := Lib.hid hr1
          clear hst hr1
          go_wp2_with (go_at_call 45; refine HWI.out.mono ?_; rintro e w3 ⟨rfl, hb3⟩; have HB3 := Lib.hid hb3; clear hb3)
          go_ret
          exact ⟨by rw [HR1.out]; rfl, (below_alloc HB1.out _).trans (HB3.out.mono (below_alloc HB1.out _).size)⟩
        | false =>
          have HST := Lib.hid (show badFrom (l.drop (k + 1)) (idsL (l.take (k + 1))) = badFrom l [] from by simpa using hst)
          clear hst
          have hkey := keyOf_int_mk (P := Tryz.prog) Tryz.underlying3 HWB.out
          have hb2 := below_alloc HB1.out (.cells #[.int .i64 b0, .int .i64 65535, .int .i64 b1, .int .i64 16] 112)
          have ho2 := HO1.out.alloc (.cells #[.int .i64 b0, .int .i64 65535, .int .i64 b1, .int .i64 16] 112)
          have hx2 := HBX.out.alloc (.cells #[.int .i64 b0, .int .i64 65535, .int .i64 b1, .int .i64 16] 112)
          have HB2 := Lib.hid hb2
          have HO2 := Lib.hid ho2
          have HX2 := Lib.hid hx2
          have HKEY := Lib.hid hkey
          clear hb2 ho2 hx2 hkey
          go_wp2_with (first
            | (go_at_call 45; refine HWI.out.mono ?_; rintro e w3 ⟨rfl, hb3⟩; have HB3 := Lib.hid (HB2.out.trans (hb3.mono HB2.out.size)); have HO3 := Lib.hid (HO2.out.kept (grown_of_below hb3 none) (by simp)); have HX3 := Lib.hid (HX2.out.below hb3); clear hb3; have c3 : w3.cell? ⟨g5, 0, none⟩ = some (.int .i64 b0) := HX3.out.cell 0)
            | (at_mapUpdate; refine wpList_mapUpdate_own _ rfl _ _ _ 110 rfl 3 4 (int_keyed Tryz.underlying3) Tryz.underlying110 (plainElem Tryz.prog 4) w.heap.size k _ rfl HO3.out HKM.out _ _ _ rfl rfl HKEY.out _ [] (plainElem_bool Tryz.underlying4 true) ?_; intro w4 hown4 hgrow4; have HO4 := Aside0.mk (show w4.ownsMap Tryz.prog 3 (plainElem Tryz.prog 4) w.heap.size (k + 1) (seenD (idsL (l.take (k + 1)))) from by rw [HID.out, seenD_snoc]; exact hown4); have HB4 := Aside0.mk (HB3.out.grown hgrow4 HB3.out.size (fun k e => by cases e; exact Nat.le_refl _)); clear hown4 hgrow4))
          go_roundw
          case rel => exact ⟨k + 1, Nat.succ_le_of_lt hlt, by rw [hwk], HO4, ⟨HST.out⟩, HB4⟩
          case measure =>
            rw [hwk]
            exact check_meas _ _ hlt
    · obtain rfl : k = l.length := Nat.le_antisymm hk (Nat.le_of_not_lt hlt)
      have q1 : decide ((l.length : Int) < (l.length : Int)) = false := decide_eq_false (by omega)
      have hb0 : badFrom l [] = false := by have h := HK.out; rw [List.drop_length] at h; exact h.symm
      clear HK HO
      by_cases h32 : 32 < l.length
      · have hr1 : r = 10 := by rw [← HR.out]; unfold checkL; rw [hb0, if_pos h32]; rfl
        have HR1 := Lib.hid hr1
        clear hr1 hb0
        have q2 : decide ((32 : Int) < (l.length : Int)) = true := decide_eq_true (by omega)
        go_wp2
        go_ret
        exact ⟨by rw [HR1.out]; rfl, HBr.out⟩
      · have hr1 : r = 0 := by rw [← HR.out]; unfold checkL; rw [hb0, if_neg h32]; rfl
        have HR1 := Lib.hid hr1
        clear hr1 hb0
        have q2 : decide ((32 : Int) < (l.length : Int)) = false := decide_eq_false (by omega)
        go_wp2
        go_ret
        exact ⟨by rw [HR1.out]; rfl, HBr.out⟩
def pool_Check.f (l0 : List S90) : Option Int := if l0.length ≤ 1000000 ∧ idsWf l0 = true then some (checkL l0) else none
theorem pool_Check.calls (A0 : Option Addr) (c0 : Nat) (l0 : List S90) (r : Int) (w : World) (hr0 : Kd.C k90 w A0 l0.length l0) (hc0 : l0.length ≤ c0) (h : pool_Check.f l0 = some r) :
    Calls Tryz.prog 33 #[.slice A0 l0.length c0] w fun e w' => e = .returned (.int .i64 r) ∧ Below w.heap.size w w' := by
  unfold pool_Check.f at h
  by_cases hl : l0.length ≤ 1000000 ∧ idsWf l0 = true
  · rw [if_pos hl] at h
    obtain rfl := Option.some.inj h
    exact Check_any A0 c0 l0 hl.1 hl.2 w hr0
  · rw [if_neg hl] at h
    exact absurd h (by simp)
end

/-! ### api_Backend: function 34 -/
section
open Go.Shelf Go.Proofs.YtbbgeobnjdgpfaaGreat.Hand
theorem infoBk_ : (Tryz.prog.info? 90).map (fun i => (i.zero, i.size, i.bytes)) = some (some (.agg #[(.int .i64 0), (.int .i64 0)]), 2, 16) := by kernel_rfl
def api_Backend.f (l0 : List S90) : Option (List S90) := if l0.length ≤ 8796093021952 then some l0 else none

set_option maxRecDepth 100000 in
set_option maxHeartbeats 4000000 in
theorem cloneBk_any (A : Option Addr) (c : Nat) (l : List S90) (hl : l.length ≤ 8796093021952) (w : World) (hC : Kd.C k90 w A l.length l) :
    Calls Tryz.prog 34 #[.slice A l.length c] w fun e w' => ∃ v : Value, e = .returned v ∧ Kd.R k90 90 w' w.heap.size (fun _ => True) v l ∧ Below w.heap.size w w' := by
  have he := fun (w : World) => Lib.run_eql_slice_nil (P := Tryz.prog) w 80 90 A l.length c 0 0 Tryz.underlying80
  cases A with
  | none =>
    have hn : l = [] := by
      cases l with
      | nil => rfl
      | cons x l => obtain ⟨ad, e, _⟩ := hC.2.2 (by simp); cases e
    subst hn
    clear he
    have he : ∀ w : World, (binOp .eql 80 (.slice none 0 c) (.slice none 0 0)).run Tryz.prog w = .ok (.bool true) w := fun w => Lib.run_eql_slice_nil (P := Tryz.prog) w 80 90 none 0 c 0 0 Tryz.underlying80
    go_enter Tryz.func34, Tryz.ntmps34
    go_wp2
    go_ret
    exact ⟨_, rfl, Kd.R_nil _ _ _ _ _, Below.refl _ _⟩
  | some a =>
    obtain ⟨z, hz⟩ : ∃ z, ([] : List S90) = z := ⟨_, rfl⟩
    have HZ := Lib.hid hz
    clear hz
    have HC := Lib.hid hC
    clear hC
    have HB := Aside0.mk (Below.refl w.heap.size w)
    go_enter Tryz.func34, Tryz.ntmps34
    go_wp2_with (first | ((with_reducible refine gate_dst (N := 5) rfl ?_); refine Kd.R_lit k90 _ 90 ?hg (N := 5) ?hd (xs := ([] : List S90)) (inner := []) (ok := fun _ => True) (okp := fun _ => True) ?hr ?hp (fun _ hk => hk) trivial (Below.refl _ _) (Nat.le_refl _) (by simp) ?_; (case hd => rfl); (case hg => rfl); (case hr => first | (go_simp; done) | (go_simp; rfl)); (case hp => exact (Reps.none _ _)); intro v160 w31 ho32 hb hg_ hnew_; clear hg_ hnew_; rw [HZ.out] at ho32; have HB1 := Aside0.mk hb; have HO1 := Aside0.mk ho32; clear hb ho32) | ((with_reducible refine gate_builtin (b := .append) (xs := #[.tmp 5, .tmp 6]) rfl ?_); at_builtin; refine Kd.R_append_rows k90 (w0 := w) w.heap.size rfl (.tmp 5) (.tmp 6) 80 90 (.agg #[(.int .i64 0), (.int .i64 0)]) 16 rfl Tryz.underlying80 infoBk_ rfl (by decide) (by omega) v160 z l _ _ _ (fun _ => True) (fun _ => False) rfl rfl ?aO ?aR (fun _ _ h => h) (fun _ h => h.elim) ?aF ?aB ?aS ?aL ?_; (case aR => exact Kd.C_below HC.out HB1.out); (case aB => exact HB1.out); (case aF => exact (fun _ _ => trivial)); (case aO => exact HO1.out); (case aS => exact HB1.out.size); (case aL => rw [← HZ.out]; simp; omega); intro v163 w33 ho hb hg hat; rw [← HZ.out, List.nil_append] at ho; have HB2 := Aside0.mk hb; have HO2 := Aside0.mk ho; clear ho hb hg hat))
    go_ret
    exact ⟨_, rfl, HO2.out, HB2.out⟩

theorem cloneBk_f (l0 : List S90) (h : l0.length ≤ 8796093021952) : api_Backend.f l0 = some l0 := if_pos h
theorem api_Backend.calls (A0 : Option Addr) (c0 : Nat) (l0 : List S90) (r : List S90) (w : World) (hr0 : Kd.C k90 w A0 l0.length l0) (hc0 : l0.length ≤ c0) (h : api_Backend.f l0 = some r) :
    Calls Tryz.prog 34 #[.slice A0 l0.length c0] w fun e w' => ∃ v0_ : Value, e = .returned (v0_) ∧ Kd.R k90 90 w' w.heap.size (fun _ => True) v0_ r ∧ Below w.heap.size w w' := by
  unfold api_Backend.f at h
  by_cases hl : l0.length ≤ 8796093021952
  · rw [if_pos hl] at h
    obtain rfl := Option.some.inj h
    exact cloneBk_any A0 c0 l0 hl w hr0
  · rw [if_neg hl] at h
    exact absurd h (by simp)
end

-- NOT PRINTED: function 98 (octet_lanes_1)

/-! ### octet_lanes: function 91 -/
section
open Go.Shelf Go.Proofs.YtbbgeobnjdgpfaaGreat.Hand
attribute [local go_sem] Oper.semAt_some
/-- How far byte i of n is shifted. -/
def shiftOf (n i : Nat) : Int := 8 * ((n : Int) - 1 - i)
/-- All cells but block b's stay. -/
def KpC (b : Nat) (W W' : World) : Prop := W.heap.size ≤ W'.heap.size ∧ ∀ k c u m, W.heap[k]? = some (.cells c u m) → k ≠ b → W'.heap[k]? = some (.cells c u m)
theorem KpC.refl (b : Nat) (W : World) : KpC b W W := ⟨Nat.le_refl _, fun _ _ _ _ h _ => h⟩
theorem KpC.trans {b : Nat} {A B C : World} (h : KpC b A B) (k : KpC b B C) : KpC b A C := ⟨Nat.le_trans h.1 k.1, fun i c u m hi hn => k.2 i c u m (h.2 i c u m hi hn) hn⟩
theorem KpC.blk {b : Nat} {W W' : World} {k : Nat} {t : TypeId} {cs : List Value} (h : KpC b W W') (hb : Blk W k t cs) (hn : k ≠ b) : Blk W' k t cs := h.2 k _ _ _ hb hn
theorem KpC.set (b i : Nat) (W : World) (v : Value) : KpC b W (W.setCell ⟨b, i, none⟩ v) := ⟨by simp, fun _ _ _ _ h hn => (Below.heap_setCell _ _ _ _ hn).trans h⟩
theorem KpC.putObj {b : Nat} (W : World) (l : Nat) (o o' : Obj) (h : W.heap[l]? = some o) (h1 : o.isCells = false) : KpC b W (W.putObj l o') := by
  refine ⟨by simp [World.putObj], fun k c u m hc _ => ?_⟩
  have hkl : k ≠ l := by
    rintro rfl
    rw [h] at hc
    injection hc with hc
    subst hc
    simp [Obj.isCells] at h1
  exact (World.putObj_heap_other hkl).trans hc
set_option maxRecDepth 100000 in
set_option maxHeartbeats 8000000 in
theorem lanes1_in (d : Nat) (hd : 1 ≤ d) (y Bt b n : Nat) (hn : n ≤ 8) (hbt : Bt ≠ b) (J Jx : List (Fin n) → World → Prop)
    (hY : ∀ pre x W, J pre W → pre.length < n → YieldAt Fence.wide (d - 1) Tryz.prog y #[.int .i64 (x.val : Int), .int .u64 (shiftOf n x.val)] W fun e W' =>
      (e = .returned (.bool true) ∧ J (pre ++ [x]) W' ∧ KpC b W W') ∨ (e = .returned (.bool false) ∧ Jx (pre ++ [x]) W'))
    (W : World) (ht : Blk W Bt 3 [.int .i64 (n : Int)]) (h0 : J [] W) :
    CallsIn Fence.wide d Tryz.prog 98 #[.func (.yield y) #[] #[], .pointer (some ⟨Bt, 0, none⟩)] W fun e W' => (∃ v, e = .returned v) ∧
      ((∃ ys : List (Fin n), ys.map Fin.val = List.range n ∧ J ys W') ∨ (∃ pre : List (Fin n), True ∧ Jx pre W')) := by
  have hro : Fence.wide.round = none := rfl
  refine callsIn_of_wp Tryz.func98 rfl trivial ?_ hro
  simp only [Tryz.ntmps98, List.size_toArray, List.length_cons, List.length_nil, Nat.reduceAdd, Nat.reduceSub, Array.replicate_succ, Array.replicate_zero, List.push_toArray, List.append_toArray, List.nil_append, List.cons_append]
  have z0 : W.cell? ⟨Bt, 0, none⟩ = some (.int .i64 (n : Int)) := ht.cell 0
  have HT := Lib.hid ht
  have HY := Lib.hid hY
  have H0 := Lib.hid h0
  have HN := Lib.hid hn
  have HD := Lib.hid hd
  clear ht hY h0 hn hd
  gi_wp2
  gi_loopw [5] (fun i wr => ∃ (k : Nat) (pre : List (Fin n)), k ≤ n ∧ i = .int .i64 k ∧ pre.map Fin.val = List.range k ∧ J pre wr ∧ Blk wr Bt 3 [.int .i64 (n : Int)]) (fun i _ => n - (intOf i).toNat)
  case atStart => exact ⟨0, [], Nat.zero_le _, rfl, rfl, H0.out, HT.out⟩
  case round =>
    obtain ⟨k, pre, hk, rfl, hpre, hJ, hb⟩ := hrel
    have HP := Lib.hid hpre
    clear hpre
    have HB := Lib.hid hb
    by_cases hlt : k < n
    · obtain ⟨fn, tmps, assign, body, hy, hYR⟩ := HY.out pre ⟨k, hlt⟩ _ hJ (by have h := congrArg List.length HP.out; rw [List.length_map, List.length_range] at h; omega)
      have z1 : wr.cell? ⟨Bt, 0, none⟩ = some (.int .i64 (n : Int)) := hb.cell 0
      have q1 : decide ((k : Int) < (n : Int)) = true := decide_eq_true (by omega)
      have w1 : wrap64 ((n : Int) - 1) = (n : Int) - 1 := by have := HN.out; unfold wrap64; omega
      have w2 : wrap64 ((n : Int) - 1 - (k : Int)) = (n : Int) - 1 - (k : Int) := by have := HN.out; unfold wrap64; omega
      have w3 : wrap64 (8 * ((n : Int) - 1 - (k : Int))) = 8 * ((n : Int) - 1 - (k : Int)) := by have := HN.out; unfold wrap64; omega
      have w4 : IntKind.u64.wrap (8 * ((n : Int) - 1 - (k : Int))) = 8 * ((n : Int) - 1 - (k : Int)) := by have := HN.out; simp [IntKind.wrap, IntKind.bits, IntKind.signed]; omega
      have hw : wrap64 ((k : Int) + 1) = ((k + 1 : Nat) : Int) := by have := HN.out; unfold wrap64; omega
      clear hb hJ
      dsimp only [shiftOf] at hy
      gi_wp2
      refine ⟨fun _ => (by have := HD.out; omega), hYR.mono ?_⟩
      rintro e W3 (⟨rfl, hJ3, hk3⟩ | ⟨rfl, hJx3⟩)
      · have HJ3 := Lib.hid hJ3
        have HB3 := Lib.hid (hk3.blk HB.out hbt)
        clear hJ3 hk3
        gi_wp2
        go_roundw
        case rel => exact ⟨k + 1, pre ++ [⟨k, hlt⟩], by omega, by rw [hw], by rw [List.map_append, HP.out, List.range_succ]; rfl, HJ3.out, HB3.out⟩
        case measure =>
          rw [hw]
          show n - (((k + 1 : Nat) : Int)).toNat < n - ((k : Int)).toNat
          rw [Int.toNat_natCast, Int.toNat_natCast]
          omega
      · have HJ3 := Lib.hid hJx3
        clear hJx3
        gi_wp2
        refine bodyPost_ret (results_none rfl _ _ _) rfl ?_
        exact ⟨⟨_, rfl⟩, .inr ⟨_, trivial, HJ3.out⟩⟩
    · obtain rfl : n = k := by omega
      have q1 : decide ((n : Int) < (n : Int)) = false := decide_eq_false (by omega)
      have HJ3 := Lib.hid hJ
      clear hJ hb
      gi_wp2
      go_end0
      exact ⟨⟨_, rfl⟩, .inl ⟨pre, HP.out, HJ3.out⟩⟩
set_option maxHeartbeats 1000000 in
theorem lanes_any (n : Int) (w : World) :
    Calls Tryz.prog 91 #[.int .i64 n] w fun e w' => e = .returned (.func (.func 98) #[] #[.pointer (some ⟨w.heap.size, 0, none⟩)]) ∧ w' = w.alloc (.cells #[.int .i64 n] 3) := by
  go_enter Tryz.func91, Tryz.ntmps91
  go_wp2
  go_ret
  exact ⟨rfl, rfl⟩
theorem lanes_stops (d : Nat) (hd : 1 ≤ d) (Bt b n : Nat) (hn : n ≤ 8) (hbt : Bt ≠ b) (W : World) (ht : Blk W Bt 3 [.int .i64 (n : Int)]) :
    SeqStopsK Fence.wide d Tryz.prog 98 #[.pointer (some ⟨Bt, 0, none⟩)] (fun x : Fin n => #[.int .i64 (x.val : Int), .int .u64 (shiftOf n x.val)]) (KpC b) (fun ys => ys.map Fin.val = List.range n) (fun _ => True) n W := fun y J Jx W' hW _ _ hY h0 =>
  lanes1_in d hd y Bt b n hn hbt J Jx hY W' (ht.below hW) h0
end

/-! ### octet_Put: function 73 -/
section
open Go.Shelf Go.Proofs.YtbbgeobnjdgpfaaGreat.Hand
attribute [local go_sem] Oper.semAt_some
def byteAt (v : Int) (n i : Nat) : Int := IntKind.u8.wrap (v.fdiv (2 ^ min (shiftOf n i).toNat 64))
theorem run_make_u8 (n : Nat) (hn : n ≤ 1024) (w : World) : (Instr.makeSlice 175 (.int .i64 (n : Int)) (.int .i64 (n : Int))).run Tryz.prog w = .ok (.slice (some ⟨w.heap.size, 0, none⟩) n n) (w.alloc (.cells (List.replicate n (Value.int .u8 0)).toArray 5)) := by
  obtain ⟨i, hi, hz0, hz1, hz2⟩ := info_parts (show (Tryz.prog.info? 5).map (fun i => (i.zero, i.size, i.bytes)) = some (some (.int .u8 0), 1, 1) from by kernel_rfl)
  have hr := run_make (P := Tryz.prog) w 175 5 i (.int .u8 0) Tryz.underlying175 hi hz0 .i64 .i64 n n (by omega) (Int.le_refl _) (by rw [hz2]; omega) (by omega)
  simp only [Int.toNat_natCast] at hr
  rw [hr, hz1]
  have e : madeCells (Value.int .u8 0).cells (n * 1) = (List.replicate n (Value.int .u8 0)).toArray := by
    have h := toList_madeCells_one (.int .u8 0) n
    rw [Nat.mul_one, ← h]; rfl
  rw [e]
def filled (v : Int) (n : Nat) (pre : List (Fin n)) : List Value := pre.foldl (fun l i => l.set i.val (.int .u8 (byteAt v n i.val))) (List.replicate n (.int .u8 0))
def putL (v : Int) (n : Nat) : List Int := upto (fun i => byteAt v n i) n
theorem blk_putB {W : World} {B : Nat} {t : TypeId} {cs : List Value} (h : Blk W B t cs) (i : Nat) (v : Value) : Blk (W.setCell ⟨B, i, none⟩ v) B t (cs.set i v) := by
  have := blk_set (show W.heap[B]? = some (.cells cs.toArray t (0, 0)) from h) i v
  rw [List.setIfInBounds_toArray] at this
  exact this
theorem fill_len {n : Nat} (g : Nat → Value) : ∀ (pre : List (Fin n)) (l : List Value), (pre.foldl (fun l i => l.set i.val (g i.val)) l).length = l.length
  | [], _ => rfl
  | i :: pre, l => by rw [List.foldl_cons, fill_len g pre, List.length_set]
theorem filled_length (v : Int) (n : Nat) (pre : List (Fin n)) : (filled v n pre).length = n := by
  unfold filled
  rw [fill_len (fun i => .int .u8 (byteAt v n i)) pre, List.length_replicate]
theorem fill_at {n : Nat} (g : Nat → Value) (j : Nat) : ∀ (pre : List (Fin n)) (l : List Value), j < l.length → (pre.foldl (fun l i => l.set i.val (g i.val)) l)[j]? = if j ∈ pre.map Fin.val then some (g j) else l[j]?
  | [], l, _ => by simp
  | i :: pre, l, h => by
    rw [List.foldl_cons, fill_at g j pre _ (by rw [List.length_set]; exact h), List.map_cons]
    by_cases h1 : j ∈ pre.map Fin.val
    · rw [if_pos h1, if_pos (List.mem_cons_of_mem _ h1)]
    · rw [if_neg h1]
      by_cases h2 : j = i.val
      · rw [if_pos (by rw [h2]; exact List.mem_cons_self), ← h2, List.getElem?_set_self h]
      · rw [if_neg (fun x => (List.mem_cons.mp x).elim h2 h1), List.getElem?_set_ne (fun e => h2 e.symm)]
theorem filled_all (v : Int) (n : Nat) (ys : List (Fin n)) (h : ys.map Fin.val = List.range n) : filled v n ys = (putL v n).map (Value.int .u8) := by
  apply List.ext_getElem?
  intro j
  by_cases hj : j < n
  · unfold filled
    rw [fill_at (fun i => .int .u8 (byteAt v n i)) j ys _ (by rw [List.length_replicate]; exact hj), h, if_pos (List.mem_range.mpr hj)]
    unfold putL upto
    rw [List.getElem?_map, List.getElem?_map, List.getElem?_range hj]
    rfl
  · rw [List.getElem?_eq_none (by rw [filled_length]; omega), List.getElem?_eq_none (by rw [List.length_map]; unfold putL; rw [upto_length]; omega)]
set_option maxRecDepth 100000 in
set_option maxHeartbeats 8000000 in
theorem Put_any (v : Int) (hv0 : 0 ≤ v) (hv : v < 18446744073709551616) (n : Nat) (hn1 : 1 ≤ n) (hn8 : n ≤ 8) (w : World) :
    Calls Tryz.prog 73 #[.int .u64 v, .int .i64 (n : Int)] w fun e W' => e = .returned (.string (strOfNums (putL v n))) ∧ Below w.heap.size w W' := by
  refine (callsIn_wide (n := 6)).1 ?_
  have hro : Fence.wide.round = none := rfl
  have r1 := fun W => run_make_u8 n (by omega) W
  have q0 : decide ((n : Int) < 1) = false := decide_eq_false (by omega)
  have q1 : decide (8 < (n : Int)) = false := decide_eq_false (by omega)
  have q1n : (8 < n) = False := eq_false (by omega)
  have q0n : (n < 1) = False := eq_false (by omega)
  refine callsIn_of_wp_marks Tryz.func73 rfl trivial ?_ hro
  simp only [Tryz.ntmps73, List.size_toArray, List.length_cons, List.length_nil, Nat.reduceAdd, Nat.reduceSub, Array.replicate_succ, Array.replicate_zero, List.push_toArray, List.append_toArray, List.nil_append, List.cons_append]
  gi_wp2_with (refine ⟨trivial, ?_⟩; gi_at_call 91; refine (callsIn_wide.2 (lanes_any _ _)).mono ?_; rintro e w' ⟨rfl, rfl⟩)
  rw [← List.toArray_replicate]
  have b1 := Blk.new w 115 [.int .u64 v]
  have b2 := Blk.new (w.alloc (.cells #[.int .u64 v] 115)) 5 (List.replicate n (.int .u8 0))
  have b3 := Blk.new ((w.alloc (.cells #[.int .u64 v] 115)).alloc (.cells (List.replicate n (.int .u8 0)).toArray 5)) 175 [.slice (some ⟨w.heap.size + 1, 0, none⟩) n n]
  have b4 := Blk.new (((w.alloc (.cells #[.int .u64 v] 115)).alloc (.cells (List.replicate n (.int .u8 0)).toArray 5)).alloc (.cells #[.slice (some ⟨w.heap.size + 1, 0, none⟩) n n] 175)) 3 [.int .i64 (n : Int)]
  have hb := below_alloc (below_alloc (below_alloc (below_alloc (Below.refl _ w) (.cells #[.int .u64 v] 115)) (.cells (List.replicate n (.int .u8 0)).toArray 5)) (.cells #[.slice (some ⟨w.heap.size + 1, 0, none⟩) n n] 175)) (.cells #[.int .i64 (n : Int)] 3)
  replace b1 := ((b1.alloc (.cells (List.replicate n (.int .u8 0)).toArray 5)).alloc (.cells #[.slice (some ⟨w.heap.size + 1, 0, none⟩) n n] 175)).alloc (.cells #[.int .i64 (n : Int)] 3)
  replace b2 := (b2.alloc (.cells #[.slice (some ⟨w.heap.size + 1, 0, none⟩) n n] 175)).alloc (.cells #[.int .i64 (n : Int)] 3)
  replace b3 := b3.alloc (.cells #[.int .i64 (n : Int)] 3)
  simp only [World.size_alloc] at b2 b3 b4
  obtain ⟨W0, hW0⟩ : ∃ W0, (((w.alloc (.cells #[.int .u64 v] 115)).alloc (.cells (List.replicate n (.int .u8 0)).toArray 5)).alloc (.cells #[.slice (some ⟨w.heap.size + 1, 0, none⟩) n n] 175)).alloc (.cells #[.int .i64 (n : Int)] 3) = W0 := ⟨_, rfl⟩
  rw [hW0] at b1 b2 b3 b4 hb ⊢
  have hsz : W0.heap.size = w.heap.size + 1 + 1 + 1 + 1 := by rw [← hW0]; simp
  clear hW0
  refine wpIn_rangeFunc_ownH hro (by omega) (gf := 98) (lb := #[.pointer (some ⟨w.heap.size + 1 + 1 + 1, 0, none⟩)]) rfl trivial (enters_of Tryz.func98 (by kernel_rfl) rfl)
    (lanes_stops (6 - 1) (by omega) (w.heap.size + 1 + 1 + 1) (w.heap.size + 1) n hn8 (by omega) W0 b4) (fun h k => h.trans k) (fun W L o o' hL h1 h2 h3 => KpC.putObj W L o o' h1 h2) (Below.refl _ _) (fun _ => rfl)
    (fun pre W => (Blk W (w.heap.size + 1) 5 (filled v n pre) ∧ Blk W w.heap.size 115 [.int .u64 v] ∧ Blk W (w.heap.size + 1 + 1) 175 [.slice (some ⟨w.heap.size + 1, 0, none⟩) n n]) ∧ Below w.heap.size w W)
    (fun _ _ _ => False)
    (OwnFrom.and (OwnFrom.and (blk_ownFrom W0.heap.size (w.heap.size + 1) 5 (fun pre => filled v n pre)) (OwnFrom.and (blk_ownFrom W0.heap.size w.heap.size 115 (fun _ => [.int .u64 v])) (blk_ownFrom W0.heap.size (w.heap.size + 1 + 1) 175 (fun _ => [.slice (some ⟨w.heap.size + 1, 0, none⟩) n n])))) (ownFrom_below (Nat.le_refl _) hb.size))
    (fun _ _ _ _ _ hs _ _ => hs)
    ⟨⟨b2, b1, b3⟩, hb⟩
    (fun x a' W => a' = { tmps := #[.int .u64 v, .int .i64 (n : Int), .pointer (some ⟨w.heap.size, 0, none⟩), undef, .string ⟨#[]⟩, .pointer (some ⟨w.heap.size + 1 + 1, 0, none⟩), .int .i64 (x.val : Int), .int .u64 (shiftOf n x.val), .int .i64 (n : Int), .bool false, .bool false, .int .i64 (n : Int), .bool false, .bool false, .int .i64 (n : Int), .slice (some ⟨w.heap.size + 1, 0, none⟩) n n, .int .i64 (n : Int), .func (.func 98) #[] #[.pointer (some ⟨w.heap.size + 1 + 1 + 1, 0, none⟩)], .int .i64 (x.val : Int), .int .u64 (shiftOf n x.val), undef, undef, undef, undef, undef, undef, undef, undef, undef], defers := [] })
    (fun x a' s W W' row h3 hg hr => h3) ?assign ?body ?done ?stop
  case assign =>
    rintro y pre x W K ⟨hI, hB⟩ hK
    gi_wp2
    exact hK _ _ (KeepsFrom.refl _ _) (KpC.refl _ _) ⟨hI, hB⟩ rfl
  case body =>
    rintro y pre x a' W hy ⟨r, hr⟩ ⟨⟨h1, h2, h3⟩, hB⟩ rfl hlt
    have c1 : W.cell? ⟨w.heap.size, 0, none⟩ = some (.int .u64 v) := h2.cell 0
    have c2 : W.cell? ⟨w.heap.size + 1 + 1, 0, none⟩ = some (.slice (some ⟨w.heap.size + 1, 0, none⟩) n n) := h3.cell 0
    obtain ⟨xi, hxi⟩ := x
    have hln : (filled v n pre).length = n := filled_length v n pre
    have c3 : W.cell? ⟨w.heap.size + 1, xi, none⟩ = some ((filled v n pre).getD xi .nilIface) := by
      rw [h1.cell xi, List.getD_eq_getElem?_getD, List.getElem?_eq_getElem (by omega)]
      rfl
    have c4 := h1.frozen xi
    have hs0 : 0 ≤ shiftOf n xi := by unfold shiftOf; omega
    have hsh : ∀ W, (Op.shift BinOp.shr IntKind.u64 v IntKind.u64 (shiftOf n xi)).run Tryz.prog W = .ok (.int .u64 (v.fdiv (2 ^ min (shiftOf n xi).toNat 64))) W := by
      intro W
      unfold Op.shift
      rw [if_neg (by omega)]
      rfl
    have hby : IntKind.u8.wrap (v.fdiv (2 ^ min (shiftOf n xi).toNat 64)) = byteAt v n xi := rfl
    obtain ⟨sv, hsv⟩ : ∃ sv, v.fdiv (2 ^ min (shiftOf n xi).toNat 64) = sv := ⟨_, rfl⟩
    rw [hsv] at hby
    simp only [hsv] at hsh
    have q2 : (0 : Int) ≤ (xi : Int) := by omega
    have q3 : (xi : Int) < (n : Int) := by omega
    have q3n : (xi < n) = True := eq_true hxi
    have H1 := Lib.hid h1
    have H2 := Lib.hid h2
    have H3 := Lib.hid h3
    have HBB := Lib.hid hB
    clear h1 h2 h3 hB hs0 hsv
    gi_wp2
    refine ⟨(KeepsOthers.setCell _ _ _).from _, KpC.set _ _ _ _, ⟨?_, H2.out.far _ (by show w.heap.size + 1 ≠ _; omega) _, H3.out.far _ (by show w.heap.size + 1 ≠ _; omega) _⟩, HBB.out.setCell (by show w.heap.size ≤ w.heap.size + 1; omega) _⟩
    have h := blk_putB H1.out xi (.int .u8 (byteAt v n xi))
    unfold filled at h ⊢
    rw [List.foldl_append]
    exact h
  case done =>
    rintro D ys W hD hys ⟨⟨h1, h2, h3⟩, hB⟩ hK
    have c2 : W.cell? ⟨w.heap.size + 1 + 1, 0, none⟩ = some (.slice (some ⟨w.heap.size + 1, 0, none⟩) n n) := h3.cell 0
    have hfin : filled v n ys = (putL v n).map (Value.int .u8) := filled_all v n ys hys
    rw [hfin] at h1
    have hC : Kd.C (Kd.int .u8) W (some ⟨w.heap.size + 1, 0, none⟩) n (putL v n) := by
      refine ⟨upto_length _ _, by omega, fun _ => ⟨_, rfl, fun j p hj => ⟨[.int .u8 p], rfl, rfl, fun i u hi => ?_⟩⟩⟩
      obtain ⟨rfl, rfl⟩ : i = 0 ∧ u = .int .u8 p := by
        cases i with
        | zero => exact ⟨rfl, (Option.some.inj hi).symm⟩
        | succ i => simp at hi
      rw [show (Kd.int .u8).sz = 1 from rfl, Nat.mul_one, Nat.add_zero]
      show W.cell? (Addr.add ⟨w.heap.size + 1, 0, none⟩ j) = _
      rw [add_plain]
      refine (h1.cell j).trans ?_
      rw [List.getElem?_map, hj]
      rfl
    have hcv := Kd.C_string (P := Tryz.prog) (src := 175) (dst := 9) (c := n) Tryz.underlying175 Tryz.underlying5 Tryz.underlying9 hC
    gi_wp2
    refine ⟨by simp, .inl ⟨_, _, rfl, run_takeDeferred hK, ?_⟩⟩
    exact ⟨_, results_tmp rfl _ _ _, rfl, hB.trans (belowK_b (w := w) (Nat.le_refl _) W D _ _ (Nat.le_trans hb.size hD) hK rfl rfl)⟩
  case stop =>
    rintro D c pre W _ _ h _
    exact h.elim
end
def octet_Put.f (a0 : Int) (a1 : Int) : Option ByteArray := if 0 ≤ a0 ∧ a0 < 18446744073709551616 ∧ 1 ≤ a1 ∧ a1 ≤ 8 then some (strOfNums (putL a0 a1.toNat)) else none
theorem octet_Put.calls (a0 : Int) (a1 : Int) (r : ByteArray) (w : World) (h : octet_Put.f a0 a1 = some r) :
    Calls Tryz.prog 73 #[.int .u64 a0, .int .i64 a1] w fun e w' => e = .returned (.string r) ∧ Below w.heap.size w w' := by
  unfold octet_Put.f at h
  by_cases hs : 0 ≤ a0 ∧ a0 < 18446744073709551616 ∧ 1 ≤ a1 ∧ a1 ≤ 8
  · rw [if_pos hs] at h
    obtain rfl := Option.some.inj h
    obtain ⟨n, rfl⟩ : ∃ n : Nat, a1 = (n : Int) := ⟨a1.toNat, by omega⟩
    rw [Int.toNat_natCast]
    exact Put_any a0 hs.1 hs.2.1 n (by omega) (by omega) w
  · rw [if_neg hs] at h
    exact absurd h (by simp)

/-! ### points_Hash: function 60 -/
def points_Hash.f (a0 : Int) (a1 : Int) : Option (Int) := (octet_Put.f (IntKind.u64.wrap (a0)) 4).bind fun t107 => ((fnv_Sum.f t107).bind fun t108 => ((octet_Put.f (IntKind.u64.wrap (a1)) 2).bind fun t109 => ((octet_Put.f 0 4).bind fun t110 => (if t109.size + t110.size ≤ 9223372036854775807 then ((fnv_Join.f t108 (t109 ++ t110)).bind fun t111 => (some t111)) else (none)))))
set_option maxHeartbeats 8000000 in
set_option maxRecDepth 100000 in
theorem points_Hash.calls (a0 : Int) (a1 : Int) (r : Int) (w : World) (h : points_Hash.f a0 a1 = some r) :
    Calls Tryz.prog 60 #[.int .i64 a0, .int .i64 a1] w fun e w' => e = .returned (.int .u64 r) ∧ Below w.heap.size w w' := by
  have HB := Aside0.mk (Below.refl w.heap.size w)
  have H : ((octet_Put.f (IntKind.u64.wrap (a0)) 4).bind fun t107 => ((fnv_Sum.f t107).bind fun t108 => ((octet_Put.f (IntKind.u64.wrap (a1)) 2).bind fun t109 => ((octet_Put.f 0 4).bind fun t110 => (if t109.size + t110.size ≤ 9223372036854775807 then ((fnv_Join.f t108 (t109 ++ t110)).bind fun t111 => (some t111)) else (none)))))) = some r := h
  clear h
  replace H := Option.bind_eq_some_iff.mp H
  obtain ⟨t107, A30, H⟩ := H
  replace H : ((fnv_Sum.f t107).bind fun t108 => ((octet_Put.f (IntKind.u64.wrap (a1)) 2).bind fun t109 => ((octet_Put.f 0 4).bind fun t110 => (if t109.size + t110.size ≤ 9223372036854775807 then ((fnv_Join.f t108 (t109 ++ t110)).bind fun t111 => (some t111)) else (none))))) = some r := H
  have A3 := Aside0.mk A30
  clear A30
  replace H := Option.bind_eq_some_iff.mp H
  obtain ⟨t108, A40, H⟩ := H
  replace H : ((octet_Put.f (IntKind.u64.wrap (a1)) 2).bind fun t109 => ((octet_Put.f 0 4).bind fun t110 => (if t109.size + t110.size ≤ 9223372036854775807 then ((fnv_Join.f t108 (t109 ++ t110)).bind fun t111 => (some t111)) else (none)))) = some r := H
  have A4 := Aside0.mk A40
  clear A40
  replace H := Option.bind_eq_some_iff.mp H
  obtain ⟨t109, A50, H⟩ := H
  replace H : ((octet_Put.f 0 4).bind fun t110 => (if t109.size + t110.size ≤ 9223372036854775807 then ((fnv_Join.f t108 (t109 ++ t110)).bind fun t111 => (some t111)) else (none))) = some r := H
  have A5 := Aside0.mk A50
  clear A50
  replace H := Option.bind_eq_some_iff.mp H
  obtain ⟨t110, A60, H⟩ := H
  replace H : (if t109.size + t110.size ≤ 9223372036854775807 then ((fnv_Join.f t108 (t109 ++ t110)).bind fun t111 => (some t111)) else (none)) = some r := H
  have A6 := Aside0.mk A60
  clear A60
  by_cases c7 : t109.size + t110.size ≤ 9223372036854775807
  · rw [if_pos c7] at H
    have c7b0 := eq_true c7
    have c7b1 : decide (t109.size + t110.size ≤ 9223372036854775807) = true := decide_eq_true c7
    try have c7b2 : (9223372036854775807 < t109.size + t110.size) = False := eq_false (Nat.not_lt.2 c7)
    replace H := Option.bind_eq_some_iff.mp H
    obtain ⟨t111, A80, H⟩ := H
    replace H : (some t111) = some r := H
    have A8 := Aside0.mk A80
    clear A80
    obtain rfl := Option.some.inj H
    go_enter Tryz.func60, Tryz.ntmps60
    go_wp2_with (first | ((with_reducible refine gate_callee (f := 73) rfl ?_); refine goesL_ (some 7) rfl rfl Tryz.func73 (by kernel_rfl) rfl #[.int .u64 (IntKind.u64.wrap (a0)), .int .i64 4] rfl (by (try simp only [List.map_toArray, List.map_cons, List.map_nil]); first | done | rfl | (simp only [List.length_drop, List.length_take]; rfl)) ?_; (with_reducible refine (octet_Put.calls (IntKind.u64.wrap (a0)) 4 t107 _ A3.out).mono ?_); (try clear A3); rintro e w9 ⟨rfl, hb⟩; refine ⟨_, rfl, ?_⟩; have n0_ := Aside0.mk (below_step (by repeat (first | (with_reducible first | exact HB.out | apply below_alloc | apply pw_below_drewN | apply below_drew1) | exact HB.out)) hb); clear HB; have HB := n0_; clear n0_; (try clear hb); (try clear hb2); (try clear hk); (try clear hi)) | ((with_reducible refine gate_callee (f := 72) rfl ?_); refine goesL_ (some 8) rfl rfl Tryz.func72 (by kernel_rfl) rfl #[.string t107] rfl (by (try simp only [List.map_toArray, List.map_cons, List.map_nil]); first | done | rfl | (simp only [List.length_drop, List.length_take]; rfl)) ?_; (with_reducible refine (fnv_Sum.calls t107 t108 _ A4.out).mono ?_); (try clear A4); rintro e w10 ⟨rfl, hb⟩; refine ⟨_, rfl, ?_⟩; have n0_ := Aside0.mk (below_step (by repeat (first | (with_reducible first | exact HB.out | apply below_alloc | apply pw_below_drewN | apply below_drew1) | exact HB.out)) hb); clear HB; have HB := n0_; clear n0_; (try clear hb); (try clear hb2); (try clear hk); (try clear hi)) | ((with_reducible refine gate_callee (f := 73) rfl ?_); refine goesL_ (some 11) rfl rfl Tryz.func73 (by kernel_rfl) rfl #[.int .u64 (IntKind.u64.wrap (a1)), .int .i64 2] rfl (by (try simp only [List.map_toArray, List.map_cons, List.map_nil]); first | done | rfl | (simp only [List.length_drop, List.length_take]; rfl)) ?_; (with_reducible refine (octet_Put.calls (IntKind.u64.wrap (a1)) 2 t109 _ A5.out).mono ?_); (try clear A5); rintro e w11 ⟨rfl, hb⟩; refine ⟨_, rfl, ?_⟩; have n0_ := Aside0.mk (below_step (by repeat (first | (with_reducible first | exact HB.out | apply below_alloc | apply pw_below_drewN | apply below_drew1) | exact HB.out)) hb); clear HB; have HB := n0_; clear n0_; (try clear hb); (try clear hb2); (try clear hk); (try clear hi)) | ((with_reducible refine gate_callee (f := 73) rfl ?_); refine goesL_ (some 12) rfl rfl Tryz.func73 (by kernel_rfl) rfl #[.int .u64 0, .int .i64 4] rfl (by (try simp only [List.map_toArray, List.map_cons, List.map_nil]); first | done | rfl | (simp only [List.length_drop, List.length_take]; rfl)) ?_; (with_reducible refine (octet_Put.calls 0 4 t110 _ A6.out).mono ?_); (try clear A6); rintro e w12 ⟨rfl, hb⟩; refine ⟨_, rfl, ?_⟩; have n0_ := Aside0.mk (below_step (by repeat (first | (with_reducible first | exact HB.out | apply below_alloc | apply pw_below_drewN | apply below_drew1) | exact HB.out)) hb); clear HB; have HB := n0_; clear n0_; (try clear hb); (try clear hb2); (try clear hk); (try clear hi)) | ((with_reducible refine gate_callee (f := 71) rfl ?_); refine goesL_ (some 14) rfl rfl Tryz.func71 (by kernel_rfl) rfl #[.int .u64 t108, .string (t109 ++ t110)] rfl (by (try simp only [List.map_toArray, List.map_cons, List.map_nil]); first | done | rfl | (simp only [List.length_drop, List.length_take]; rfl)) ?_; (with_reducible refine (fnv_Join.calls t108 (t109 ++ t110) t111 _ A8.out).mono ?_); (try clear A8); rintro e w13 ⟨rfl, hb⟩; refine ⟨_, rfl, ?_⟩; have n0_ := Aside0.mk (below_step (by repeat (first | (with_reducible first | exact HB.out | apply below_alloc | apply pw_below_drewN | apply below_drew1) | exact HB.out)) hb); clear HB; have HB := n0_; clear n0_; (try clear hb); (try clear hb2); (try clear hk); (try clear hi)))
    go_ret
    exact ⟨by first | rfl | (simp [errW_none, errW_some] <;> rfl) | (simp [*, errW_none, errW_some] <;> rfl), by repeat (first | (with_reducible first | exact HB.out | apply below_alloc | apply pw_below_drewN | apply below_drew1) | exact HB.out)⟩
  · rw [if_neg c7] at H
    exact absurd H (by simp)

-- NOT PRINTED: function 59 (points_each_1)

/-! ### points_each: function 47 -/
section
open Go.Shelf Go.Proofs.YtbbgeobnjdgpfaaGreat.Hand
attribute [local go_sem] Oper.semAt_some
theorem strOfNums_size (l : List Int) : (strOfNums l).size = l.length := by
  simp [strOfNums, ByteArray.size]
theorem u64_lo (x : Int) : 0 ≤ IntKind.u64.wrap x := by simp [IntKind.wrap, IntKind.bits, IntKind.signed]; omega
theorem u64_hi (x : Int) : IntKind.u64.wrap x < 18446744073709551616 := by simp [IntKind.wrap, IntKind.bits, IntKind.signed]; omega
def hashV (a0 a1 : Int) : Int := (points_Hash.f a0 a1).getD 0
theorem hashV_eq (a0 a1 : Int) : points_Hash.f a0 a1 = some (hashV a0 a1) := by
  have p : ∀ x n, 0 ≤ x → x < 18446744073709551616 → 1 ≤ n → n ≤ 8 → octet_Put.f x n = some (strOfNums (putL x n.toNat)) := fun x n h1 h2 h3 h4 => if_pos ⟨h1, h2, h3, h4⟩
  have s : ∀ x n, (strOfNums (putL x n)).size = n := fun x n => by rw [strOfNums_size]; unfold putL; rw [upto_length]
  have e : ∃ r, points_Hash.f a0 a1 = some r := by
    unfold points_Hash.f
    rw [p _ 4 (u64_lo _) (u64_hi _) (by decide) (by decide), p _ 2 (u64_lo _) (u64_hi _) (by decide) (by decide), p 0 4 (by decide) (by decide) (by decide) (by decide)]
    simp [fnv_Sum.f, fnv_Join.f, s]
  obtain ⟨r, hr⟩ := e
  unfold hashV
  rw [hr]; rfl
/-- The points of a backend, of a pool. -/
def cntL (b : S90) : Nat := (8 * max 0 (min b.f1 16)).toNat
def ptsL (b : S90) : List S117 := (List.range (cntL b)).map fun (n : Nat) => ⟨hashV b.f0 (n : Int), b.f0⟩
def ptsT (ps : List S90) : List S117 := ps.flatMap ptsL
/-- What is old stays, and all blocks but those of some types. -/
def KpT (n₀ : Nat) (ts : List TypeId) (W W' : World) : Prop := Below n₀ W W' ∧ W.heap.size ≤ W'.heap.size ∧ ∀ (k : Nat) c u m, W.heap[k]? = some (Obj.cells c u m) → u ∉ ts → W'.heap[k]? = some (Obj.cells c u m)
theorem KpT.refl (n₀ : Nat) (ts : List TypeId) (W : World) : KpT n₀ ts W W := ⟨Below.refl _ _, Nat.le_refl _, fun _ _ _ _ h _ => h⟩
theorem KpT.trans {n₀ : Nat} {ts : List TypeId} {A B C : World} (h : KpT n₀ ts A B) (k : KpT n₀ ts B C) : KpT n₀ ts A C := ⟨h.1.trans k.1, Nat.le_trans h.2.1 k.2.1, fun i c u m hi hn => k.2.2 i c u m (h.2.2 i c u m hi hn) hn⟩
theorem KpT.blk {n₀ : Nat} {ts : List TypeId} {W W' : World} {k : Nat} {t : TypeId} {cs : List Value} (h : KpT n₀ ts W W') (hb : Blk W k t cs) (hn : t ∉ ts) : Blk W' k t cs := h.2.2 k _ _ _ hb hn
theorem KpT.putObj {n₀ : Nat} {ts : List TypeId} {w : World} (hn : n₀ ≤ w.heap.size) (W : World) (l : Nat) (o o' : Obj) (hl : w.heap.size ≤ l) (h : W.heap[l]? = some o) (h1 : o.isCells = false) (h2 : o.isWalk = false) : KpT n₀ ts W (W.putObj l o') := by
  refine ⟨belowK_b (w := w) hn W l o o' hl h h1 h2, by simp [World.putObj], fun k c u m hc _ => ?_⟩
  have hkl : k ≠ l := by
    rintro rfl
    rw [h] at hc
    injection hc with hc
    subst hc
    simp [Obj.isCells] at h1
  exact (World.putObj_heap_other hkl).trans hc
theorem ptsT_take (ps : List S90) (k : Nat) (h : k < ps.length) : ptsT (ps.take (k + 1)) = ptsT (ps.take k) ++ ptsL (ps.getD k z90) := by
  unfold ptsT
  rw [List.take_succ_eq_append_getElem h, List.flatMap_append]
  simp [h]
theorem ptsT_prefix (ps : List S90) (k : Nat) : ptsT (ps.take k) <+: ptsT ps := by
  unfold ptsT
  conv => rhs; rw [← List.take_append_drop k ps, List.flatMap_append]
  exact List.prefix_append _ _
theorem ptsL_length (b : S90) : (ptsL b).length = cntL b := by unfold ptsL; rw [List.length_map, List.length_range]
theorem ptsL_take (b : S90) (j : Nat) (h : j < cntL b) : (ptsL b).take (j + 1) = (ptsL b).take j ++ [⟨hashV b.f0 (j : Int), b.f0⟩] := by
  rw [List.take_succ_eq_append_getElem (by rw [ptsL_length]; exact h)]
  simp [ptsL]
theorem cntL_le (b : S90) : cntL b ≤ 128 := by unfold cntL; omega
theorem cntL_int (b : S90) : 8 * max 0 (min b.f1 16) = (cntL b : Int) := by unfold cntL; omega
set_option maxHeartbeats 1000000 in
theorem each_any (A : Option Addr) (n c : Nat) (w : World) :
    Calls Tryz.prog 47 #[.slice A n c] w fun e w' => e = .returned (.func (.func 59) #[] #[.pointer (some ⟨w.heap.size, 0, none⟩)]) ∧ w' = w.alloc (.cells #[.slice A n c] 80) := by
  go_enter Tryz.func47, Tryz.ntmps47
  go_wp2
  go_ret
  exact ⟨rfl, rfl⟩
end
section
open Go.Shelf Go.Proofs.YtbbgeobnjdgpfaaGreat.Hand
attribute [local go_sem] Oper.semAt_some
attribute [-go_sem] min2_int max2_int
theorem two_ways {e : Ending} {A B : Prop} (h : (e = .returned (.bool true) ∧ A) ∨ (e = .returned (.bool false) ∧ B)) : ∃ bo, e = .returned (.bool bo) ∧ (bo = true → A) ∧ (bo = false → B) := by
  rcases h with ⟨h1, h2⟩ | ⟨h1, h2⟩
  · exact ⟨true, h1, fun _ => h2, fun h => by cases h⟩
  · exact ⟨false, h1, (fun h => by cases h), fun _ => h2⟩
set_option maxRecDepth 100000 in
set_option maxHeartbeats 8000000 in
theorem each1_in (n : Nat) (hn : 2 ≤ n) (y Bt n₀ : Nat) (ts : List TypeId) (ht1 : 80 ∉ ts) (ht2 : 90 ∉ ts) (A : Option Addr) (c : Nat) (ps : List S90) (hps : ps.length ≤ 1000000) (hpc : ps.length ≤ c)
    (w : World) (hw : w.heap.size = n₀) (hC : Kd.C k90 w A ps.length ps) (J Jx : List S117 → World → Prop) (B : Nat) (hJ : AbidesFrom B J)
    (hY : ∀ pre x W, J pre W → pre.length < (ptsT ps).length → YieldAt Fence.wide (n - 1) Tryz.prog y #[.agg #[.int .u64 x.f0, .int .i64 x.f1]] W fun e W' =>
      (e = .returned (.bool true) ∧ J (pre ++ [x]) W' ∧ KpT n₀ ts W W') ∨ (e = .returned (.bool false) ∧ Jx (pre ++ [x]) W'))
    (W : World) (hB : Below n₀ w W) (hnW : n₀ ≤ W.heap.size) (ht : Blk W Bt 80 [.slice A ps.length c]) (h0 : J [] W) (hBB : B ≤ W.heap.size) :
    CallsIn Fence.wide n Tryz.prog 59 #[.func (.yield y) #[] #[], .pointer (some ⟨Bt, 0, none⟩)] W fun e W' => (∃ v, e = .returned v) ∧
      ((∃ ys, ys = ptsT ps ∧ J ys W') ∨ (∃ pre, (pre <+: ptsT ps) ∧ Jx pre W')) := by
  have hro : Fence.wide.round = none := rfl
  refine callsIn_of_wp Tryz.func59 rfl trivial ?_ hro
  simp only [Tryz.ntmps59, List.size_toArray, List.length_cons, List.length_nil, Nat.reduceAdd, Nat.reduceSub, Array.replicate_succ, Array.replicate_zero, List.push_toArray, List.append_toArray, List.nil_append, List.cons_append]
  have z0 : W.cell? ⟨Bt, 0, none⟩ = some (.slice A ps.length c) := ht.cell 0
  have HPS := Lib.hid hps
  have HC := Lib.hid hC
  have HB := Lib.hid hB
  have HW0 := Lib.hid hw
  have HNW := Lib.hid hnW
  have HT := Lib.hid ht
  have HY := Lib.hid hY
  have HJ := Lib.hid hJ
  have H0 := Lib.hid h0
  have HBB := Lib.hid hBB
  have HN := Lib.hid hn
  clear hps hC hB hw ht hY hJ h0 hn hnW hBB
  gi_wp2
  gi_loopw [8] (fun i wr => ∃ (k : Nat), k ≤ ps.length ∧ i = .int .i64 k ∧ J (ptsT (ps.take k)) wr ∧ Below n₀ w wr ∧ W.heap.size ≤ wr.heap.size)
    (fun i _ => ps.length - (intOf i).toNat)
  case atStart => exact ⟨0, Nat.zero_le _, rfl, by simpa [ptsT] using H0.out, HB.out, Nat.le_refl _⟩
  case round =>
    obtain ⟨k, hk', rfl, hJs, hnx, hsz⟩ := hrel
    have hBr : Below w.heap.size w wr := by rw [HW0.out]; exact hnx
    by_cases hlt : k < ps.length
    · obtain ⟨ad, hA, c0, c1⟩ := at_T90 (Kd.C_below HC.out hBr) (k : Int) (by omega) (by omega)
      subst hA
      have htk := ptsT_take ps k hlt
      have hpx := ptsT_prefix ps (k + 1)
      rw [show rd_T90 ps (k : Int) = ps.getD k z90 from rfl] at c0 c1
      obtain ⟨b, hb⟩ : ∃ b, ps.getD k z90 = b := ⟨_, rfl⟩
      rw [hb] at c0 c1 htk
      rw [Int.toNat_natCast] at c0 c1
      have hln := cntL_le b
      have hci := cntL_int b
      have hmin : Builtin.min2 (.int .i64 b.f1) (.int .i64 16) = pure (.int .i64 (min b.f1 16)) := by rw [min2_int]; congr 2; split <;> omega
      have hmax : Builtin.max2 (.int .i64 0) (.int .i64 (min b.f1 16)) = pure (.int .i64 (max 0 (min b.f1 16))) := by rw [max2_int]; congr 2; split <;> omega
      have hwc : wrap64 (8 * max 0 (min b.f1 16)) = (cntL b : Int) := by rw [hci]; unfold wrap64; omega
      obtain ⟨mi, hmi⟩ : ∃ mi, min b.f1 16 = mi := ⟨_, rfl⟩
      rw [hmi] at hmin hmax hwc hci
      obtain ⟨mx, hmx⟩ : ∃ mx, max 0 mi = mx := ⟨_, rfl⟩
      rw [hmx] at hmax hwc hci
      have hlt2 : (ptsT (ps.take k)).length + cntL b ≤ (ptsT ps).length := by have := hpx.length_le; rw [htk, List.length_append, ptsL_length] at this; exact this
      have q1 : decide ((k : Int) < (ps.length : Int)) = true := decide_eq_true (by omega)
      have q2 : (0 : Int) ≤ (k : Int) := by omega
      have q3 : (k : Int) < (ps.length : Int) := by omega
      have hwk : wrap64 ((k : Int) + 1) = ((k + 1 : Nat) : Int) := by have := HPS.out; unfold wrap64; omega
      have HPX := Lib.hid hpx
      have HTK := Lib.hid htk
      have HL2 := Lib.hid hlt2
      have HLN := Lib.hid hln
      have HJ1 := Lib.hid hJs
      have HNX := Lib.hid hnx
      have HSZ := Lib.hid hsz
      clear hpx htk hlt2 hJs hnx hsz hBr hb hln hci hmi hmx
      obtain ⟨m, hm⟩ : ∃ m, cntL b = m := ⟨_, rfl⟩
      rw [hm] at hwc
      have bb := Blk.new wr 90 [.int .i64 b.f0, .int .i64 b.f1]
      gi_wp2
      obtain ⟨bBk, hBk⟩ : ∃ bBk, wr.heap.size = bBk := ⟨_, rfl⟩
      rw [hBk] at bb ⊢
      rw [hwc]
      gi_loopw [17] (fun i w2 => ∃ (j : Nat), j ≤ m ∧ i = .int .i64 j ∧ J (ptsT (ps.take k) ++ (ptsL b).take j) w2 ∧ Below n₀ w w2 ∧ W.heap.size ≤ w2.heap.size ∧ Blk w2 bBk 90 [.int .i64 b.f0, .int .i64 b.f1])
        (fun i _ => m - (intOf i).toNat)
      case atStart => exact ⟨0, Nat.zero_le _, rfl, by rw [List.take_zero, List.append_nil]; exact HJ.out _ _ _ none HJ1.out (grown_of_below (below_alloc (Below.refl _ _) _) none) (fun r e => by cases e), (by have h := HNX.out; rw [← HW0.out] at h ⊢; exact below_alloc h _), Nat.le_trans HSZ.out (by simp), bb⟩
      case round =>
        obtain ⟨j, hj', rfl, hJs, hnx, hsz, hbk⟩ := hrel
        by_cases hj : j < m
        · have g0 : wr.cell? ⟨bBk, 0, none⟩ = some (.int .i64 b.f0) := hbk.cell 0
          have htn := ptsL_take b j (by omega)
          have r1 : decide ((j : Int) < (m : Int)) = true := decide_eq_true (by omega)
          have hwj : wrap64 ((j : Int) + 1) = ((j + 1 : Nat) : Int) := by have := HLN.out; unfold wrap64; omega
          have HTN := Lib.hid htn
          have HJ2 := Lib.hid hJs
          have HNX2 := Lib.hid hnx
          have HSZ2 := Lib.hid hsz
          have HBK := Lib.hid hbk
          have hlen : (ptsT (ps.take k) ++ (ptsL b).take j).length < (ptsT ps).length := by rw [List.length_append, List.length_take]; exact Nat.lt_of_lt_of_le (Nat.add_lt_add_left (Nat.lt_of_le_of_lt (Nat.min_le_left _ _) (by rw [hm]; exact hj)) _) HL2.out
          have HLEN := Lib.hid hlen
          clear htn hJs hnx hsz hbk hlen
          gi_wp2
          gi_region_with (first
            | (refine ⟨trivial, fun _ => (by have := HN.out; omega), ?_⟩; gi_at_call 60; refine (callsIn_wide.2 (points_Hash.calls b.f0 (j : Int) _ _ (hashV_eq b.f0 (j : Int)))).mono ?_; rintro e w3 ⟨rfl, hb3⟩; have HBW := Lib.hid (show Below wr.heap.size wr w3 from by first | exact hb3 | exact (pw_below_drewN (Below.refl _ _) _).trans hb3 | exact (below_drew (Below.refl _ _)).trans hb3); clear hb3 g0; have g3 : w3.cell? ⟨bBk, 0, none⟩ = some (.int .i64 b.f0) := (HBK.out.below HBW.out).cell 0; obtain ⟨fn, tmps, assign, body, hy, hYR⟩ := HY.out _ ⟨hashV b.f0 (j : Int), b.f0⟩ w3 (HJ.out _ _ _ none HJ2.out (grown_of_below HBW.out none) (fun r e => by cases e)) HLEN.out; have HYR := Lib.hid hYR; clear hYR)
            | (refine ⟨fun _ => (by have := HN.out; omega), HYR.out.mono ?_⟩; rintro e W3 hh; obtain ⟨bo, rfl, hA, hB⟩ := two_ways hh; have HA := Lib.hid hA; have HX := Lib.hid hB; clear hh hA hB))
          all_goals
            cases bo
            · have HX3 := Lib.hid (HX.out rfl)
              clear HA HX
              gi_wp2
              refine bodyPost_ret (results_none rfl _ _ _) rfl ?_
              refine ⟨⟨_, rfl⟩, .inr ⟨ptsT (ps.take k) ++ (ptsL b).take j ++ [⟨hashV b.f0 (j : Int), b.f0⟩], ?_, HX3.out⟩⟩
              rw [List.append_assoc, ← HTN.out]
              refine List.IsPrefix.trans ?_ HPX.out
              rw [HTK.out]
              exact (List.prefix_append_right_inj _).2 (List.take_prefix _ _)
            · have HJ3 := Lib.hid (HA.out rfl).1
              have HK3 := Lib.hid (HA.out rfl).2
              have HSW := Lib.hid (show wr.heap.size ≤ w3.heap.size from HBW.out.size)
              clear HA HX
              gi_wp2
              go_roundw
              case rel => exact ⟨j + 1, Nat.succ_le_of_lt hj, by rw [hwj], by rw [HTN.out, ← List.append_assoc]; exact HJ3.out, (HNX2.out.trans (HBW.out.mono (Nat.le_trans HNW.out HSZ2.out))).trans HK3.out.1, Nat.le_trans HSZ2.out (Nat.le_trans HSW.out HK3.out.2.1), HK3.out.blk (HBK.out.below HBW.out) ht2⟩
              case measure =>
                rw [hwj]
                show m - (((j + 1 : Nat) : Int)).toNat < m - ((j : Int)).toNat
                rw [Int.toNat_natCast, Int.toNat_natCast]
                exact Nat.sub_succ_lt_self m j hj
        · obtain rfl : j = m := by omega
          have r1 : decide ((j : Int) < (j : Int)) = false := decide_eq_false (by omega)
          have HJ3 := Lib.hid hJs
          have HNX2 := Lib.hid hnx
          have HSZ2 := Lib.hid hsz
          clear hnx hsz hbk hJs
          gi_wp2
          go_roundw
          case rel => exact ⟨k + 1, by omega, by rw [hwk], by rw [HTK.out]; have h := HJ3.out; rw [← hm, ← ptsL_length b, List.take_length] at h; exact h, HNX2.out, HSZ2.out⟩
          case measure =>
            rw [hwk]
            show ps.length - (((k + 1 : Nat) : Int)).toNat < ps.length - ((k : Int)).toNat
            rw [Int.toNat_natCast, Int.toNat_natCast]
            omega
    · obtain rfl : k = ps.length := by omega
      have q1 : decide ((ps.length : Int) < (ps.length : Int)) = false := decide_eq_false (by omega)
      have HJ3 := Lib.hid hJs
      clear hJs hnx hsz hBr
      gi_wp2
      go_end0
      exact ⟨⟨_, rfl⟩, .inl ⟨_, by rw [List.take_length], HJ3.out⟩⟩
end

/-! ### points_place_68: function 68 -/
section
open Go.Shelf Go.Proofs.YtbbgeobnjdgpfaaGreat.Hand
attribute [local go_sem] Oper.semAt_some
theorem each_stops (d : Nat) (hd : 2 ≤ d) (Bt n₀ : Nat) (ts : List TypeId) (ht1 : 80 ∉ ts) (ht2 : 90 ∉ ts) (A : Option Addr) (c : Nat) (ps : List S90) (hps : ps.length ≤ 1000000) (hpc : ps.length ≤ c)
    (w W : World) (hw : w.heap.size = n₀) (hC : Kd.C k90 w A ps.length ps) (hB : Below n₀ w W) (hn : n₀ ≤ W.heap.size) (ht : Blk W Bt 80 [.slice A ps.length c]) :
    SeqStopsK Fence.wide d Tryz.prog 59 #[.pointer (some ⟨Bt, 0, none⟩)] (fun x : S117 => #[.agg #[.int .u64 x.f0, .int .i64 x.f1]]) (KpT n₀ ts) (fun ys => ys = ptsT ps) (fun pre => pre <+: ptsT ps) (ptsT ps).length W := fun y J Jx W' hW hJ _ hY h0 =>
  each1_in d hd y Bt n₀ ts ht1 ht2 A c ps hps hpc w hw hC J Jx _ hJ hY W' (hB.trans (hW.mono hn)) (Nat.le_trans hn hW.size) (ht.below hW) h0 (Nat.le_refl _)
theorem KpT.alloc {n₀ : Nat} {ts : List TypeId} (W : World) (o : Obj) (hn : n₀ ≤ W.heap.size) : KpT n₀ ts W (W.alloc o) :=
  ⟨(Below.refl _ W).alloc hn o, by simp, fun k c u m hc _ => (Below.heap_alloc W o k (Array.getElem?_eq_some_iff.1 hc).1).trans hc⟩
theorem KpT.appended {n₀ b sz : Nat} {t e : TypeId} {ts : List TypeId} {W w1 : World} {v v' : Value} {k m : Nat} {xs ys : List Value} {tmp : Obj} (ht : t ∈ ts) (he : e ∈ ts)
    (hv : Boxed W b t v) (hte : t ≠ e) (hrow : W.ownsRow n₀ e sz v k xs) (hn₀ : n₀ ≤ W.heap.size) (hB : n₀ ≤ b)
    (hown' : w1.ownsRow n₀ e sz v' m ys) (hgrow : (W.alloc tmp).grownBy w1 v.ownBlock) : KpT n₀ ts W (w1.setCell ⟨b, 0, none⟩ v') := by
  obtain ⟨hv1, hv2, hr2, hk2, hb2⟩ := hv.appended hte hrow hn₀ hB hown' hgrow
  refine ⟨hb2, hb2.size, fun i c u q hc hne => ?_⟩
  have hi : i < W.heap.size := (Array.getElem?_eq_some_iff.1 hc).1
  have hib : i ≠ b := by
    rintro rfl
    have h := (show _ = _ from hv).symm.trans hc
    injection h with h
    injection h with h1 h2 h3
    exact hne (h2 ▸ ht)
  have hiv : some i ≠ v.ownBlock := by
    intro e'
    rcases hrow.2 with ⟨rfl, _⟩ | ⟨g, cap, cur, rfl, _, hgb, _⟩
    · simp [Value.ownBlock] at e'
    · simp [Value.ownBlock] at e'
      subst e'
      have h := (show _ = _ from hgb).symm.trans hc
      injection h with h
      injection h with h1 h2 h3
      exact hne (h2 ▸ he)
  exact (Below.heap_setCell w1 ⟨b, 0, none⟩ v' i hib).trans ((hgrow.block i (by simp; omega) hiv).trans ((Below.heap_alloc W tmp i hi).trans hc))
theorem infoPlace : (Tryz.prog.info? 117).map (fun i => (i.zero, i.size, i.bytes)) = some (some (.agg #[.int .u64 0, .int .i64 0]), 2, 16) := by kernel_rfl
def ptVs (l : List S117) : List Value := l.flatMap fun x => [.int .u64 x.f0, .int .i64 x.f1]
theorem ptVs_len (l : List S117) : (ptVs l).length = l.length * 2 := by
  induction l with
  | nil => rfl
  | cons x l ih => rw [ptVs, List.flatMap_cons, List.length_append, ← ptVs, ih, List.length_cons]; simp; omega
theorem ptsT_len (ps : List S90) : (ptsT ps).length ≤ 128 * ps.length := by
  induction ps with
  | nil => exact Nat.le_refl _
  | cons x l ih =>
    have h1 := cntL_le x
    have h2 := ptsL_length x
    rw [ptsT, List.flatMap_cons, List.length_append, ← ptsT, List.length_cons]
    omega
theorem reps_pts (W : World) (base : Nat) (ok : Nat → Prop) : ∀ (l pre : List S117), Reps ((k117).M W base ok) 2 pre (ptVs pre) → Reps ((k117).M W base ok) 2 (pre ++ l) (ptVs (pre ++ l))
  | [], pre, h => by rw [List.append_nil]; exact h
  | x :: l, pre, h => by
    have e : pre ++ x :: l = (pre ++ [x]) ++ l := by simp
    rw [e]
    refine reps_pts W base ok l (pre ++ [x]) ?_
    rw [show ptVs (pre ++ [x]) = ptVs pre ++ [.int .u64 x.f0, .int .i64 x.f1] by simp [ptVs]]
    exact h.snoc (k117_mkM W base ok x) rfl
theorem R_pts {W : World} {base : Nat} {v : Value} {xs : List S117} (h : W.ownsRow base 117 2 v xs.length (ptVs xs)) : Kd.R k117 117 W base (fun _ => True) v xs := by
  refine ⟨fun _ _ => trivial, ptVs xs, h, ?_⟩
  exact reps_pts W base _ xs [] (Reps.none _ _)
set_option maxRecDepth 100000 in
set_option maxHeartbeats 8000000 in
theorem AppendSeq_pts (n : Nat) (hn : 4 ≤ n) (Bt : Nat) (A : Option Addr) (c : Nat) (ps : List S90) (hps : ps.length ≤ 100000) (hpc : ps.length ≤ c) (w : World) (hC : Kd.C k90 w A ps.length ps) (ht : Blk w Bt 80 [.slice A ps.length c]) :
    CallsIn Fence.wide n Tryz.prog 68 #[.slice none 0 0, .func (.func 59) #[] #[.pointer (some ⟨Bt, 0, none⟩)]] w fun e W' => ∃ v, e = .returned v ∧ Kd.R k117 117 W' w.heap.size (fun _ => True) v (ptsT ps) ∧ Below w.heap.size w W' := by
  have hro : Fence.wide.round = none := rfl
  obtain ⟨i0, hi, hz0, hz1, hz2⟩ := info_parts infoPlace
  refine callsIn_of_wp_marks Tryz.func68 rfl trivial ?_ hro
  simp only [Tryz.ntmps68, List.size_toArray, List.length_cons, List.length_nil, Nat.reduceAdd, Nat.reduceSub, Array.replicate_succ, Array.replicate_zero, List.push_toArray, List.append_toArray, List.nil_append, List.cons_append]
  gi_wp2
  have b0 := Boxed.new w 113 (.slice none 0 0)
  have hB0 : Below w.heap.size w (w.alloc (.cells #[.slice none 0 0] 113)) := (Below.refl _ w).alloc (Nat.le_refl _) _
  replace ht := ht.alloc (.cells #[.slice none 0 0] 113)
  obtain ⟨W0, hW0⟩ : ∃ W0, (w.alloc (.cells #[.slice none 0 0] 113)) = W0 := ⟨_, rfl⟩
  rw [hW0] at hB0 b0 ht ⊢
  clear hW0
  refine wpIn_rangeFunc_ownH hro (by omega) (gf := 59) (lb := #[.pointer (some ⟨Bt, 0, none⟩)]) rfl trivial (enters_of Tryz.func59 (by kernel_rfl) rfl)
    (each_stops (n - 1) (by omega) Bt w.heap.size [117, 113] (by decide) (by decide) A c ps (by omega) hpc w W0 rfl hC hB0 hB0.size ht) (fun h k => h.trans k) (fun W L o o' hL h1 h2 h3 => KpT.putObj (w := W0) hB0.size W L o o' hL h1 h2 h3) (Below.refl _ _) (fun _ => rfl)
    (fun pre W => (∃ v, Boxed W w.heap.size 113 v ∧ W.ownsRow w.heap.size 117 2 v pre.length (ptVs pre) ∧ True) ∧ Below w.heap.size w W)
    (fun _ _ _ => False)
    (OwnFrom.and (Own.from (holdsRow_own w.heap.size w.heap.size 113 117 2 (fun pre => pre.length) (fun pre => ptVs pre) (fun pre v => True)) _) (ownFrom_below (Nat.le_refl _) hB0.size))
    (fun _ _ _ _ _ hs _ _ => hs)
    ⟨⟨_, b0, World.ownsRow_nil _ _ _ _, trivial⟩, hB0⟩
    (fun x a' W => ∃ q, w.heap.size ≤ q ∧ Blk W q 117 [.int .u64 x.f0, .int .i64 x.f1] ∧ a' = { tmps := #[.slice none 0 0, .func (.func 59) #[] #[.pointer (some ⟨Bt, 0, none⟩)], .pointer (some ⟨w.heap.size, 0, none⟩), undef, .slice none 0 0, .pointer (some ⟨q, 0, none⟩), .func (.func 59) #[] #[.pointer (some ⟨Bt, 0, none⟩)], .agg #[.int .u64 x.f0, .int .i64 x.f1], undef, undef, undef, undef, undef], defers := [] })
    (fun x a' => OwnFrom.ex fun q => OwnFrom.and (OwnFrom.pure fun _ => w.heap.size ≤ q) (OwnFrom.and (blk_ownFrom _ q 117 (fun _ => [.int .u64 x.f0, .int .i64 x.f1])) (OwnFrom.pure fun _ => _))) ?assign ?body ?done ?stop
  case assign =>
    rintro y pre x W K ⟨⟨v, hv, hrow, _⟩, hB⟩ hK
    gi_wp2
    have hbn := Blk.new W 117 [.int .u64 x.f0, .int .i64 x.f1]
    exact hK _ _ ((KeepsOthers.alloc _ _).from _) (KpT.alloc _ _ hB.size) ⟨⟨v, hv.alloc _, hrow.alloc _, trivial⟩, hB.trans ((Below.refl _ _).alloc hB.size _)⟩ ⟨_, hB.size, hbn, rfl⟩
  case body =>
    rintro y pre x a' W hy ⟨r, hr⟩ ⟨⟨v, hv, hrow, _⟩, hB⟩ ⟨q, hq, hbq, rfl⟩ hlt
    have hc := hv.cell
    have c0 := hbq.cell 0
    have c1 := hbq.cell 1
    have hmx : (100000000 : Nat) < maxLen := by decide
    have hpl := ptsT_len ps
    have HPL := Lib.hid (show pre.length + 1 ≤ 12800000 by omega)
    have hbn := Blk.new W 117 [.int .u64 x.f0, .int .i64 x.f1]
    clear hpl
    gi_wp2_with (gi_at_builtin; refine wpListIn_append_own_at _ rfl _ _ 113 rfl w.heap.size 117 i0 (.agg #[.int .u64 0, .int .i64 0]) 2 16 Tryz.underlying113 hi hz0 hz1 hz2 rfl (by decide) _ _ _ rfl (hrow.alloc _) ⟨W.heap.size, 0, none⟩ 1 1 [.int .u64 x.f0, .int .i64 x.f1] rfl rfl (fun j u hj => by rw [add_plain]; exact (hbn.cell j).trans hj) (by simp [Value.oneCell']) (by have := HPL.out; omega) (by have := HPL.out; omega) (by have := hB.size; simp; omega) ?_; intro v' w1 hown' hgrow _ hat; obtain ⟨g', cap', rfl⟩ := ownsRow_succ hown'; obtain ⟨hv1, hv2, hr2, hk2, hb2⟩ := hv.appended (by decide) hrow hB.size (Nat.le_refl _) hown' hgrow; have hkp := KpT.appended (ts := [117, 113]) (by decide) (by decide) hv (by decide) hrow hB.size (Nat.le_refl _) hown' hgrow; have hc1 := hv1.cell; have hf1 := hv1.frozen)
    have ek : ptVs (pre ++ [x]) = ptVs pre ++ [.int .u64 x.f0, .int .i64 x.f1] := by simp [ptVs]
    exact ⟨hk2.from _, hkp, ⟨_, hv2, by rw [ek]; simpa using hr2, trivial⟩, hB.trans hb2⟩
  case done =>
    rintro D ys W hD hys ⟨⟨v, hv, hrow, _⟩, hB⟩ hK
    subst hys
    have hc := hv.cell
    gi_wp2
    refine ⟨by simp, .inl ⟨_, _, rfl, run_takeDeferred hK, ?_⟩⟩
    have hr2 := ownsRow_putObj hrow (.deferred none) hK rfl
    refine ⟨_, results_tmp rfl _ _ _, v, rfl, R_pts hr2, hB.trans (belowK_b (w := w) (Nat.le_refl _) W D _ _ (Nat.le_trans hB0.size hD) hK rfl rfl)⟩
  case stop =>
    rintro D c pre W _ _ h _
    exact h.elim
end

-- NOT PRINTED: function 57 (points_place_57)

end Go.Proofs.YtbbgeobnjdgpfaaGreat.P
