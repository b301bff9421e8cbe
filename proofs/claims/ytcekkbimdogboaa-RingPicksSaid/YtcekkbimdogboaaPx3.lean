/- Each Go function that the laws reach, as a plain function, with the proof that the machine's call comes to what it says; of a law: its row. Made by a program of this seat (wip/hp.py, over the print). -/
import Derived.Test.YtcekkbimdogboaaPx0
import Derived.Test.YtcekkbimdogboaaPx1
import Derived.Test.YtcekkbimdogboaaPx2
namespace Go.Proofs.Ytcekkbimdogboaa.P
open Go.RowKit Go.Proofs.YtcekkbimdogboaaW.PrintWords Go.Proofs.YtcekkbimdogboaaW.PrintLast Go.Proofs.YtcekkbimdogboaaW.PrintMore
attribute [local go_sem] max2_int min2_int max_two min_two max_three min_three max_four min_four   -- for this text's walks alone
set_option linter.unusedVariables false
set_option linter.unusedSimpArgs false

/-! ### points_Of: function 17 -/
section
open Go.Shelf Go.Proofs.Ytcekkbimdogboaa.Hand
theorem AppendSeq_any (Bt : Nat) (A : Option Addr) (c : Nat) (ps : List S39) (hps : ps.length ≤ 100000) (hpc : ps.length ≤ c) (w : World) (hC : Kd.C k39 w A ps.length ps) (ht : Blk w Bt 22 [.slice A ps.length c]) :
    Calls Try.prog 80 #[.slice none 0 0, .func (.func 62) #[] #[.pointer (some ⟨Bt, 0, none⟩)]] w fun e W' => ∃ v, e = .returned v ∧ Kd.R k61 61 W' w.heap.size (fun _ => True) v (ptsT ps) ∧ Below w.heap.size w W' :=
  (callsIn_wide (n := 6)).1 (AppendSeq_pts 6 (by omega) Bt A c ps hps hpc w hC ht)
set_option maxHeartbeats 1000000 in
theorem Collect_pts (Bt : Nat) (A : Option Addr) (c : Nat) (ps : List S39) (hps : ps.length ≤ 100000) (hpc : ps.length ≤ c) (w : World) (hC : Kd.C k39 w A ps.length ps) (ht : Blk w Bt 22 [.slice A ps.length c]) :
    Calls Try.prog 60 #[.func (.func 62) #[] #[.pointer (some ⟨Bt, 0, none⟩)]] w fun e W' => ∃ v, e = .returned v ∧ Kd.R k61 61 W' w.heap.size (fun _ => True) v (ptsT ps) ∧ Below w.heap.size w W' := by
  have hA := Lib.hid (AppendSeq_any Bt A c ps hps hpc w hC ht)
  clear hC ht hps hpc
  go_enter Try.func60, Try.ntmps60
  go_wp2_with (go_at_call 80; refine hA.out.mono ?_; rintro e w1 ⟨v, rfl, hr, hb⟩; have HR := Lib.hid hr; have HB := Lib.hid hb; clear hr hb)
  go_ret
  exact ⟨v, rfl, HR.out, HB.out⟩
set_option maxHeartbeats 1000000 in
theorem SortedFunc_pts (Bt : Nat) (A : Option Addr) (c : Nat) (ps : List S39) (hps : ps.length ≤ 100000) (hpc : ps.length ≤ c) (w : World) (hC : Kd.C k39 w A ps.length ps) (ht : Blk w Bt 22 [.slice A ps.length c]) :
    Calls Try.prog 39 #[.func (.func 62) #[] #[.pointer (some ⟨Bt, 0, none⟩)], .func (.func 41) #[] #[]] w fun e W' => ∃ v, e = .returned v ∧ Kd.R k61 61 W' w.heap.size (fun _ => True) v (srtL (ptsT ps)) ∧ Below w.heap.size w W' := by
  have hln := ptsT_len ps
  have hA := Lib.hid (Collect_pts Bt A c ps hps hpc w hC ht)
  have HL := Lib.hid (show (ptsT ps).length ≤ 100000000 by omega)
  clear hC ht hps hpc hln
  go_enter Try.func39, Try.ntmps39
  go_wp2_with (first
    | (go_at_call 60; refine hA.out.mono ?_; rintro e w1 ⟨v, rfl, hr, hb⟩; have HR := Lib.hid hr; have HB := Lib.hid hb; clear hr hb)
    | (go_at_call 61; refine (SortFunc_pts v (ptsT ps) HL.out w.heap.size _ HB.out.size HR.out).mono ?_; rintro e w2 ⟨rfl, hr, hb⟩; have HR2 := Lib.hid hr; have HB2 := Lib.hid hb; clear hr hb))
  go_ret
  exact ⟨v, rfl, HR2.out, HB.out.trans HB2.out⟩
/-- Does one point stand ahead of another? -/
def lessP (x y : S30) : Bool := decide (x.f0 < y.f0 ∨ (x.f0 = y.f0 ∧ x.f1 < y.f1))
def leP (x y : S30) : Bool := !lessP y x
def ptOf (x : S61) : S30 := ⟨x.f0, x.f1⟩
def ofL (ps : List S39) : List S30 := (srtL (ptsT ps)).map ptOf
theorem map_take_next (l : List S61) (k : Nat) (h : k < l.length) : (l.take (k + 1)).map ptOf = (l.take k).map ptOf ++ [⟨(l.getD k z61).f0, (l.getD k z61).f1⟩] := by
  rw [List.take_succ_eq_append_getElem h, List.map_append]; simp [h, ptOf]
theorem infoPoint : (Try.prog.info? 30).map (fun i => (i.zero, i.size, i.bytes)) = some (some (.agg #[.int .u64 0, .int .i64 0]), 2, 16) := by kernel_rfl
set_option maxRecDepth 100000 in
set_option maxHeartbeats 4000000 in
theorem Of_any (A : Option Addr) (c : Nat) (ps : List S39) (hps : ps.length ≤ 100000) (hpc : ps.length ≤ c) (w : World) (hC : Kd.C k39 w A ps.length ps) :
    Calls Try.prog 17 #[.slice A ps.length c] w fun e W' => ∃ v, e = .returned v ∧ Kd.R k30 30 W' w.heap.size (fun _ => True) v (ofL ps) ∧ Below w.heap.size w W' := by
  have hln := ptsT_len ps
  obtain ⟨ys, hys⟩ : ∃ ys, srtL (ptsT ps) = ys := ⟨_, rfl⟩
  have hyl : ys.length ≤ 12800000 := by rw [← hys, srtL_len]; omega
  have hS := SortedFunc_pts w.heap.size A c ps hps hpc (w.alloc (.cells #[.slice A ps.length c] 22)) (Kd.C_alloc hC _) (Blk.new w 22 [.slice A ps.length c])
  unfold ofL
  rw [hys] at hS ⊢
  have HS := Lib.hid hS
  have HYL := Lib.hid hyl
  clear hC hps hpc hln hS hys hyl
  have HB0 := Aside0.mk ((Below.refl w.heap.size w).alloc (Nat.le_refl _) (.cells #[.slice A ps.length c] 22))
  go_enter Try.func17, Try.ntmps17
  go_wp2_with (first
    | (go_at_call 40; refine (each_any _ _ _ _).mono ?_; rintro e w1 ⟨rfl, rfl⟩)
    | (go_at_call 39; refine HS.out.mono ?_; rintro e w2 ⟨v, rfl, hr, hb⟩; obtain ⟨A2, c2, rfl⟩ := Kd.R_slice hr; have HR := Lib.hid hr; have HB := Lib.hid (HB0.out.trans (hb.mono (by simp))); clear hr hb))
  go_loopw [3, 10] (fun v i wr => ∃ (k : Nat), k ≤ ys.length ∧ i = .int .i64 k ∧ Aside0 (Kd.R k30 30 wr w.heap.size (fun _ => True) v ((ys.take k).map ptOf)) ∧ Aside0 (Kd.R k61 61 wr w.heap.size (fun _ => True) (.slice A2 ys.length c2) ys) ∧ Aside0 (Below w.heap.size w wr))
    (fun _ i _ => ys.length - (intOf i).toNat)
  case atStart => exact ⟨0, Nat.zero_le _, rfl, ⟨Kd.R_nil _ _ _ _ _⟩, ⟨Kd.R_lower HR.out (by simp)⟩, ⟨HB.out⟩⟩
  case round =>
    obtain ⟨k, hk, rfl, HV, HS2, HBr⟩ := hrel
    by_cases hlt : k < ys.length
    · obtain ⟨ad, hA, c0, c1⟩ := at_T61 (Kd.R_reads' HS2.out).2.2 (k : Int) (by omega) (by omega)
      subst hA
      have htk := map_take_next ys k hlt
      rw [show rd_T61 ys (k : Int) = ys.getD k z61 from rfl] at c0 c1
      obtain ⟨b, hb⟩ : ∃ b, ys.getD k z61 = b := ⟨_, rfl⟩
      rw [hb] at c0 c1 htk
      rw [Int.toNat_natCast] at c0 c1
      have HTK := Lib.hid htk
      clear htk hb
      have q1 : decide ((k : Int) < (ys.length : Int)) = true := decide_eq_true (by omega)
      have q2 : (0 : Int) ≤ (k : Int) := by omega
      have q3 : (k : Int) < (ys.length : Int) := by omega
      have hwk : wrap64 ((k : Int) + 1) = ((k + 1 : Nat) : Int) := by have := HYL.out; unfold wrap64; omega
      have HLK := Lib.hid (show ((ys.take k).map ptOf).length + 1 ≤ 12800000 by have := HYL.out; rw [List.length_map, List.length_take]; omega)
      go_upto_region 5 with (fail)
      have hbx := Blk.new wr 61 [.int .u64 b.f0, .int .i64 b.f1]
      have hb1 := below_alloc HBr.out (.cells #[.int .u64 b.f0, .int .i64 b.f1] 61)
      have hv1 := Kd.R_alloc HV.out (.cells #[.int .u64 b.f0, .int .i64 b.f1] 61)
      have hs3 := Kd.R_alloc HS2.out (.cells #[.int .u64 b.f0, .int .i64 b.f1] 61)
      clear HBr HV HS2
      obtain ⟨g5, hg5⟩ : ∃ g5, wr.heap.size = g5 := ⟨_, rfl⟩
      obtain ⟨W1, hW1⟩ : ∃ W1, (wr.alloc (.cells #[.int .u64 b.f0, .int .i64 b.f1] 61)) = W1 := ⟨_, rfl⟩
      rw [hg5] at hbx ⊢
      rw [hW1] at hbx hb1 hv1 hs3 ⊢
      clear hg5 hW1 c0 c1
      have c0 : W1.cell? ⟨g5, 0, none⟩ = some (.int .u64 b.f0) := hbx.cell 0
      have c1 : W1.cell? ⟨g5, 1, none⟩ = some (.int .i64 b.f1) := hbx.cell 1
      have HB1 := Aside0.mk hb1
      have HV1 := Aside0.mk hv1
      have HS3 := Aside0.mk hs3
      clear hbx hb1 hv1 hs3
      go_wp2_with ((with_reducible refine gate_builtin (b := .append) (xs := #[.tmp 14, .tmp 16]) rfl ?_); (try (refine gate_guard (by rfl) ?_; dsimp only)); at_builtin; refine Kd.R_append k30 (w0 := w) w.heap.size rfl (.tmp 14) (.tmp 16) 24 30 (.agg #[(.int .u64 0), (.int .i64 0)]) 16 rfl Try.underlying24 infoPoint rfl (by decide) (by omega) u3 ((ys.take k).map ptOf) (⟨b.f0, b.f1⟩ : S30) [.int .u64 b.f0, .int .i64 b.f1] (fun _ => True) (fun _ => False) rfl rfl ?aP (fun _ hk => hk.elim) ?aF ?aO ?aB ?aS ?aL ?_; (case aP => exact k30_mkM _ _ _ (⟨b.f0, b.f1⟩ : S30)); (case aB => exact HB1.out); (case aF => exact (fun _ _ => trivial)); (case aO => exact HV1.out); (case aS => exact HB1.out.size); (case aL => have := HLK.out; omega); intro v2 w3 ho hb hg hat; rw [← HTK.out] at ho; have HV2 := Aside0.mk ho; have HB2 := Aside0.mk hb; have HS4 := Aside0.mk (Kd.R_over HS3.out HV1.out (by decide) hg); clear ho hb hg hat)
      go_roundw
      case rel => exact ⟨k + 1, Nat.succ_le_of_lt hlt, by rw [hwk], HV2, HS4, HB2⟩
      case measure =>
        rw [hwk]
        show ys.length - (((k + 1 : Nat) : Int)).toNat < ys.length - ((k : Int)).toNat
        rw [Int.toNat_natCast, Int.toNat_natCast]
        omega
    · obtain rfl : k = ys.length := by omega
      have q1 : decide ((ys.length : Int) < (ys.length : Int)) = false := decide_eq_false (by omega)
      have hv := HV.out
      rw [List.take_length] at hv
      have HV1 := Aside0.mk hv
      clear hv HV
      go_wp2
      go_ret
      exact ⟨_, rfl, HV1.out, HBr.out⟩
def points_Of.f (l0 : List S39) : Option (List S30) := if l0.length ≤ 100000 then some (ofL l0) else none
theorem points_Of.calls (A0 : Option Addr) (c0 : Nat) (l0 : List S39) (r : List S30) (w : World) (hr0 : Kd.C k39 w A0 l0.length l0) (hc0 : l0.length ≤ c0) (h : points_Of.f l0 = some r) :
    Calls Try.prog 17 #[.slice A0 l0.length c0] w fun e w' => ∃ v0_ : Value, e = .returned v0_ ∧ Kd.R k30 30 w' w.heap.size (fun _ => True) v0_ r ∧ Below w.heap.size w w' := by
  unfold points_Of.f at h
  by_cases hl : l0.length ≤ 100000
  · rw [if_pos hl] at h
    obtain rfl := Option.some.inj h
    exact Of_any A0 c0 l0 hl hc0 w hr0
  · rw [if_neg hl] at h
    exact absurd h (by simp)
end

-- NOT PRINTED: function 75 (ring_both_1)

/-! ### ring_both: function 53 -/
section
open Go.Shelf Go.Proofs.Ytcekkbimdogboaa.Hand
attribute [local go_sem] Oper.semAt_some
def bothAt (la lb : List S30) (hs : List Int) (i : Nat) : Int × Int × Int := ((i : Int), succL la (hs.getD i 0), succL lb (hs.getD i 0))
def bothL (la lb : List S30) (hs : List Int) : List (Int × Int × Int) := (List.range hs.length).map (bothAt la lb hs)
theorem bothL_len (la lb : List S30) (hs : List Int) : (bothL la lb hs).length = hs.length := by simp [bothL]
theorem bothL_take (la lb : List S30) (hs : List Int) (k : Nat) (h : k < hs.length) : (bothL la lb hs).take (k + 1) = (bothL la lb hs).take k ++ [bothAt la lb hs k] := by
  rw [List.take_succ_eq_append_getElem (by rw [bothL_len]; exact h)]
  simp [bothL]
theorem both_nums (n k : Nat) (hl : n ≤ 1000000) (h : k < n) : decide ((k : Int) < (n : Int)) = true ∧ (0 : Int) ≤ (k : Int) ∧ (k : Int) < (n : Int) ∧ wrap64 ((k : Int) + 1) = ((k + 1 : Nat) : Int) :=
  ⟨decide_eq_true (by omega), by omega, by omega, by unfold wrap64; omega⟩
theorem both_meas (n k : Nat) (h : k < n) : n - (((k + 1 : Nat) : Int)).toNat < n - ((k : Int)).toNat := by
  rw [Int.toNat_natCast, Int.toNat_natCast]; omega
theorem cell_u64 {W : World} {A : Option Addr} {xs : List Int} (h : Kd.C (Kd.int .u64) W A xs.length xs) (k : Nat) (hk : k < xs.length) : ∃ ad, A = some ad ∧ W.cell? (ad.add k) = some (.int .u64 (xs.getD k 0)) := by
  obtain ⟨ad, c, e, _, hK, hc⟩ := Kd.C_get h (0 : Int) (k : Int) (by omega) (by omega)
  rw [Int.toNat_natCast] at hK hc
  obtain rfl : c = [.int .u64 (xs.getD k 0)] := hK
  refine ⟨ad, e, ?_⟩
  have h1 := hc 0 _ rfl
  rw [show (Kd.int .u64).sz = 1 from rfl, Nat.mul_one, Nat.add_zero] at h1
  exact h1
theorem circle_any (l : List S30) (hl : l.length ≤ 1000000000) (A : Option Addr) (c : Nat) (hc : l.length ≤ c) (h : Int) (W : World) (hC : Kd.C k30 W A l.length l) :
    Calls Try.prog 52 #[.slice A l.length c, .int .u64 h] W fun e w' => e = .returned (.int .i64 (succL l h)) ∧ Below W.heap.size W w' :=
  ring_circle_succ.calls A c l h _ W hC hc (if_pos hl)
set_option maxRecDepth 100000 in
set_option maxHeartbeats 16000000 in
theorem both1_in (n : Nat) (hn : 2 ≤ n) (y B1 B2 B3 n₀ : Nat) (ts : List TypeId) (ht1 : 78 ∉ ts) (ht2 : 44 ∉ ts) (A1 A2 AH : Option Addr) (c1 c2 cH : Nat) (la lb : List S30) (hs : List Int)
    (hla : la.length ≤ 1000000000) (hlb : lb.length ≤ 1000000000) (hca : la.length ≤ c1) (hcb : lb.length ≤ c2) (hhs : hs.length ≤ 1000000)
    (w : World) (hw : w.heap.size = n₀) (hCa : Kd.C k30 w A1 la.length la) (hCb : Kd.C k30 w A2 lb.length lb) (hCh : Kd.C (Kd.int .u64) w AH hs.length hs)
    (J Jx : List (Int × Int × Int) → World → Prop) (B : Nat) (hJ : AbidesFrom B J)
    (hY : ∀ pre x W, J pre W → pre.length < (bothL la lb hs).length → YieldAt Fence.wide (n - 1) Try.prog y #[.int .i64 x.1, .agg #[.int .i64 x.2.1, .int .i64 x.2.2]] W fun e W' =>
      (e = .returned (.bool true) ∧ J (pre ++ [x]) W' ∧ KpT n₀ ts W W') ∨ (e = .returned (.bool false) ∧ Jx (pre ++ [x]) W'))
    (W : World) (hB : Below n₀ w W) (hnW : n₀ ≤ W.heap.size) (b1 : Blk W B1 78 [.func (.func 52) #[.slice A1 la.length c1] #[]]) (b2 : Blk W B2 78 [.func (.func 52) #[.slice A2 lb.length c2] #[]]) (b3 : Blk W B3 44 [.slice AH hs.length cH]) (h0 : J [] W) (hBB : B ≤ W.heap.size) :
    CallsIn Fence.wide n Try.prog 75 #[.func (.yield y) #[] #[], .pointer (some ⟨B3, 0, none⟩), .pointer (some ⟨B1, 0, none⟩), .pointer (some ⟨B2, 0, none⟩)] W fun e W' => (∃ v, e = .returned v) ∧
      ((∃ ys, ys = bothL la lb hs ∧ J ys W') ∨ (∃ pre, (pre <+: bothL la lb hs) ∧ Jx pre W')) := by
  have hro : Fence.wide.round = none := rfl
  refine callsIn_of_wp Try.func75 rfl trivial ?_ hro
  simp only [Try.ntmps75, List.size_toArray, List.length_cons, List.length_nil, Nat.reduceAdd, Nat.reduceSub, Array.replicate_succ, Array.replicate_zero, List.push_toArray, List.append_toArray, List.nil_append, List.cons_append]
  have z0 : W.cell? ⟨B3, 0, none⟩ = some (.slice AH hs.length cH) := b3.cell 0
  have HPS := Lib.hid hhs
  have HCA := Lib.hid hCa
  have HCB := Lib.hid hCb
  have HCH := Lib.hid hCh
  have HB := Lib.hid hB
  have HW0 := Lib.hid hw
  have HNW := Lib.hid hnW
  have HY := Lib.hid hY
  have HJ := Lib.hid hJ
  have H0 := Lib.hid h0
  have HBB := Lib.hid hBB
  have HN := Lib.hid hn
  have HB1 := Lib.hid b1
  have HB2 := Lib.hid b2
  have HFA := Lib.hid (circle_any la hla A1 c1 hca)
  have HFB := Lib.hid (circle_any lb hlb A2 c2 hcb)
  clear hhs hCa hCb hCh hB hw hY hJ h0 hn hBB b1 b2 b3 hla hlb hca hcb hnW
  gi_wp2
  gi_loopw [9] (fun i wr => ∃ (k : Nat), k ≤ hs.length ∧ i = .int .i64 k ∧ J ((bothL la lb hs).take k) wr ∧ Below n₀ w wr ∧ W.heap.size ≤ wr.heap.size ∧ Blk wr B1 78 [.func (.func 52) #[.slice A1 la.length c1] #[]] ∧ Blk wr B2 78 [.func (.func 52) #[.slice A2 lb.length c2] #[]])
    (fun i _ => hs.length - (intOf i).toNat)
  case atStart => exact ⟨0, Nat.zero_le _, rfl, by simpa using H0.out, HB.out, Nat.le_refl _, HB1.out, HB2.out⟩
  case round =>
    obtain ⟨k, hk', rfl, hJs, hnx, hsz, hb1, hb2⟩ := hrel
    by_cases hlt : k < hs.length
    · have hBr : Below w.heap.size w wr := by rw [HW0.out]; exact hnx
      obtain ⟨q1, q2, q3, hwk⟩ := both_nums hs.length k HPS.out hlt
      obtain ⟨ad, hA, c0⟩ := cell_u64 (Kd.C_below HCH.out hBr) k hlt
      subst hA
      have htk := bothL_take la lb hs k hlt
      have hpx : (bothL la lb hs).take (k + 1) <+: bothL la lb hs := List.take_prefix _ _
      have hln : ((bothL la lb hs).take k).length < (bothL la lb hs).length := by rw [List.length_take, bothL_len]; exact Nat.lt_of_le_of_lt (Nat.min_le_left _ _) hlt
      unfold bothAt at htk
      obtain ⟨h, hh⟩ : ∃ h, hs.getD k 0 = h := ⟨_, rfl⟩
      rw [hh] at c0 htk
      have HTK := Lib.hid htk
      have HPX := Lib.hid hpx
      have HLN := Lib.hid hln
      have HJ1 := Lib.hid hJs
      have HNX := Lib.hid hnx
      have HSZ := Lib.hid hsz
      have HBR := Lib.hid hBr
      have HK1 := Lib.hid hb1
      have HK2 := Lib.hid hb2
      have z1 : wr.cell? ⟨B1, 0, none⟩ = some (.func (.func 52) #[.slice A1 la.length c1] #[]) := hb1.cell 0
      have z2 : wr.cell? ⟨B2, 0, none⟩ = some (.func (.func 52) #[.slice A2 lb.length c2] #[]) := hb2.cell 0
      clear htk hpx hln hh hJs hnx hsz hBr hb1 hb2
      gi_wp2
      gi_region_with (first
        | (refine ⟨trivial, fun _ => (by have := HN.out; omega), ?_⟩; (with_reducible refine (callsIn_wide.2 (HFA.out h _ ?hCa)).mono ?_); (case hCa => first | exact Kd.C_drew (Kd.C_below HCA.out HBR.out) | exact Kd.C_drewN (Kd.C_below HCA.out HBR.out) _ | exact Kd.C_below HCA.out HBR.out); rintro e w3 ⟨rfl, hb3⟩; have HBW := Lib.hid (show Below wr.heap.size wr w3 from by first | exact hb3 | exact (below_drew (Below.refl _ _)).trans hb3 | exact (pw_below_drewN (Below.refl _ _) _).trans hb3); clear hb3; have g3 : w3.cell? ⟨B2, 0, none⟩ = some (.func (.func 52) #[.slice A2 lb.length c2] #[]) := (HK2.out.below HBW.out).cell 0)
        | (refine ⟨trivial, fun _ => (by have := HN.out; omega), ?_⟩; (with_reducible refine (callsIn_wide.2 (HFB.out h _ ?hCb)).mono ?_); (case hCb => first | exact Kd.C_below (Kd.C_below HCB.out HBR.out) HBW.out | exact Kd.C_drew (Kd.C_below (Kd.C_below HCB.out HBR.out) HBW.out) | exact Kd.C_drewN (Kd.C_below (Kd.C_below HCB.out HBR.out) HBW.out) _); rintro e w4 ⟨rfl, hb4⟩; have HBX := Lib.hid (show Below wr.heap.size wr w4 from HBW.out.trans ((show Below w3.heap.size w3 w4 from by first | exact hb4 | exact (below_drew (Below.refl _ _)).trans hb4 | exact (pw_below_drewN (Below.refl _ _) _).trans hb4).mono HBW.out.size)); clear hb4; obtain ⟨fn, tmps, assign, body, hy, hYR⟩ := HY.out _ ((k : Int), succL la h, succL lb h) w4 (HJ.out _ _ _ none HJ1.out (grown_of_below HBX.out none) (fun r e => by cases e)) HLN.out; have HYR := Lib.hid hYR; clear hYR)
        | (refine ⟨fun _ => (by have := HN.out; omega), HYR.out.mono ?_⟩; rintro e W3 hh; obtain ⟨bo, rfl, hA, hB⟩ := two_ways hh; have HA := Lib.hid hA; have HX := Lib.hid hB; clear hh hA hB))
      all_goals
        cases bo
        · have HX3 := Lib.hid (HX.out rfl)
          clear HA HX
          gi_wp2
          refine bodyPost_ret (results_none rfl _ _ _) rfl ?_
          exact ⟨⟨_, rfl⟩, .inr ⟨(bothL la lb hs).take k ++ [((k : Int), succL la h, succL lb h)], by rw [← HTK.out]; exact HPX.out, HX3.out⟩⟩
        · have HJ3 := Lib.hid (HA.out rfl).1
          have HK3 := Lib.hid (HA.out rfl).2
          clear HA HX
          gi_wp2
          go_roundw
          case rel => exact ⟨k + 1, Nat.succ_le_of_lt hlt, by rw [hwk], by rw [HTK.out]; exact HJ3.out, (HNX.out.trans (HBX.out.mono (Nat.le_trans HNW.out HSZ.out))).trans HK3.out.1, Nat.le_trans HSZ.out (Nat.le_trans HBX.out.size HK3.out.2.1), HK3.out.blk (HK1.out.below HBX.out) ht1, HK3.out.blk (HK2.out.below HBX.out) ht1⟩
          case measure =>
            rw [hwk]
            exact both_meas _ _ hlt
    · obtain rfl : k = hs.length := Nat.le_antisymm hk' (Nat.le_of_not_lt hlt)
      have q1 : decide ((hs.length : Int) < (hs.length : Int)) = false := decide_eq_false (by omega)
      have HJ3 := Lib.hid hJs
      clear hJs hnx hsz hb1 hb2
      gi_wp2
      go_end0
      exact ⟨⟨_, rfl⟩, .inl ⟨_, by rw [List.take_of_length_le (by rw [bothL_len]; exact Nat.le_refl _)], HJ3.out⟩⟩
end

/-! ### ring_Moved: function 32 -/
section
open Go.Shelf Go.Proofs.Ytcekkbimdogboaa.Hand
attribute [local go_sem] Oper.semAt_some
theorem both_stops (d : Nat) (hd : 2 ≤ d) (B1 B2 B3 n₀ : Nat) (ts : List TypeId) (ht1 : 78 ∉ ts) (ht2 : 44 ∉ ts) (A1 A2 AH : Option Addr) (c1 c2 cH : Nat) (la lb : List S30) (hs : List Int)
    (hla : la.length ≤ 1000000000) (hlb : lb.length ≤ 1000000000) (hca : la.length ≤ c1) (hcb : lb.length ≤ c2) (hhs : hs.length ≤ 1000000)
    (w W : World) (hw : w.heap.size = n₀) (hCa : Kd.C k30 w A1 la.length la) (hCb : Kd.C k30 w A2 lb.length lb) (hCh : Kd.C (Kd.int .u64) w AH hs.length hs) (hB : Below n₀ w W) (hnW : n₀ ≤ W.heap.size)
    (b1 : Blk W B1 78 [.func (.func 52) #[.slice A1 la.length c1] #[]]) (b2 : Blk W B2 78 [.func (.func 52) #[.slice A2 lb.length c2] #[]]) (b3 : Blk W B3 44 [.slice AH hs.length cH]) :
    SeqStopsK Fence.wide d Try.prog 75 #[.pointer (some ⟨B3, 0, none⟩), .pointer (some ⟨B1, 0, none⟩), .pointer (some ⟨B2, 0, none⟩)] (fun x : Int × Int × Int => #[.int .i64 x.1, .agg #[.int .i64 x.2.1, .int .i64 x.2.2]]) (KpT n₀ ts) (fun ys => ys = bothL la lb hs) (fun pre => pre <+: bothL la lb hs) (bothL la lb hs).length W := fun y J Jx W' hW hJ _ hY h0 =>
  both1_in d hd y B1 B2 B3 n₀ ts ht1 ht2 A1 A2 AH c1 c2 cH la lb hs hla hlb hca hcb hhs w hw hCa hCb hCh J Jx _ hJ hY W' (hB.trans (hW.mono hnW)) (Nat.le_trans hnW hW.size) (b1.below hW) (b2.below hW) (b3.below hW) h0 (Nat.le_refl _)
set_option maxHeartbeats 1000000 in
theorem both_any (f1 f2 : Value) (h1 : ∃ g b c, f1 = .func g b c) (h2 : ∃ g b c, f2 = .func g b c) (A : Option Addr) (n c : Nat) (w : World) :
    Calls Try.prog 53 #[f1, f2, .slice A n c] w fun e w' => e = .returned (.func (.func 75) #[] #[.pointer (some ⟨w.heap.size + 1 + 1, 0, none⟩), .pointer (some ⟨w.heap.size, 0, none⟩), .pointer (some ⟨w.heap.size + 1, 0, none⟩)]) ∧ w' = ((w.alloc (.cells #[f1] 78)).alloc (.cells #[f2] 78)).alloc (.cells #[.slice A n c] 44) := by
  obtain ⟨g1, b1, d1, rfl⟩ := h1
  obtain ⟨g2, b2, d2, rfl⟩ := h2
  go_enter Try.func53, Try.ntmps53
  go_wp2
  go_ret
  exact ⟨rfl, rfl⟩
/-- The places of what goes elsewhere. -/
def mvL (l : List (Int × Int × Int)) : List Int := (l.filter fun x => x.2.1 != x.2.2).map (·.1)
def movedL (la lb : List S30) (hs : List Int) : List Int := mvL (bothL la lb hs)
theorem mvL_len (l : List (Int × Int × Int)) : (mvL l).length ≤ l.length := by unfold mvL; rw [List.length_map]; exact List.length_filter_le _ _
theorem infoInt : (Try.prog.info? 3).map (fun i => (i.zero, i.size, i.bytes)) = some (some (.int .i64 0), 1, 8) := by kernel_rfl
set_option maxRecDepth 100000 in
set_option maxHeartbeats 16000000 in
theorem Moved_in (A1 A2 AH : Option Addr) (c1 c2 cH : Nat) (p q : List S39) (hs : List Int) (hp : p.length ≤ 100000) (hq : q.length ≤ 100000) (hpc : p.length ≤ c1) (hqc : q.length ≤ c2) (hhs : hs.length ≤ 1000000) (w : World)
    (hC1 : Kd.C k39 w A1 p.length p) (hC2 : Kd.C k39 w A2 q.length q) (hCh : Kd.C (Kd.int .u64) w AH hs.length hs) :
    CallsIn Fence.wide 6 Try.prog 32 #[.slice A1 p.length c1, .slice A2 q.length c2, .slice AH hs.length cH] w fun e W' => ∃ v, e = .returned v ∧ Kd.R (Kd.int .i64) 3 W' w.heap.size (fun _ => True) v (movedL (ofL p) (ofL q) hs) ∧ Below w.heap.size w W' := by
  have hro : Fence.wide.round = none := rfl
  obtain ⟨i0, hi, hz0, hz1, hz2⟩ := info_parts infoInt
  have hlp : (ofL p).length ≤ 1000000000 := by have := ptsT_len p; unfold ofL; rw [List.length_map, srtL_len]; omega
  have hlq : (ofL q).length ≤ 1000000000 := by have := ptsT_len q; unfold ofL; rw [List.length_map, srtL_len]; omega
  have HO1 := Lib.hid (Of_any A1 c1 p hp hpc w hC1)
  have HO2 := Lib.hid (fun W h => Of_any A2 c2 q hq hqc W h)
  have HLP := Lib.hid hlp
  have HLQ := Lib.hid hlq
  have HC2 := Lib.hid hC2
  have HCH := Lib.hid hCh
  have HHS := Lib.hid hhs
  unfold movedL
  obtain ⟨la, hla⟩ : ∃ la, ofL p = la := ⟨_, rfl⟩
  obtain ⟨lb, hlb⟩ : ∃ lb, ofL q = lb := ⟨_, rfl⟩
  rw [hla] at HO1 HLP ⊢
  rw [hlb] at HO2 HLQ ⊢
  clear hC1 hC2 hCh hp hq hpc hqc hhs hlp hlq hla hlb
  refine callsIn_of_wp_marks Try.func32 rfl trivial ?_ hro
  simp only [Try.ntmps32, List.size_toArray, List.length_cons, List.length_nil, Nat.reduceAdd, Nat.reduceSub, Array.replicate_succ, Array.replicate_zero, List.push_toArray, List.append_toArray, List.nil_append, List.cons_append]
  gi_wp2_with (first
    | (refine ⟨trivial, ?_⟩; gi_at_call 17; (with_reducible refine (callsIn_wide.2 HO1.out).mono ?_); rintro e w1 ⟨v1, rfl, hr1, hb1⟩; obtain ⟨P1, d1, rfl⟩ := Kd.R_slice hr1; have HR1 := Lib.hid hr1; have HB1 := Lib.hid hb1; clear hr1 hb1)
    | (refine ⟨trivial, ?_⟩; gi_at_call 17; (with_reducible refine (callsIn_wide.2 (HO2.out w1 (Kd.C_below HC2.out HB1.out))).mono ?_); rintro e w2 ⟨v2, rfl, hr2, hb2⟩; obtain ⟨P2, d2, rfl⟩ := Kd.R_slice hr2; have HR2 := Lib.hid hr2; have HB2 := Lib.hid hb2; clear hr2 hb2)
    | (refine ⟨trivial, ?_⟩; gi_at_call 53; refine (callsIn_wide.2 (both_any _ _ ⟨_, _, _, rfl⟩ ⟨_, _, _, rfl⟩ _ _ _ _)).mono ?_; rintro e w3 ⟨rfl, rfl⟩))
  have b0 := Boxed.new w2 46 (.slice none 0 0)
  have b1 := Blk.new (w2.alloc (.cells #[.slice none 0 0] 46)) 78 [.func (.func 52) #[.slice P1 la.length d1] #[]]
  have b2 := Blk.new ((w2.alloc (.cells #[.slice none 0 0] 46)).alloc (.cells #[.func (.func 52) #[.slice P1 la.length d1] #[]] 78)) 78 [.func (.func 52) #[.slice P2 lb.length d2] #[]]
  have b3 := Blk.new (((w2.alloc (.cells #[.slice none 0 0] 46)).alloc (.cells #[.func (.func 52) #[.slice P1 la.length d1] #[]] 78)).alloc (.cells #[.func (.func 52) #[.slice P2 lb.length d2] #[]] 78)) 44 [.slice AH hs.length cH]
  replace b0 := ((b0.alloc (.cells #[.func (.func 52) #[.slice P1 la.length d1] #[]] 78)).alloc (.cells #[.func (.func 52) #[.slice P2 lb.length d2] #[]] 78)).alloc (.cells #[.slice AH hs.length cH] 44)
  replace b1 := (b1.alloc (.cells #[.func (.func 52) #[.slice P2 lb.length d2] #[]] 78)).alloc (.cells #[.slice AH hs.length cH] 44)
  replace b2 := b2.alloc (.cells #[.slice AH hs.length cH] 44)
  have hB0 : Below w2.heap.size w2 ((((w2.alloc (.cells #[.slice none 0 0] 46)).alloc (.cells #[.func (.func 52) #[.slice P1 la.length d1] #[]] 78)).alloc (.cells #[.func (.func 52) #[.slice P2 lb.length d2] #[]] 78)).alloc (.cells #[.slice AH hs.length cH] 44)) := below_alloc (below_alloc (below_alloc (below_alloc (Below.refl _ _) _) _) _) _
  simp only [World.size_alloc] at b1 b2 b3
  obtain ⟨W0, hW0⟩ : ∃ W0, ((((w2.alloc (.cells #[.slice none 0 0] 46)).alloc (.cells #[.func (.func 52) #[.slice P1 la.length d1] #[]] 78)).alloc (.cells #[.func (.func 52) #[.slice P2 lb.length d2] #[]] 78)).alloc (.cells #[.slice AH hs.length cH] 44)) = W0 := ⟨_, rfl⟩
  rw [hW0] at b0 b1 b2 b3 hB0 ⊢
  clear hW0
  refine wpIn_rangeFunc_ownH hro (by omega) (gf := 75) (lb := #[.pointer (some ⟨w2.heap.size + 1 + 1 + 1, 0, none⟩), .pointer (some ⟨w2.heap.size + 1, 0, none⟩), .pointer (some ⟨w2.heap.size + 1 + 1, 0, none⟩)]) rfl trivial (enters_of Try.func75 (by kernel_rfl) rfl)
    (both_stops (6 - 1) (by omega) (w2.heap.size + 1) (w2.heap.size + 1 + 1) (w2.heap.size + 1 + 1 + 1) w2.heap.size [3, 46] (by decide) (by decide) P1 P2 AH d1 d2 cH la lb hs HLP.out HLQ.out (Kd.R_reads' HR1.out).2.1 (Kd.R_reads' HR2.out).2.1 HHS.out w2 W0 rfl (Kd.C_below (Kd.R_reads' HR1.out).2.2 HB2.out) (Kd.R_reads' HR2.out).2.2 (Kd.C_below (Kd.C_below HCH.out HB1.out) HB2.out) hB0 hB0.size b1 b2 b3) (fun h k => h.trans k) (fun W L o o' hL h1 h2 h3 => KpT.putObj (w := W0) hB0.size W L o o' hL h1 h2 h3) (Below.refl _ _) (fun _ => rfl)
    (fun pre W => (∃ v, Boxed W w2.heap.size 46 v ∧ W.ownsRow w2.heap.size 3 1 v (mvL pre).length (encs (Value.int .i64) (mvL pre)) ∧ True) ∧ Below w2.heap.size w2 W)
    (fun _ _ _ => False)
    (OwnFrom.and (Own.from (holdsRow_own w2.heap.size w2.heap.size 46 3 1 (fun pre => (mvL pre).length) (fun pre => encs (Value.int .i64) (mvL pre)) (fun pre v => True)) _) (ownFrom_below (Nat.le_refl _) hB0.size))
    (fun _ _ _ _ _ hs _ _ => hs)
    ⟨⟨_, b0, World.ownsRow_nil _ _ _ _, trivial⟩, hB0⟩
    (fun x a' W => ∃ q5, w2.heap.size ≤ q5 ∧ Blk W q5 73 [.int .i64 x.2.1, .int .i64 x.2.2] ∧ a' = { tmps := #[.slice A1 p.length c1, .slice A2 q.length c2, .slice AH hs.length cH, undef, undef, undef, .slice none 0 0, .slice P1 la.length d1, .slice P2 lb.length d2, .pointer (some ⟨w2.heap.size, 0, none⟩), .int .i64 x.1, .pointer (some ⟨q5, 0, none⟩), .slice A1 p.length c1, .slice P1 la.length d1, .slice A2 q.length c2, .slice P2 lb.length d2, .slice P1 la.length d1, .func (.func 52) #[.slice P1 la.length d1] #[], .slice P2 lb.length d2, .func (.func 52) #[.slice P2 lb.length d2] #[], .slice AH hs.length cH, .func (.func 75) #[] #[.pointer (some ⟨w2.heap.size + 1 + 1 + 1, 0, none⟩), .pointer (some ⟨w2.heap.size + 1, 0, none⟩), .pointer (some ⟨w2.heap.size + 1 + 1, 0, none⟩)], .int .i64 x.1, .agg #[.int .i64 x.2.1, .int .i64 x.2.2], undef, undef, undef, undef, undef, undef, undef, undef, undef, undef], defers := [] })
    (fun x a' => OwnFrom.ex fun q5 => OwnFrom.and (OwnFrom.pure fun _ => w2.heap.size ≤ q5) (OwnFrom.and (blk_ownFrom _ q5 73 (fun _ => [.int .i64 x.2.1, .int .i64 x.2.2])) (OwnFrom.pure fun _ => _))) ?assign ?body ?done ?stop
  case assign =>
    rintro y pre x W K ⟨⟨v, hv, hrow, _⟩, hB⟩ hK
    gi_wp2
    have hbn := Blk.new W 73 [.int .i64 x.2.1, .int .i64 x.2.2]
    exact hK _ _ ((KeepsOthers.alloc _ _).from _) (KpT.alloc _ _ hB.size) ⟨⟨v, hv.alloc _, hrow.alloc _, trivial⟩, hB.trans ((Below.refl _ _).alloc hB.size _)⟩ ⟨_, hB.size, hbn, rfl⟩
  case body =>
    rintro y pre x a' W hy ⟨r, hr⟩ ⟨⟨v, hv, hrow, _⟩, hB⟩ ⟨q5, hq5, hbq, rfl⟩ hlt
    have hc := hv.cell
    have e0 := hbq.cell 0
    have e1 := hbq.cell 1
    have hml := mvL_len pre
    rw [bothL_len] at hlt
    have HML := Lib.hid (show (mvL pre).length + 1 ≤ 1000000 by have := HHS.out; omega)
    have hmx : (1000000 : Nat) < maxLen := by decide
    have HMX := Lib.hid hmx
    clear hml hlt hmx
    by_cases hne : x.2.1 = x.2.2
    · have ek : mvL (pre ++ [x]) = mvL pre := by unfold mvL; rw [List.filter_append]; simp [hne]
      have qne : (x.2.1 != x.2.2) = false := by simp [hne]
      have EK := Lib.hid ek
      clear ek hne
      gi_wp2
      exact ⟨KeepsFrom.refl _ _, KpT.refl _ _ _, ⟨v, hv, by rw [EK.out]; exact hrow, trivial⟩, hB⟩
    · have ek : mvL (pre ++ [x]) = mvL pre ++ [x.1] := by unfold mvL; rw [List.filter_append, List.map_append]; simp [hne]
      have qne : (x.2.1 != x.2.2) = true := by simp [hne]
      have EK := Lib.hid ek
      clear ek hne
      gi_wp2_with (gi_at_builtin; refine wpListIn_append_own_at _ rfl _ _ 46 rfl w2.heap.size 3 i0 (.int .i64 0) 1 8 Try.underlying46 hi hz0 hz1 hz2 rfl (by decide) _ _ _ rfl (hrow.alloc _) ⟨W.heap.size, 0, none⟩ 1 1 [.int .i64 x.1] rfl rfl (cell_one_new _ _ _) (by simp [Value.oneCell']) (by have := HML.out; have := HMX.out; omega) (by have := HML.out; omega) (by have := hB.size; simp; omega) ?_; intro v' w5 hown' hgrow _ hat; obtain ⟨g', cap', rfl⟩ := ownsRow_succ hown'; obtain ⟨hv1, hv2, hr2, hk2, hb2⟩ := hv.appended (by decide) hrow hB.size (Nat.le_refl _) hown' hgrow; have hkp := KpT.appended (ts := [3, 46]) (by decide) (by decide) hv (by decide) hrow hB.size (Nat.le_refl _) hown' hgrow; have hc1 := hv1.cell; have hf1 := hv1.frozen)
      exact ⟨hk2.from _, hkp, ⟨_, hv2, by rw [EK.out, encs_append]; simpa [encs] using hr2, trivial⟩, hB.trans hb2⟩
  case done =>
    rintro D ys W hD hys ⟨⟨v, hv, hrow, _⟩, hB⟩ hK
    subst hys
    have hc := hv.cell
    gi_wp2
    refine ⟨by simp, .inl ⟨_, _, rfl, run_takeDeferred hK, ?_⟩⟩
    have hr2 := ownsRow_putObj hrow (.deferred none) hK rfl
    have hbw : Below w.heap.size w w2 := HB1.out.trans (HB2.out.mono HB1.out.size)
    have hbd := hB.trans (belowK_b (w := w2) (Nat.le_refl _) W D _ (.deferred none) (Nat.le_trans hB0.size hD) hK rfl rfl)
    exact ⟨_, results_tmp rfl _ _ _, v, rfl, Kd.R_lower (Kd.R_of_own hr2 (fun _ _ => trivial)) hbw.size, hbw.trans (hbd.mono hbw.size)⟩
  case stop =>
    rintro D c pre W _ _ h _
    exact h.elim
def ring_Moved.f (l0 : List S39) (l1 : List S39) (l2 : List Int) : Option (List Int) := if l0.length ≤ 100000 ∧ l1.length ≤ 100000 ∧ l2.length ≤ 1000000 then some (movedL (ofL l0) (ofL l1) l2) else none
theorem ring_Moved.calls (A0 : Option Addr) (c0 : Nat) (l0 : List S39) (A1 : Option Addr) (c1 : Nat) (l1 : List S39) (A2 : Option Addr) (c2 : Nat) (l2 : List Int) (r : List Int) (w : World) (hr0 : Kd.C k39 w A0 l0.length l0) (hc0 : l0.length ≤ c0) (hr1 : Kd.C k39 w A1 l1.length l1) (hc1 : l1.length ≤ c1) (hr2 : Kd.C (Kd.int .u64) w A2 l2.length l2) (hc2 : l2.length ≤ c2) (h : ring_Moved.f l0 l1 l2 = some r) :
    Calls Try.prog 32 #[.slice A0 l0.length c0, .slice A1 l1.length c1, .slice A2 l2.length c2] w fun e w' => ∃ v0_ : Value, e = .returned v0_ ∧ Kd.R (Kd.int .i64) 3 w' w.heap.size (fun _ => True) v0_ r ∧ Below w.heap.size w w' := by
  unfold ring_Moved.f at h
  by_cases hl : l0.length ≤ 100000 ∧ l1.length ≤ 100000 ∧ l2.length ≤ 1000000
  · rw [if_pos hl] at h
    obtain rfl := Option.some.inj h
    exact (callsIn_wide (n := 6)).1 (Moved_in A0 A1 A2 c0 c1 c2 l0 l1 l2 hl.1 hl.2.1 hc0 hc1 hl.2.2 w hr0 hr1 hr2)
  · rw [if_neg hl] at h
    exact absurd h (by simp)
end

/-! ### ring_Pick: function 34 -/
def ring_Pick.f (l0 : List (S39)) (a1 : Int) : Option (Int) := (points_Of.f l0).bind fun t121 => ((ring_Succ.f t121 a1).bind fun t124 => (some t124))
set_option maxHeartbeats 8000000 in
set_option maxRecDepth 100000 in
theorem ring_Pick.calls (A0 : Option Addr) (c0 : Nat) (l0 : List (S39)) (a1 : Int) (r : Int) (w : World) (hr0 : Kd.C k39 w A0 l0.length l0) (hc0 : l0.length ≤ c0) (h : ring_Pick.f l0 a1 = some r) :
    Calls Try.prog 34 #[.slice A0 l0.length c0, .int .u64 a1] w fun e w' => e = .returned (.int .i64 r) ∧ Below w.heap.size w w' := by
  have HR0 := Aside0.mk hr0
  have HC0 := Aside0.mk hc0
  clear hr0 hc0
  have HB := Aside0.mk (Below.refl w.heap.size w)
  have H : ((points_Of.f l0).bind fun t121 => ((ring_Succ.f t121 a1).bind fun t124 => (some t124))) = some r := h
  clear h
  replace H := Option.bind_eq_some_iff.mp H
  obtain ⟨t121, A30, H⟩ := H
  replace H : ((ring_Succ.f t121 a1).bind fun t124 => (some t124)) = some r := H
  have A3 := Aside0.mk A30
  clear A30
  replace H := Option.bind_eq_some_iff.mp H
  obtain ⟨t124, A40, H⟩ := H
  replace H : (some t124) = some r := H
  have A4 := Aside0.mk A40
  clear A40
  obtain rfl := Option.some.inj H
  go_enter Try.func34, Try.ntmps34
  go_wp2_with (first | ((with_reducible refine gate_callee (f := 17) rfl ?_); refine goesL_ (some 6) rfl rfl Try.func17 (by kernel_rfl) rfl #[.slice A0 l0.length c0] rfl (by (try simp only [List.map_toArray, List.map_cons, List.map_nil]); first | done | rfl | (simp only [List.length_drop, List.length_take]; rfl)) ?_; (with_reducible refine (points_Of.calls _ _ l0 t121 _ ?side1 ?side2 A3.out).mono ?_); (case side1 => repeat (first | exact HR0.out | (with_reducible refine Kd.C_alloc ?_ _) | (with_reducible refine Kd.C_drewN ?_ _) | (with_reducible refine Kd.C_drew ?_))); (case side2 => exact HC0.out); (try clear A3); rintro e w5 ⟨v122, rfl, ho0, hb⟩; refine ⟨_, rfl, ?_⟩; have n0_ := Aside0.mk (Kd.R_lower ho0 (below_size (by repeat (first | (with_reducible first | exact HB.out | apply below_alloc | apply pw_below_drewN | apply below_drew1) | exact HB.out)))); have n1_ := Aside0.mk (below_step (by repeat (first | (with_reducible first | exact HB.out | apply below_alloc | apply pw_below_drewN | apply below_drew1) | exact HB.out)) hb); clear HB; have HO123 := n0_; have HB := n1_; clear n0_ n1_; (try clear hb); (try clear hb2); (try clear hk); (try clear hi); (try clear ho0); obtain ⟨Ao6, co6, eo6⟩ := Kd.R_slice HO123.out; subst eo6) | ((with_reducible refine gate_callee (f := 28) rfl ?_); refine goesL_ (some 8) rfl rfl Try.func28 (by kernel_rfl) rfl #[.slice Ao6 t121.length co6, .int .u64 a1] rfl (by (try simp only [List.map_toArray, List.map_cons, List.map_nil]); first | done | rfl | (simp only [List.length_drop, List.length_take]; rfl)) ?_; (with_reducible refine (ring_Succ.calls _ _ t121 a1 t124 _ ?side1 ?side2 A4.out).mono ?_); (case side1 => repeat (first | exact (Kd.R_reads' HO123.out).2.2 | (with_reducible refine Kd.C_alloc ?_ _) | (with_reducible refine Kd.C_drewN ?_ _) | (with_reducible refine Kd.C_drew ?_))); (case side2 => exact (Kd.R_reads' HO123.out).2.1); (try clear A4); rintro e w7 ⟨rfl, hb⟩; refine ⟨_, rfl, ?_⟩; have n0_ := Aside0.mk (Kd.R_below (by (with_reducible repeat (first | apply Kd.R_alloc | apply Kd.R_drewN | apply Kd.R_drew)); exact HO123.out) hb); have n1_ := Aside0.mk (below_step (by repeat (first | (with_reducible first | exact HB.out | apply below_alloc | apply pw_below_drewN | apply below_drew1) | exact HB.out)) hb); clear HO123; clear HB; have HO123 := n0_; have HB := n1_; clear n0_ n1_; (try clear hb); (try clear hb2); (try clear hk); (try clear hi)))
  go_ret
  exact ⟨by first | rfl | (simp [errW_none, errW_some] <;> rfl) | (simp [*, errW_none, errW_some] <;> rfl), by repeat (first | (with_reducible first | exact HB.out | apply below_alloc | apply pw_below_drewN | apply below_drew1) | exact HB.out)⟩

/-! ### gangplanklaw10_works: function 27 -/
def gangplanklaw10_works.f  : Option (Bool) := (some (([(⟨5, 1⟩ : S30), (⟨9, 2⟩ : S30)] : List (S30)) : List (S30))).bind fun y125 => ((ring_Succ.f y125 5).bind fun t128 => (if t128 = 1 then ((ring_Succ.f y125 6).bind fun t129 => (if t129 = 2 then ((ring_Succ.f y125 10).bind fun t130 => (if t130 = 1 then ((ring_Succ.f ([] : List (S30)) 1).bind fun t131 => (if t131 = (-1) then ((ring_Pick.f (([(⟨7, 1⟩ : S39)] : List (S39))) 3).bind fun t135 => (if t135 = 7 then ((ring_Pick.f ([] : List (S39)) 3).bind fun t136 => (if t136 = (-1) then ((ring_Moved.f (([(⟨7, 1⟩ : S39)] : List (S39))) ([] : List (S39)) (([3] : List Int))).bind fun t143 => (some ((t143.length : Int) == 1))) else (some false))) else (some false))) else (some false))) else (some false))) else (some false))) else (some false)))
set_option maxHeartbeats 8000000 in
set_option maxRecDepth 100000 in
theorem gangplanklaw10_works.calls  (r : Bool) (w : World) (h : gangplanklaw10_works.f  = some r) :
    Calls Try.prog 27 #[] w fun e w' => e = .returned (.bool r) ∧ Below w.heap.size w w' := by
  have hu30 := Try.underlying30
  have hu39 := Try.underlying39
  have HB := Aside0.mk (Below.refl w.heap.size w)
  have H : ((some (([(⟨5, 1⟩ : S30), (⟨9, 2⟩ : S30)] : List (S30)) : List (S30))).bind fun y125 => ((ring_Succ.f y125 5).bind fun t128 => (if t128 = 1 then ((ring_Succ.f y125 6).bind fun t129 => (if t129 = 2 then ((ring_Succ.f y125 10).bind fun t130 => (if t130 = 1 then ((ring_Succ.f ([] : List (S30)) 1).bind fun t131 => (if t131 = (-1) then ((ring_Pick.f (([(⟨7, 1⟩ : S39)] : List (S39))) 3).bind fun t135 => (if t135 = 7 then ((ring_Pick.f ([] : List (S39)) 3).bind fun t136 => (if t136 = (-1) then ((ring_Moved.f (([(⟨7, 1⟩ : S39)] : List (S39))) ([] : List (S39)) (([3] : List Int))).bind fun t143 => (some ((t143.length : Int) == 1))) else (some false))) else (some false))) else (some false))) else (some false))) else (some false))) else (some false)))) = some r := h
  clear h
  obtain ⟨y125, hy125⟩ : ∃ y_ : List (S30), y_ = (([(⟨5, 1⟩ : S30), (⟨9, 2⟩ : S30)] : List (S30))) := ⟨_, rfl⟩
  replace H : ((ring_Succ.f y125 5).bind fun t128 => (if t128 = 1 then ((ring_Succ.f y125 6).bind fun t129 => (if t129 = 2 then ((ring_Succ.f y125 10).bind fun t130 => (if t130 = 1 then ((ring_Succ.f ([] : List (S30)) 1).bind fun t131 => (if t131 = (-1) then ((ring_Pick.f (([(⟨7, 1⟩ : S39)] : List (S39))) 3).bind fun t135 => (if t135 = 7 then ((ring_Pick.f ([] : List (S39)) 3).bind fun t136 => (if t136 = (-1) then ((ring_Moved.f (([(⟨7, 1⟩ : S39)] : List (S39))) ([] : List (S39)) (([3] : List Int))).bind fun t143 => (some ((t143.length : Int) == 1))) else (some false))) else (some false))) else (some false))) else (some false))) else (some false))) else (some false))) = some r := by first | (rw [hy125]; with_reducible exact H) | (have H2_ := (Option.bind_some _ _).symm.trans H; rw [hy125]; with_reducible exact H2_) | (have H2_ := (Option.bind_some _ _).symm.trans H; with_reducible exact H2_) | with_reducible exact H | (rw [hy125]; exact H) | exact H
  have Ny125 := Aside0.mk hy125
  clear hy125
  replace H := Option.bind_eq_some_iff.mp H
  obtain ⟨t128, A10, H⟩ := H
  replace H : (if t128 = 1 then ((ring_Succ.f y125 6).bind fun t129 => (if t129 = 2 then ((ring_Succ.f y125 10).bind fun t130 => (if t130 = 1 then ((ring_Succ.f ([] : List (S30)) 1).bind fun t131 => (if t131 = (-1) then ((ring_Pick.f (([(⟨7, 1⟩ : S39)] : List (S39))) 3).bind fun t135 => (if t135 = 7 then ((ring_Pick.f ([] : List (S39)) 3).bind fun t136 => (if t136 = (-1) then ((ring_Moved.f (([(⟨7, 1⟩ : S39)] : List (S39))) ([] : List (S39)) (([3] : List Int))).bind fun t143 => (some ((t143.length : Int) == 1))) else (some false))) else (some false))) else (some false))) else (some false))) else (some false))) else (some false)) = some r := H
  have A1 := Aside0.mk A10
  clear A10
  by_cases c2 : t128 = 1
  · rw [if_pos c2] at H
    have c2b0 : (t128 == 1) = true := beq_iff_eq.mpr c2
    have c2b1 : (t128 != 1) = false := bne_eq_false_iff_eq.mpr c2
    clear c2
    replace H := Option.bind_eq_some_iff.mp H
    obtain ⟨t129, A30, H⟩ := H
    replace H : (if t129 = 2 then ((ring_Succ.f y125 10).bind fun t130 => (if t130 = 1 then ((ring_Succ.f ([] : List (S30)) 1).bind fun t131 => (if t131 = (-1) then ((ring_Pick.f (([(⟨7, 1⟩ : S39)] : List (S39))) 3).bind fun t135 => (if t135 = 7 then ((ring_Pick.f ([] : List (S39)) 3).bind fun t136 => (if t136 = (-1) then ((ring_Moved.f (([(⟨7, 1⟩ : S39)] : List (S39))) ([] : List (S39)) (([3] : List Int))).bind fun t143 => (some ((t143.length : Int) == 1))) else (some false))) else (some false))) else (some false))) else (some false))) else (some false)) = some r := H
    have A3 := Aside0.mk A30
    clear A30
    by_cases c4 : t129 = 2
    · rw [if_pos c4] at H
      have c4b0 : (t129 == 2) = true := beq_iff_eq.mpr c4
      have c4b1 : (t129 != 2) = false := bne_eq_false_iff_eq.mpr c4
      clear c4
      replace H := Option.bind_eq_some_iff.mp H
      obtain ⟨t130, A50, H⟩ := H
      replace H : (if t130 = 1 then ((ring_Succ.f ([] : List (S30)) 1).bind fun t131 => (if t131 = (-1) then ((ring_Pick.f (([(⟨7, 1⟩ : S39)] : List (S39))) 3).bind fun t135 => (if t135 = 7 then ((ring_Pick.f ([] : List (S39)) 3).bind fun t136 => (if t136 = (-1) then ((ring_Moved.f (([(⟨7, 1⟩ : S39)] : List (S39))) ([] : List (S39)) (([3] : List Int))).bind fun t143 => (some ((t143.length : Int) == 1))) else (some false))) else (some false))) else (some false))) else (some false)) = some r := H
      have A5 := Aside0.mk A50
      clear A50
      by_cases c6 : t130 = 1
      · rw [if_pos c6] at H
        have c6b0 : (t130 == 1) = true := beq_iff_eq.mpr c6
        have c6b1 : (t130 != 1) = false := bne_eq_false_iff_eq.mpr c6
        clear c6
        replace H := Option.bind_eq_some_iff.mp H
        obtain ⟨t131, A70, H⟩ := H
        replace H : (if t131 = (-1) then ((ring_Pick.f (([(⟨7, 1⟩ : S39)] : List (S39))) 3).bind fun t135 => (if t135 = 7 then ((ring_Pick.f ([] : List (S39)) 3).bind fun t136 => (if t136 = (-1) then ((ring_Moved.f (([(⟨7, 1⟩ : S39)] : List (S39))) ([] : List (S39)) (([3] : List Int))).bind fun t143 => (some ((t143.length : Int) == 1))) else (some false))) else (some false))) else (some false)) = some r := H
        have A7 := Aside0.mk A70
        clear A70
        by_cases c8 : t131 = (-1)
        · rw [if_pos c8] at H
          have c8b0 : (t131 == (-1)) = true := beq_iff_eq.mpr c8
          have c8b1 : (t131 != (-1)) = false := bne_eq_false_iff_eq.mpr c8
          clear c8
          obtain ⟨y132, hy132⟩ : ∃ y_ : List (S39), y_ = (([(⟨7, 1⟩ : S39)] : List (S39))) := ⟨_, rfl⟩
          replace H : ((ring_Pick.f y132 3).bind fun t135 => (if t135 = 7 then ((ring_Pick.f ([] : List (S39)) 3).bind fun t136 => (if t136 = (-1) then ((ring_Moved.f (([(⟨7, 1⟩ : S39)] : List (S39))) ([] : List (S39)) (([3] : List Int))).bind fun t143 => (some ((t143.length : Int) == 1))) else (some false))) else (some false))) = some r := by first | (rw [hy132]; with_reducible exact H) | (have H2_ := (Option.bind_some _ _).symm.trans H; rw [hy132]; with_reducible exact H2_) | (have H2_ := (Option.bind_some _ _).symm.trans H; with_reducible exact H2_) | with_reducible exact H | (rw [hy132]; exact H) | exact H
          have Ny132 := Aside0.mk hy132
          clear hy132
          replace H := Option.bind_eq_some_iff.mp H
          obtain ⟨t135, A90, H⟩ := H
          replace H : (if t135 = 7 then ((ring_Pick.f ([] : List (S39)) 3).bind fun t136 => (if t136 = (-1) then ((ring_Moved.f (([(⟨7, 1⟩ : S39)] : List (S39))) ([] : List (S39)) (([3] : List Int))).bind fun t143 => (some ((t143.length : Int) == 1))) else (some false))) else (some false)) = some r := H
          have A9 := Aside0.mk A90
          clear A90
          by_cases c10 : t135 = 7
          · rw [if_pos c10] at H
            have c10b0 : (t135 == 7) = true := beq_iff_eq.mpr c10
            have c10b1 : (t135 != 7) = false := bne_eq_false_iff_eq.mpr c10
            clear c10
            replace H := Option.bind_eq_some_iff.mp H
            obtain ⟨t136, A110, H⟩ := H
            replace H : (if t136 = (-1) then ((ring_Moved.f (([(⟨7, 1⟩ : S39)] : List (S39))) ([] : List (S39)) (([3] : List Int))).bind fun t143 => (some ((t143.length : Int) == 1))) else (some false)) = some r := H
            have A11 := Aside0.mk A110
            clear A110
            by_cases c12 : t136 = (-1)
            · rw [if_pos c12] at H
              have c12b0 : (t136 == (-1)) = true := beq_iff_eq.mpr c12
              have c12b1 : (t136 != (-1)) = false := bne_eq_false_iff_eq.mpr c12
              clear c12
              obtain ⟨y137, hy137⟩ : ∃ y_ : List (S39), y_ = (([(⟨7, 1⟩ : S39)] : List (S39))) := ⟨_, rfl⟩
              replace H : ((ring_Moved.f y137 ([] : List (S39)) (([3] : List Int))).bind fun t143 => (some ((t143.length : Int) == 1))) = some r := by first | (rw [hy137]; with_reducible exact H) | (have H2_ := (Option.bind_some _ _).symm.trans H; rw [hy137]; with_reducible exact H2_) | (have H2_ := (Option.bind_some _ _).symm.trans H; with_reducible exact H2_) | with_reducible exact H | (rw [hy137]; exact H) | exact H
              have Ny137 := Aside0.mk hy137
              clear hy137
              obtain ⟨y140, hy140⟩ : ∃ y_ : List Int, y_ = (([3] : List Int)) := ⟨_, rfl⟩
              replace H : ((ring_Moved.f y137 ([] : List (S39)) y140).bind fun t143 => (some ((t143.length : Int) == 1))) = some r := by first | (rw [hy140]; with_reducible exact H) | (have H2_ := (Option.bind_some _ _).symm.trans H; rw [hy140]; with_reducible exact H2_) | (have H2_ := (Option.bind_some _ _).symm.trans H; with_reducible exact H2_) | with_reducible exact H | (rw [hy140]; exact H) | exact H
              have Ny140 := Aside0.mk hy140
              clear hy140
              replace H := Option.bind_eq_some_iff.mp H
              obtain ⟨t143, A130, H⟩ := H
              replace H : (some ((t143.length : Int) == 1)) = some r := H
              have A13 := Aside0.mk A130
              clear A130
              obtain rfl := Option.some.inj H
              go_enter Try.func27, Try.ntmps27
              go_wp2_with (first | ((with_reducible refine gate_dst (N := 4) rfl ?_); (try (refine gate_guard (by rfl) ?_; dsimp only)); refine Kd.R_lit k30 _ 30 ?hg (N := 4) ?hd (xs := ([(⟨5, 1⟩ : S30), (⟨9, 2⟩ : S30)] : List (S30))) (inner := [.int .u64 5, .int .i64 1, .int .u64 9, .int .i64 2]) (ok := fun _ => True) (okp := fun _ => True) ?hr ?hp (fun _ hk => hk) trivial (Below.refl _ _) (Nat.le_refl _) (by simp) ?_; (case hd => rfl); (case hg => rfl); (case hr => first | (go_simp; done) | (go_simp; rfl)); (case hp => exact (Reps.c2 (show Kd.M k30 _ _ _ (⟨5, 1⟩ : S30) [.int .u64 5, .int .i64 1] from (k30_mkM _ _ _ (⟨5, 1⟩ : S30) )) (Reps.c2 (show Kd.M k30 _ _ _ (⟨9, 2⟩ : S30) [.int .u64 9, .int .i64 2] from (k30_mkM _ _ _ (⟨9, 2⟩ : S30) )) (Reps.none _ _)))); intro v126 w14 ho15 hb hg_ hnew_; clear hg_ hnew_; (first | rw [← Ny125.out] at ho15 | (simp only [Int.reduceToNat] at ho15; rw [← Ny125.out] at ho15)); have n0_ := Aside0.mk (Kd.R_lower ho15 (below_size (by repeat (first | (with_reducible first | exact HB.out | apply below_alloc | apply pw_below_drewN | apply below_drew1) | exact HB.out)))); have n1_ := Aside0.mk (below_step (by repeat (first | (with_reducible first | exact HB.out | apply below_alloc | apply pw_below_drewN | apply below_drew1) | exact HB.out)) hb); clear HB; have HO127 := n0_; have HB := n1_; clear n0_ n1_; clear hb ho15; obtain ⟨Ao16, co16, eo16⟩ := Kd.R_slice HO127.out; subst eo16) | ((with_reducible refine gate_callee (f := 28) rfl ?_); refine goesL_ (some 6) rfl rfl Try.func28 (by kernel_rfl) rfl #[.slice Ao16 y125.length co16, .int .u64 5] rfl (by (try simp only [List.map_toArray, List.map_cons, List.map_nil]); first | done | rfl | (simp only [List.length_drop, List.length_take]; rfl)) ?_; (with_reducible refine (ring_Succ.calls _ _ y125 5 t128 _ ?side1 ?side2 A1.out).mono ?_); (case side1 => repeat (first | exact (Kd.R_reads' HO127.out).2.2 | (with_reducible refine Kd.C_alloc ?_ _) | (with_reducible refine Kd.C_drewN ?_ _) | (with_reducible refine Kd.C_drew ?_))); (case side2 => exact (Kd.R_reads' HO127.out).2.1); (try clear A1); rintro e w17 ⟨rfl, hb⟩; refine ⟨_, rfl, ?_⟩; have n0_ := Aside0.mk (Kd.R_below (by (with_reducible repeat (first | apply Kd.R_alloc | apply Kd.R_drewN | apply Kd.R_drew)); exact HO127.out) hb); have n1_ := Aside0.mk (below_step (by repeat (first | (with_reducible first | exact HB.out | apply below_alloc | apply pw_below_drewN | apply below_drew1) | exact HB.out)) hb); clear HO127; clear HB; have HO127 := n0_; have HB := n1_; clear n0_ n1_; (try clear hb); (try clear hb2); (try clear hk); (try clear hi)) | (go_at_call 28; (with_reducible refine (ring_Succ.calls _ _ y125 6 t129 _ ?side1 ?side2 A3.out).mono ?_); (case side1 => repeat (first | exact (Kd.R_reads' HO127.out).2.2 | (with_reducible refine Kd.C_alloc ?_ _) | (with_reducible refine Kd.C_drewN ?_ _) | (with_reducible refine Kd.C_drew ?_))); (case side2 => exact (Kd.R_reads' HO127.out).2.1); (try clear A3); rintro e w18 ⟨rfl, hb⟩; have n0_ := Aside0.mk (Kd.R_below (by (with_reducible repeat (first | apply Kd.R_alloc | apply Kd.R_drewN | apply Kd.R_drew)); exact HO127.out) hb); have n1_ := Aside0.mk (below_step (by repeat (first | (with_reducible first | exact HB.out | apply below_alloc | apply pw_below_drewN | apply below_drew1) | exact HB.out)) hb); clear HO127; clear HB; have HO127 := n0_; have HB := n1_; clear n0_ n1_; (try clear hb); (try clear hb2); (try clear hk); (try clear hi)) | (go_at_call 28; (with_reducible refine (ring_Succ.calls _ _ y125 10 t130 _ ?side1 ?side2 A5.out).mono ?_); (case side1 => repeat (first | exact (Kd.R_reads' HO127.out).2.2 | (with_reducible refine Kd.C_alloc ?_ _) | (with_reducible refine Kd.C_drewN ?_ _) | (with_reducible refine Kd.C_drew ?_))); (case side2 => exact (Kd.R_reads' HO127.out).2.1); (try clear A5); rintro e w19 ⟨rfl, hb⟩; have n0_ := Aside0.mk (Kd.R_below (by (with_reducible repeat (first | apply Kd.R_alloc | apply Kd.R_drewN | apply Kd.R_drew)); exact HO127.out) hb); have n1_ := Aside0.mk (below_step (by repeat (first | (with_reducible first | exact HB.out | apply below_alloc | apply pw_below_drewN | apply below_drew1) | exact HB.out)) hb); clear HO127; clear HB; have HO127 := n0_; have HB := n1_; clear n0_ n1_; (try clear hb); (try clear hb2); (try clear hk); (try clear hi)) | (go_at_call 28; (refine (ring_Succ.calls _ _ ([] : List (S30)) 1 t131 _ ?side1 ?side2 A7.out).mono ?_); (case side1 => exact Kd.C_nil _ _); (case side2 => exact Nat.le_refl _); (try clear A7); rintro e w20 ⟨rfl, hb⟩; have n0_ := Aside0.mk (Kd.R_below (by (with_reducible repeat (first | apply Kd.R_alloc | apply Kd.R_drewN | apply Kd.R_drew)); exact HO127.out) hb); have n1_ := Aside0.mk (below_step (by repeat (first | (with_reducible first | exact HB.out | apply below_alloc | apply pw_below_drewN | apply below_drew1) | exact HB.out)) hb); clear HO127; clear HB; have HO127 := n0_; have HB := n1_; clear n0_ n1_; (try clear hb); (try clear hb2); (try clear hk); (try clear hi)) | ((with_reducible refine gate_dst (N := 24) rfl ?_); (try (refine gate_guard (by rfl) ?_; dsimp only)); refine Kd.R_lit k39 _ 39 ?hg (N := 24) ?hd (xs := ([(⟨7, 1⟩ : S39)] : List (S39))) (inner := [.int .i64 7, .int .i64 1]) (ok := fun _ => True) (okp := fun _ => True) ?hr ?hp (fun _ hk => hk) trivial (Below.refl _ _) (Nat.le_refl _) (by simp) ?_; (case hd => rfl); (case hg => rfl); (case hr => first | (go_simp; done) | (go_simp; rfl)); (case hp => exact (Reps.c2 (show Kd.M k39 _ _ _ (⟨7, 1⟩ : S39) [.int .i64 7, .int .i64 1] from (k39_mkM _ _ _ (⟨7, 1⟩ : S39) )) (Reps.none _ _))); intro v133 w21 ho22 hb hg_ hnew_; clear hg_ hnew_; (first | rw [← Ny132.out] at ho22 | (simp only [Int.reduceToNat] at ho22; rw [← Ny132.out] at ho22)); have n0_ := Aside0.mk (Kd.R_below (by (with_reducible repeat (first | apply Kd.R_alloc | apply Kd.R_drewN | apply Kd.R_drew)); exact HO127.out) hb); have n1_ := Aside0.mk (Kd.R_lower ho22 (below_size (by repeat (first | (with_reducible first | exact HB.out | apply below_alloc | apply pw_below_drewN | apply below_drew1) | exact HB.out)))); have n2_ := Aside0.mk (below_step (by repeat (first | (with_reducible first | exact HB.out | apply below_alloc | apply pw_below_drewN | apply below_drew1) | exact HB.out)) hb); clear HO127; clear HB; have HO127 := n0_; have HO134 := n1_; have HB := n2_; clear n0_ n1_ n2_; clear hb ho22; obtain ⟨Ao23, co23, eo23⟩ := Kd.R_slice HO134.out; subst eo23) | (go_at_call 34; (with_reducible refine (ring_Pick.calls _ _ y132 3 t135 _ ?side1 ?side2 A9.out).mono ?_); (case side1 => repeat (first | exact (Kd.R_reads' HO134.out).2.2 | (with_reducible refine Kd.C_alloc ?_ _) | (with_reducible refine Kd.C_drewN ?_ _) | (with_reducible refine Kd.C_drew ?_))); (case side2 => exact (Kd.R_reads' HO134.out).2.1); (try clear A9); rintro e w24 ⟨rfl, hb⟩; have n0_ := Aside0.mk (Kd.R_below (by (with_reducible repeat (first | apply Kd.R_alloc | apply Kd.R_drewN | apply Kd.R_drew)); exact HO127.out) hb); have n1_ := Aside0.mk (Kd.R_below (by (with_reducible repeat (first | apply Kd.R_alloc | apply Kd.R_drewN | apply Kd.R_drew)); exact HO134.out) hb); have n2_ := Aside0.mk (below_step (by repeat (first | (with_reducible first | exact HB.out | apply below_alloc | apply pw_below_drewN | apply below_drew1) | exact HB.out)) hb); clear HO127; clear HO134; clear HB; have HO127 := n0_; have HO134 := n1_; have HB := n2_; clear n0_ n1_ n2_; (try clear hb); (try clear hb2); (try clear hk); (try clear hi)) | (go_at_call 34; (refine (ring_Pick.calls _ _ ([] : List (S39)) 3 t136 _ ?side1 ?side2 A11.out).mono ?_); (case side1 => exact Kd.C_nil _ _); (case side2 => exact Nat.le_refl _); (try clear A11); rintro e w25 ⟨rfl, hb⟩; have n0_ := Aside0.mk (Kd.R_below (by (with_reducible repeat (first | apply Kd.R_alloc | apply Kd.R_drewN | apply Kd.R_drew)); exact HO127.out) hb); have n1_ := Aside0.mk (Kd.R_below (by (with_reducible repeat (first | apply Kd.R_alloc | apply Kd.R_drewN | apply Kd.R_drew)); exact HO134.out) hb); have n2_ := Aside0.mk (below_step (by repeat (first | (with_reducible first | exact HB.out | apply below_alloc | apply pw_below_drewN | apply below_drew1) | exact HB.out)) hb); clear HO127; clear HO134; clear HB; have HO127 := n0_; have HO134 := n1_; have HB := n2_; clear n0_ n1_ n2_; (try clear hb); (try clear hb2); (try clear hk); (try clear hi)) | ((with_reducible refine gate_dst (N := 34) rfl ?_); (try (refine gate_guard (by rfl) ?_; dsimp only)); refine Kd.R_lit k39 _ 39 ?hg (N := 34) ?hd (xs := ([(⟨7, 1⟩ : S39)] : List (S39))) (inner := [.int .i64 7, .int .i64 1]) (ok := fun _ => True) (okp := fun _ => True) ?hr ?hp (fun _ hk => hk) trivial (Below.refl _ _) (Nat.le_refl _) (by simp) ?_; (case hd => rfl); (case hg => rfl); (case hr => first | (go_simp; done) | (go_simp; rfl)); (case hp => exact (Reps.c2 (show Kd.M k39 _ _ _ (⟨7, 1⟩ : S39) [.int .i64 7, .int .i64 1] from (k39_mkM _ _ _ (⟨7, 1⟩ : S39) )) (Reps.none _ _))); intro v138 w26 ho27 hb hg_ hnew_; clear hg_ hnew_; (first | rw [← Ny137.out] at ho27 | (simp only [Int.reduceToNat] at ho27; rw [← Ny137.out] at ho27)); have n0_ := Aside0.mk (Kd.R_below (by (with_reducible repeat (first | apply Kd.R_alloc | apply Kd.R_drewN | apply Kd.R_drew)); exact HO127.out) hb); have n1_ := Aside0.mk (Kd.R_elder' (by (with_reducible repeat (first | apply Kd.R_alloc | apply Kd.R_drewN | apply Kd.R_drew)); exact HO134.out) (Kd.R_base ho27) hb); have n2_ := Aside0.mk (Kd.R_lower (Kd.R_new' ho27 (Kd.R_lt (by (with_reducible repeat (first | apply Kd.R_alloc | apply Kd.R_drewN | apply Kd.R_drew)); exact HO134.out))) (below_size (by repeat (first | (with_reducible first | exact HB.out | apply below_alloc | apply pw_below_drewN | apply below_drew1) | exact HB.out)))); have n3_ := Aside0.mk (below_step (by repeat (first | (with_reducible first | exact HB.out | apply below_alloc | apply pw_below_drewN | apply below_drew1) | exact HB.out)) hb); clear HO127; clear HO134; clear HB; have HO127 := n0_; have HO134 := n1_; have HO139 := n2_; have HB := n3_; clear n0_ n1_ n2_ n3_; clear hb ho27) | ((with_reducible refine gate_dst (N := 35) rfl ?_); (try (refine gate_guard (by rfl) ?_; dsimp only)); refine Kd.R_lit (Kd.int .u64) _ 28 ?hg (N := 35) ?hd (xs := ([3] : List Int)) (inner := [.int .u64 3]) (ok := fun _ => True) (okp := fun _ => True) ?hr ?hp (fun _ hk => hk) trivial (Below.refl _ _) (Nat.le_refl _) (by simp) ?_; (case hd => rfl); (case hg => rfl); (case hr => first | (go_simp; done) | (go_simp; rfl)); (case hp => exact (Reps.one (show Kd.M (Kd.int .u64) _ _ _ 3 [.int .u64 3] from rfl) (Reps.none _ _))); intro v141 w28 ho29 hb hg_ hnew_; clear hg_ hnew_; (first | rw [← Ny140.out] at ho29 | (simp only [Int.reduceToNat] at ho29; rw [← Ny140.out] at ho29)); have n0_ := Aside0.mk (Kd.R_below (by (with_reducible repeat (first | apply Kd.R_alloc | apply Kd.R_drewN | apply Kd.R_drew)); exact HO127.out) hb); have n1_ := Aside0.mk (Kd.R_below (by (with_reducible repeat (first | apply Kd.R_alloc | apply Kd.R_drewN | apply Kd.R_drew)); exact HO134.out) hb); have n2_ := Aside0.mk (Kd.R_below (by (with_reducible repeat (first | apply Kd.R_alloc | apply Kd.R_drewN | apply Kd.R_drew)); exact HO139.out) hb); have n3_ := Aside0.mk (Kd.R_lower ho29 (below_size (by repeat (first | (with_reducible first | exact HB.out | apply below_alloc | apply pw_below_drewN | apply below_drew1) | exact HB.out)))); have n4_ := Aside0.mk (below_step (by repeat (first | (with_reducible first | exact HB.out | apply below_alloc | apply pw_below_drewN | apply below_drew1) | exact HB.out)) hb); clear HO127; clear HO134; clear HO139; clear HB; have HO127 := n0_; have HO134 := n1_; have HO139 := n2_; have HO142 := n3_; have HB := n4_; clear n0_ n1_ n2_ n3_ n4_; clear hb ho29; obtain ⟨Ao30, co30, eo30⟩ := Kd.R_slice HO139.out; subst eo30; obtain ⟨Ao31, co31, eo31⟩ := Kd.R_slice HO142.out; subst eo31) | (go_at_call 32; (refine (ring_Moved.calls _ _ y137 _ _ ([] : List (S39)) _ _ y140 t143 _ ?side1 ?side2 ?side3 ?side4 ?side5 ?side6 A13.out).mono ?_); (case side1 => repeat (first | exact (Kd.R_reads' HO139.out).2.2 | (with_reducible refine Kd.C_alloc ?_ _) | (with_reducible refine Kd.C_drewN ?_ _) | (with_reducible refine Kd.C_drew ?_))); (case side2 => exact (Kd.R_reads' HO139.out).2.1); (case side3 => exact Kd.C_nil _ _); (case side4 => exact Nat.le_refl _); (case side5 => repeat (first | exact (Kd.R_reads' HO142.out).2.2 | (with_reducible refine Kd.C_alloc ?_ _) | (with_reducible refine Kd.C_drewN ?_ _) | (with_reducible refine Kd.C_drew ?_))); (case side6 => exact (Kd.R_reads' HO142.out).2.1); (try clear A13); rintro e w32 ⟨v144, rfl, ho0, hb⟩; have n0_ := Aside0.mk (Kd.R_below (by (with_reducible repeat (first | apply Kd.R_alloc | apply Kd.R_drewN | apply Kd.R_drew)); exact HO127.out) hb); have n1_ := Aside0.mk (Kd.R_below (by (with_reducible repeat (first | apply Kd.R_alloc | apply Kd.R_drewN | apply Kd.R_drew)); exact HO134.out) hb); have n2_ := Aside0.mk (Kd.R_below (by (with_reducible repeat (first | apply Kd.R_alloc | apply Kd.R_drewN | apply Kd.R_drew)); exact HO139.out) hb); have n3_ := Aside0.mk (Kd.R_below (by (with_reducible repeat (first | apply Kd.R_alloc | apply Kd.R_drewN | apply Kd.R_drew)); exact HO142.out) hb); have n4_ := Aside0.mk (Kd.R_lower ho0 (below_size (by repeat (first | (with_reducible first | exact HB.out | apply below_alloc | apply pw_below_drewN | apply below_drew1) | exact HB.out)))); have n5_ := Aside0.mk (below_step (by repeat (first | (with_reducible first | exact HB.out | apply below_alloc | apply pw_below_drewN | apply below_drew1) | exact HB.out)) hb); clear HO127; clear HO134; clear HO139; clear HO142; clear HB; have HO127 := n0_; have HO134 := n1_; have HO139 := n2_; have HO142 := n3_; have HO145 := n4_; have HB := n5_; clear n0_ n1_ n2_ n3_ n4_ n5_; (try clear hb); (try clear hb2); (try clear hk); (try clear hi); (try clear ho0); obtain ⟨Ao33, co33, eo33⟩ := Kd.R_slice HO145.out; subst eo33))
              go_ret
              exact ⟨by first | rfl | (simp [errW_none, errW_some] <;> rfl) | (simp [*, errW_none, errW_some] <;> rfl), by repeat (first | (with_reducible first | exact HB.out | apply below_alloc | apply pw_below_drewN | apply below_drew1) | exact HB.out)⟩
            · rw [if_neg c12] at H
              have c12b0 : (t136 == (-1)) = false := beq_eq_false_iff_ne.mpr c12
              have c12b1 : (t136 != (-1)) = true := bne_iff_ne.mpr c12
              obtain rfl := Option.some.inj H
              go_enter Try.func27, Try.ntmps27
              go_wp2_with (first | ((with_reducible refine gate_dst (N := 4) rfl ?_); (try (refine gate_guard (by rfl) ?_; dsimp only)); refine Kd.R_lit k30 _ 30 ?hg (N := 4) ?hd (xs := ([(⟨5, 1⟩ : S30), (⟨9, 2⟩ : S30)] : List (S30))) (inner := [.int .u64 5, .int .i64 1, .int .u64 9, .int .i64 2]) (ok := fun _ => True) (okp := fun _ => True) ?hr ?hp (fun _ hk => hk) trivial (Below.refl _ _) (Nat.le_refl _) (by simp) ?_; (case hd => rfl); (case hg => rfl); (case hr => first | (go_simp; done) | (go_simp; rfl)); (case hp => exact (Reps.c2 (show Kd.M k30 _ _ _ (⟨5, 1⟩ : S30) [.int .u64 5, .int .i64 1] from (k30_mkM _ _ _ (⟨5, 1⟩ : S30) )) (Reps.c2 (show Kd.M k30 _ _ _ (⟨9, 2⟩ : S30) [.int .u64 9, .int .i64 2] from (k30_mkM _ _ _ (⟨9, 2⟩ : S30) )) (Reps.none _ _)))); intro v126 w34 ho35 hb hg_ hnew_; clear hg_ hnew_; (first | rw [← Ny125.out] at ho35 | (simp only [Int.reduceToNat] at ho35; rw [← Ny125.out] at ho35)); have n0_ := Aside0.mk (Kd.R_lower ho35 (below_size (by repeat (first | (with_reducible first | exact HB.out | apply below_alloc | apply pw_below_drewN | apply below_drew1) | exact HB.out)))); have n1_ := Aside0.mk (below_step (by repeat (first | (with_reducible first | exact HB.out | apply below_alloc | apply pw_below_drewN | apply below_drew1) | exact HB.out)) hb); clear HB; have HO127 := n0_; have HB := n1_; clear n0_ n1_; clear hb ho35; obtain ⟨Ao36, co36, eo36⟩ := Kd.R_slice HO127.out; subst eo36) | ((with_reducible refine gate_callee (f := 28) rfl ?_); refine goesL_ (some 6) rfl rfl Try.func28 (by kernel_rfl) rfl #[.slice Ao36 y125.length co36, .int .u64 5] rfl (by (try simp only [List.map_toArray, List.map_cons, List.map_nil]); first | done | rfl | (simp only [List.length_drop, List.length_take]; rfl)) ?_; (with_reducible refine (ring_Succ.calls _ _ y125 5 t128 _ ?side1 ?side2 A1.out).mono ?_); (case side1 => repeat (first | exact (Kd.R_reads' HO127.out).2.2 | (with_reducible refine Kd.C_alloc ?_ _) | (with_reducible refine Kd.C_drewN ?_ _) | (with_reducible refine Kd.C_drew ?_))); (case side2 => exact (Kd.R_reads' HO127.out).2.1); (try clear A1); rintro e w37 ⟨rfl, hb⟩; refine ⟨_, rfl, ?_⟩; have n0_ := Aside0.mk (Kd.R_below (by (with_reducible repeat (first | apply Kd.R_alloc | apply Kd.R_drewN | apply Kd.R_drew)); exact HO127.out) hb); have n1_ := Aside0.mk (below_step (by repeat (first | (with_reducible first | exact HB.out | apply below_alloc | apply pw_below_drewN | apply below_drew1) | exact HB.out)) hb); clear HO127; clear HB; have HO127 := n0_; have HB := n1_; clear n0_ n1_; (try clear hb); (try clear hb2); (try clear hk); (try clear hi)) | (go_at_call 28; (with_reducible refine (ring_Succ.calls _ _ y125 6 t129 _ ?side1 ?side2 A3.out).mono ?_); (case side1 => repeat (first | exact (Kd.R_reads' HO127.out).2.2 | (with_reducible refine Kd.C_alloc ?_ _) | (with_reducible refine Kd.C_drewN ?_ _) | (with_reducible refine Kd.C_drew ?_))); (case side2 => exact (Kd.R_reads' HO127.out).2.1); (try clear A3); rintro e w38 ⟨rfl, hb⟩; have n0_ := Aside0.mk (Kd.R_below (by (with_reducible repeat (first | apply Kd.R_alloc | apply Kd.R_drewN | apply Kd.R_drew)); exact HO127.out) hb); have n1_ := Aside0.mk (below_step (by repeat (first | (with_reducible first | exact HB.out | apply below_alloc | apply pw_below_drewN | apply below_drew1) | exact HB.out)) hb); clear HO127; clear HB; have HO127 := n0_; have HB := n1_; clear n0_ n1_; (try clear hb); (try clear hb2); (try clear hk); (try clear hi)) | (go_at_call 28; (with_reducible refine (ring_Succ.calls _ _ y125 10 t130 _ ?side1 ?side2 A5.out).mono ?_); (case side1 => repeat (first | exact (Kd.R_reads' HO127.out).2.2 | (with_reducible refine Kd.C_alloc ?_ _) | (with_reducible refine Kd.C_drewN ?_ _) | (with_reducible refine Kd.C_drew ?_))); (case side2 => exact (Kd.R_reads' HO127.out).2.1); (try clear A5); rintro e w39 ⟨rfl, hb⟩; have n0_ := Aside0.mk (Kd.R_below (by (with_reducible repeat (first | apply Kd.R_alloc | apply Kd.R_drewN | apply Kd.R_drew)); exact HO127.out) hb); have n1_ := Aside0.mk (below_step (by repeat (first | (with_reducible first | exact HB.out | apply below_alloc | apply pw_below_drewN | apply below_drew1) | exact HB.out)) hb); clear HO127; clear HB; have HO127 := n0_; have HB := n1_; clear n0_ n1_; (try clear hb); (try clear hb2); (try clear hk); (try clear hi)) | (go_at_call 28; (refine (ring_Succ.calls _ _ ([] : List (S30)) 1 t131 _ ?side1 ?side2 A7.out).mono ?_); (case side1 => exact Kd.C_nil _ _); (case side2 => exact Nat.le_refl _); (try clear A7); rintro e w40 ⟨rfl, hb⟩; have n0_ := Aside0.mk (Kd.R_below (by (with_reducible repeat (first | apply Kd.R_alloc | apply Kd.R_drewN | apply Kd.R_drew)); exact HO127.out) hb); have n1_ := Aside0.mk (below_step (by repeat (first | (with_reducible first | exact HB.out | apply below_alloc | apply pw_below_drewN | apply below_drew1) | exact HB.out)) hb); clear HO127; clear HB; have HO127 := n0_; have HB := n1_; clear n0_ n1_; (try clear hb); (try clear hb2); (try clear hk); (try clear hi)) | ((with_reducible refine gate_dst (N := 24) rfl ?_); (try (refine gate_guard (by rfl) ?_; dsimp only)); refine Kd.R_lit k39 _ 39 ?hg (N := 24) ?hd (xs := ([(⟨7, 1⟩ : S39)] : List (S39))) (inner := [.int .i64 7, .int .i64 1]) (ok := fun _ => True) (okp := fun _ => True) ?hr ?hp (fun _ hk => hk) trivial (Below.refl _ _) (Nat.le_refl _) (by simp) ?_; (case hd => rfl); (case hg => rfl); (case hr => first | (go_simp; done) | (go_simp; rfl)); (case hp => exact (Reps.c2 (show Kd.M k39 _ _ _ (⟨7, 1⟩ : S39) [.int .i64 7, .int .i64 1] from (k39_mkM _ _ _ (⟨7, 1⟩ : S39) )) (Reps.none _ _))); intro v133 w41 ho42 hb hg_ hnew_; clear hg_ hnew_; (first | rw [← Ny132.out] at ho42 | (simp only [Int.reduceToNat] at ho42; rw [← Ny132.out] at ho42)); have n0_ := Aside0.mk (Kd.R_below (by (with_reducible repeat (first | apply Kd.R_alloc | apply Kd.R_drewN | apply Kd.R_drew)); exact HO127.out) hb); have n1_ := Aside0.mk (Kd.R_lower ho42 (below_size (by repeat (first | (with_reducible first | exact HB.out | apply below_alloc | apply pw_below_drewN | apply below_drew1) | exact HB.out)))); have n2_ := Aside0.mk (below_step (by repeat (first | (with_reducible first | exact HB.out | apply below_alloc | apply pw_below_drewN | apply below_drew1) | exact HB.out)) hb); clear HO127; clear HB; have HO127 := n0_; have HO134 := n1_; have HB := n2_; clear n0_ n1_ n2_; clear hb ho42; obtain ⟨Ao43, co43, eo43⟩ := Kd.R_slice HO134.out; subst eo43) | (go_at_call 34; (with_reducible refine (ring_Pick.calls _ _ y132 3 t135 _ ?side1 ?side2 A9.out).mono ?_); (case side1 => repeat (first | exact (Kd.R_reads' HO134.out).2.2 | (with_reducible refine Kd.C_alloc ?_ _) | (with_reducible refine Kd.C_drewN ?_ _) | (with_reducible refine Kd.C_drew ?_))); (case side2 => exact (Kd.R_reads' HO134.out).2.1); (try clear A9); rintro e w44 ⟨rfl, hb⟩; have n0_ := Aside0.mk (Kd.R_below (by (with_reducible repeat (first | apply Kd.R_alloc | apply Kd.R_drewN | apply Kd.R_drew)); exact HO127.out) hb); have n1_ := Aside0.mk (Kd.R_below (by (with_reducible repeat (first | apply Kd.R_alloc | apply Kd.R_drewN | apply Kd.R_drew)); exact HO134.out) hb); have n2_ := Aside0.mk (below_step (by repeat (first | (with_reducible first | exact HB.out | apply below_alloc | apply pw_below_drewN | apply below_drew1) | exact HB.out)) hb); clear HO127; clear HO134; clear HB; have HO127 := n0_; have HO134 := n1_; have HB := n2_; clear n0_ n1_ n2_; (try clear hb); (try clear hb2); (try clear hk); (try clear hi)) | (go_at_call 34; (refine (ring_Pick.calls _ _ ([] : List (S39)) 3 t136 _ ?side1 ?side2 A11.out).mono ?_); (case side1 => exact Kd.C_nil _ _); (case side2 => exact Nat.le_refl _); (try clear A11); rintro e w45 ⟨rfl, hb⟩; have n0_ := Aside0.mk (Kd.R_below (by (with_reducible repeat (first | apply Kd.R_alloc | apply Kd.R_drewN | apply Kd.R_drew)); exact HO127.out) hb); have n1_ := Aside0.mk (Kd.R_below (by (with_reducible repeat (first | apply Kd.R_alloc | apply Kd.R_drewN | apply Kd.R_drew)); exact HO134.out) hb); have n2_ := Aside0.mk (below_step (by repeat (first | (with_reducible first | exact HB.out | apply below_alloc | apply pw_below_drewN | apply below_drew1) | exact HB.out)) hb); clear HO127; clear HO134; clear HB; have HO127 := n0_; have HO134 := n1_; have HB := n2_; clear n0_ n1_ n2_; (try clear hb); (try clear hb2); (try clear hk); (try clear hi)))
              go_ret
              exact ⟨by first | rfl | (simp [errW_none, errW_some] <;> rfl) | (simp [*, errW_none, errW_some] <;> rfl), by repeat (first | (with_reducible first | exact HB.out | apply below_alloc | apply pw_below_drewN | apply below_drew1) | exact HB.out)⟩
          · rw [if_neg c10] at H
            have c10b0 : (t135 == 7) = false := beq_eq_false_iff_ne.mpr c10
            have c10b1 : (t135 != 7) = true := bne_iff_ne.mpr c10
            obtain rfl := Option.some.inj H
            go_enter Try.func27, Try.ntmps27
            go_wp2_with (first | ((with_reducible refine gate_dst (N := 4) rfl ?_); (try (refine gate_guard (by rfl) ?_; dsimp only)); refine Kd.R_lit k30 _ 30 ?hg (N := 4) ?hd (xs := ([(⟨5, 1⟩ : S30), (⟨9, 2⟩ : S30)] : List (S30))) (inner := [.int .u64 5, .int .i64 1, .int .u64 9, .int .i64 2]) (ok := fun _ => True) (okp := fun _ => True) ?hr ?hp (fun _ hk => hk) trivial (Below.refl _ _) (Nat.le_refl _) (by simp) ?_; (case hd => rfl); (case hg => rfl); (case hr => first | (go_simp; done) | (go_simp; rfl)); (case hp => exact (Reps.c2 (show Kd.M k30 _ _ _ (⟨5, 1⟩ : S30) [.int .u64 5, .int .i64 1] from (k30_mkM _ _ _ (⟨5, 1⟩ : S30) )) (Reps.c2 (show Kd.M k30 _ _ _ (⟨9, 2⟩ : S30) [.int .u64 9, .int .i64 2] from (k30_mkM _ _ _ (⟨9, 2⟩ : S30) )) (Reps.none _ _)))); intro v126 w46 ho47 hb hg_ hnew_; clear hg_ hnew_; (first | rw [← Ny125.out] at ho47 | (simp only [Int.reduceToNat] at ho47; rw [← Ny125.out] at ho47)); have n0_ := Aside0.mk (Kd.R_lower ho47 (below_size (by repeat (first | (with_reducible first | exact HB.out | apply below_alloc | apply pw_below_drewN | apply below_drew1) | exact HB.out)))); have n1_ := Aside0.mk (below_step (by repeat (first | (with_reducible first | exact HB.out | apply below_alloc | apply pw_below_drewN | apply below_drew1) | exact HB.out)) hb); clear HB; have HO127 := n0_; have HB := n1_; clear n0_ n1_; clear hb ho47; obtain ⟨Ao48, co48, eo48⟩ := Kd.R_slice HO127.out; subst eo48) | ((with_reducible refine gate_callee (f := 28) rfl ?_); refine goesL_ (some 6) rfl rfl Try.func28 (by kernel_rfl) rfl #[.slice Ao48 y125.length co48, .int .u64 5] rfl (by (try simp only [List.map_toArray, List.map_cons, List.map_nil]); first | done | rfl | (simp only [List.length_drop, List.length_take]; rfl)) ?_; (with_reducible refine (ring_Succ.calls _ _ y125 5 t128 _ ?side1 ?side2 A1.out).mono ?_); (case side1 => repeat (first | exact (Kd.R_reads' HO127.out).2.2 | (with_reducible refine Kd.C_alloc ?_ _) | (with_reducible refine Kd.C_drewN ?_ _) | (with_reducible refine Kd.C_drew ?_))); (case side2 => exact (Kd.R_reads' HO127.out).2.1); (try clear A1); rintro e w49 ⟨rfl, hb⟩; refine ⟨_, rfl, ?_⟩; have n0_ := Aside0.mk (Kd.R_below (by (with_reducible repeat (first | apply Kd.R_alloc | apply Kd.R_drewN | apply Kd.R_drew)); exact HO127.out) hb); have n1_ := Aside0.mk (below_step (by repeat (first | (with_reducible first | exact HB.out | apply below_alloc | apply pw_below_drewN | apply below_drew1) | exact HB.out)) hb); clear HO127; clear HB; have HO127 := n0_; have HB := n1_; clear n0_ n1_; (try clear hb); (try clear hb2); (try clear hk); (try clear hi)) | (go_at_call 28; (with_reducible refine (ring_Succ.calls _ _ y125 6 t129 _ ?side1 ?side2 A3.out).mono ?_); (case side1 => repeat (first | exact (Kd.R_reads' HO127.out).2.2 | (with_reducible refine Kd.C_alloc ?_ _) | (with_reducible refine Kd.C_drewN ?_ _) | (with_reducible refine Kd.C_drew ?_))); (case side2 => exact (Kd.R_reads' HO127.out).2.1); (try clear A3); rintro e w50 ⟨rfl, hb⟩; have n0_ := Aside0.mk (Kd.R_below (by (with_reducible repeat (first | apply Kd.R_alloc | apply Kd.R_drewN | apply Kd.R_drew)); exact HO127.out) hb); have n1_ := Aside0.mk (below_step (by repeat (first | (with_reducible first | exact HB.out | apply below_alloc | apply pw_below_drewN | apply below_drew1) | exact HB.out)) hb); clear HO127; clear HB; have HO127 := n0_; have HB := n1_; clear n0_ n1_; (try clear hb); (try clear hb2); (try clear hk); (try clear hi)) | (go_at_call 28; (with_reducible refine (ring_Succ.calls _ _ y125 10 t130 _ ?side1 ?side2 A5.out).mono ?_); (case side1 => repeat (first | exact (Kd.R_reads' HO127.out).2.2 | (with_reducible refine Kd.C_alloc ?_ _) | (with_reducible refine Kd.C_drewN ?_ _) | (with_reducible refine Kd.C_drew ?_))); (case side2 => exact (Kd.R_reads' HO127.out).2.1); (try clear A5); rintro e w51 ⟨rfl, hb⟩; have n0_ := Aside0.mk (Kd.R_below (by (with_reducible repeat (first | apply Kd.R_alloc | apply Kd.R_drewN | apply Kd.R_drew)); exact HO127.out) hb); have n1_ := Aside0.mk (below_step (by repeat (first | (with_reducible first | exact HB.out | apply below_alloc | apply pw_below_drewN | apply below_drew1) | exact HB.out)) hb); clear HO127; clear HB; have HO127 := n0_; have HB := n1_; clear n0_ n1_; (try clear hb); (try clear hb2); (try clear hk); (try clear hi)) | (go_at_call 28; (refine (ring_Succ.calls _ _ ([] : List (S30)) 1 t131 _ ?side1 ?side2 A7.out).mono ?_); (case side1 => exact Kd.C_nil _ _); (case side2 => exact Nat.le_refl _); (try clear A7); rintro e w52 ⟨rfl, hb⟩; have n0_ := Aside0.mk (Kd.R_below (by (with_reducible repeat (first | apply Kd.R_alloc | apply Kd.R_drewN | apply Kd.R_drew)); exact HO127.out) hb); have n1_ := Aside0.mk (below_step (by repeat (first | (with_reducible first | exact HB.out | apply below_alloc | apply pw_below_drewN | apply below_drew1) | exact HB.out)) hb); clear HO127; clear HB; have HO127 := n0_; have HB := n1_; clear n0_ n1_; (try clear hb); (try clear hb2); (try clear hk); (try clear hi)) | ((with_reducible refine gate_dst (N := 24) rfl ?_); (try (refine gate_guard (by rfl) ?_; dsimp only)); refine Kd.R_lit k39 _ 39 ?hg (N := 24) ?hd (xs := ([(⟨7, 1⟩ : S39)] : List (S39))) (inner := [.int .i64 7, .int .i64 1]) (ok := fun _ => True) (okp := fun _ => True) ?hr ?hp (fun _ hk => hk) trivial (Below.refl _ _) (Nat.le_refl _) (by simp) ?_; (case hd => rfl); (case hg => rfl); (case hr => first | (go_simp; done) | (go_simp; rfl)); (case hp => exact (Reps.c2 (show Kd.M k39 _ _ _ (⟨7, 1⟩ : S39) [.int .i64 7, .int .i64 1] from (k39_mkM _ _ _ (⟨7, 1⟩ : S39) )) (Reps.none _ _))); intro v133 w53 ho54 hb hg_ hnew_; clear hg_ hnew_; (first | rw [← Ny132.out] at ho54 | (simp only [Int.reduceToNat] at ho54; rw [← Ny132.out] at ho54)); have n0_ := Aside0.mk (Kd.R_below (by (with_reducible repeat (first | apply Kd.R_alloc | apply Kd.R_drewN | apply Kd.R_drew)); exact HO127.out) hb); have n1_ := Aside0.mk (Kd.R_lower ho54 (below_size (by repeat (first | (with_reducible first | exact HB.out | apply below_alloc | apply pw_below_drewN | apply below_drew1) | exact HB.out)))); have n2_ := Aside0.mk (below_step (by repeat (first | (with_reducible first | exact HB.out | apply below_alloc | apply pw_below_drewN | apply below_drew1) | exact HB.out)) hb); clear HO127; clear HB; have HO127 := n0_; have HO134 := n1_; have HB := n2_; clear n0_ n1_ n2_; clear hb ho54; obtain ⟨Ao55, co55, eo55⟩ := Kd.R_slice HO134.out; subst eo55) | (go_at_call 34; (with_reducible refine (ring_Pick.calls _ _ y132 3 t135 _ ?side1 ?side2 A9.out).mono ?_); (case side1 => repeat (first | exact (Kd.R_reads' HO134.out).2.2 | (with_reducible refine Kd.C_alloc ?_ _) | (with_reducible refine Kd.C_drewN ?_ _) | (with_reducible refine Kd.C_drew ?_))); (case side2 => exact (Kd.R_reads' HO134.out).2.1); (try clear A9); rintro e w56 ⟨rfl, hb⟩; have n0_ := Aside0.mk (Kd.R_below (by (with_reducible repeat (first | apply Kd.R_alloc | apply Kd.R_drewN | apply Kd.R_drew)); exact HO127.out) hb); have n1_ := Aside0.mk (Kd.R_below (by (with_reducible repeat (first | apply Kd.R_alloc | apply Kd.R_drewN | apply Kd.R_drew)); exact HO134.out) hb); have n2_ := Aside0.mk (below_step (by repeat (first | (with_reducible first | exact HB.out | apply below_alloc | apply pw_below_drewN | apply below_drew1) | exact HB.out)) hb); clear HO127; clear HO134; clear HB; have HO127 := n0_; have HO134 := n1_; have HB := n2_; clear n0_ n1_ n2_; (try clear hb); (try clear hb2); (try clear hk); (try clear hi)))
            go_ret
            exact ⟨by first | rfl | (simp [errW_none, errW_some] <;> rfl) | (simp [*, errW_none, errW_some] <;> rfl), by repeat (first | (with_reducible first | exact HB.out | apply below_alloc | apply pw_below_drewN | apply below_drew1) | exact HB.out)⟩
        · rw [if_neg c8] at H
          have c8b0 : (t131 == (-1)) = false := beq_eq_false_iff_ne.mpr c8
          have c8b1 : (t131 != (-1)) = true := bne_iff_ne.mpr c8
          obtain rfl := Option.some.inj H
          go_enter Try.func27, Try.ntmps27
          go_wp2_with (first | ((with_reducible refine gate_dst (N := 4) rfl ?_); (try (refine gate_guard (by rfl) ?_; dsimp only)); refine Kd.R_lit k30 _ 30 ?hg (N := 4) ?hd (xs := ([(⟨5, 1⟩ : S30), (⟨9, 2⟩ : S30)] : List (S30))) (inner := [.int .u64 5, .int .i64 1, .int .u64 9, .int .i64 2]) (ok := fun _ => True) (okp := fun _ => True) ?hr ?hp (fun _ hk => hk) trivial (Below.refl _ _) (Nat.le_refl _) (by simp) ?_; (case hd => rfl); (case hg => rfl); (case hr => first | (go_simp; done) | (go_simp; rfl)); (case hp => exact (Reps.c2 (show Kd.M k30 _ _ _ (⟨5, 1⟩ : S30) [.int .u64 5, .int .i64 1] from (k30_mkM _ _ _ (⟨5, 1⟩ : S30) )) (Reps.c2 (show Kd.M k30 _ _ _ (⟨9, 2⟩ : S30) [.int .u64 9, .int .i64 2] from (k30_mkM _ _ _ (⟨9, 2⟩ : S30) )) (Reps.none _ _)))); intro v126 w57 ho58 hb hg_ hnew_; clear hg_ hnew_; (first | rw [← Ny125.out] at ho58 | (simp only [Int.reduceToNat] at ho58; rw [← Ny125.out] at ho58)); have n0_ := Aside0.mk (Kd.R_lower ho58 (below_size (by repeat (first | (with_reducible first | exact HB.out | apply below_alloc | apply pw_below_drewN | apply below_drew1) | exact HB.out)))); have n1_ := Aside0.mk (below_step (by repeat (first | (with_reducible first | exact HB.out | apply below_alloc | apply pw_below_drewN | apply below_drew1) | exact HB.out)) hb); clear HB; have HO127 := n0_; have HB := n1_; clear n0_ n1_; clear hb ho58; obtain ⟨Ao59, co59, eo59⟩ := Kd.R_slice HO127.out; subst eo59) | ((with_reducible refine gate_callee (f := 28) rfl ?_); refine goesL_ (some 6) rfl rfl Try.func28 (by kernel_rfl) rfl #[.slice Ao59 y125.length co59, .int .u64 5] rfl (by (try simp only [List.map_toArray, List.map_cons, List.map_nil]); first | done | rfl | (simp only [List.length_drop, List.length_take]; rfl)) ?_; (with_reducible refine (ring_Succ.calls _ _ y125 5 t128 _ ?side1 ?side2 A1.out).mono ?_); (case side1 => repeat (first | exact (Kd.R_reads' HO127.out).2.2 | (with_reducible refine Kd.C_alloc ?_ _) | (with_reducible refine Kd.C_drewN ?_ _) | (with_reducible refine Kd.C_drew ?_))); (case side2 => exact (Kd.R_reads' HO127.out).2.1); (try clear A1); rintro e w60 ⟨rfl, hb⟩; refine ⟨_, rfl, ?_⟩; have n0_ := Aside0.mk (Kd.R_below (by (with_reducible repeat (first | apply Kd.R_alloc | apply Kd.R_drewN | apply Kd.R_drew)); exact HO127.out) hb); have n1_ := Aside0.mk (below_step (by repeat (first | (with_reducible first | exact HB.out | apply below_alloc | apply pw_below_drewN | apply below_drew1) | exact HB.out)) hb); clear HO127; clear HB; have HO127 := n0_; have HB := n1_; clear n0_ n1_; (try clear hb); (try clear hb2); (try clear hk); (try clear hi)) | (go_at_call 28; (with_reducible refine (ring_Succ.calls _ _ y125 6 t129 _ ?side1 ?side2 A3.out).mono ?_); (case side1 => repeat (first | exact (Kd.R_reads' HO127.out).2.2 | (with_reducible refine Kd.C_alloc ?_ _) | (with_reducible refine Kd.C_drewN ?_ _) | (with_reducible refine Kd.C_drew ?_))); (case side2 => exact (Kd.R_reads' HO127.out).2.1); (try clear A3); rintro e w61 ⟨rfl, hb⟩; have n0_ := Aside0.mk (Kd.R_below (by (with_reducible repeat (first | apply Kd.R_alloc | apply Kd.R_drewN | apply Kd.R_drew)); exact HO127.out) hb); have n1_ := Aside0.mk (below_step (by repeat (first | (with_reducible first | exact HB.out | apply below_alloc | apply pw_below_drewN | apply below_drew1) | exact HB.out)) hb); clear HO127; clear HB; have HO127 := n0_; have HB := n1_; clear n0_ n1_; (try clear hb); (try clear hb2); (try clear hk); (try clear hi)) | (go_at_call 28; (with_reducible refine (ring_Succ.calls _ _ y125 10 t130 _ ?side1 ?side2 A5.out).mono ?_); (case side1 => repeat (first | exact (Kd.R_reads' HO127.out).2.2 | (with_reducible refine Kd.C_alloc ?_ _) | (with_reducible refine Kd.C_drewN ?_ _) | (with_reducible refine Kd.C_drew ?_))); (case side2 => exact (Kd.R_reads' HO127.out).2.1); (try clear A5); rintro e w62 ⟨rfl, hb⟩; have n0_ := Aside0.mk (Kd.R_below (by (with_reducible repeat (first | apply Kd.R_alloc | apply Kd.R_drewN | apply Kd.R_drew)); exact HO127.out) hb); have n1_ := Aside0.mk (below_step (by repeat (first | (with_reducible first | exact HB.out | apply below_alloc | apply pw_below_drewN | apply below_drew1) | exact HB.out)) hb); clear HO127; clear HB; have HO127 := n0_; have HB := n1_; clear n0_ n1_; (try clear hb); (try clear hb2); (try clear hk); (try clear hi)) | (go_at_call 28; (refine (ring_Succ.calls _ _ ([] : List (S30)) 1 t131 _ ?side1 ?side2 A7.out).mono ?_); (case side1 => exact Kd.C_nil _ _); (case side2 => exact Nat.le_refl _); (try clear A7); rintro e w63 ⟨rfl, hb⟩; have n0_ := Aside0.mk (Kd.R_below (by (with_reducible repeat (first | apply Kd.R_alloc | apply Kd.R_drewN | apply Kd.R_drew)); exact HO127.out) hb); have n1_ := Aside0.mk (below_step (by repeat (first | (with_reducible first | exact HB.out | apply below_alloc | apply pw_below_drewN | apply below_drew1) | exact HB.out)) hb); clear HO127; clear HB; have HO127 := n0_; have HB := n1_; clear n0_ n1_; (try clear hb); (try clear hb2); (try clear hk); (try clear hi)))
          go_ret
          exact ⟨by first | rfl | (simp [errW_none, errW_some] <;> rfl) | (simp [*, errW_none, errW_some] <;> rfl), by repeat (first | (with_reducible first | exact HB.out | apply below_alloc | apply pw_below_drewN | apply below_drew1) | exact HB.out)⟩
      · rw [if_neg c6] at H
        have c6b0 : (t130 == 1) = false := beq_eq_false_iff_ne.mpr c6
        have c6b1 : (t130 != 1) = true := bne_iff_ne.mpr c6
        obtain rfl := Option.some.inj H
        go_enter Try.func27, Try.ntmps27
        go_wp2_with (first | ((with_reducible refine gate_dst (N := 4) rfl ?_); (try (refine gate_guard (by rfl) ?_; dsimp only)); refine Kd.R_lit k30 _ 30 ?hg (N := 4) ?hd (xs := ([(⟨5, 1⟩ : S30), (⟨9, 2⟩ : S30)] : List (S30))) (inner := [.int .u64 5, .int .i64 1, .int .u64 9, .int .i64 2]) (ok := fun _ => True) (okp := fun _ => True) ?hr ?hp (fun _ hk => hk) trivial (Below.refl _ _) (Nat.le_refl _) (by simp) ?_; (case hd => rfl); (case hg => rfl); (case hr => first | (go_simp; done) | (go_simp; rfl)); (case hp => exact (Reps.c2 (show Kd.M k30 _ _ _ (⟨5, 1⟩ : S30) [.int .u64 5, .int .i64 1] from (k30_mkM _ _ _ (⟨5, 1⟩ : S30) )) (Reps.c2 (show Kd.M k30 _ _ _ (⟨9, 2⟩ : S30) [.int .u64 9, .int .i64 2] from (k30_mkM _ _ _ (⟨9, 2⟩ : S30) )) (Reps.none _ _)))); intro v126 w64 ho65 hb hg_ hnew_; clear hg_ hnew_; (first | rw [← Ny125.out] at ho65 | (simp only [Int.reduceToNat] at ho65; rw [← Ny125.out] at ho65)); have n0_ := Aside0.mk (Kd.R_lower ho65 (below_size (by repeat (first | (with_reducible first | exact HB.out | apply below_alloc | apply pw_below_drewN | apply below_drew1) | exact HB.out)))); have n1_ := Aside0.mk (below_step (by repeat (first | (with_reducible first | exact HB.out | apply below_alloc | apply pw_below_drewN | apply below_drew1) | exact HB.out)) hb); clear HB; have HO127 := n0_; have HB := n1_; clear n0_ n1_; clear hb ho65; obtain ⟨Ao66, co66, eo66⟩ := Kd.R_slice HO127.out; subst eo66) | ((with_reducible refine gate_callee (f := 28) rfl ?_); refine goesL_ (some 6) rfl rfl Try.func28 (by kernel_rfl) rfl #[.slice Ao66 y125.length co66, .int .u64 5] rfl (by (try simp only [List.map_toArray, List.map_cons, List.map_nil]); first | done | rfl | (simp only [List.length_drop, List.length_take]; rfl)) ?_; (with_reducible refine (ring_Succ.calls _ _ y125 5 t128 _ ?side1 ?side2 A1.out).mono ?_); (case side1 => repeat (first | exact (Kd.R_reads' HO127.out).2.2 | (with_reducible refine Kd.C_alloc ?_ _) | (with_reducible refine Kd.C_drewN ?_ _) | (with_reducible refine Kd.C_drew ?_))); (case side2 => exact (Kd.R_reads' HO127.out).2.1); (try clear A1); rintro e w67 ⟨rfl, hb⟩; refine ⟨_, rfl, ?_⟩; have n0_ := Aside0.mk (Kd.R_below (by (with_reducible repeat (first | apply Kd.R_alloc | apply Kd.R_drewN | apply Kd.R_drew)); exact HO127.out) hb); have n1_ := Aside0.mk (below_step (by repeat (first | (with_reducible first | exact HB.out | apply below_alloc | apply pw_below_drewN | apply below_drew1) | exact HB.out)) hb); clear HO127; clear HB; have HO127 := n0_; have HB := n1_; clear n0_ n1_; (try clear hb); (try clear hb2); (try clear hk); (try clear hi)) | (go_at_call 28; (with_reducible refine (ring_Succ.calls _ _ y125 6 t129 _ ?side1 ?side2 A3.out).mono ?_); (case side1 => repeat (first | exact (Kd.R_reads' HO127.out).2.2 | (with_reducible refine Kd.C_alloc ?_ _) | (with_reducible refine Kd.C_drewN ?_ _) | (with_reducible refine Kd.C_drew ?_))); (case side2 => exact (Kd.R_reads' HO127.out).2.1); (try clear A3); rintro e w68 ⟨rfl, hb⟩; have n0_ := Aside0.mk (Kd.R_below (by (with_reducible repeat (first | apply Kd.R_alloc | apply Kd.R_drewN | apply Kd.R_drew)); exact HO127.out) hb); have n1_ := Aside0.mk (below_step (by repeat (first | (with_reducible first | exact HB.out | apply below_alloc | apply pw_below_drewN | apply below_drew1) | exact HB.out)) hb); clear HO127; clear HB; have HO127 := n0_; have HB := n1_; clear n0_ n1_; (try clear hb); (try clear hb2); (try clear hk); (try clear hi)) | (go_at_call 28; (with_reducible refine (ring_Succ.calls _ _ y125 10 t130 _ ?side1 ?side2 A5.out).mono ?_); (case side1 => repeat (first | exact (Kd.R_reads' HO127.out).2.2 | (with_reducible refine Kd.C_alloc ?_ _) | (with_reducible refine Kd.C_drewN ?_ _) | (with_reducible refine Kd.C_drew ?_))); (case side2 => exact (Kd.R_reads' HO127.out).2.1); (try clear A5); rintro e w69 ⟨rfl, hb⟩; have n0_ := Aside0.mk (Kd.R_below (by (with_reducible repeat (first | apply Kd.R_alloc | apply Kd.R_drewN | apply Kd.R_drew)); exact HO127.out) hb); have n1_ := Aside0.mk (below_step (by repeat (first | (with_reducible first | exact HB.out | apply below_alloc | apply pw_below_drewN | apply below_drew1) | exact HB.out)) hb); clear HO127; clear HB; have HO127 := n0_; have HB := n1_; clear n0_ n1_; (try clear hb); (try clear hb2); (try clear hk); (try clear hi)))
        go_ret
        exact ⟨by first | rfl | (simp [errW_none, errW_some] <;> rfl) | (simp [*, errW_none, errW_some] <;> rfl), by repeat (first | (with_reducible first | exact HB.out | apply below_alloc | apply pw_below_drewN | apply below_drew1) | exact HB.out)⟩
    · rw [if_neg c4] at H
      have c4b0 : (t129 == 2) = false := beq_eq_false_iff_ne.mpr c4
      have c4b1 : (t129 != 2) = true := bne_iff_ne.mpr c4
      obtain rfl := Option.some.inj H
      go_enter Try.func27, Try.ntmps27
      go_wp2_with (first | ((with_reducible refine gate_dst (N := 4) rfl ?_); (try (refine gate_guard (by rfl) ?_; dsimp only)); refine Kd.R_lit k30 _ 30 ?hg (N := 4) ?hd (xs := ([(⟨5, 1⟩ : S30), (⟨9, 2⟩ : S30)] : List (S30))) (inner := [.int .u64 5, .int .i64 1, .int .u64 9, .int .i64 2]) (ok := fun _ => True) (okp := fun _ => True) ?hr ?hp (fun _ hk => hk) trivial (Below.refl _ _) (Nat.le_refl _) (by simp) ?_; (case hd => rfl); (case hg => rfl); (case hr => first | (go_simp; done) | (go_simp; rfl)); (case hp => exact (Reps.c2 (show Kd.M k30 _ _ _ (⟨5, 1⟩ : S30) [.int .u64 5, .int .i64 1] from (k30_mkM _ _ _ (⟨5, 1⟩ : S30) )) (Reps.c2 (show Kd.M k30 _ _ _ (⟨9, 2⟩ : S30) [.int .u64 9, .int .i64 2] from (k30_mkM _ _ _ (⟨9, 2⟩ : S30) )) (Reps.none _ _)))); intro v126 w70 ho71 hb hg_ hnew_; clear hg_ hnew_; (first | rw [← Ny125.out] at ho71 | (simp only [Int.reduceToNat] at ho71; rw [← Ny125.out] at ho71)); have n0_ := Aside0.mk (Kd.R_lower ho71 (below_size (by repeat (first | (with_reducible first | exact HB.out | apply below_alloc | apply pw_below_drewN | apply below_drew1) | exact HB.out)))); have n1_ := Aside0.mk (below_step (by repeat (first | (with_reducible first | exact HB.out | apply below_alloc | apply pw_below_drewN | apply below_drew1) | exact HB.out)) hb); clear HB; have HO127 := n0_; have HB := n1_; clear n0_ n1_; clear hb ho71; obtain ⟨Ao72, co72, eo72⟩ := Kd.R_slice HO127.out; subst eo72) | ((with_reducible refine gate_callee (f := 28) rfl ?_); refine goesL_ (some 6) rfl rfl Try.func28 (by kernel_rfl) rfl #[.slice Ao72 y125.length co72, .int .u64 5] rfl (by (try simp only [List.map_toArray, List.map_cons, List.map_nil]); first | done | rfl | (simp only [List.length_drop, List.length_take]; rfl)) ?_; (with_reducible refine (ring_Succ.calls _ _ y125 5 t128 _ ?side1 ?side2 A1.out).mono ?_); (case side1 => repeat (first | exact (Kd.R_reads' HO127.out).2.2 | (with_reducible refine Kd.C_alloc ?_ _) | (with_reducible refine Kd.C_drewN ?_ _) | (with_reducible refine Kd.C_drew ?_))); (case side2 => exact (Kd.R_reads' HO127.out).2.1); (try clear A1); rintro e w73 ⟨rfl, hb⟩; refine ⟨_, rfl, ?_⟩; have n0_ := Aside0.mk (Kd.R_below (by (with_reducible repeat (first | apply Kd.R_alloc | apply Kd.R_drewN | apply Kd.R_drew)); exact HO127.out) hb); have n1_ := Aside0.mk (below_step (by repeat (first | (with_reducible first | exact HB.out | apply below_alloc | apply pw_below_drewN | apply below_drew1) | exact HB.out)) hb); clear HO127; clear HB; have HO127 := n0_; have HB := n1_; clear n0_ n1_; (try clear hb); (try clear hb2); (try clear hk); (try clear hi)) | (go_at_call 28; (with_reducible refine (ring_Succ.calls _ _ y125 6 t129 _ ?side1 ?side2 A3.out).mono ?_); (case side1 => repeat (first | exact (Kd.R_reads' HO127.out).2.2 | (with_reducible refine Kd.C_alloc ?_ _) | (with_reducible refine Kd.C_drewN ?_ _) | (with_reducible refine Kd.C_drew ?_))); (case side2 => exact (Kd.R_reads' HO127.out).2.1); (try clear A3); rintro e w74 ⟨rfl, hb⟩; have n0_ := Aside0.mk (Kd.R_below (by (with_reducible repeat (first | apply Kd.R_alloc | apply Kd.R_drewN | apply Kd.R_drew)); exact HO127.out) hb); have n1_ := Aside0.mk (below_step (by repeat (first | (with_reducible first | exact HB.out | apply below_alloc | apply pw_below_drewN | apply below_drew1) | exact HB.out)) hb); clear HO127; clear HB; have HO127 := n0_; have HB := n1_; clear n0_ n1_; (try clear hb); (try clear hb2); (try clear hk); (try clear hi)))
      go_ret
      exact ⟨by first | rfl | (simp [errW_none, errW_some] <;> rfl) | (simp [*, errW_none, errW_some] <;> rfl), by repeat (first | (with_reducible first | exact HB.out | apply below_alloc | apply pw_below_drewN | apply below_drew1) | exact HB.out)⟩
  · rw [if_neg c2] at H
    have c2b0 : (t128 == 1) = false := beq_eq_false_iff_ne.mpr c2
    have c2b1 : (t128 != 1) = true := bne_iff_ne.mpr c2
    obtain rfl := Option.some.inj H
    go_enter Try.func27, Try.ntmps27
    go_wp2_with (first | ((with_reducible refine gate_dst (N := 4) rfl ?_); (try (refine gate_guard (by rfl) ?_; dsimp only)); refine Kd.R_lit k30 _ 30 ?hg (N := 4) ?hd (xs := ([(⟨5, 1⟩ : S30), (⟨9, 2⟩ : S30)] : List (S30))) (inner := [.int .u64 5, .int .i64 1, .int .u64 9, .int .i64 2]) (ok := fun _ => True) (okp := fun _ => True) ?hr ?hp (fun _ hk => hk) trivial (Below.refl _ _) (Nat.le_refl _) (by simp) ?_; (case hd => rfl); (case hg => rfl); (case hr => first | (go_simp; done) | (go_simp; rfl)); (case hp => exact (Reps.c2 (show Kd.M k30 _ _ _ (⟨5, 1⟩ : S30) [.int .u64 5, .int .i64 1] from (k30_mkM _ _ _ (⟨5, 1⟩ : S30) )) (Reps.c2 (show Kd.M k30 _ _ _ (⟨9, 2⟩ : S30) [.int .u64 9, .int .i64 2] from (k30_mkM _ _ _ (⟨9, 2⟩ : S30) )) (Reps.none _ _)))); intro v126 w75 ho76 hb hg_ hnew_; clear hg_ hnew_; (first | rw [← Ny125.out] at ho76 | (simp only [Int.reduceToNat] at ho76; rw [← Ny125.out] at ho76)); have n0_ := Aside0.mk (Kd.R_lower ho76 (below_size (by repeat (first | (with_reducible first | exact HB.out | apply below_alloc | apply pw_below_drewN | apply below_drew1) | exact HB.out)))); have n1_ := Aside0.mk (below_step (by repeat (first | (with_reducible first | exact HB.out | apply below_alloc | apply pw_below_drewN | apply below_drew1) | exact HB.out)) hb); clear HB; have HO127 := n0_; have HB := n1_; clear n0_ n1_; clear hb ho76; obtain ⟨Ao77, co77, eo77⟩ := Kd.R_slice HO127.out; subst eo77) | ((with_reducible refine gate_callee (f := 28) rfl ?_); refine goesL_ (some 6) rfl rfl Try.func28 (by kernel_rfl) rfl #[.slice Ao77 y125.length co77, .int .u64 5] rfl (by (try simp only [List.map_toArray, List.map_cons, List.map_nil]); first | done | rfl | (simp only [List.length_drop, List.length_take]; rfl)) ?_; (with_reducible refine (ring_Succ.calls _ _ y125 5 t128 _ ?side1 ?side2 A1.out).mono ?_); (case side1 => repeat (first | exact (Kd.R_reads' HO127.out).2.2 | (with_reducible refine Kd.C_alloc ?_ _) | (with_reducible refine Kd.C_drewN ?_ _) | (with_reducible refine Kd.C_drew ?_))); (case side2 => exact (Kd.R_reads' HO127.out).2.1); (try clear A1); rintro e w78 ⟨rfl, hb⟩; refine ⟨_, rfl, ?_⟩; have n0_ := Aside0.mk (Kd.R_below (by (with_reducible repeat (first | apply Kd.R_alloc | apply Kd.R_drewN | apply Kd.R_drew)); exact HO127.out) hb); have n1_ := Aside0.mk (below_step (by repeat (first | (with_reducible first | exact HB.out | apply below_alloc | apply pw_below_drewN | apply below_drew1) | exact HB.out)) hb); clear HO127; clear HB; have HO127 := n0_; have HB := n1_; clear n0_ n1_; (try clear hb); (try clear hb2); (try clear hk); (try clear hi)))
    go_ret
    exact ⟨by first | rfl | (simp [errW_none, errW_some] <;> rfl) | (simp [*, errW_none, errW_some] <;> rfl), by repeat (first | (with_reducible first | exact HB.out | apply below_alloc | apply pw_below_drewN | apply below_drew1) | exact HB.out)⟩

/-! ### gangplankref08_Ints: function 31 -/
def gangplankref08_Ints.l0 : Nat → List Int → List Int → Int → Option (Bool)
  | 0, _, _, _ => none
  | k + 1, x0, x1, x5 => if x5 < (x0.length : Int) then (if 0 ≤ x5 then (if x5 < (x1.length : Int) then (if (rd x0 x5) = (rd x1 x5) then (gangplankref08_Ints.l0 k x0 x1 (wrap64 (x5 + 1))) else (some false)) else (none)) else (none)) else (some true)
def gangplankref08_Ints.f (k : Nat) (l0 : List Int) (l1 : List Int) : Option (Bool) := if (l0.length : Int) = (l1.length : Int) then (gangplankref08_Ints.l0 k l0 l1 0) else (some false)
theorem gangplankref08_Ints.mono_l : ∀ k, (∀ y0 y1 y2, LeO (gangplankref08_Ints.l0 k y0 y1 y2) (gangplankref08_Ints.l0 (k + 1) y0 y1 y2))
  | 0 => fun _ _ _ r h => by simp [gangplankref08_Ints.l0] at h
  | k + 1 => by
    have ih0 := gangplankref08_Ints.mono_l k
    · intro y0 y1 y2
      unfold gangplankref08_Ints.l0
      repeat' first
      | (with_reducible exact ih0 _ _ _)
      | (with_reducible exact LeO.refl _)
      | (with_reducible exact LeO.none _)
      | (with_reducible refine LeO.ite ?_ ?_)
      | (with_reducible refine LeO.bind ?_ (fun _ => ?_))
      | exact ih0 _ _ _
      | exact LeO.none _
      | refine LeO.ite ?_ ?_
      | refine LeO.bind ?_ (fun _ => ?_)
theorem gangplankref08_Ints.mono : ∀ a0 a1 k, LeO (gangplankref08_Ints.f k a0 a1) (gangplankref08_Ints.f (k + 1) a0 a1) := by
  intro a0 a1 k
  have ih0 := gangplankref08_Ints.mono_l k
  unfold gangplankref08_Ints.f
  repeat' first
      | (with_reducible exact ih0 _ _ _)
      | (with_reducible exact LeO.refl _)
      | (with_reducible exact LeO.none _)
      | (with_reducible refine LeO.ite ?_ ?_)
      | (with_reducible refine LeO.bind ?_ (fun _ => ?_))
      | exact ih0 _ _ _
      | exact LeO.none _
      | refine LeO.ite ?_ ?_
      | refine LeO.bind ?_ (fun _ => ?_)
set_option maxHeartbeats 8000000 in
set_option maxRecDepth 100000 in
theorem gangplankref08_Ints.calls (k : Nat) (A0 : Option Addr) (c0 : Nat) (l0 : List Int) (A1 : Option Addr) (c1 : Nat) (l1 : List Int) (r : Bool) (w : World) (hr0 : Kd.C (Kd.int .i64) w A0 l0.length l0) (hc0 : l0.length ≤ c0) (hr1 : Kd.C (Kd.int .i64) w A1 l1.length l1) (hc1 : l1.length ≤ c1) (h : gangplankref08_Ints.f k l0 l1 = some r) :
    Calls Try.prog 31 #[.slice A0 l0.length c0, .slice A1 l1.length c1] w fun e w' => e = .returned (.bool r) ∧ Drawn0 w w' := by
  have HR0 := Aside0.mk hr0
  have HC0 := Aside0.mk hc0
  clear hr0 hc0
  have HR1 := Aside0.mk hr1
  have HC1 := Aside0.mk hc1
  clear hr1 hc1
  have H : (if (l0.length : Int) = (l1.length : Int) then (gangplankref08_Ints.l0 k l0 l1 0) else (some false)) = some r := h
  clear h
  by_cases c3 : (l0.length : Int) = (l1.length : Int)
  · rw [if_pos c3] at H
    have c3b0 : ((l0.length : Int) == (l1.length : Int)) = true := beq_iff_eq.mpr c3
    have c3b1 : ((l0.length : Int) != (l1.length : Int)) = false := bne_eq_false_iff_eq.mpr c3
    have c3b2 : (l0.length == l1.length) = true := by first | simpa using c3 | (simp at c3 ⊢; omega)
    clear c3
    have H' := Aside0.mk H
    clear H
    go_enter Try.func31, Try.ntmps31
    go_wp2
    repeat (go_quiet (fail); try go_wp2)
    go_loopg [5] k (fun kq v5 w' => ∃ (x5_1 : Int), v5 = .int .i64 x5_1 ∧ Aside0 (gangplankref08_Ints.l0 kq l0 l1 x5_1 = some r) ∧ Aside0 (kq ≤ k) ∧ Drawn0 w w')
    case atStart => exact ⟨(0), (by first | rfl | (simp; done) | (simp [*]; done)), H', ⟨Nat.le_refl _⟩, by repeat (first | exact Drawn0.refl _ | apply Drawn0.step)⟩
    case round =>
      clear H'
      try clear c1
      try clear p2
      try clear c3
      try clear c3b0
      try clear c3b1
      try clear c3b2
      obtain ⟨x5_1, rfl, HA, HK1, ⟨m1, rfl⟩⟩ := hrel
      cases gk with
      | zero => exact absurd HA.out (by simp [gangplankref08_Ints.l0])
      | succ k1 =>
        have H := HA.out
        clear HA
        simp only [gangplankref08_Ints.l0] at H
        by_cases c4 : x5_1 < (l0.length : Int)
        · rw [if_pos c4] at H
          have c4b0 : decide (x5_1 < (l0.length : Int)) = true := decide_eq_true c4
          clear c4
          by_cases c5 : 0 ≤ x5_1
          · rw [if_pos c5] at H
            have c5b0 : decide (0 ≤ x5_1) = true := decide_eq_true c5
            clear c5
            by_cases c6 : x5_1 < (l1.length : Int)
            · rw [if_pos c6] at H
              have c6b0 : decide (x5_1 < (l1.length : Int)) = true := decide_eq_true c6
              clear c6
              by_cases c7 : (rd l0 x5_1) = (rd l1 x5_1)
              · rw [if_pos c7] at H
                have c7b0 : ((rd l0 x5_1) == (rd l1 x5_1)) = true := beq_iff_eq.mpr c7
                have c7b1 : ((rd l0 x5_1) != (rd l1 x5_1)) = false := bne_eq_false_iff_eq.mpr c7
                clear c7
                have H' := Aside0.mk H
                clear H
                have p146 : 0 ≤ (x5_1 : Int) := of_decide_eq_true (by first | (with_reducible assumption) | assumption)
                have q146 : x5_1 < (l0.length : Int) := of_decide_eq_true (by first | (with_reducible assumption) | assumption)
                obtain ⟨ad146, e146, hx146_0⟩ := Kd.at_int HR0.out x5_1 p146 q146
                cases e146
                replace p146 := eq_true p146
                replace q146 := eq_true q146
                have p147 : 0 ≤ (x5_1 : Int) := of_decide_eq_true (by first | (with_reducible assumption) | assumption)
                have q147 : x5_1 < (l1.length : Int) := of_decide_eq_true (by first | (with_reducible assumption) | assumption)
                obtain ⟨ad147, e147, hx147_0⟩ := Kd.at_int HR1.out x5_1 p147 q147
                cases e147
                replace p147 := eq_true p147
                replace q147 := eq_true q147
                go_wp2
                repeat (go_quiet (fail); try go_wp2)
                go_roundg k1
                case measure => have := HK1.out; omega
                case rel => exact ⟨(wrap64 (x5_1 + 1)), (by first | rfl | (simp; done) | (simp [*]; done)), H', ⟨by have := HK1.out; omega⟩, by repeat (first | exact Drawn0.refl _ | apply Drawn0.step)⟩
              · rw [if_neg c7] at H
                have c7b0 : ((rd l0 x5_1) == (rd l1 x5_1)) = false := beq_eq_false_iff_ne.mpr c7
                have c7b1 : ((rd l0 x5_1) != (rd l1 x5_1)) = true := bne_iff_ne.mpr c7
                obtain rfl := Option.some.inj H
                have p146 : 0 ≤ (x5_1 : Int) := of_decide_eq_true (by first | (with_reducible assumption) | assumption)
                have q146 : x5_1 < (l0.length : Int) := of_decide_eq_true (by first | (with_reducible assumption) | assumption)
                obtain ⟨ad146, e146, hx146_0⟩ := Kd.at_int HR0.out x5_1 p146 q146
                cases e146
                replace p146 := eq_true p146
                replace q146 := eq_true q146
                have p147 : 0 ≤ (x5_1 : Int) := of_decide_eq_true (by first | (with_reducible assumption) | assumption)
                have q147 : x5_1 < (l1.length : Int) := of_decide_eq_true (by first | (with_reducible assumption) | assumption)
                obtain ⟨ad147, e147, hx147_0⟩ := Kd.at_int HR1.out x5_1 p147 q147
                cases e147
                replace p147 := eq_true p147
                replace q147 := eq_true q147
                go_wp2
                repeat (go_quiet (fail); try go_wp2)
                go_ret
                exact ⟨by first | rfl | (simp; done) | (simp [*]; done), by repeat (first | exact Drawn0.refl _ | apply Drawn0.step)⟩
            · rw [if_neg c6] at H
              exact absurd H (by simp)
          · rw [if_neg c5] at H
            exact absurd H (by simp)
        · rw [if_neg c4] at H
          have c4b0 : decide (x5_1 < (l0.length : Int)) = false := decide_eq_false c4
          clear c4
          obtain rfl := Option.some.inj H
          go_wp2
          repeat (go_quiet (fail); try go_wp2)
          go_ret
          exact ⟨by first | rfl | (simp; done) | (simp [*]; done), by repeat (first | exact Drawn0.refl _ | apply Drawn0.step)⟩
  · rw [if_neg c3] at H
    have c3b0 : ((l0.length : Int) == (l1.length : Int)) = false := beq_eq_false_iff_ne.mpr c3
    have c3b1 : ((l0.length : Int) != (l1.length : Int)) = true := bne_iff_ne.mpr c3
    have c3b2 : (l0.length == l1.length) = false := by first | simpa using c3 | (simp at c3 ⊢; omega)
    obtain rfl := Option.some.inj H
    go_enter Try.func31, Try.ntmps31
    go_wp2
    repeat (go_quiet (fail); try go_wp2)
    go_ret
    exact ⟨by first | rfl | (simp; done) | (simp [*]; done), by repeat (first | exact Drawn0.refl _ | apply Drawn0.step)⟩

/-! ### gangplankref02_Next: function 86 -/
def gangplankref02_Next.f (a0 : Int) (a1 : Int) : Option (Int) := some (IntKind.u64.wrap ((Go.bits .xor .u64 a0 (IntKind.u64.wrap (a1))) * 1099511628211))
set_option maxHeartbeats 8000000 in
set_option maxRecDepth 100000 in
theorem gangplankref02_Next.calls (a0 : Int) (a1 : Int) (r : Int) (w : World) (h : gangplankref02_Next.f a0 a1 = some r) :
    Calls Try.prog 86 #[.int .u64 a0, .int .u8 a1] w fun e w' => e = .returned (.int .u64 r) ∧ Drawn0 w w' := by
  have H : (some (IntKind.u64.wrap ((Go.bits .xor .u64 a0 (IntKind.u64.wrap (a1))) * 1099511628211))) = some r := h
  clear h
  obtain rfl := Option.some.inj H
  go_enter Try.func86, Try.ntmps86
  go_wp2
  go_ret
  exact ⟨by first | rfl | (simp; done) | (simp [*]; done), by repeat (first | exact Drawn0.refl _ | apply Drawn0.step)⟩

/-! ### gangplankref02_Join: function 69 -/
def gangplankref02_Join.l0 : Nat → Int → ByteArray → Int → Option (Int)
  | 0, _, _, _ => none
  | k + 1, x0, x1, x5 => if x5 < (x1.size : Int) then (if 0 ≤ x5 then ((gangplankref02_Next.f x0 (bt x1 x5)).bind fun t148 => (gangplankref02_Join.l0 k t148 x1 (wrap64 (x5 + 1)))) else (none)) else (some x0)
def gangplankref02_Join.f (k : Nat) (a0 : Int) (a1 : ByteArray) : Option (Int) := gangplankref02_Join.l0 k a0 a1 0
theorem gangplankref02_Join.mono_l : ∀ k, (∀ y0 y1 y2, LeO (gangplankref02_Join.l0 k y0 y1 y2) (gangplankref02_Join.l0 (k + 1) y0 y1 y2))
  | 0 => fun _ _ _ r h => by simp [gangplankref02_Join.l0] at h
  | k + 1 => by
    have ih0 := gangplankref02_Join.mono_l k
    · intro y0 y1 y2
      unfold gangplankref02_Join.l0
      repeat' first
      | (with_reducible exact ih0 _ _ _)
      | (with_reducible exact LeO.refl _)
      | (with_reducible exact LeO.none _)
      | (with_reducible refine LeO.ite ?_ ?_)
      | (with_reducible refine LeO.bind ?_ (fun _ => ?_))
      | exact ih0 _ _ _
      | exact LeO.none _
      | refine LeO.ite ?_ ?_
      | refine LeO.bind ?_ (fun _ => ?_)
theorem gangplankref02_Join.mono : ∀ a0 a1 k, LeO (gangplankref02_Join.f k a0 a1) (gangplankref02_Join.f (k + 1) a0 a1) := by
  intro a0 a1 k
  have ih0 := gangplankref02_Join.mono_l k
  unfold gangplankref02_Join.f
  repeat' first
      | (with_reducible exact ih0 _ _ _)
      | (with_reducible exact LeO.refl _)
      | (with_reducible exact LeO.none _)
      | (with_reducible refine LeO.ite ?_ ?_)
      | (with_reducible refine LeO.bind ?_ (fun _ => ?_))
      | exact ih0 _ _ _
      | exact LeO.none _
      | refine LeO.ite ?_ ?_
      | refine LeO.bind ?_ (fun _ => ?_)
set_option maxHeartbeats 8000000 in
set_option maxRecDepth 100000 in
theorem gangplankref02_Join.calls (k : Nat) (a0 : Int) (a1 : ByteArray) (r : Int) (w : World) (h : gangplankref02_Join.f k a0 a1 = some r) :
    Calls Try.prog 69 #[.int .u64 a0, .string a1] w fun e w' => e = .returned (.int .u64 r) ∧ Drawn0 w w' := by
  have H : (gangplankref02_Join.l0 k a0 a1 0) = some r := h
  clear h
  have H' := Aside0.mk H
  clear H
  go_enter Try.func69, Try.ntmps69
  go_wp2
  go_loopg [0, 5] k (fun kq v0 v5 w' => ∃ (x0_1 : Int) (x5_1 : Int), v0 = .int .u64 x0_1 ∧ v5 = .int .i64 x5_1 ∧ Aside0 (gangplankref02_Join.l0 kq x0_1 a1 x5_1 = some r) ∧ Aside0 (kq ≤ k) ∧ Drawn0 w w')
  case atStart => exact ⟨(a0), (0), (by first | rfl | (simp; done) | (simp [*]; done)), (by first | rfl | (simp; done) | (simp [*]; done)), H', ⟨Nat.le_refl _⟩, by repeat (first | exact Drawn0.refl _ | apply Drawn0.step)⟩
  case round =>
    clear H'
    try clear p2
    obtain ⟨x0_1, x5_1, rfl, rfl, HA, HK1, ⟨m1, rfl⟩⟩ := hrel
    cases gk with
    | zero => exact absurd HA.out (by simp [gangplankref02_Join.l0])
    | succ k1 =>
      have H := HA.out
      clear HA
      simp only [gangplankref02_Join.l0] at H
      by_cases c3 : x5_1 < (a1.size : Int)
      · rw [if_pos c3] at H
        have c3b0 : decide (x5_1 < (a1.size : Int)) = true := decide_eq_true c3
        clear c3
        by_cases c4 : 0 ≤ x5_1
        · rw [if_pos c4] at H
          have c4b0 : decide (0 ≤ x5_1) = true := decide_eq_true c4
          clear c4
          replace H := Option.bind_eq_some_iff.mp H
          obtain ⟨t148, A60, H⟩ := H
          replace H : (gangplankref02_Join.l0 k1 t148 a1 (wrap64 (x5_1 + 1))) = some r := H
          have A6 := Aside0.mk A60
          clear A60
          have H' := Aside0.mk H
          clear H
          have p5 : 0 ≤ (x5_1 : Int) := of_decide_eq_true (by first | (with_reducible assumption) | assumption)
          have q5 : x5_1 < (a1.size : Int) := of_decide_eq_true (by first | (with_reducible assumption) | assumption)
          have hx5 := bt_at a1 x5_1
          replace p5 := eq_true p5
          replace q5 := eq_true q5
          go_wp2_with (first | ((with_reducible refine gate_callee (f := 86) rfl ?_); refine goesL_ (some 16) rfl rfl Try.func86 (by kernel_rfl) rfl #[.int .u64 x0_1, .int .u8 (bt a1 x5_1)] rfl (by (try simp only [List.map_toArray, List.map_cons, List.map_nil]); first | done | rfl | (simp only [List.length_drop, List.length_take]; rfl)) ?_; (with_reducible refine (gangplankref02_Next.calls x0_1 (bt a1 x5_1) t148 _ A6.out).mono ?_); (try clear A6); rintro e w' ⟨rfl, ⟨nd, rfl⟩⟩; refine ⟨_, rfl, ?_⟩))
          go_roundg k1
          case measure => have := HK1.out; omega
          case rel => exact ⟨(t148), (wrap64 (x5_1 + 1)), (by first | rfl | (simp; done) | (simp [*]; done)), (by first | rfl | (simp; done) | (simp [*]; done)), H', ⟨by have := HK1.out; omega⟩, by repeat (first | exact Drawn0.refl _ | apply Drawn0.step)⟩
        · rw [if_neg c4] at H
          exact absurd H (by simp)
      · rw [if_neg c3] at H
        have c3b0 : decide (x5_1 < (a1.size : Int)) = false := decide_eq_false c3
        clear c3
        obtain rfl := Option.some.inj H
        go_wp2
        go_ret
        exact ⟨by first | rfl | (simp; done) | (simp [*]; done), by repeat (first | exact Drawn0.refl _ | apply Drawn0.step)⟩

/-! ### gangplankref02_Sum: function 46 -/
def gangplankref02_Sum.f (k : Nat) (a0 : ByteArray) : Option (Int) := (gangplankref02_Join.f k 14695981039346656037 a0).bind fun t149 => (some t149)
theorem gangplankref02_Sum.mono : ∀ a0 k, LeO (gangplankref02_Sum.f k a0) (gangplankref02_Sum.f (k + 1) a0) := by
  intro a0 k
  unfold gangplankref02_Sum.f
  repeat' first
      | (with_reducible exact gangplankref02_Join.mono _ _ _)
      | (with_reducible exact LeO.refl _)
      | (with_reducible exact LeO.none _)
      | (with_reducible refine LeO.ite ?_ ?_)
      | (with_reducible refine LeO.bind ?_ (fun _ => ?_))
      | exact gangplankref02_Join.mono _ _ _
      | exact LeO.none _
      | refine LeO.ite ?_ ?_
      | refine LeO.bind ?_ (fun _ => ?_)
set_option maxHeartbeats 8000000 in
set_option maxRecDepth 100000 in
theorem gangplankref02_Sum.calls (k : Nat) (a0 : ByteArray) (r : Int) (w : World) (h : gangplankref02_Sum.f k a0 = some r) :
    Calls Try.prog 46 #[.string a0] w fun e w' => e = .returned (.int .u64 r) ∧ Drawn0 w w' := by
  have H : ((gangplankref02_Join.f k 14695981039346656037 a0).bind fun t149 => (some t149)) = some r := h
  clear h
  replace H := Option.bind_eq_some_iff.mp H
  obtain ⟨t149, A20, H⟩ := H
  replace H : (some t149) = some r := H
  have A2 := Aside0.mk A20
  clear A20
  obtain rfl := Option.some.inj H
  go_enter Try.func46, Try.ntmps46
  go_wp2_with (first | ((with_reducible refine gate_callee (f := 69) rfl ?_); refine goesL_ (some 4) rfl rfl Try.func69 (by kernel_rfl) rfl #[.int .u64 14695981039346656037, .string a0] rfl (by (try simp only [List.map_toArray, List.map_cons, List.map_nil]); first | done | rfl | (simp only [List.length_drop, List.length_take]; rfl)) ?_; (with_reducible refine (gangplankref02_Join.calls k 14695981039346656037 a0 t149 _ A2.out).mono ?_); (try clear A2); rintro e w' ⟨rfl, ⟨nd, rfl⟩⟩; refine ⟨_, rfl, ?_⟩))
  go_ret
  exact ⟨by first | rfl | (simp; done) | (simp [*]; done), by repeat (first | exact Drawn0.refl _ | apply Drawn0.step)⟩

end Go.Proofs.Ytcekkbimdogboaa.P
