/- Each Go function that the laws reach, as a plain function, with the proof that the machine's call comes to what it says; of a law: its row. Made by a program of this seat (wip/hp.py, over the print). -/
import Derived.Test.YtbbgeobnjdgpfaaPx0
import Derived.Test.YtbbgeobnjdgpfaaPx1
import Derived.Test.YtbbgeobnjdgpfaaPx2
import Derived.Test.YtbbgeobnjdgpfaaPx3
import Derived.Test.YtbbgeobnjdgpfaaPx4
namespace Go.Proofs.Ytbbgeobnjdgpfaa.P
open Go.RowKit Go.Proofs.YtbbgeobnjdgpfaaW.PrintWords Go.Proofs.YtbbgeobnjdgpfaaW.PrintLast Go.Proofs.YtbbgeobnjdgpfaaW.PrintMore
attribute [local go_sem] max2_int min2_int max_two min_two max_three min_three max_four min_four   -- for this text's walks alone
set_option linter.unusedVariables false
set_option linter.unusedSimpArgs false

/-! ### gangplanklaw18_WorldTicks: function 3 -/
section
open Go.Shelf Go.Proofs.Ytbbgeobnjdgpfaa.Hand
def nextNow (now d : Int) : Int := if 0 ≤ d ∧ d ≤ 1000000 ∧ now ≤ 1000000000 - d then now + d else now
theorem nextNow_in (now d : Int) (h0 : 0 ≤ now) (h1 : now ≤ 1000000000) : 0 ≤ nextNow now d ∧ nextNow now d ≤ 1000000000 ∧ now ≤ nextNow now d := by
  unfold nextNow
  split <;> omega
theorem Tick2 (p : Nat) (x0 x1 x2 x3 x4 x5 x6 x7 x8 x9 : Value) (now d : Int) (h0 : 0 ≤ now) (h1 : now ≤ 1000000000) (W : World) (hb : Blk W p 38 [x0, x1, x2, x3, x4, x5, x6, x7, x8, x9, .int .i64 now]) :
    Calls Try.prog 11 #[.pointer (some ⟨p, 0, none⟩), .int .i64 d] W fun e W' => e = .returned (.tuple #[]) ∧ Blk W' p 38 [x0, x1, x2, x3, x4, x5, x6, x7, x8, x9, .int .i64 (nextNow now d)] ∧ OnlyP W W' p := by
  refine (Tick_any p x0 x1 x2 x3 x4 x5 x6 x7 x8 x9 now d W hb).mono ?_
  rintro e W' ⟨he, hw⟩
  refine ⟨he, ?_⟩
  by_cases h : 0 ≤ d ∧ d ≤ 1000000 ∧ now ≤ 1000000000 - d
  · rw [if_pos h] at hw
    have e1 : nextNow now d = wrap64 (now + d) := by unfold nextNow wrap64; rw [if_pos h]; omega
    rw [e1, hw]
    exact ⟨blk_putL hb 10 _, OnlyP.set _ _ _ _⟩
  · rw [if_neg h] at hw
    have e1 : nextNow now d = now := if_neg h
    rw [e1, hw]
    exact ⟨hb, OnlyP.refl _ _⟩
set_option maxHeartbeats 4000000 in
theorem refTick2 (g : Nat) (x0 x1 x2 x3 x4 x5 x6 x7 x8 x9 x10 x11 x12 : Value) (now d : Int) (h0 : 0 ≤ now) (h1 : now ≤ 1000000000) (W : World) (hb : Blk W g 43 [x0, x1, x2, x3, x4, x5, x6, x7, x8, x9, x10, x11, x12, .int .i64 now]) :
    Calls Try.prog 12 #[.pointer (some ⟨g, 0, none⟩), .int .i64 d] W fun e W' => e = .returned (.tuple #[]) ∧ Blk W' g 43 [x0, x1, x2, x3, x4, x5, x6, x7, x8, x9, x10, x11, x12, .int .i64 (nextNow now d)] ∧ OnlyP W W' g := by
  have hc : W.cell? ⟨g, 13, none⟩ = some (.int .i64 now) := hb.cell 13
  have hz := hb.frozen 13
  have HB := Lib.hid hb
  clear hb
  by_cases g0 : 0 ≤ d
  · have q0 : decide (0 ≤ d) = true := decide_eq_true g0
    by_cases g1 : d ≤ 1000000
    · have q1 : decide (d ≤ 1000000) = true := decide_eq_true g1
      have hw : wrap64 (now + d) = now + d := by unfold wrap64; omega
      by_cases g2 : now + d ≤ 1000000000
      · have q2 : decide (now + d ≤ 1000000000) = true := decide_eq_true g2
        have e1 : nextNow now d = now + d := if_pos ⟨g0, g1, by omega⟩
        rw [e1]
        clear g0 g1 g2 h0 h1 e1
        go_enter Try.func12, Try.ntmps12
        go_wp2
        go_end0
        exact ⟨rfl, blk_putL HB.out 13 _, OnlyP.set _ _ _ _⟩
      · have q2 : decide (now + d ≤ 1000000000) = false := decide_eq_false g2
        have e1 : nextNow now d = now := if_neg (by omega)
        rw [e1]
        clear g0 g1 g2 h0 h1 e1
        go_enter Try.func12, Try.ntmps12
        go_wp2
        go_end0
        exact ⟨rfl, HB.out, OnlyP.refl _ _⟩
    · have q1 : decide (d ≤ 1000000) = false := decide_eq_false g1
      have e1 : nextNow now d = now := if_neg (by omega)
      rw [e1]
      clear g0 g1 h0 h1 e1
      go_enter Try.func12, Try.ntmps12
      go_wp2
      go_end0
      exact ⟨rfl, HB.out, OnlyP.refl _ _⟩
  · have q0 : decide (0 ≤ d) = false := decide_eq_false g0
    have e1 : nextNow now d = now := if_neg (by omega)
    rw [e1]
    clear g0 h0 h1 e1
    go_enter Try.func12, Try.ntmps12
    go_wp2
    go_end0
    exact ⟨rfl, HB.out, OnlyP.refl _ _⟩
theorem atInt {w : World} {A : Option Addr} {n : Nat} {xs : List Int} (h : Kd.C (Kd.int .i64) w A n xs) (i : Nat) (h1 : i < n) : ∃ ad, A = some ad ∧ w.cell? (ad.add i) = some (.int .i64 (xs.getD i 0)) := by
  obtain ⟨ad, c, e, _, hK, hc⟩ := Kd.C_get h 0 (i : Int) (by omega) (by omega)
  have hK' : c = [.int .i64 (xs.getD (i : Int).toNat 0)] := hK
  subst hK'
  have h2 : w.cell? (ad.add ((i : Int).toNat * 1 + 0)) = some (.int .i64 (xs.getD (i : Int).toNat 0)) := hc 0 _ rfl
  rw [Int.toNat_natCast, Nat.mul_one, Nat.add_zero] at h2
  exact ⟨ad, e, h2⟩
theorem ref_fs (c e : Int) (hc : 1 ≤ c ∧ c ≤ 64) (he : 2 ≤ e ∧ e ≤ 8) : gangplankref12_New.f c = some (List.replicate c.toNat z95) ∧ (∃ sl, gangplankref16_New.f e = some sl) ∧ (∃ kl, gangplankref15_New.f e = some kl) := by
  refine ⟨?_, ?_, ?_⟩
  · have hm : mx 0 (mn c 64) = c := by unfold mx mn; split <;> split <;> omega
    unfold gangplankref12_New.f
    rw [hm, if_pos (by omega), if_pos (by omega)]
  · have hm : mx 0 (mn e 8) = e := by unfold mx mn; split <;> split <;> omega
    unfold gangplankref16_New.f
    rw [hm, if_pos (by omega), if_pos (by omega)]
    exact ⟨_, rfl⟩
  · have hm : mx 0 (mn e 8) = e := by unfold mx mn; split <;> split <;> omega
    unfold gangplankref15_New.f
    rw [hm, if_pos (by omega), if_pos (by omega)]
    exact ⟨_, rfl⟩
def gangplanklaw18_WorldTicks.f (a b c d e : Int) (l1 : List Int) : Option Bool := some true
set_option maxRecDepth 100000 in
set_option maxHeartbeats 16000000 in
theorem gangplanklaw18_WorldTicks.calls (a b c d e : Int) (A1 : Option Addr) (c1 : Nat) (l1 : List Int) (r : Bool) (W : World) (hr1 : Kd.C (Kd.int .i64) W A1 l1.length l1) (hc1 : l1.length ≤ c1) (h : gangplanklaw18_WorldTicks.f a b c d e l1 = some r) :
    Calls Try.prog 3 #[.agg #[.int .i64 a, .int .i64 b, .int .i64 c, .int .i64 d, .int .i64 e], .slice A1 l1.length c1] W fun e w' => e = .returned (.bool r) ∧ Below W.heap.size W w' := by
  have HA1 := Lib.hid hr1
  clear hr1 hc1
  obtain rfl : true = r := Option.some.inj h
  clear h
  obtain ⟨sm, hsm⟩ : ∃ sm, gangplankref17_Small.f a b c d e = some sm := by
    unfold gangplankref17_Small.f
    split
    · split
      · exact ⟨_, rfl⟩
      · exact ⟨_, rfl⟩
    · exact ⟨_, rfl⟩
  have HSM := Lib.hid hsm
  clear hsm
  have b0 := Blk.new W 23 [.int .i64 a, .int .i64 b, .int .i64 c, .int .i64 d, .int .i64 e]
  have l0 := below_alloc (Below.refl _ W) (.cells #[.int .i64 a, .int .i64 b, .int .i64 c, .int .i64 d, .int .i64 e] 23)
  have HK := Lib.hid b0
  have HB := Lib.hid l0
  clear b0 l0
  go_enter Try.func3, Try.ntmps3
  go_wp2_with fail
  go_at_call 7
  refine (works18_any _).mono ?_
  rintro e1 w1 ⟨rfl, hb⟩
  have n0 := Lib.hid (show Blk w1 W.heap.size 23 [.int .i64 a, .int .i64 b, .int .i64 c, .int .i64 d, .int .i64 e] from HK.out.below hb)
  have n1 := Lib.hid (show Below W.heap.size W w1 from HB.out.trans (hb.mono HB.out.size))
  clear HK HB hb
  have HK := n0
  have HB := n1
  clear n0 n1
  have y0 : w1.cell? ⟨W.heap.size, 0, none⟩ = some (.int .i64 a) := HK.out.cell 0
  have y1 : w1.cell? ⟨W.heap.size, 1, none⟩ = some (.int .i64 b) := HK.out.cell 1
  have y2 : w1.cell? ⟨W.heap.size, 2, none⟩ = some (.int .i64 c) := HK.out.cell 2
  have y3 : w1.cell? ⟨W.heap.size, 3, none⟩ = some (.int .i64 d) := HK.out.cell 3
  have y4 : w1.cell? ⟨W.heap.size, 4, none⟩ = some (.int .i64 e) := HK.out.cell 4
  go_wp2_with fail
  go_at_call 8
  refine (gangplankref17_Small.calls a b c d e sm _ HSM.out).mono ?_
  rintro e2 w2 ⟨rfl, hb⟩
  clear y0 y1 y2 y3 y4
  have n0 := Lib.hid (show Blk w2 W.heap.size 23 [.int .i64 a, .int .i64 b, .int .i64 c, .int .i64 d, .int .i64 e] from HK.out.below hb)
  have n1 := Lib.hid (show Below W.heap.size W w2 from HB.out.trans (hb.mono HB.out.size))
  clear HK HB hb
  have HK := n0
  have HB := n1
  clear n0 n1
  have y0 : w2.cell? ⟨W.heap.size, 0, none⟩ = some (.int .i64 a) := HK.out.cell 0
  have y1 : w2.cell? ⟨W.heap.size, 1, none⟩ = some (.int .i64 b) := HK.out.cell 1
  have y2 : w2.cell? ⟨W.heap.size, 2, none⟩ = some (.int .i64 c) := HK.out.cell 2
  have y3 : w2.cell? ⟨W.heap.size, 3, none⟩ = some (.int .i64 d) := HK.out.cell 3
  have y4 : w2.cell? ⟨W.heap.size, 4, none⟩ = some (.int .i64 e) := HK.out.cell 4
  cases sm
  · go_wp2
    go_ret
    exact ⟨rfl, HB.out⟩
  by_cases hln : 30 < (l1.length : Int)
  · have q0 : decide (30 < (l1.length : Int)) = true := decide_eq_true hln
    go_wp2
    go_ret
    exact ⟨rfl, HB.out⟩
  have q0 : decide (30 < (l1.length : Int)) = false := decide_eq_false hln
  by_cases hck : chk a b c d e ≠ 0
  · go_wp2_with fail
    go_at_call 9
    refine (New_bad a b c d e hck _).mono ?_
    rintro e3 w3 ⟨rfl, hb⟩
    have n0 := Lib.hid (show Blk w3 W.heap.size 23 [.int .i64 a, .int .i64 b, .int .i64 c, .int .i64 d, .int .i64 e] from HK.out.below hb)
    have n1 := Lib.hid (show Below W.heap.size W w3 from HB.out.trans (hb.mono HB.out.size))
    clear HK HB hb
    have HK := n0
    have HB := n1
    clear n0 n1
    obtain ⟨x, hx⟩ : ∃ x, chk a b c d e = x := ⟨_, rfl⟩
    rw [hx] at hck ⊢
    have q : (x != 0) = true := bne_iff_ne.mpr hck
    clear hx hck
    go_wp2
    go_ret
    exact ⟨rfl, HB.out⟩
  replace hck : chk a b c d e = 0 := Classical.not_not.mp hck
  obtain ⟨⟨ha0, ha1⟩, ⟨hb0, hb1⟩, hcc, _, hee⟩ := chk_zero hck
  obtain ⟨rf1, ⟨sl, rf2⟩, ⟨kl, rf3⟩⟩ := ref_fs c e hcc hee
  go_wp2_with fail
  go_at_call 9
  refine (New_good a b c d e hck _).mono ?_
  rintro e3 w3 ⟨p, q, b1, b2, qs, ss, qk, tv, pv, rfl, hw, hb⟩
  have HW := Lib.hid (hw.lower HB.out.size)
  clear y0 y1 y2 y3 y4 hw hck
  have n0 := Lib.hid (show Blk w3 W.heap.size 23 [.int .i64 a, .int .i64 b, .int .i64 c, .int .i64 d, .int .i64 e] from HK.out.below hb)
  have n1 := Lib.hid (show Below W.heap.size W w3 from HB.out.trans (hb.mono HB.out.size))
  clear HK HB hb
  have HK := n0
  have HB := n1
  clear n0 n1
  have y0 : w3.cell? ⟨W.heap.size, 0, none⟩ = some (.int .i64 a) := HK.out.cell 0
  have y1 : w3.cell? ⟨W.heap.size, 1, none⟩ = some (.int .i64 b) := HK.out.cell 1
  have y2 : w3.cell? ⟨W.heap.size, 2, none⟩ = some (.int .i64 c) := HK.out.cell 2
  have y3 : w3.cell? ⟨W.heap.size, 3, none⟩ = some (.int .i64 d) := HK.out.cell 3
  have y4 : w3.cell? ⟨W.heap.size, 4, none⟩ = some (.int .i64 e) := HK.out.cell 4
  have hbn : b = ((b.toNat : Nat) : Int) := by omega
  have hr := ref18New_any a c d e b.toNat c.toNat (a + 1).toNat sl kl (by unfold wrap64; omega) (by omega) (by omega) rf1 rf2 rf3 w3
  rw [← hbn] at hr
  have HRN := Lib.hid hr
  clear hr hbn ha0 ha1 hb0 hb1 hcc hee rf1 rf2 rf3
  go_wp2_with fail
  go_at_call 10
  refine HRN.out.mono ?_
  rintro e3 w5 ⟨g, N, pins, places, lv, tv2, sv, kv, rfl, hg, ht2, hl2, hgN, hNN, hb⟩
  have n0 := Lib.hid (show Blk w5 p 38 [.int .i64 a, .int .i64 b, .int .i64 c, .int .i64 d, .int .i64 e, .pointer (some ⟨q, 0, none⟩), .pointer (some ⟨qs, 0, none⟩), .pointer (some ⟨qk, 0, none⟩), tv, pv, .int .i64 0] from HW.out.hp.below hb)
  have n1 := Lib.hid (show Blk w5 g 43 [.int .i64 a, .int .i64 b, .int .i64 c, .int .i64 d, .int .i64 e, .int .i64 0, .int .i64 0, pins, lv, sv, kv, tv2, places, .int .i64 0] from hg)
  have n2 := Lib.hid (HB.out.trans (hb.mono HB.out.size))
  have n3 := Lib.hid (And.intro HW.out.lo.1 (Nat.le_trans HB.out.size hgN))
  clear HW HB HK hg ht2 hl2 hgN hNN hb y0 y1 y2 y3 y4 HRN
  have HPP := n0
  have HG := n1
  have HB := n2
  have HLO := n3
  clear n0 n1 n2 n3
  have HLN := Lib.hid hln
  clear hln
  go_wp2
  go_loopw [10] (fun i wr => ∃ (k : Nat) (now : Int), k ≤ l1.length ∧ i = .int .i64 k ∧ 0 ≤ now ∧ now ≤ 1000000000 ∧ Blk wr p 38 [.int .i64 a, .int .i64 b, .int .i64 c, .int .i64 d, .int .i64 e, .pointer (some ⟨q, 0, none⟩), .pointer (some ⟨qs, 0, none⟩), .pointer (some ⟨qk, 0, none⟩), tv, pv, .int .i64 now] ∧ Blk wr g 43 [.int .i64 a, .int .i64 b, .int .i64 c, .int .i64 d, .int .i64 e, .int .i64 0, .int .i64 0, pins, lv, sv, kv, tv2, places, .int .i64 now] ∧ Below W.heap.size W wr) (fun i _ => l1.length - (intOf i).toNat)
  case atStart => exact ⟨0, 0, Nat.zero_le _, rfl, by omega, by omega, HPP.out, HG.out, HB.out⟩
  case round =>
    obtain ⟨k, now, hk, rfl, hn0, hn1, hp, hg, hb⟩ := hrel
    by_cases hlt : k < l1.length
    · obtain ⟨ad, hA, z0⟩ := atInt (Kd.C_below HA1.out hb) k hlt
      subst hA
      obtain ⟨dd, hdd⟩ : ∃ dd, l1.getD k 0 = dd := ⟨_, rfl⟩
      rw [hdd] at z0
      have HDD := Lib.hid hdd
      have z10 : wr.cell? ⟨p, 10, none⟩ = some (.int .i64 now) := hp.cell 10
      have q1 : decide ((k : Int) < (l1.length : Int)) = true := decide_eq_true (by omega)
      have q2 : (0 : Int) ≤ (k : Int) := by omega
      have q3 : (k : Int) < (l1.length : Int) := by omega
      have hw : wrap64 ((k : Int) + 1) = ((k + 1 : Nat) : Int) := by have := HLN.out; unfold wrap64; omega
      have hpg : p ≠ g := blkNe hp hg (by decide)
      obtain ⟨m0, m1, m2⟩ := nextNow_in now dd hn0 hn1
      obtain ⟨nn, hnn⟩ : ∃ nn, nextNow now dd = nn := ⟨_, rfl⟩
      rw [hnn] at m0 m1 m2
      have HNN := Lib.hid hnn
      have q4 : decide (nn < now) = false := decide_eq_false (by omega)
      have HP := Lib.hid hp
      have HGG := Lib.hid hg
      have HBB := Lib.hid hb
      have HPG := Lib.hid hpg
      have HN := Lib.hid (And.intro hn0 hn1)
      have HM := Lib.hid (And.intro m0 (And.intro m1 m2))
      clear hp hg hb hpg hn0 hn1 m0 m1 m2 hdd hnn HPP HG HB
      go_wp2_with fail
      go_at_call 11
      refine (Tick2 p _ _ _ _ _ _ _ _ _ _ now dd HN.out.1 HN.out.2 _ HP.out).mono ?_
      rintro e4 w6 ⟨rfl, hp, ho⟩
      rw [HNN.out] at hp
      have n0 := Lib.hid hp
      have n1 := Lib.hid (ho.blk HGG.out HPG.out.symm)
      have n2 := Lib.hid (HBB.out.trans (ho.below _ HLO.out.1 HBB.out.size))
      obtain ⟨ad', hA', z1⟩ := atInt (Kd.C_below HA1.out n2.out) k hlt
      injection hA' with hA'
      subst hA'
      rw [HDD.out] at z1
      clear HP HGG HBB hp ho z10 z0
      have HP := n0
      have HGG := n1
      have HBB := n2
      clear n0 n1 n2
      go_wp2_with fail
      go_at_call 12
      refine (refTick2 g _ _ _ _ _ _ _ _ _ _ _ _ _ now dd HN.out.1 HN.out.2 _ HGG.out).mono ?_
      rintro e5 w7 ⟨rfl, hg, ho⟩
      rw [HNN.out] at hg
      have n0 := Lib.hid (ho.blk HP.out HPG.out)
      have n1 := Lib.hid hg
      have n2 := Lib.hid (HBB.out.trans (ho.below _ HLO.out.2 HBB.out.size))
      clear HP HGG HBB hg ho z1
      have HP := n0
      have HGG := n1
      have HBB := n2
      clear n0 n1 n2
      have y1 : w7.cell? ⟨p, 10, none⟩ = some (.int .i64 nn) := HP.out.cell 10
      have y2 : w7.cell? ⟨g, 13, none⟩ = some (.int .i64 nn) := HGG.out.cell 13
      go_wp2_with fail
      go_region_held3 (fun w' => w'.cell? ⟨p, 10, none⟩ = some (.int .i64 nn) ∧ w'.cell? ⟨g, 13, none⟩ = some (.int .i64 nn)) (exact ⟨y1, y2⟩) (fail)
      go_wp2
      go_roundw
      case rel => exact ⟨k + 1, nn, by omega, by rw [hw], HM.out.1, HM.out.2.1, blkDrewW HP.out, blkDrewW HGG.out, below_drew HBB.out⟩
      case measure =>
        rw [hw]
        show l1.length - (((k + 1 : Nat) : Int)).toNat < l1.length - ((k : Int)).toNat
        rw [Int.toNat_natCast, Int.toNat_natCast]
        omega
    · obtain rfl : k = l1.length := by omega
      have q1 : decide ((l1.length : Int) < (l1.length : Int)) = false := decide_eq_false (by omega)
      have HBB := Lib.hid hb
      clear hp hg hb HPP HG HB
      go_wp2
      go_ret
      exact ⟨rfl, HBB.out⟩
end


/-- THE PURE STATEMENT of gangplanklaw18_WorldTicks. -/
def gangplanklaw18_WorldTicks.Pure : Prop := ∀ (a0_0 : Int) (a0_1 : Int) (a0_2 : Int) (a0_3 : Int) (a0_4 : Int) (l1 : List Int), ((Lit.int .i64 a0_0).wf = true) → ((Lit.int .i64 a0_1).wf = true) → ((Lit.int .i64 a0_2).wf = true) → ((Lit.int .i64 a0_3).wf = true) → ((Lit.int .i64 a0_4).wf = true) → (l1.length ≤ maxLen) → ((∀ x ∈ l1, (Lit.int .i64 x).wf = true)) → gangplanklaw18_WorldTicks.f a0_0 a0_1 a0_2 a0_3 a0_4 l1 = some true

end Go.Proofs.Ytbbgeobnjdgpfaa.P
