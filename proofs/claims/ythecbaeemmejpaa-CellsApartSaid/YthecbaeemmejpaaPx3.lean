/- Each Go function that the laws reach, as a plain function, with the proof that the machine's call comes to what it says; of a law: its row. Made by a program of this seat (wip/hp.py, over the print). -/
import Derived.Test.YthecbaeemmejpaaPx0
import Derived.Test.YthecbaeemmejpaaPx1
import Derived.Test.YthecbaeemmejpaaPx2
namespace Go.Proofs.Ythecbaeemmejpaa.P
open Go.RowKit Go.Proofs.YthecbaeemmejpaaW.PrintWords Go.Proofs.YthecbaeemmejpaaW.PrintLast Go.Proofs.YthecbaeemmejpaaW.PrintMore
attribute [local go_sem] max2_int min2_int max_two min_two max_three min_three max_four min_four   -- for this text's walks alone
set_option linter.unusedVariables false
set_option linter.unusedSimpArgs false

/-! ### gangplanklaw14_CellsApart: function 13 -/
section
open Go.Shelf Go.Proofs.Ythecbaeemmejpaa.Hand
theorem at47 {w : World} {ad : Addr} {n : Nat} {xs : List S47} (h : Kd.C k47 w (some ad) n xs) (i : Int) (h0 : 0 ≤ i) (h1 : i < n) : w.cell? (ad.add (i.toNat * 4)) = some (.int .i64 (rd_T47 xs i).f0) ∧ w.cell? ⟨(ad.add (i.toNat * 4)).block, (ad.add (i.toNat * 4)).off + 1, none⟩ = some (.int .i64 (rd_T47 xs i).f1) ∧ w.cell? ⟨(ad.add (i.toNat * 4)).block, (ad.add (i.toNat * 4)).off + 2, none⟩ = some (.int .i64 (rd_T47 xs i).f2) ∧ w.cell? ⟨(ad.add (i.toNat * 4)).block, (ad.add (i.toNat * 4)).off + 3, none⟩ = some (.int .i64 (rd_T47 xs i).f3) := by
  obtain ⟨ad', e, r⟩ := at_T47 h i h0 h1
  injection e with e
  subst e; exact r
theorem Held.drew {W : World} {p b1 b2 : Nat} {s : CS} (h : Held W p b1 b2 s) : Held W.drew p b1 b2 s := ⟨h.hp, h.h1, h.h2, h.ne, h.n1, h.n2⟩
def gangplanklaw14_CellsApart.f (a0 : Int) (l1 : List S47) (l2 : List S47) : Option Bool := some true
set_option maxRecDepth 100000 in
set_option maxHeartbeats 16000000 in
theorem gangplanklaw14_CellsApart.calls (a0 : Int) (A1 : Option Addr) (c1 : Nat) (l1 : List S47) (A2 : Option Addr) (c2 : Nat) (l2 : List S47) (r : Bool) (w : World) (hr1 : Kd.C k47 w A1 l1.length l1) (hc1 : l1.length ≤ c1) (hr2 : Kd.C k47 w A2 l2.length l2) (hc2 : l2.length ≤ c2) (h : gangplanklaw14_CellsApart.f a0 l1 l2 = some r) :
    Calls Try.prog 13 #[.int .i64 a0, .slice A1 l1.length c1, .slice A2 l2.length c2] w fun e w' => e = .returned (.bool r) ∧ Below w.heap.size w w' := by
  obtain rfl : true = r := Option.some.inj h
  clear h
  have HR := Lib.hid hr1
  have HR2 := Lib.hid hr2
  clear hr1 hr2
  go_enter Try.func13, Try.ntmps13
  by_cases g0 : 60 < (l1.length : Int)
  · have q0 : decide (60 < (l1.length : Int)) = true := decide_eq_true g0
    go_wp2_with (go_at_call 21; refine (works14_any _).mono ?_; rintro e w1 ⟨rfl, hb⟩)
    go_ret
    exact ⟨rfl, hb⟩
  have q0 : decide (60 < (l1.length : Int)) = false := decide_eq_false g0
  by_cases g1 : 60 < (l2.length : Int)
  · have q1 : decide (60 < (l2.length : Int)) = true := decide_eq_true g1
    go_wp2_with (go_at_call 21; refine (works14_any _).mono ?_; rintro e w1 ⟨rfl, hb⟩)
    go_ret
    exact ⟨rfl, hb⟩
  have q1 : decide (60 < (l2.length : Int)) = false := decide_eq_false g1
  obtain ⟨N, hN⟩ : ∃ N : Nat, mn (mx a0 0) 1024 = (N : Int) := ⟨(mn (mx a0 0) 1024).toNat, by unfold mn mx; split <;> split <;> omega⟩
  have HN := Lib.hid hN
  have HLl := Lib.hid (show (l1.length : Int) ≤ 60 from by omega)
  clear hN g0 g1
  go_wp2_with fail
  go_at_call 21
  refine ((works14_any _)).mono ?_
  rintro e w1 ⟨rfl, hb⟩
  have HB := Lib.hid hb
  clear hb
  go_wp2_with fail
  go_at_call 22
  refine ((New_any a0 a0 N N HN.out HN.out _)).mono ?_
  rintro e w2 ⟨p, b1, b2, rfl, hh, hp, hp1, hp2, hb2⟩
  have HC := Lib.hid hh
  have HP := Lib.hid (show w.heap.size ≤ p ∧ w.heap.size ≤ b1 ∧ w.heap.size ≤ b2 from ⟨Nat.le_trans HB.out.size hp, Nat.le_trans HB.out.size hp1, Nat.le_trans HB.out.size hp2⟩)
  have HB2 := Lib.hid (HB.out.trans (hb2.mono HB.out.size))
  clear hh hp hp1 hp2 hb2 HB
  go_wp2_with fail
  go_at_call 22
  refine ((New_any a0 a0 N N HN.out HN.out _)).mono ?_
  rintro e w3 ⟨q, d1, d2, rfl, hh, hp, hp1, hp2, hb2⟩
  have HD := Lib.hid hh
  have HQ := Lib.hid (show w.heap.size ≤ q ∧ w.heap.size ≤ d1 ∧ w.heap.size ≤ d2 from ⟨Nat.le_trans HB2.out.size hp, Nat.le_trans HB2.out.size hp1, Nat.le_trans HB2.out.size hp2⟩)
  have HB3 := Lib.hid (HB2.out.trans (hb2.mono HB2.out.size))
  have HC3 := Lib.hid (show Held w3 p b1 b2 _ from ⟨HC.out.hp.below hb2, HC.out.h1.below hb2, HC.out.h2.below hb2, HC.out.ne, HC.out.n1, HC.out.n2⟩)
  have HS1 := Lib.hid (show (p < w2.heap.size ∧ b1 < w2.heap.size ∧ b2 < w2.heap.size) ∧ (w2.heap.size ≤ q ∧ w2.heap.size ≤ d1 ∧ w2.heap.size ≤ d2) ∧ (q < w3.heap.size ∧ d1 < w3.heap.size ∧ d2 < w3.heap.size) ∧ w2.heap.size ≤ w3.heap.size from ⟨⟨HC.out.hp.lt, HC.out.h1.lt, HC.out.h2.lt⟩, ⟨hp, hp1, hp2⟩, ⟨hh.hp.lt, hh.h1.lt, hh.h2.lt⟩, hb2.size⟩)
  clear hh hp hp1 hp2 hb2 HC HB2
  go_wp2_with fail
  go_at_call 22
  refine ((New_any a0 a0 N N HN.out HN.out _)).mono ?_
  rintro e w4 ⟨x, e1, e2, rfl, hh, hp, hp1, hp2, hb2⟩
  have HE := Lib.hid hh
  have HX := Lib.hid (show w.heap.size ≤ x ∧ w.heap.size ≤ e1 ∧ w.heap.size ≤ e2 from ⟨Nat.le_trans HB3.out.size hp, Nat.le_trans HB3.out.size hp1, Nat.le_trans HB3.out.size hp2⟩)
  have HB := Lib.hid (HB3.out.trans (hb2.mono HB3.out.size))
  have HC := Lib.hid (show Held w4 p b1 b2 _ from ⟨HC3.out.hp.below hb2, HC3.out.h1.below hb2, HC3.out.h2.below hb2, HC3.out.ne, HC3.out.n1, HC3.out.n2⟩)
  have HD4 := Lib.hid (show Held w4 q d1 d2 _ from ⟨HD.out.hp.below hb2, HD.out.h1.below hb2, HD.out.h2.below hb2, HD.out.ne, HD.out.n1, HD.out.n2⟩)
  have HS2 := Lib.hid (show w3.heap.size ≤ x ∧ w3.heap.size ≤ e1 ∧ w3.heap.size ≤ e2 from ⟨hp, hp1, hp2⟩)
  clear hh hp hp1 hp2 hb2 HC3 HD HB3
  have sepCD : ∀ k, (k = q ∨ k = d1 ∨ k = d2) → k ≠ p ∧ k ≠ b1 ∧ k ≠ b2 := fun k hk => by have := HS1.out; omega
  have sepDC : ∀ k, (k = p ∨ k = b1 ∨ k = b2) → k ≠ q ∧ k ≠ d1 ∧ k ≠ d2 := fun k hk => by have := HS1.out; omega
  have sepCE : ∀ k, (k = x ∨ k = e1 ∨ k = e2) → k ≠ p ∧ k ≠ b1 ∧ k ≠ b2 := fun k hk => by have := HS1.out; have := HS2.out; omega
  have sepEC : ∀ k, (k = p ∨ k = b1 ∨ k = b2) → k ≠ x ∧ k ≠ e1 ∧ k ≠ e2 := fun k hk => by have := HS1.out; have := HS2.out; omega
  have sepDE : ∀ k, (k = x ∨ k = e1 ∨ k = e2) → k ≠ q ∧ k ≠ d1 ∧ k ≠ d2 := fun k hk => by have := HS1.out; have := HS2.out; omega
  have sepED : ∀ k, (k = q ∨ k = d1 ∨ k = d2) → k ≠ x ∧ k ≠ e1 ∧ k ≠ e2 := fun k hk => by have := HS1.out; have := HS2.out; omega
  have SCD := Lib.hid sepCD
  have SDC := Lib.hid sepDC
  have SCE := Lib.hid sepCE
  have SEC := Lib.hid sepEC
  have SDE := Lib.hid sepDE
  have SED := Lib.hid sepED
  clear sepCD sepDC sepCE sepEC sepDE sepED HS1 HS2
  go_wp2
  go_loopw [11] (fun i wr => ∃ j : Int, 0 ≤ j ∧ j ≤ l1.length ∧ i = .int .i64 j ∧ (∃ s t, Held wr p b1 b2 s ∧ Held wr q d1 d2 s ∧ Held wr x e1 e2 t) ∧ Below w.heap.size w wr) (fun i _ => l1.length - (intOf i).toNat)
  case atStart => exact ⟨0, Int.le_refl _, by omega, rfl, ⟨_, _, HC.out, HD4.out, HE.out⟩, HB.out⟩
  case round =>
    clear HC HD4 HE HB
    obtain ⟨j, hj0, hj1, rfl, ⟨s, t, hc, hd, he⟩, hB⟩ := hrel
    have HB := Lib.hid hB
    have HC := Lib.hid hc
    have HD := Lib.hid hd
    have HE := Lib.hid he
    clear hB hc hd he
    by_cases hlt : j < l1.length
    · obtain ⟨ad, hA, x0, x1, x2, x3⟩ := at_T47 (Kd.C_below HR.out HB.out) j hj0 hlt
      subst hA
      have hw := w14s (x := j + 1) (by have := HLl.out; omega)
      have HJ := Lib.hid (show 0 ≤ j ∧ j < l1.length from ⟨hj0, hlt⟩)
      have p0 : decide (0 ≤ j) = true := decide_eq_true hj0
      have p1 : decide (j < (l1.length : Int)) = true := decide_eq_true hlt
      have p2 := eq_true hj0
      have p3 := eq_true hlt
      obtain ⟨⟨⟨v1, v2⟩, s'⟩, hact⟩ : ∃ z, s.act (rd_T47 l1 j).f0 (rd_T47 l1 j).f1 (rd_T47 l1 j).f2 (rd_T47 l1 j).f3 = z := ⟨_, rfl⟩
      have HACT := Lib.hid hact
      clear hact hlt hj0 hj1
      by_cases hm : j < l2.length
      · have m1 : decide (j < (l2.length : Int)) = true := decide_eq_true hm
        have m2 := eq_true hm
        obtain ⟨ad2, hA2, _, _, _, _⟩ := at_T47 (Kd.C_below HR2.out HB.out) j HJ.out.1 hm
        subst hA2
        have HM := Lib.hid hm
        clear hm
        go_wp2_with fail
        go_at_call 26
        refine ((do_any p b1 b2 s _ _ _ _ _ HC.out)).mono ?_
        rintro e w5 ⟨he, hh, ht⟩
        rw [HACT.out] at he hh
        obtain rfl : e = .returned (.agg #[.int .i64 v1, .bool v2]) := he
        have HC5 := Lib.hid (hh.alloc (.cells #[.int .i64 v1, .bool v2] 44))
        have HD5 := Lib.hid ((HD.out.far ht SCD.out).alloc (.cells #[.int .i64 v1, .bool v2] 44))
        have HE5 := Lib.hid ((HE.out.far ht SCE.out).alloc (.cells #[.int .i64 v1, .bool v2] 44))
        have HBx := Lib.hid (HB.out.trans (ht.below w.heap.size HP.out.1 HP.out.2.1 HP.out.2.2 HB.out.size))
        have HB5 := Lib.hid (HBx.out.alloc HBx.out.size (.cells #[.int .i64 v1, .bool v2] 44))
        have BX := Lib.hid (Blk.new w5 44 [.int .i64 v1, .bool v2])
        have HZ := Lib.hid (show (p < w5.heap.size ∧ b1 < w5.heap.size ∧ b2 < w5.heap.size) ∧ (q < w5.heap.size ∧ d1 < w5.heap.size ∧ d2 < w5.heap.size) ∧ (x < w5.heap.size ∧ e1 < w5.heap.size ∧ e2 < w5.heap.size) from ⟨⟨hh.hp.lt, hh.h1.lt, hh.h2.lt⟩, ⟨(HD.out.far ht SCD.out).hp.lt, (HD.out.far ht SCD.out).h1.lt, (HD.out.far ht SCD.out).h2.lt⟩, ⟨(HE.out.far ht SCE.out).hp.lt, (HE.out.far ht SCE.out).h1.lt, (HE.out.far ht SCE.out).h2.lt⟩⟩)
        clear HC HD HE HB hh ht x0 x1 x2 x3
        obtain ⟨y0, y1, y2, y3⟩ := at47 (Kd.C_below HR2.out HB5.out) j HJ.out.1 HM.out
        go_wp2_with fail
        go_at_call 26
        refine ((do_any x e1 e2 t _ _ _ _ _ HE5.out)).mono ?_
        rintro e w6 ⟨rfl, hh, ht⟩
        have HE6 := Lib.hid hh
        have HC6 := Lib.hid (HC5.out.far ht SEC.out)
        have HD6 := Lib.hid (HD5.out.far ht SED.out)
        have HB6 := Lib.hid (HB5.out.trans (ht.below w.heap.size HX.out.1 HX.out.2.1 HX.out.2.2 HB5.out.size))
        have BX6 := Lib.hid (ht.blk BX.out (by have := HZ.out; omega) (by have := HZ.out; omega) (by have := HZ.out; omega))
        clear HC5 HD5 HE5 HB5 HBx BX hh ht y0 y1 y2 y3
        have f0 := BX6.out.cell 0
        have f1 := BX6.out.cell 1
        obtain ⟨z0, z1, z2, z3⟩ := at47 (Kd.C_below HR.out HB6.out) j HJ.out.1 HJ.out.2
        go_wp2
        go_region_held3 (fun w' => w'.cell? ⟨w5.heap.size, 0, none⟩ = some (.int .i64 v1) ∧ w'.cell? ⟨w5.heap.size, 1, none⟩ = some (.bool v2) ∧ w'.cell? (ad.add (j.toNat * 4)) = some (.int .i64 (rd_T47 l1 j).f0) ∧ w'.cell? ⟨(ad.add (j.toNat * 4)).block, (ad.add (j.toNat * 4)).off + 1, none⟩ = some (.int .i64 (rd_T47 l1 j).f1) ∧ w'.cell? ⟨(ad.add (j.toNat * 4)).block, (ad.add (j.toNat * 4)).off + 2, none⟩ = some (.int .i64 (rd_T47 l1 j).f2) ∧ w'.cell? ⟨(ad.add (j.toNat * 4)).block, (ad.add (j.toNat * 4)).off + 3, none⟩ = some (.int .i64 (rd_T47 l1 j).f3))
          (first | exact ⟨f0, f1, z0, z1, z2, z3⟩ | exact ⟨KEEP7.out.1, KEEP7.out.2⟩ | (simp [*]; done))
          (first | (go_at_call 26; refine (do_any q d1 d2 s _ _ _ _ _ HD6.out.drew).mono ?_; rintro e w7 ⟨he, hh, ht⟩; rw [HACT.out] at he hh; obtain rfl : e = .returned (.agg #[.int .i64 v1, .bool v2]) := he; have HD7 := Lib.hid hh; have HC7 := Lib.hid (HC6.out.drew.far ht SDC.out); have HE7 := Lib.hid (HE6.out.drew.far ht SDE.out); have HB7 := Lib.hid ((below_drew HB6.out).trans (ht.below w.heap.size HQ.out.1 HQ.out.2.1 HQ.out.2.2 HB6.out.size)); have BX7 := ht.blk (show Blk (World.drew _) _ _ _ from BX6.out) (by have := HZ.out; omega) (by have := HZ.out; omega) (by have := HZ.out; omega); have KEEP7 := Lib.hid (show (_ ∧ _ ∧ _ ∧ _ ∧ _ ∧ _) from ⟨BX7.cell 0, BX7.cell 1, at47 (Kd.C_below HR.out HB7.out) j HJ.out.1 HJ.out.2⟩); clear hh ht BX7))
        all_goals
          go_wp2
          go_roundw
          case rel => exact ⟨j + 1, by have := HJ.out; omega, by have := HJ.out; omega, by rw [hw], ⟨s', _, HC7.out, HD7.out, HE7.out⟩, HB7.out⟩
          case measure =>
            rw [hw]
            show l1.length - (j + 1).toNat < l1.length - j.toNat
            have := HJ.out
            omega
      · have m1 : decide (j < (l2.length : Int)) = false := decide_eq_false hm
        have m2 := eq_false hm
        clear hm
        go_wp2_with fail
        go_at_call 26
        refine ((do_any p b1 b2 s _ _ _ _ _ HC.out)).mono ?_
        rintro e w5 ⟨he, hh, ht⟩
        rw [HACT.out] at he hh
        obtain rfl : e = .returned (.agg #[.int .i64 v1, .bool v2]) := he
        have HC5 := Lib.hid (hh.alloc (.cells #[.int .i64 v1, .bool v2] 44))
        have HD5 := Lib.hid ((HD.out.far ht SCD.out).alloc (.cells #[.int .i64 v1, .bool v2] 44))
        have HE5 := Lib.hid ((HE.out.far ht SCE.out).alloc (.cells #[.int .i64 v1, .bool v2] 44))
        have HBx := Lib.hid (HB.out.trans (ht.below w.heap.size HP.out.1 HP.out.2.1 HP.out.2.2 HB.out.size))
        have HB5 := Lib.hid (HBx.out.alloc HBx.out.size (.cells #[.int .i64 v1, .bool v2] 44))
        have BX := Lib.hid (Blk.new w5 44 [.int .i64 v1, .bool v2])
        have HZ := Lib.hid (show (p < w5.heap.size ∧ b1 < w5.heap.size ∧ b2 < w5.heap.size) ∧ (q < w5.heap.size ∧ d1 < w5.heap.size ∧ d2 < w5.heap.size) ∧ (x < w5.heap.size ∧ e1 < w5.heap.size ∧ e2 < w5.heap.size) from ⟨⟨hh.hp.lt, hh.h1.lt, hh.h2.lt⟩, ⟨(HD.out.far ht SCD.out).hp.lt, (HD.out.far ht SCD.out).h1.lt, (HD.out.far ht SCD.out).h2.lt⟩, ⟨(HE.out.far ht SCE.out).hp.lt, (HE.out.far ht SCE.out).h1.lt, (HE.out.far ht SCE.out).h2.lt⟩⟩)
        clear HC HD HE HB hh ht x0 x1 x2 x3
        obtain ⟨W6, hW6⟩ : ∃ W6, w5.alloc (.cells #[.int .i64 v1, .bool v2] 44) = W6 := ⟨_, rfl⟩
        have HC6 := Lib.hid (show Held W6 p b1 b2 s' from by rw [← hW6]; exact HC5.out)
        have HD6 := Lib.hid (show Held W6 q d1 d2 s from by rw [← hW6]; exact HD5.out)
        have HE6 := Lib.hid (show Held W6 x e1 e2 t from by rw [← hW6]; exact HE5.out)
        have HB6 := Lib.hid (show Below w.heap.size w W6 from by rw [← hW6]; exact HB5.out)
        have BX6 := Lib.hid (show Blk W6 w5.heap.size 44 [.int .i64 v1, .bool v2] from by rw [← hW6]; exact BX.out)
        clear HC5 HD5 HE5 HB5 HBx BX
        go_wp2
        clear hW6
        have f0 := BX6.out.cell 0
        have f1 := BX6.out.cell 1
        obtain ⟨z0, z1, z2, z3⟩ := at47 (Kd.C_below HR.out HB6.out) j HJ.out.1 HJ.out.2
        go_region_held3 (fun w' => w'.cell? ⟨w5.heap.size, 0, none⟩ = some (.int .i64 v1) ∧ w'.cell? ⟨w5.heap.size, 1, none⟩ = some (.bool v2) ∧ w'.cell? (ad.add (j.toNat * 4)) = some (.int .i64 (rd_T47 l1 j).f0) ∧ w'.cell? ⟨(ad.add (j.toNat * 4)).block, (ad.add (j.toNat * 4)).off + 1, none⟩ = some (.int .i64 (rd_T47 l1 j).f1) ∧ w'.cell? ⟨(ad.add (j.toNat * 4)).block, (ad.add (j.toNat * 4)).off + 2, none⟩ = some (.int .i64 (rd_T47 l1 j).f2) ∧ w'.cell? ⟨(ad.add (j.toNat * 4)).block, (ad.add (j.toNat * 4)).off + 3, none⟩ = some (.int .i64 (rd_T47 l1 j).f3))
          (first | exact ⟨f0, f1, z0, z1, z2, z3⟩ | exact ⟨KEEP7.out.1, KEEP7.out.2⟩ | (simp [*]; done))
          (first | (go_at_call 26; refine (do_any q d1 d2 s _ _ _ _ _ HD6.out.drew).mono ?_; rintro e w7 ⟨he, hh, ht⟩; rw [HACT.out] at he hh; obtain rfl : e = .returned (.agg #[.int .i64 v1, .bool v2]) := he; have HD7 := Lib.hid hh; have HC7 := Lib.hid (HC6.out.drew.far ht SDC.out); have HE7 := Lib.hid (HE6.out.drew.far ht SDE.out); have HB7 := Lib.hid ((below_drew HB6.out).trans (ht.below w.heap.size HQ.out.1 HQ.out.2.1 HQ.out.2.2 HB6.out.size)); have BX7 := ht.blk (show Blk (World.drew _) _ _ _ from BX6.out) (by have := HZ.out; omega) (by have := HZ.out; omega) (by have := HZ.out; omega); have KEEP7 := Lib.hid (show (_ ∧ _ ∧ _ ∧ _ ∧ _ ∧ _) from ⟨BX7.cell 0, BX7.cell 1, at47 (Kd.C_below HR.out HB7.out) j HJ.out.1 HJ.out.2⟩); clear hh ht BX7))
        all_goals
          go_wp2
          go_roundw
          case rel => exact ⟨j + 1, by have := HJ.out; omega, by have := HJ.out; omega, by rw [hw], ⟨s', _, HC7.out, HD7.out, HE7.out⟩, HB7.out⟩
          case measure =>
            rw [hw]
            show l1.length - (j + 1).toNat < l1.length - j.toNat
            have := HJ.out
            omega
    · obtain rfl : j = l1.length := by omega
      clear hj0 hj1 hlt
      go_wp2
      go_region_held3 (fun _ => True) (trivial) (first
        | (go_at_call 28; refine (Shared_any p b1 b2 s _ HC.out.drew).mono ?_; rintro e w5 ⟨rfl, rfl⟩)
        | (go_at_call 28; refine (Shared_any q d1 d2 s _ HD.out.drew).mono ?_; rintro e w5 ⟨rfl, rfl⟩))
      all_goals
        go_wp2
        go_ret
        exact ⟨rfl, by first | exact HB.out | exact below_drew HB.out⟩
end


/-- THE PURE STATEMENT of gangplanklaw14_CellsApart. -/
def gangplanklaw14_CellsApart.Pure : Prop := ∀ (a0 : Int) (l1 : List (S47)) (l2 : List (S47)), ((Lit.int .i64 a0).wf = true) → (l1.length ≤ maxLen) → ((∀ x ∈ l1, okS47 x)) → (l2.length ≤ maxLen) → ((∀ x ∈ l2, okS47 x)) → gangplanklaw14_CellsApart.f a0 l1 l2 = some true

end Go.Proofs.Ythecbaeemmejpaa.P
