/- Each Go function that the laws reach, as a plain function, with the proof that the machine's call comes to what it says; of a law: its row. Made by a program of this seat (wip/hp.py, over the print). -/
import Derived.Test.YtklngklmeanhcaaPx0
import Derived.Test.YtklngklmeanhcaaPx1
import Derived.Test.YtklngklmeanhcaaPx3
import Derived.Test.YtklngklmeanhcaaPx4
import Derived.Test.YtklngklmeanhcaaPx5
import Derived.Test.YtklngklmeanhcaaPx8
import Derived.Test.YtklngklmeanhcaaPx9
namespace Go.Proofs.Ytklngklmeanhcaa.P
open Go.RowKit Go.Proofs.YtklngklmeanhcaaW.PrintWords Go.Proofs.YtklngklmeanhcaaW.PrintLast Go.Proofs.YtklngklmeanhcaaW.PrintMore
attribute [local go_sem] max2_int min2_int max_two min_two max_three min_three max_four min_four   -- for this text's walks alone
set_option linter.unusedVariables false
set_option linter.unusedSimpArgs false

/-! ### gangplanklaw16_SlotsDo: function 3 -/
section
open Go.Shelf Go.Proofs.Ytklngklmeanhcaa.Hand
theorem fewD_l0 (l : List S33) (hl : l.length ≤ 30) : ∀ (k j : Nat), j ≤ l.length → l.length - j < k → ∃ b, gangplanklaw16_few.l0 k l (j : Int) = some b ∧ (b = true → ∀ i : Nat, j ≤ i → i < l.length → (rd_T33 l (i : Int)).f2.length ≤ 8)
  | 0, j, h1, h2 => by omega
  | k + 1, j, h1, h2 => by
    unfold gangplanklaw16_few.l0
    by_cases hj : (j : Int) < (l.length : Int)
    · rw [if_pos hj, if_pos (by omega)]
      by_cases h8 : (((rd_T33 l (j : Int)).f2).length : Int) > 8
      · rw [if_pos h8]
        exact ⟨false, rfl, fun h => by cases h⟩
      · rw [if_neg h8, show wrap64 ((j : Int) + 1) = ((j + 1 : Nat) : Int) from by unfold wrap64; omega]
        obtain ⟨b, hb, hb2⟩ := fewD_l0 l hl k (j + 1) (by omega) (by omega)
        refine ⟨b, hb, fun h i hi hi2 => ?_⟩
        by_cases e : i = j
        · rw [e]; omega
        · exact hb2 h i (by omega) hi2
    · rw [if_neg hj]
      exact ⟨true, rfl, fun _ i hi hi2 => by omega⟩
theorem fewD_any (A : Option Addr) (c : Nat) (l : List S33) (hc : l.length ≤ c) : ∃ b : Bool, (b = true → l.length ≤ 30 ∧ ∀ i : Nat, i < l.length → (rd_T33 l (i : Int)).f2.length ≤ 8) ∧ ∀ W, Kd.C k33 W A l.length l →
    Calls Try.prog 15 #[.slice A l.length c] W fun e W' => e = .returned (.bool b) ∧ Below W.heap.size W W' := by
  have hf : ∃ b : Bool, gangplanklaw16_few.f 40 l = some b ∧ (b = true → l.length ≤ 30 ∧ ∀ i : Nat, i < l.length → (rd_T33 l (i : Int)).f2.length ≤ 8) := by
    unfold gangplanklaw16_few.f
    by_cases h : (l.length : Int) > 30
    · rw [if_pos h]
      exact ⟨false, rfl, fun h => by cases h⟩
    · rw [if_neg h]
      obtain ⟨b, hb, hb2⟩ := fewD_l0 l (by omega) 40 0 (Nat.zero_le _) (by omega)
      exact ⟨b, hb, fun h => ⟨by omega, fun i hi => hb2 h i (Nat.zero_le _) hi⟩⟩
  obtain ⟨b, hb, hb2⟩ := hf
  refine ⟨b, hb2, fun W hC => (gangplanklaw16_few.calls 40 A c l b W hC hc hb).mono ?_⟩
  rintro e W' ⟨h1, h2⟩
  exact ⟨h1, h2.below⟩
/-- Of a pool the reference tells what ours does. -/
def refOk (id h : Int) (p : List S56) : Prop := idsWf p = true ∧ (p.length ≤ 8 → (∃ k, gangplankref08_Check.f k p = some (checkL p)) ∧ (∃ k, gangplankref08_Find.f k p id = some (findL p id)) ∧ ∃ k, gangplankref10_Pick.f k p h = some (succL (ofL p) h))
/-- What holds of all pools that stand in slots and of the act's own holds behind the act. -/
theorem actS_all (Q : List S56 → Prop) {st : List (Option (Option (List S56)))} (h : ∀ j p, st.getD j none = some (some p) → Q p) (k i : Int) (p : List S56) (hp : Q p) : ∀ j q, (actS st k i p).getD j none = some (some q) → Q q := by
  have hs : ∀ (n : Nat) (x : Option (Option (List S56))), (∀ q, x = some (some q) → Q q) → ∀ j q, (st.set n x).getD j none = some (some q) → Q q := fun n x hx j q hq => by
    rw [List.getD_eq_getElem?_getD, List.getElem?_set] at hq
    split at hq
    · split at hq
      · exact hx q hq
      · cases hq
    · rw [← List.getD_eq_getElem?_getD] at hq
      exact h j q hq
  unfold actS fillS putS
  repeat' split
  all_goals first | exact h | exact hs _ _ (fun q hq => by cases hq <;> exact hp)
theorem readS_all (Q : List S56 → Prop) {st : List (Option (Option (List S56)))} (h : ∀ j p, st.getD j none = some (some p) → Q p) (i : Int) (p : List S56) (hr : readS st i = some p) : Q p := h _ p (readS_some hr)
set_option maxRecDepth 100000 in
set_option maxHeartbeats 16000000 in
theorem Do16law_any (n : Int) (A1 : Option Addr) (c1 : Nat) (l : List S33) (h1 : l.length ≤ c1) (i id h : Int) (hok : ∀ k : Nat, k < l.length → refOk id h (rd_T33 l (k : Int)).f2) (w : World) (hC1 : Kd.C k33 w A1 l.length l) :
    Calls Try.prog 3 #[.int .i64 n, .slice A1 l.length c1, .int .i64 i, .int .i64 id, .int .u64 h] w fun e w' => e = .returned (.bool true) ∧ Below w.heap.size w w' := by
  obtain ⟨b, hb, hfew⟩ := fewD_any A1 c1 l h1
  have HFEW := Lib.hid hfew
  have HC1 := Lib.hid hC1
  have HC1c := Lib.hid h1
  have HOK := Lib.hid hok
  clear hfew hC1 h1 hok
  cases b with
  | false =>
    clear hb
    go_enter Try.func3, Try.ntmps3
    go_wp2_with fail
    go_at_call 14
    refine (works16_any _).mono ?_
    rintro e w0 ⟨rfl, hb⟩
    have HW0 := Lib.hid hb
    clear hb
    go_wp2_with fail
    go_at_call 15
    refine (HFEW.out _ (Kd.C_below HC1.out HW0.out)).mono ?_
    rintro e w1 ⟨rfl, hb⟩
    have HW := Lib.hid (HW0.out.trans (hb.mono HW0.out.size))
    clear hb
    go_wp2
    go_ret
    exact ⟨rfl, HW.out⟩
  | true =>
    have HB8 := Lib.hid (hb rfl)
    clear hb
    have hnew := newS_any n
    have hm8 : mOf n ≤ 8 := by have := mOf_eq n; unfold mx mn at this; split at this <;> split at this <;> omega
    have hnr := fun W => New16_any w n (mOf n) (mOf_eq n) W
    obtain ⟨m, hm⟩ : ∃ m, mOf n = m := ⟨_, rfl⟩
    rw [hm] at hnew hm8 hnr
    clear hm
    have HNEW := Lib.hid hnew
    have HNR := Lib.hid hnr
    have HM8 := Lib.hid hm8
    clear hnew hm8 hnr
    go_enter Try.func3, Try.ntmps3
    go_wp2_with fail
    go_at_call 14
    refine (works16_any _).mono ?_
    rintro e w0 ⟨rfl, hb⟩
    have HW0 := Lib.hid hb
    clear hb
    go_wp2_with fail
    go_at_call 15
    refine (HFEW.out _ (Kd.C_below HC1.out HW0.out)).mono ?_
    rintro e w1 ⟨rfl, hb⟩
    have HW := Lib.hid (HW0.out.trans (hb.mono HW0.out.size))
    clear hb
    go_wp2_with fail
    go_at_call 16
    refine (HNEW.out _).mono ?_
    rintro e w2 ⟨qs, ss, rfl, hs, hss, hb⟩
    have HS := Lib.hid hs
    have HSS := Lib.hid (Nat.le_trans HW.out.size hss)
    have HB := Lib.hid (HW.out.trans (hb.mono HW.out.size))
    clear hs hss hb
    go_wp2_with fail
    go_at_call 17
    refine (HNR.out _).mono ?_
    rintro e w3 ⟨Ar, cr, rfl, hr, hb⟩
    have HRr := Lib.hid hr
    have HS := Lib.hid (HS.out.below hb)
    have HB := Lib.hid (HB.out.trans (hb.mono HB.out.size))
    clear hr hb HNEW HNR HFEW
    go_wp2
    go_loopw [13, 14] (fun vm v wr => ∃ (k : Nat) (st : List (Option (Option (List S56)))) (A : Option Addr) (c : Nat), k ≤ l.length ∧ v = .int .i64 (k : Int) ∧ vm = .slice A m c ∧ Aside0 (Sl wr qs ss m st) ∧ Aside0 (Rl w wr A m c st) ∧ Aside0 (∀ j p, st.getD j none = some (some p) → p.length ≤ 8 ∧ refOk id h p) ∧ Aside0 (KeptB ss w3 wr))
      (fun _ v _ => l.length - (intOf v).toNat)
    case atStart => exact ⟨0, _, _, _, Nat.zero_le _, rfl, rfl, ⟨HS.out⟩, ⟨HRr.out⟩, ⟨fun j p hj => absurd hj (by rw [List.getD_eq_getElem?_getD, List.getElem?_replicate]; split <;> simp)⟩, ⟨KeptB.refl _ _⟩⟩
    case round =>
      obtain ⟨k, st, A, c, hk, rfl, rfl, HSr, HRr2, HQr, HKr⟩ := hrel
      by_cases hlt : k < l.length
      · obtain ⟨ad, A3, c3, hA, y0, y1, y2, hl3, hc3w⟩ := at_T33 HC1.out (k : Int) (by omega) (by omega)
        subst hA
        rw [Int.toNat_natCast] at y0 y1 y2
        have hBw : Below w.heap.size w wr := HB.out.trans (HKr.out.below _ HSS.out HB.out.size)
        have hc3 := Kd.C_below hc3w hBw
        have HY := Lib.hid (show ∀ W, Below w.heap.size w W → W.cell? (ad.add (k * 3)) = some (.int .i64 (rd_T33 l (k : Int)).f0) ∧ W.cell? ⟨(ad.add (k * 3)).block, (ad.add (k * 3)).off + 1, none⟩ = some (.int .i64 (rd_T33 l (k : Int)).f1) ∧ W.cell? ⟨(ad.add (k * 3)).block, (ad.add (k * 3)).off + 2, none⟩ = some (.slice A3 (rd_T33 l (k : Int)).f2.length c3) from fun W hb => ⟨(hb.cell (World.block_lt_of_cell? _ _ y0)).trans y0, (hb.cell (World.block_lt_of_cell? _ _ y1)).trans y1, (hb.cell (World.block_lt_of_cell? _ _ y2)).trans y2⟩)
        have hq8 : (rd_T33 l (k : Int)).f2.length ≤ 8 := HB8.out.2 k hlt
        have hqo := HOK.out k hlt
        have HD := Lib.hid (do16_any qs ss m st (rd_T33 l (k : Int)).f0 (rd_T33 l (k : Int)).f1 A3 c3 (rd_T33 l (k : Int)).f2 (by omega) hl3 hqo.1 wr HSr.out hc3)
        have HT := Lib.hid (fun (W : World) (hb : Below w.heap.size w W) (hR : Rl w W A m c st) => told16_any w W hb A m c st HM8.out hR (rd_T33 l (k : Int)).f0 (rd_T33 l (k : Int)).f1 A3 c3 (rd_T33 l (k : Int)).f2 hl3 hc3w (by
          obtain ⟨kk, hkk⟩ := (hqo.2 hq8).1
          intro W' hC'
          refine (gangplankref08_Check.calls kk A3 c3 _ _ W' hC' hl3 hkk).mono ?_
          rintro e w' ⟨rfl, hb⟩
          exact ⟨rfl, hb⟩))
        have hQ2 := actS_all (fun p => p.length ≤ 8 ∧ refOk id h p) HQr.out (rd_T33 l (k : Int)).f0 (rd_T33 l (k : Int)).f1 (rd_T33 l (k : Int)).f2 ⟨hq8, hqo⟩
        obtain ⟨ab, hab⟩ : ∃ ab, actB st (rd_T33 l (k : Int)).f0 (rd_T33 l (k : Int)).f1 (rd_T33 l (k : Int)).f2 = ab := ⟨_, rfl⟩
        obtain ⟨st2, hst2⟩ : ∃ st2, actS st (rd_T33 l (k : Int)).f0 (rd_T33 l (k : Int)).f1 (rd_T33 l (k : Int)).f2 = st2 := ⟨_, rfl⟩
        rw [hab, hst2] at HD HT
        rw [hst2] at hQ2
        obtain ⟨z0, hz0⟩ : ∃ z, (rd_T33 l (k : Int)).f0 = z := ⟨_, rfl⟩
        obtain ⟨z1, hz1⟩ : ∃ z, (rd_T33 l (k : Int)).f1 = z := ⟨_, rfl⟩
        obtain ⟨z2, hz2⟩ : ∃ z, (rd_T33 l (k : Int)).f2.length = z := ⟨_, rfl⟩
        rw [hz0, hz1, hz2] at HD HT HY
        have HQ2 := Lib.hid hQ2
        have HF2 := Lib.hid (show FewS st2 from fun j p hj => by have := (hQ2 j p hj).1; omega)
        have HBw := Lib.hid hBw
        have HR0 := Lib.hid HRr2.out
        have HS0 := Lib.hid HSr.out
        have HLT := Lib.hid hlt
        have q1 : decide ((k : Int) < (l.length : Int)) = true := decide_eq_true (by omega)
        have q2 : (0 : Int) ≤ (k : Int) := by omega
        have q3 : (k : Int) < (l.length : Int) := by omega
        have q4 := eq_true q2
        have q5 := eq_true q3
        have hwk : wrap64 ((k : Int) + 1) = ((k + 1 : Nat) : Int) := by have := HB8.out.1; unfold wrap64; omega
        have qne : (ab != ab) = false := by cases ab <;> rfl
        clear y0 y1 y2 hl3 hc3 hc3w HSr HRr2 HQr hlt hq8 hqo hBw hQ2 hab hst2 hz0 hz1 hz2
        obtain ⟨x0, x1, x2⟩ := HY.out wr HBw.out
        go_wp2_with fail
        go_at_call 18
        refine HD.out.mono ?_
        rintro e w4 ⟨rfl, h3, h4⟩
        have HS1 := Lib.hid h3
        have HR1 := Lib.hid (HR0.out.kept HS0.out h4)
        have HK1 := Lib.hid (HKr.out.trans h4)
        have HB1 := Lib.hid (HB.out.trans (HK1.out.below _ HSS.out HB.out.size))
        clear h3 h4 x0 x1 x2
        obtain ⟨x0, x1, x2⟩ := HY.out w4 HB1.out
        go_wp2_with fail
        go_at_call 19
        refine (HT.out _ HB1.out HR1.out).mono ?_
        rintro e w5 ⟨A', c', rfl, h3, h4⟩
        have HR2 := Lib.hid h3
        have HS2 := Lib.hid (HS1.out.below h4)
        have HK2 := Lib.hid (HK1.out.trans (KeptB.of_below h4))
        have HB2 := Lib.hid (HB1.out.trans (h4.mono HB1.out.size))
        clear h3 h4 x0 x1 x2 HD HT HR0 HS0 HR1 HS1
        obtain ⟨rs, hrs⟩ : ∃ rs, readS st2 i = rs := ⟨_, rfl⟩
    
        have HPK := Lib.hid (fun W hS => PickS_any qs ss m st2 i h W hS HF2.out)
        have HHS := Lib.hid (fun W hS => HasS_any qs ss m st2 i id W hS HF2.out)
        have HSZ := Lib.hid (fun W hS => SizeS_any qs ss m st2 i W hS)
        have HRP := Lib.hid (fun W hb hR => Pick16r_any w W hb A' m c' st2 hR i h (fun p hp A c W' hc hC => by
          obtain ⟨kk, hkk⟩ := ((HQ2.out _ p (readS_some hp)).2.2 (HQ2.out _ p (readS_some hp)).1).2.2
          refine (gangplankref10_Pick.calls kk A c _ _ _ W' hC hc hkk).mono ?_
          rintro e w' ⟨rfl, hb⟩
          exact ⟨rfl, hb⟩))
        have HRH := Lib.hid (fun W hb hR => Has16r_any w W hb A' m c' st2 hR i id (fun p hp A c W' hc hC => by
          obtain ⟨kk, hkk⟩ := ((HQ2.out _ p (readS_some hp)).2.2 (HQ2.out _ p (readS_some hp)).1).2.1
          refine (gangplankref08_Find.calls kk A c _ _ _ W' hC hc hkk).mono ?_
          rintro e w' ⟨rfl, hb⟩
          exact ⟨rfl, hb.below⟩))
        have HRZ := Lib.hid (fun W hb hR => Size16r_any w W hb A' m c' st2 hR i)
        rw [hrs] at HPK HHS HSZ HRP HRH HRZ
        clear hrs
        obtain ⟨g1, hg1⟩ : ∃ g, orZ 0 (fun p => succL (ofL p) h) rs = g := ⟨_, rfl⟩
        obtain ⟨g2, hg2⟩ : ∃ g, orZ false (fun p => decide (0 ≤ findL p id)) rs = g := ⟨_, rfl⟩
        obtain ⟨g3, hg3⟩ : ∃ g, orZ 0 (fun p => (p.length : Int)) rs = g := ⟨_, rfl⟩
        obtain ⟨g4, hg4⟩ : ∃ g, rs.isSome = g := ⟨_, rfl⟩
        rw [hg1, hg4] at HPK HRP
        rw [hg2, hg4] at HHS HRH
        rw [hg3, hg4] at HSZ HRZ
        clear hg1 hg2 hg3 hg4
        have qg1 : (g1 != g1) = false := bne_self_eq_false g1
        have qg2 : (g2 != g2) = false := by cases g2 <;> rfl
        have qg3 : (g3 != g3) = false := bne_self_eq_false g3
        have qg4 : (g4 != g4) = false := by cases g4 <;> rfl
        go_wp2_with fail
        go_at_call 20
        refine (HPK.out _ HS2.out).mono ?_
        rintro e w6 ⟨rfl, hb⟩
        have HS3 := Lib.hid (HS2.out.below hb)
        have HR3 := Lib.hid (HR2.out.below hb)
        have HK3 := Lib.hid (HK2.out.trans (KeptB.of_below hb))
        have HB3 := Lib.hid (HB2.out.trans (hb.mono HB2.out.size))
        clear hb
        go_wp2_with fail
        go_at_call 21
        refine (HRP.out _ HB3.out HR3.out).mono ?_
        rintro e w7 ⟨rfl, hb⟩
        have HS4 := Lib.hid (HS3.out.below hb)
        have HR4 := Lib.hid (HR3.out.below hb)
        have HK4 := Lib.hid (HK3.out.trans (KeptB.of_below hb))
        have HB4 := Lib.hid (HB3.out.trans (hb.mono HB3.out.size))
        clear hb
        go_wp2_with fail
        go_at_call 22
        refine (HHS.out _ HS4.out).mono ?_
        rintro e w8 ⟨rfl, hb⟩
        have HS5 := Lib.hid (HS4.out.below hb)
        have HR5 := Lib.hid (HR4.out.below hb)
        have HK5 := Lib.hid (HK4.out.trans (KeptB.of_below hb))
        have HB5 := Lib.hid (HB4.out.trans (hb.mono HB4.out.size))
        clear hb
        go_wp2_with fail
        go_at_call 23
        refine (HRH.out _ HB5.out HR5.out).mono ?_
        rintro e w9 ⟨rfl, hb⟩
        have HS6 := Lib.hid (HS5.out.below hb)
        have HR6 := Lib.hid (HR5.out.below hb)
        have HK6 := Lib.hid (HK5.out.trans (KeptB.of_below hb))
        have HB6 := Lib.hid (HB5.out.trans (hb.mono HB5.out.size))
        clear hb
        go_wp2_with fail
        go_at_call 24
        refine (HSZ.out _ HS6.out).mono ?_
        rintro e w10 ⟨rfl, hb⟩
        have HS7 := Lib.hid (HS6.out.below hb)
        have HR7 := Lib.hid (HR6.out.below hb)
        have HK7 := Lib.hid (HK6.out.trans (KeptB.of_below hb))
        have HB7 := Lib.hid (HB6.out.trans (hb.mono HB6.out.size))
        clear hb
        go_wp2_with fail
        go_at_call 25
        refine (HRZ.out _ HB7.out HR7.out).mono ?_
        rintro e w11 ⟨rfl, hb⟩
        have HS8 := Lib.hid (HS7.out.below hb)
        have HR8 := Lib.hid (HR7.out.below hb)
        have HK8 := Lib.hid (HK7.out.trans (KeptB.of_below hb))
        have HB8 := Lib.hid (HB7.out.trans (hb.mono HB7.out.size))
        clear hb
        go_wp2
        go_roundw
        case rel => exact ⟨k + 1, _, _, _, Nat.succ_le_of_lt HLT.out, by rw [hwk], rfl, ⟨HS8.out⟩, ⟨HR8.out⟩, ⟨HQ2.out⟩, ⟨HK8.out⟩⟩
        case measure =>
          rw [hwk]
          show l.length - (((k + 1 : Nat) : Int)).toNat < l.length - ((k : Int)).toNat
          rw [Int.toNat_natCast, Int.toNat_natCast]
          exact Nat.sub_succ_lt_self _ _ HLT.out
      · obtain rfl : k = l.length := Nat.le_antisymm hk (Nat.le_of_not_lt hlt)
        have q1 : decide ((l.length : Int) < (l.length : Int)) = false := decide_eq_false (by omega)
        have HKb := Lib.hid HKr.out
        clear HSr HRr2 HQr HKr hlt hk
        go_wp2_with fail
        go_ret
        exact ⟨rfl, HB.out.trans (HKb.out.below _ HSS.out HB.out.size)⟩
open Classical in
noncomputable def gangplanklaw16_SlotsDo.f (a0 : Int) (l1 : List S33) (a2 : Int) (a3 : Int) (a4 : Int) : Option Bool := if ∀ k : Nat, k < l1.length → refOk a3 a4 (rd_T33 l1 (k : Int)).f2 then some true else none
theorem gangplanklaw16_SlotsDo.calls (a0 : Int) (A1 : Option Addr) (c1 : Nat) (l1 : List S33) (a2 : Int) (a3 : Int) (a4 : Int) (r : Bool) (w : World) (hr1 : Kd.C k33 w A1 l1.length l1) (hc1 : l1.length ≤ c1) (h : gangplanklaw16_SlotsDo.f a0 l1 a2 a3 a4 = some r) :
    Calls Try.prog 3 #[.int .i64 a0, .slice A1 l1.length c1, .int .i64 a2, .int .i64 a3, .int .u64 a4] w fun e w' => e = .returned (.bool r) ∧ Below w.heap.size w w' := by
  unfold gangplanklaw16_SlotsDo.f at h
  by_cases hl : ∀ k : Nat, k < l1.length → refOk a3 a4 (rd_T33 l1 (k : Int)).f2
  · rw [if_pos hl] at h
    obtain rfl := Option.some.inj h
    exact Do16law_any a0 A1 c1 l1 hc1 a2 a3 a4 hl w hr1
  · rw [if_neg hl] at h
    exact absurd h (by simp)
end


/-- THE PURE STATEMENT of gangplanklaw16_SlotsDo. -/
def gangplanklaw16_SlotsDo.Pure : Prop := ∀ (a0 : Int) (l1 : List (S33)) (a2 : Int) (a3 : Int) (a4 : Int), ((Lit.int .i64 a0).wf = true) → (l1.length ≤ maxLen) → ((∀ x ∈ l1, okS33 x)) → ((Lit.int .i64 a2).wf = true) → ((Lit.int .i64 a3).wf = true) → ((Lit.int .u64 a4).wf = true) → gangplanklaw16_SlotsDo.f a0 l1 a2 a3 a4 = some true

end Go.Proofs.Ytklngklmeanhcaa.P
