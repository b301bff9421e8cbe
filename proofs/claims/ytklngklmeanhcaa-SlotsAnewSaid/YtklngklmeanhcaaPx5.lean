/- Each Go function that the laws reach, as a plain function, with the proof that the machine's call comes to what it says; of a law: its row. Made by a program of this seat (wip/hp.py, over the print). -/
import Derived.Test.YtklngklmeanhcaaPx0
import Derived.Test.YtklngklmeanhcaaPx1
import Derived.Test.YtklngklmeanhcaaPx3
import Derived.Test.YtklngklmeanhcaaPx4
namespace Go.Proofs.Ytklngklmeanhcaa.P
open Go.RowKit Go.Proofs.YtklngklmeanhcaaW.PrintWords Go.Proofs.YtklngklmeanhcaaW.PrintLast Go.Proofs.YtklngklmeanhcaaW.PrintMore
attribute [local go_sem] max2_int min2_int max_two min_two max_three min_three max_four min_four   -- for this text's walks alone
set_option linter.unusedVariables false
set_option linter.unusedSimpArgs false

/-! ### gangplanklaw16_SlotsAnew: function 7 -/
section
open Go.Shelf Go.Proofs.Ytklngklmeanhcaa.Hand
theorem fB20 (b : Option (Option (List S56))) (p : List S56) (h : checkL p = 0) : fillB [some none, b] 0 p = true := by unfold fillB; rw [h]; rfl
theorem fS20 (b : Option (Option (List S56))) (p : List S56) (h : checkL p = 0) : fillS [some none, b] 0 p = [some (some p), b] := by unfold fillS; rw [fB20 b p h]; rfl
theorem fB20f (b : Option (Option (List S56))) (p : List S56) (h : ¬ checkL p = 0) : fillB [some none, b] 0 p = false := by unfold fillB; rw [decide_eq_false h]; rfl
theorem fS20f (b : Option (Option (List S56))) (p : List S56) (h : ¬ checkL p = 0) : fillS [some none, b] 0 p = [some none, b] := by unfold fillS; rw [fB20f b p h]; rfl
theorem fB21 (a : Option (Option (List S56))) (p : List S56) (h : checkL p = 0) : fillB [a, some none] 1 p = true := by unfold fillB; rw [h]; rfl
theorem fS21 (a : Option (Option (List S56))) (p : List S56) (h : checkL p = 0) : fillS [a, some none] 1 p = [a, some (some p)] := by unfold fillS; rw [fB21 a p h]; rfl
theorem fB21f (a : Option (Option (List S56))) (p : List S56) (h : ¬ checkL p = 0) : fillB [a, some none] 1 p = false := by unfold fillB; rw [decide_eq_false h]; rfl
theorem fS21f (a : Option (Option (List S56))) (p : List S56) (h : ¬ checkL p = 0) : fillS [a, some none] 1 p = [a, some none] := by unfold fillS; rw [fB21f a p h]; rfl
theorem rd20 (b : Option (Option (List S56))) (p : List S56) : readS [some (some p), b] 0 = some p := rfl
theorem rd20n (b : Option (Option (List S56))) : readS [some none, b] 0 = none := rfl
theorem rd21 (a : Option (Option (List S56))) (p : List S56) : readS [a, some (some p)] 1 = some p := rfl
theorem few2 (a b : Option (Option (List S56))) (ha : ∀ p, a = some (some p) → p.length ≤ 1000) (hb : ∀ p, b = some (some p) → p.length ≤ 1000) : FewS [a, b] := fun i p h => by
  match i, h with
  | 0, h => exact ha p h
  | 1, h => exact hb p h
  | i + 2, h => cases h
theorem pickR (p : List S56) (h : Int) (hp : p.length ≤ 1000) : ring_Pick.f p h = some (succL (ofL p) h) := by
  unfold ring_Pick.f points_Of.f
  rw [if_pos (by omega), Option.bind_some, succ_someS _ _ (ofL_few p hp)]
  rfl
set_option maxRecDepth 100000 in
set_option maxHeartbeats 16000000 in
theorem Anew16_any (A1 : Option Addr) (c1 : Nat) (p : List S56) (h1 : p.length ≤ c1) (A2 : Option Addr) (c2 : Nat) (q : List S56) (h2 : q.length ≤ c2) (hok : idsWf p = true ∧ idsWf q = true) (id h : Int) (sp : Bool) (w : World) (hC1 : Kd.C k56 w A1 p.length p) (hC2 : Kd.C k56 w A2 q.length q) :
    Calls Try.prog 7 #[.slice A1 p.length c1, .slice A2 q.length c2, .int .i64 id, .int .u64 h, .bool sp] w fun e w' => e = .returned (.bool true) ∧ Below w.heap.size w w' := by
  have HC1 := Lib.hid hC1
  have HC2 := Lib.hid hC2
  have HC1c := Lib.hid h1
  have HC2c := Lib.hid h2
  have HW1f := Lib.hid hok.1
  have HW2f := Lib.hid hok.2
  clear hC1 hC2 h1 h2 hok
  by_cases l1 : 8 < p.length
  · have t1 : decide (8 < (p.length : Int)) = true := decide_eq_true (by omega)
    have t2 : decide (8 < p.length) = true := decide_eq_true l1
    go_enter Try.func7, Try.ntmps7
    go_wp2_with fail
    go_at_call 14
    refine (works16_any _).mono ?_
    rintro e w0 ⟨rfl, hb⟩
    have HW0 := Lib.hid hb
    clear hb
    go_wp2
    go_ret
    exact ⟨rfl, HW0.out⟩
  have t1 : decide (8 < (p.length : Int)) = false := decide_eq_false (by omega)
  have t2 : decide (8 < p.length) = false := decide_eq_false l1
  have HL1 := Lib.hid (show p.length ≤ 8 by omega)
  clear l1
  by_cases l2 : 8 < q.length
  · have t3 : decide (8 < (q.length : Int)) = true := decide_eq_true (by omega)
    have t4 : decide (8 < q.length) = true := decide_eq_true l2
    go_enter Try.func7, Try.ntmps7
    go_wp2_with fail
    go_at_call 14
    refine (works16_any _).mono ?_
    rintro e w0 ⟨rfl, hb⟩
    have HW0 := Lib.hid hb
    clear hb
    go_wp2
    go_ret
    exact ⟨rfl, HW0.out⟩
  have t3 : decide (8 < (q.length : Int)) = false := decide_eq_false (by omega)
  have t4 : decide (8 < q.length) = false := decide_eq_false l2
  have HL2 := Lib.hid (show q.length ≤ 8 by omega)
  clear l2
  obtain ⟨ck, hck⟩ : ∃ ck, checkL q = ck := ⟨_, rfl⟩
  have HCK := Lib.hid (show ∀ W, Kd.C k56 W A2 q.length q → Calls Try.prog 26 #[.slice A2 q.length c2] W fun e w' => e = .returned (.int .i64 ck) ∧ Below W.heap.size W w' from fun W h => hck ▸ Check_any A2 c2 q (by have := HL2.out; omega) HW2f.out W h)
  have HCP := Lib.hid (show ∀ W, Kd.C k56 W A1 p.length p → Calls Try.prog 26 #[.slice A1 p.length c1] W fun e w' => e = .returned (.int .i64 (checkL p)) ∧ Below W.heap.size W w' from fun W h => Check_any A1 c1 p (by have := HL1.out; omega) HW1f.out W h)
  by_cases hz : ck = 0
  · subst hz
    have HZQ := Lib.hid hck
    clear hck
    by_cases hzp : checkL p = 0
    · have HZ := Lib.hid hzp
      have qp : (checkL p == 0) = true := beq_iff_eq.mpr hzp
      clear hzp
      cases sp with
      | true =>
        go_enter Try.func7, Try.ntmps7
        go_wp2_with fail
        go_at_call 14
        refine (works16_any _).mono ?_
        rintro e w0 ⟨rfl, hb⟩
        have HW0 := Lib.hid hb
        clear hb
        go_wp2_with fail
        go_at_call 26
        refine (HCK.out _ (Kd.C_below HC2.out HW0.out)).mono ?_
        rintro e w1 ⟨rfl, hb⟩
        have HW := Lib.hid (HW0.out.trans (hb.mono HW0.out.size))
        clear hb
        go_wp2_with fail
        go_at_call 16
        refine (newS_any 2 _).mono ?_
        rintro e w2 ⟨qs, ss, rfl, hs, hss, hb⟩
        have HS := Lib.hid (show Sl w2 qs ss 2 [none, none] from hs)
        have HSS := Lib.hid (Nat.le_trans HW.out.size hss)
        have HB := Lib.hid (HW.out.trans (hb.mono HW.out.size))
        have HK := Lib.hid (KeptB.refl ss w2)
        clear hs hss hb
        go_wp2_with fail
        refine wp_loop_rounds 3 ?_
        rw [rounds_succ]
        go_wp2_with fail
        go_at_call 27
        refine (BeginS_any qs ss 2 [none, none] 0 _ HS.out).mono ?_
        rintro e wa1 ⟨he, h1, h2⟩
        obtain rfl : e = .returned (.bool true) := he
        have HSa1 := Lib.hid (show Sl wa1 qs ss 2 [some none, none] from h1)
        have HKa1 := Lib.hid (HK.out.trans h2)
        clear h1 h2
        go_wp2_with fail
        go_at_call 28
        refine (FillS_any qs ss 2 [some none, none] 0 A1 c1 p (by have := HL1.out; omega) HC1c.out HW1f.out _ HSa1.out (Kd.C_below HC1.out (HB.out.trans (HKa1.out.below _ HSS.out HB.out.size)))).mono ?_
        rintro e wa2 ⟨he, h1, h2⟩
        rw [fB20 none p HZ.out] at he
        rw [fS20 none p HZ.out] at h1
        obtain rfl : e = .returned (.bool true) := he
        have HSa2 := Lib.hid (show Sl wa2 qs ss 2 [some (some p), none] from h1)
        have HKa2 := Lib.hid (HKa1.out.trans h2)
        clear h1 h2
        go_wp2_with fail
        rw [rounds_succ]
        go_wp2_with fail
        go_at_call 27
        refine (BeginS_any qs ss 2 [some (some p), none] 1 _ HSa2.out).mono ?_
        rintro e wa3 ⟨he, h1, h2⟩
        obtain rfl : e = .returned (.bool true) := he
        have HSa3 := Lib.hid (show Sl wa3 qs ss 2 [some (some p), some none] from h1)
        have HKa3 := Lib.hid (HKa2.out.trans h2)
        clear h1 h2
        go_wp2_with fail
        go_at_call 28
        refine (FillS_any qs ss 2 [some (some p), some none] 1 A1 c1 p (by have := HL1.out; omega) HC1c.out HW1f.out _ HSa3.out (Kd.C_below HC1.out (HB.out.trans (HKa3.out.below _ HSS.out HB.out.size)))).mono ?_
        rintro e wa4 ⟨he, h1, h2⟩
        rw [fB21 (some (some p)) p HZ.out] at he
        rw [fS21 (some (some p)) p HZ.out] at h1
        obtain rfl : e = .returned (.bool true) := he
        have HSa4 := Lib.hid (show Sl wa4 qs ss 2 [some (some p), some (some p)] from h1)
        have HKa4 := Lib.hid (HKa3.out.trans h2)
        clear h1 h2
        go_wp2_with fail
        rw [rounds_succ]
        go_wp2_with fail
        go_at_call 30
        refine (SpoilS_any qs ss 2 [some (some p), some (some p)] 1 _ HSa4.out).mono ?_
        rintro e wa5 ⟨he, h1, h2⟩
        obtain rfl : e = .returned (.bool true) := he
        have HSa5 := Lib.hid (show Sl wa5 qs ss 2 [some (some p), none] from h1)
        have HKa5 := Lib.hid (HKa4.out.trans h2)
        clear h1 h2
        go_wp2_with fail
        go_at_call 27
        refine (BeginS_any qs ss 2 [some (some p), none] 1 _ HSa5.out).mono ?_
        rintro e wa6 ⟨he, h1, h2⟩
        obtain rfl : e = .returned (.bool true) := he
        have HSa6 := Lib.hid (show Sl wa6 qs ss 2 [some (some p), some none] from h1)
        have HKa6 := Lib.hid (HKa5.out.trans h2)
        clear h1 h2
        go_wp2_with fail
        go_at_call 28
        refine (FillS_any qs ss 2 [some (some p), some none] 1 A2 c2 q (by have := HL2.out; omega) HC2c.out HW2f.out _ HSa6.out (Kd.C_below HC2.out (HB.out.trans (HKa6.out.below _ HSS.out HB.out.size)))).mono ?_
        rintro e wa7 ⟨he, h1, h2⟩
        rw [fB21 (some (some p)) q HZQ.out] at he
        rw [fS21 (some (some p)) q HZQ.out] at h1
        obtain rfl : e = .returned (.bool true) := he
        have HSa7 := Lib.hid (show Sl wa7 qs ss 2 [some (some p), some (some q)] from h1)
        have HKa7 := Lib.hid (HKa6.out.trans h2)
        clear h1 h2
        go_wp2_with fail
        go_at_call 20
        refine (PickS_any qs ss 2 [some (some p), some (some q)] 1 h _ HSa7.out (few2 _ _ (fun x hx => by injection hx with hx; injection hx with hx; subst hx; have := HL1.out; omega) (fun x hx => by injection hx with hx; injection hx with hx; subst hx; have := HL2.out; omega))).mono ?_
        rintro e wa8 ⟨he, hb⟩
        rw [rd21 (some (some p)) q] at he
        obtain rfl : e = .returned (.tuple #[.int .i64 (succL (ofL q) h), .bool true]) := he
        have HSa8 := Lib.hid (HSa7.out.below hb)
        have HKa8 := Lib.hid (HKa7.out.trans (KeptB.of_below hb))
        clear hb
        go_wp2_with fail
        go_at_call 22
        refine (HasS_any qs ss 2 [some (some p), some (some q)] 1 id _ HSa8.out (few2 _ _ (fun x hx => by injection hx with hx; injection hx with hx; subst hx; have := HL1.out; omega) (fun x hx => by injection hx with hx; injection hx with hx; subst hx; have := HL2.out; omega))).mono ?_
        rintro e wa9 ⟨he, hb⟩
        rw [rd21 (some (some p)) q] at he
        obtain rfl : e = .returned (.tuple #[.bool (decide (0 ≤ findL q id)), .bool true]) := he
        have HSa9 := Lib.hid (HSa8.out.below hb)
        have HKa9 := Lib.hid (HKa8.out.trans (KeptB.of_below hb))
        clear hb
        go_wp2_with fail
        go_at_call 20
        refine (PickS_any qs ss 2 [some (some p), some (some q)] 0 h _ HSa9.out (few2 _ _ (fun x hx => by injection hx with hx; injection hx with hx; subst hx; have := HL1.out; omega) (fun x hx => by injection hx with hx; injection hx with hx; subst hx; have := HL2.out; omega))).mono ?_
        rintro e wa10 ⟨he, hb⟩
        rw [rd20 (some (some q)) p] at he
        obtain rfl : e = .returned (.tuple #[.int .i64 (succL (ofL p) h), .bool true]) := he
        have HSa10 := Lib.hid (HSa9.out.below hb)
        have HKa10 := Lib.hid (HKa9.out.trans (KeptB.of_below hb))
        clear hb
        go_wp2_with fail
        go_at_call 26
        refine (HCP.out _ (Kd.C_below HC1.out (HB.out.trans (HKa10.out.below _ HSS.out HB.out.size)))).mono ?_
        rintro e wa11 ⟨rfl, hb⟩
        have HSa11 := Lib.hid (HSa10.out.below hb)
        have HKa11 := Lib.hid (HKa10.out.trans (KeptB.of_below hb))
        clear hb
        obtain ⟨xq, hxq⟩ : ∃ xq, succL (ofL q) h = xq := ⟨_, rfl⟩
        have HPQ := Lib.hid (pickR q h (by have := HL2.out; omega))
        rw [hxq] at HPQ ⊢
        clear hxq
        obtain ⟨xp, hxp⟩ : ∃ xp, succL (ofL p) h = xp := ⟨_, rfl⟩
        have HPP := Lib.hid (pickR p h (by have := HL1.out; omega))
        rw [hxp] at HPP ⊢
        clear hxp
        go_wp2_with fail
        go_at_call 31
        refine (ring_Pick.calls A2 c2 q h xq _ (Kd.C_below HC2.out (HB.out.trans (HKa11.out.below _ HSS.out HB.out.size))) HC2c.out HPQ.out).mono ?_
        rintro e wa12 ⟨rfl, hb⟩
        have HSa12 := Lib.hid (HSa11.out.below hb)
        have HKa12 := Lib.hid (HKa11.out.trans (KeptB.of_below hb))
        clear hb
        have HF := Lib.hid (Find_any A2 c2 q (by have := HL2.out; omega) id _ (Kd.C_below HC2.out (HB.out.trans (HKa12.out.below _ HSS.out HB.out.size))))
        obtain ⟨r, hr⟩ : ∃ r, findL q id = r := ⟨_, rfl⟩
        rw [hr] at HF ⊢
        clear hr
        obtain ⟨br, hbr⟩ : ∃ br, decide (0 ≤ r) = br := ⟨_, rfl⟩
        rw [hbr]
        go_wp2_with fail
        go_at_call 29
        refine (HF.out).mono ?_
        rintro e wa13 ⟨rfl, hb⟩
        have HSa13 := Lib.hid (HSa12.out.below hb)
        have HKa13 := Lib.hid (HKa12.out.trans (KeptB.of_below hb))
        clear hb
        go_wp2_with fail
        go_at_call 31
        refine (ring_Pick.calls A1 c1 p h xp _ (Kd.C_below HC1.out (HB.out.trans (HKa13.out.below _ HSS.out HB.out.size))) HC1c.out HPP.out).mono ?_
        rintro e wa14 ⟨rfl, hb⟩
        have HSa14 := Lib.hid (HSa13.out.below hb)
        have HKa14 := Lib.hid (HKa13.out.trans (KeptB.of_below hb))
        clear hb
        go_wp2_with fail
        go_ret
        exact ⟨by cases br <;> simp_all, HB.out.trans (HKa14.out.below _ HSS.out HB.out.size)⟩
      | false =>
        go_enter Try.func7, Try.ntmps7
        go_wp2_with fail
        go_at_call 14
        refine (works16_any _).mono ?_
        rintro e w0 ⟨rfl, hb⟩
        have HW0 := Lib.hid hb
        clear hb
        go_wp2_with fail
        go_at_call 26
        refine (HCK.out _ (Kd.C_below HC2.out HW0.out)).mono ?_
        rintro e w1 ⟨rfl, hb⟩
        have HW := Lib.hid (HW0.out.trans (hb.mono HW0.out.size))
        clear hb
        go_wp2_with fail
        go_at_call 16
        refine (newS_any 2 _).mono ?_
        rintro e w2 ⟨qs, ss, rfl, hs, hss, hb⟩
        have HS := Lib.hid (show Sl w2 qs ss 2 [none, none] from hs)
        have HSS := Lib.hid (Nat.le_trans HW.out.size hss)
        have HB := Lib.hid (HW.out.trans (hb.mono HW.out.size))
        have HK := Lib.hid (KeptB.refl ss w2)
        clear hs hss hb
        go_wp2_with fail
        refine wp_loop_rounds 3 ?_
        rw [rounds_succ]
        go_wp2_with fail
        go_at_call 27
        refine (BeginS_any qs ss 2 [none, none] 0 _ HS.out).mono ?_
        rintro e wa1 ⟨he, h1, h2⟩
        obtain rfl : e = .returned (.bool true) := he
        have HSa1 := Lib.hid (show Sl wa1 qs ss 2 [some none, none] from h1)
        have HKa1 := Lib.hid (HK.out.trans h2)
        clear h1 h2
        go_wp2_with fail
        go_at_call 28
        refine (FillS_any qs ss 2 [some none, none] 0 A1 c1 p (by have := HL1.out; omega) HC1c.out HW1f.out _ HSa1.out (Kd.C_below HC1.out (HB.out.trans (HKa1.out.below _ HSS.out HB.out.size)))).mono ?_
        rintro e wa2 ⟨he, h1, h2⟩
        rw [fB20 none p HZ.out] at he
        rw [fS20 none p HZ.out] at h1
        obtain rfl : e = .returned (.bool true) := he
        have HSa2 := Lib.hid (show Sl wa2 qs ss 2 [some (some p), none] from h1)
        have HKa2 := Lib.hid (HKa1.out.trans h2)
        clear h1 h2
        go_wp2_with fail
        rw [rounds_succ]
        go_wp2_with fail
        go_at_call 27
        refine (BeginS_any qs ss 2 [some (some p), none] 1 _ HSa2.out).mono ?_
        rintro e wa3 ⟨he, h1, h2⟩
        obtain rfl : e = .returned (.bool true) := he
        have HSa3 := Lib.hid (show Sl wa3 qs ss 2 [some (some p), some none] from h1)
        have HKa3 := Lib.hid (HKa2.out.trans h2)
        clear h1 h2
        go_wp2_with fail
        go_at_call 28
        refine (FillS_any qs ss 2 [some (some p), some none] 1 A1 c1 p (by have := HL1.out; omega) HC1c.out HW1f.out _ HSa3.out (Kd.C_below HC1.out (HB.out.trans (HKa3.out.below _ HSS.out HB.out.size)))).mono ?_
        rintro e wa4 ⟨he, h1, h2⟩
        rw [fB21 (some (some p)) p HZ.out] at he
        rw [fS21 (some (some p)) p HZ.out] at h1
        obtain rfl : e = .returned (.bool true) := he
        have HSa4 := Lib.hid (show Sl wa4 qs ss 2 [some (some p), some (some p)] from h1)
        have HKa4 := Lib.hid (HKa3.out.trans h2)
        clear h1 h2
        go_wp2_with fail
        rw [rounds_succ]
        go_wp2_with fail
        go_at_call 27
        refine (BeginS_any qs ss 2 [some (some p), some (some p)] 1 _ HSa4.out).mono ?_
        rintro e wa5 ⟨he, h1, h2⟩
        obtain rfl : e = .returned (.bool true) := he
        have HSa5 := Lib.hid (show Sl wa5 qs ss 2 [some (some p), some none] from h1)
        have HKa5 := Lib.hid (HKa4.out.trans h2)
        clear h1 h2
        go_wp2_with fail
        go_at_call 28
        refine (FillS_any qs ss 2 [some (some p), some none] 1 A2 c2 q (by have := HL2.out; omega) HC2c.out HW2f.out _ HSa5.out (Kd.C_below HC2.out (HB.out.trans (HKa5.out.below _ HSS.out HB.out.size)))).mono ?_
        rintro e wa6 ⟨he, h1, h2⟩
        rw [fB21 (some (some p)) q HZQ.out] at he
        rw [fS21 (some (some p)) q HZQ.out] at h1
        obtain rfl : e = .returned (.bool true) := he
        have HSa6 := Lib.hid (show Sl wa6 qs ss 2 [some (some p), some (some q)] from h1)
        have HKa6 := Lib.hid (HKa5.out.trans h2)
        clear h1 h2
        go_wp2_with fail
        go_at_call 20
        refine (PickS_any qs ss 2 [some (some p), some (some q)] 1 h _ HSa6.out (few2 _ _ (fun x hx => by injection hx with hx; injection hx with hx; subst hx; have := HL1.out; omega) (fun x hx => by injection hx with hx; injection hx with hx; subst hx; have := HL2.out; omega))).mono ?_
        rintro e wa7 ⟨he, hb⟩
        rw [rd21 (some (some p)) q] at he
        obtain rfl : e = .returned (.tuple #[.int .i64 (succL (ofL q) h), .bool true]) := he
        have HSa7 := Lib.hid (HSa6.out.below hb)
        have HKa7 := Lib.hid (HKa6.out.trans (KeptB.of_below hb))
        clear hb
        go_wp2_with fail
        go_at_call 22
        refine (HasS_any qs ss 2 [some (some p), some (some q)] 1 id _ HSa7.out (few2 _ _ (fun x hx => by injection hx with hx; injection hx with hx; subst hx; have := HL1.out; omega) (fun x hx => by injection hx with hx; injection hx with hx; subst hx; have := HL2.out; omega))).mono ?_
        rintro e wa8 ⟨he, hb⟩
        rw [rd21 (some (some p)) q] at he
        obtain rfl : e = .returned (.tuple #[.bool (decide (0 ≤ findL q id)), .bool true]) := he
        have HSa8 := Lib.hid (HSa7.out.below hb)
        have HKa8 := Lib.hid (HKa7.out.trans (KeptB.of_below hb))
        clear hb
        go_wp2_with fail
        go_at_call 20
        refine (PickS_any qs ss 2 [some (some p), some (some q)] 0 h _ HSa8.out (few2 _ _ (fun x hx => by injection hx with hx; injection hx with hx; subst hx; have := HL1.out; omega) (fun x hx => by injection hx with hx; injection hx with hx; subst hx; have := HL2.out; omega))).mono ?_
        rintro e wa9 ⟨he, hb⟩
        rw [rd20 (some (some q)) p] at he
        obtain rfl : e = .returned (.tuple #[.int .i64 (succL (ofL p) h), .bool true]) := he
        have HSa9 := Lib.hid (HSa8.out.below hb)
        have HKa9 := Lib.hid (HKa8.out.trans (KeptB.of_below hb))
        clear hb
        go_wp2_with fail
        go_at_call 26
        refine (HCP.out _ (Kd.C_below HC1.out (HB.out.trans (HKa9.out.below _ HSS.out HB.out.size)))).mono ?_
        rintro e wa10 ⟨rfl, hb⟩
        have HSa10 := Lib.hid (HSa9.out.below hb)
        have HKa10 := Lib.hid (HKa9.out.trans (KeptB.of_below hb))
        clear hb
        obtain ⟨xq, hxq⟩ : ∃ xq, succL (ofL q) h = xq := ⟨_, rfl⟩
        have HPQ := Lib.hid (pickR q h (by have := HL2.out; omega))
        rw [hxq] at HPQ ⊢
        clear hxq
        obtain ⟨xp, hxp⟩ : ∃ xp, succL (ofL p) h = xp := ⟨_, rfl⟩
        have HPP := Lib.hid (pickR p h (by have := HL1.out; omega))
        rw [hxp] at HPP ⊢
        clear hxp
        go_wp2_with fail
        go_at_call 31
        refine (ring_Pick.calls A2 c2 q h xq _ (Kd.C_below HC2.out (HB.out.trans (HKa10.out.below _ HSS.out HB.out.size))) HC2c.out HPQ.out).mono ?_
        rintro e wa11 ⟨rfl, hb⟩
        have HSa11 := Lib.hid (HSa10.out.below hb)
        have HKa11 := Lib.hid (HKa10.out.trans (KeptB.of_below hb))
        clear hb
        have HF := Lib.hid (Find_any A2 c2 q (by have := HL2.out; omega) id _ (Kd.C_below HC2.out (HB.out.trans (HKa11.out.below _ HSS.out HB.out.size))))
        obtain ⟨r, hr⟩ : ∃ r, findL q id = r := ⟨_, rfl⟩
        rw [hr] at HF ⊢
        clear hr
        obtain ⟨br, hbr⟩ : ∃ br, decide (0 ≤ r) = br := ⟨_, rfl⟩
        rw [hbr]
        go_wp2_with fail
        go_at_call 29
        refine (HF.out).mono ?_
        rintro e wa12 ⟨rfl, hb⟩
        have HSa12 := Lib.hid (HSa11.out.below hb)
        have HKa12 := Lib.hid (HKa11.out.trans (KeptB.of_below hb))
        clear hb
        go_wp2_with fail
        go_at_call 31
        refine (ring_Pick.calls A1 c1 p h xp _ (Kd.C_below HC1.out (HB.out.trans (HKa12.out.below _ HSS.out HB.out.size))) HC1c.out HPP.out).mono ?_
        rintro e wa13 ⟨rfl, hb⟩
        have HSa13 := Lib.hid (HSa12.out.below hb)
        have HKa13 := Lib.hid (HKa12.out.trans (KeptB.of_below hb))
        clear hb
        go_wp2_with fail
        go_ret
        exact ⟨by cases br <;> simp_all, HB.out.trans (HKa13.out.below _ HSS.out HB.out.size)⟩
    · have HZ := Lib.hid hzp
      have qp : (checkL p == 0) = false := beq_eq_false_iff_ne.mpr hzp
      clear hzp
      cases sp with
      | true =>
        go_enter Try.func7, Try.ntmps7
        go_wp2_with fail
        go_at_call 14
        refine (works16_any _).mono ?_
        rintro e w0 ⟨rfl, hb⟩
        have HW0 := Lib.hid hb
        clear hb
        go_wp2_with fail
        go_at_call 26
        refine (HCK.out _ (Kd.C_below HC2.out HW0.out)).mono ?_
        rintro e w1 ⟨rfl, hb⟩
        have HW := Lib.hid (HW0.out.trans (hb.mono HW0.out.size))
        clear hb
        go_wp2_with fail
        go_at_call 16
        refine (newS_any 2 _).mono ?_
        rintro e w2 ⟨qs, ss, rfl, hs, hss, hb⟩
        have HS := Lib.hid (show Sl w2 qs ss 2 [none, none] from hs)
        have HSS := Lib.hid (Nat.le_trans HW.out.size hss)
        have HB := Lib.hid (HW.out.trans (hb.mono HW.out.size))
        have HK := Lib.hid (KeptB.refl ss w2)
        clear hs hss hb
        go_wp2_with fail
        refine wp_loop_rounds 3 ?_
        rw [rounds_succ]
        go_wp2_with fail
        go_at_call 27
        refine (BeginS_any qs ss 2 [none, none] 0 _ HS.out).mono ?_
        rintro e wa1 ⟨he, h1, h2⟩
        obtain rfl : e = .returned (.bool true) := he
        have HSa1 := Lib.hid (show Sl wa1 qs ss 2 [some none, none] from h1)
        have HKa1 := Lib.hid (HK.out.trans h2)
        clear h1 h2
        go_wp2_with fail
        go_at_call 28
        refine (FillS_any qs ss 2 [some none, none] 0 A1 c1 p (by have := HL1.out; omega) HC1c.out HW1f.out _ HSa1.out (Kd.C_below HC1.out (HB.out.trans (HKa1.out.below _ HSS.out HB.out.size)))).mono ?_
        rintro e wa2 ⟨he, h1, h2⟩
        rw [fB20f none p HZ.out] at he
        rw [fS20f none p HZ.out] at h1
        obtain rfl : e = .returned (.bool false) := he
        have HSa2 := Lib.hid (show Sl wa2 qs ss 2 [some none, none] from h1)
        have HKa2 := Lib.hid (HKa1.out.trans h2)
        clear h1 h2
        go_wp2_with fail
        rw [rounds_succ]
        go_wp2_with fail
        go_at_call 27
        refine (BeginS_any qs ss 2 [some none, none] 1 _ HSa2.out).mono ?_
        rintro e wa3 ⟨he, h1, h2⟩
        obtain rfl : e = .returned (.bool true) := he
        have HSa3 := Lib.hid (show Sl wa3 qs ss 2 [some none, some none] from h1)
        have HKa3 := Lib.hid (HKa2.out.trans h2)
        clear h1 h2
        go_wp2_with fail
        go_at_call 28
        refine (FillS_any qs ss 2 [some none, some none] 1 A1 c1 p (by have := HL1.out; omega) HC1c.out HW1f.out _ HSa3.out (Kd.C_below HC1.out (HB.out.trans (HKa3.out.below _ HSS.out HB.out.size)))).mono ?_
        rintro e wa4 ⟨he, h1, h2⟩
        rw [fB21f (some none) p HZ.out] at he
        rw [fS21f (some none) p HZ.out] at h1
        obtain rfl : e = .returned (.bool false) := he
        have HSa4 := Lib.hid (show Sl wa4 qs ss 2 [some none, some none] from h1)
        have HKa4 := Lib.hid (HKa3.out.trans h2)
        clear h1 h2
        go_wp2_with fail
        rw [rounds_succ]
        go_wp2_with fail
        go_at_call 30
        refine (SpoilS_any qs ss 2 [some none, some none] 1 _ HSa4.out).mono ?_
        rintro e wa5 ⟨he, h1, h2⟩
        obtain rfl : e = .returned (.bool true) := he
        have HSa5 := Lib.hid (show Sl wa5 qs ss 2 [some none, none] from h1)
        have HKa5 := Lib.hid (HKa4.out.trans h2)
        clear h1 h2
        go_wp2_with fail
        go_at_call 27
        refine (BeginS_any qs ss 2 [some none, none] 1 _ HSa5.out).mono ?_
        rintro e wa6 ⟨he, h1, h2⟩
        obtain rfl : e = .returned (.bool true) := he
        have HSa6 := Lib.hid (show Sl wa6 qs ss 2 [some none, some none] from h1)
        have HKa6 := Lib.hid (HKa5.out.trans h2)
        clear h1 h2
        go_wp2_with fail
        go_at_call 28
        refine (FillS_any qs ss 2 [some none, some none] 1 A2 c2 q (by have := HL2.out; omega) HC2c.out HW2f.out _ HSa6.out (Kd.C_below HC2.out (HB.out.trans (HKa6.out.below _ HSS.out HB.out.size)))).mono ?_
        rintro e wa7 ⟨he, h1, h2⟩
        rw [fB21 (some none) q HZQ.out] at he
        rw [fS21 (some none) q HZQ.out] at h1
        obtain rfl : e = .returned (.bool true) := he
        have HSa7 := Lib.hid (show Sl wa7 qs ss 2 [some none, some (some q)] from h1)
        have HKa7 := Lib.hid (HKa6.out.trans h2)
        clear h1 h2
        go_wp2_with fail
        go_at_call 20
        refine (PickS_any qs ss 2 [some none, some (some q)] 1 h _ HSa7.out (few2 _ _ (fun x hx => by cases hx) (fun x hx => by injection hx with hx; injection hx with hx; subst hx; have := HL2.out; omega))).mono ?_
        rintro e wa8 ⟨he, hb⟩
        rw [rd21 (some none) q] at he
        obtain rfl : e = .returned (.tuple #[.int .i64 (succL (ofL q) h), .bool true]) := he
        have HSa8 := Lib.hid (HSa7.out.below hb)
        have HKa8 := Lib.hid (HKa7.out.trans (KeptB.of_below hb))
        clear hb
        go_wp2_with fail
        go_at_call 22
        refine (HasS_any qs ss 2 [some none, some (some q)] 1 id _ HSa8.out (few2 _ _ (fun x hx => by cases hx) (fun x hx => by injection hx with hx; injection hx with hx; subst hx; have := HL2.out; omega))).mono ?_
        rintro e wa9 ⟨he, hb⟩
        rw [rd21 (some none) q] at he
        obtain rfl : e = .returned (.tuple #[.bool (decide (0 ≤ findL q id)), .bool true]) := he
        have HSa9 := Lib.hid (HSa8.out.below hb)
        have HKa9 := Lib.hid (HKa8.out.trans (KeptB.of_below hb))
        clear hb
        go_wp2_with fail
        go_at_call 20
        refine (PickS_any qs ss 2 [some none, some (some q)] 0 h _ HSa9.out (few2 _ _ (fun x hx => by cases hx) (fun x hx => by injection hx with hx; injection hx with hx; subst hx; have := HL2.out; omega))).mono ?_
        rintro e wa10 ⟨he, hb⟩
        rw [rd20n (some (some q))] at he
        obtain rfl : e = .returned (.tuple #[.int .i64 0, .bool false]) := he
        have HSa10 := Lib.hid (HSa9.out.below hb)
        have HKa10 := Lib.hid (HKa9.out.trans (KeptB.of_below hb))
        clear hb
        go_wp2_with fail
        go_at_call 26
        refine (HCP.out _ (Kd.C_below HC1.out (HB.out.trans (HKa10.out.below _ HSS.out HB.out.size)))).mono ?_
        rintro e wa11 ⟨rfl, hb⟩
        have HSa11 := Lib.hid (HSa10.out.below hb)
        have HKa11 := Lib.hid (HKa10.out.trans (KeptB.of_below hb))
        clear hb
        obtain ⟨xq, hxq⟩ : ∃ xq, succL (ofL q) h = xq := ⟨_, rfl⟩
        have HPQ := Lib.hid (pickR q h (by have := HL2.out; omega))
        rw [hxq] at HPQ ⊢
        clear hxq
        go_wp2_with fail
        go_at_call 31
        refine (ring_Pick.calls A2 c2 q h xq _ (Kd.C_below HC2.out (HB.out.trans (HKa11.out.below _ HSS.out HB.out.size))) HC2c.out HPQ.out).mono ?_
        rintro e wa12 ⟨rfl, hb⟩
        have HSa12 := Lib.hid (HSa11.out.below hb)
        have HKa12 := Lib.hid (HKa11.out.trans (KeptB.of_below hb))
        clear hb
        have HF := Lib.hid (Find_any A2 c2 q (by have := HL2.out; omega) id _ (Kd.C_below HC2.out (HB.out.trans (HKa12.out.below _ HSS.out HB.out.size))))
        obtain ⟨r, hr⟩ : ∃ r, findL q id = r := ⟨_, rfl⟩
        rw [hr] at HF ⊢
        clear hr
        obtain ⟨br, hbr⟩ : ∃ br, decide (0 ≤ r) = br := ⟨_, rfl⟩
        rw [hbr]
        go_wp2_with fail
        go_at_call 29
        refine (HF.out).mono ?_
        rintro e wa13 ⟨rfl, hb⟩
        have HSa13 := Lib.hid (HSa12.out.below hb)
        have HKa13 := Lib.hid (HKa12.out.trans (KeptB.of_below hb))
        clear hb
        go_wp2_with fail
        go_ret
        exact ⟨by cases br <;> simp_all, HB.out.trans (HKa13.out.below _ HSS.out HB.out.size)⟩
      | false =>
        go_enter Try.func7, Try.ntmps7
        go_wp2_with fail
        go_at_call 14
        refine (works16_any _).mono ?_
        rintro e w0 ⟨rfl, hb⟩
        have HW0 := Lib.hid hb
        clear hb
        go_wp2_with fail
        go_at_call 26
        refine (HCK.out _ (Kd.C_below HC2.out HW0.out)).mono ?_
        rintro e w1 ⟨rfl, hb⟩
        have HW := Lib.hid (HW0.out.trans (hb.mono HW0.out.size))
        clear hb
        go_wp2_with fail
        go_at_call 16
        refine (newS_any 2 _).mono ?_
        rintro e w2 ⟨qs, ss, rfl, hs, hss, hb⟩
        have HS := Lib.hid (show Sl w2 qs ss 2 [none, none] from hs)
        have HSS := Lib.hid (Nat.le_trans HW.out.size hss)
        have HB := Lib.hid (HW.out.trans (hb.mono HW.out.size))
        have HK := Lib.hid (KeptB.refl ss w2)
        clear hs hss hb
        go_wp2_with fail
        refine wp_loop_rounds 3 ?_
        rw [rounds_succ]
        go_wp2_with fail
        go_at_call 27
        refine (BeginS_any qs ss 2 [none, none] 0 _ HS.out).mono ?_
        rintro e wa1 ⟨he, h1, h2⟩
        obtain rfl : e = .returned (.bool true) := he
        have HSa1 := Lib.hid (show Sl wa1 qs ss 2 [some none, none] from h1)
        have HKa1 := Lib.hid (HK.out.trans h2)
        clear h1 h2
        go_wp2_with fail
        go_at_call 28
        refine (FillS_any qs ss 2 [some none, none] 0 A1 c1 p (by have := HL1.out; omega) HC1c.out HW1f.out _ HSa1.out (Kd.C_below HC1.out (HB.out.trans (HKa1.out.below _ HSS.out HB.out.size)))).mono ?_
        rintro e wa2 ⟨he, h1, h2⟩
        rw [fB20f none p HZ.out] at he
        rw [fS20f none p HZ.out] at h1
        obtain rfl : e = .returned (.bool false) := he
        have HSa2 := Lib.hid (show Sl wa2 qs ss 2 [some none, none] from h1)
        have HKa2 := Lib.hid (HKa1.out.trans h2)
        clear h1 h2
        go_wp2_with fail
        rw [rounds_succ]
        go_wp2_with fail
        go_at_call 27
        refine (BeginS_any qs ss 2 [some none, none] 1 _ HSa2.out).mono ?_
        rintro e wa3 ⟨he, h1, h2⟩
        obtain rfl : e = .returned (.bool true) := he
        have HSa3 := Lib.hid (show Sl wa3 qs ss 2 [some none, some none] from h1)
        have HKa3 := Lib.hid (HKa2.out.trans h2)
        clear h1 h2
        go_wp2_with fail
        go_at_call 28
        refine (FillS_any qs ss 2 [some none, some none] 1 A1 c1 p (by have := HL1.out; omega) HC1c.out HW1f.out _ HSa3.out (Kd.C_below HC1.out (HB.out.trans (HKa3.out.below _ HSS.out HB.out.size)))).mono ?_
        rintro e wa4 ⟨he, h1, h2⟩
        rw [fB21f (some none) p HZ.out] at he
        rw [fS21f (some none) p HZ.out] at h1
        obtain rfl : e = .returned (.bool false) := he
        have HSa4 := Lib.hid (show Sl wa4 qs ss 2 [some none, some none] from h1)
        have HKa4 := Lib.hid (HKa3.out.trans h2)
        clear h1 h2
        go_wp2_with fail
        rw [rounds_succ]
        go_wp2_with fail
        go_at_call 27
        refine (BeginS_any qs ss 2 [some none, some none] 1 _ HSa4.out).mono ?_
        rintro e wa5 ⟨he, h1, h2⟩
        obtain rfl : e = .returned (.bool true) := he
        have HSa5 := Lib.hid (show Sl wa5 qs ss 2 [some none, some none] from h1)
        have HKa5 := Lib.hid (HKa4.out.trans h2)
        clear h1 h2
        go_wp2_with fail
        go_at_call 28
        refine (FillS_any qs ss 2 [some none, some none] 1 A2 c2 q (by have := HL2.out; omega) HC2c.out HW2f.out _ HSa5.out (Kd.C_below HC2.out (HB.out.trans (HKa5.out.below _ HSS.out HB.out.size)))).mono ?_
        rintro e wa6 ⟨he, h1, h2⟩
        rw [fB21 (some none) q HZQ.out] at he
        rw [fS21 (some none) q HZQ.out] at h1
        obtain rfl : e = .returned (.bool true) := he
        have HSa6 := Lib.hid (show Sl wa6 qs ss 2 [some none, some (some q)] from h1)
        have HKa6 := Lib.hid (HKa5.out.trans h2)
        clear h1 h2
        go_wp2_with fail
        go_at_call 20
        refine (PickS_any qs ss 2 [some none, some (some q)] 1 h _ HSa6.out (few2 _ _ (fun x hx => by cases hx) (fun x hx => by injection hx with hx; injection hx with hx; subst hx; have := HL2.out; omega))).mono ?_
        rintro e wa7 ⟨he, hb⟩
        rw [rd21 (some none) q] at he
        obtain rfl : e = .returned (.tuple #[.int .i64 (succL (ofL q) h), .bool true]) := he
        have HSa7 := Lib.hid (HSa6.out.below hb)
        have HKa7 := Lib.hid (HKa6.out.trans (KeptB.of_below hb))
        clear hb
        go_wp2_with fail
        go_at_call 22
        refine (HasS_any qs ss 2 [some none, some (some q)] 1 id _ HSa7.out (few2 _ _ (fun x hx => by cases hx) (fun x hx => by injection hx with hx; injection hx with hx; subst hx; have := HL2.out; omega))).mono ?_
        rintro e wa8 ⟨he, hb⟩
        rw [rd21 (some none) q] at he
        obtain rfl : e = .returned (.tuple #[.bool (decide (0 ≤ findL q id)), .bool true]) := he
        have HSa8 := Lib.hid (HSa7.out.below hb)
        have HKa8 := Lib.hid (HKa7.out.trans (KeptB.of_below hb))
        clear hb
        go_wp2_with fail
        go_at_call 20
        refine (PickS_any qs ss 2 [some none, some (some q)] 0 h _ HSa8.out (few2 _ _ (fun x hx => by cases hx) (fun x hx => by injection hx with hx; injection hx with hx; subst hx; have := HL2.out; omega))).mono ?_
        rintro e wa9 ⟨he, hb⟩
        rw [rd20n (some (some q))] at he
        obtain rfl : e = .returned (.tuple #[.int .i64 0, .bool false]) := he
        have HSa9 := Lib.hid (HSa8.out.below hb)
        have HKa9 := Lib.hid (HKa8.out.trans (KeptB.of_below hb))
        clear hb
        go_wp2_with fail
        go_at_call 26
        refine (HCP.out _ (Kd.C_below HC1.out (HB.out.trans (HKa9.out.below _ HSS.out HB.out.size)))).mono ?_
        rintro e wa10 ⟨rfl, hb⟩
        have HSa10 := Lib.hid (HSa9.out.below hb)
        have HKa10 := Lib.hid (HKa9.out.trans (KeptB.of_below hb))
        clear hb
        obtain ⟨xq, hxq⟩ : ∃ xq, succL (ofL q) h = xq := ⟨_, rfl⟩
        have HPQ := Lib.hid (pickR q h (by have := HL2.out; omega))
        rw [hxq] at HPQ ⊢
        clear hxq
        go_wp2_with fail
        go_at_call 31
        refine (ring_Pick.calls A2 c2 q h xq _ (Kd.C_below HC2.out (HB.out.trans (HKa10.out.below _ HSS.out HB.out.size))) HC2c.out HPQ.out).mono ?_
        rintro e wa11 ⟨rfl, hb⟩
        have HSa11 := Lib.hid (HSa10.out.below hb)
        have HKa11 := Lib.hid (HKa10.out.trans (KeptB.of_below hb))
        clear hb
        have HF := Lib.hid (Find_any A2 c2 q (by have := HL2.out; omega) id _ (Kd.C_below HC2.out (HB.out.trans (HKa11.out.below _ HSS.out HB.out.size))))
        obtain ⟨r, hr⟩ : ∃ r, findL q id = r := ⟨_, rfl⟩
        rw [hr] at HF ⊢
        clear hr
        obtain ⟨br, hbr⟩ : ∃ br, decide (0 ≤ r) = br := ⟨_, rfl⟩
        rw [hbr]
        go_wp2_with fail
        go_at_call 29
        refine (HF.out).mono ?_
        rintro e wa12 ⟨rfl, hb⟩
        have HSa12 := Lib.hid (HSa11.out.below hb)
        have HKa12 := Lib.hid (HKa11.out.trans (KeptB.of_below hb))
        clear hb
        go_wp2_with fail
        go_ret
        exact ⟨by cases br <;> simp_all, HB.out.trans (HKa12.out.below _ HSS.out HB.out.size)⟩
  · have qz : (ck != 0) = true := bne_iff_ne.mpr hz
    have qy : (ck == 0) = false := beq_eq_false_iff_ne.mpr hz
    clear hck hz
    go_enter Try.func7, Try.ntmps7
    go_wp2_with fail
    go_at_call 14
    refine (works16_any _).mono ?_
    rintro e w0 ⟨rfl, hb⟩
    have HW0 := Lib.hid hb
    clear hb
    go_wp2_with fail
    go_at_call 26
    refine (HCK.out _ (Kd.C_below HC2.out HW0.out)).mono ?_
    rintro e w1 ⟨rfl, hb⟩
    have HW := Lib.hid (HW0.out.trans (hb.mono HW0.out.size))
    clear hb
    go_wp2
    go_ret
    exact ⟨rfl, HW.out⟩
def gangplanklaw16_SlotsAnew.f (l0 : List S56) (l1 : List S56) (a2 : Int) (a3 : Int) (a4 : Bool) : Option Bool := if idsWf l0 = true ∧ idsWf l1 = true then some true else none
theorem gangplanklaw16_SlotsAnew.calls (A0 : Option Addr) (c0 : Nat) (l0 : List S56) (A1 : Option Addr) (c1 : Nat) (l1 : List S56) (a2 : Int) (a3 : Int) (a4 : Bool) (r : Bool) (w : World) (hr0 : Kd.C k56 w A0 l0.length l0) (hc0 : l0.length ≤ c0) (hr1 : Kd.C k56 w A1 l1.length l1) (hc1 : l1.length ≤ c1) (h : gangplanklaw16_SlotsAnew.f l0 l1 a2 a3 a4 = some r) :
    Calls Try.prog 7 #[.slice A0 l0.length c0, .slice A1 l1.length c1, .int .i64 a2, .int .u64 a3, .bool a4] w fun e w' => e = .returned (.bool r) ∧ Below w.heap.size w w' := by
  unfold gangplanklaw16_SlotsAnew.f at h
  by_cases hl : idsWf l0 = true ∧ idsWf l1 = true
  · rw [if_pos hl] at h
    obtain rfl := Option.some.inj h
    exact Anew16_any A0 c0 l0 hc0 A1 c1 l1 hc1 hl a2 a3 a4 w hr0 hr1
  · rw [if_neg hl] at h
    exact absurd h (by simp)
end


/-- THE PURE STATEMENT of gangplanklaw16_SlotsAnew. -/
def gangplanklaw16_SlotsAnew.Pure : Prop := ∀ (l0 : List (S56)) (l1 : List (S56)) (a2 : Int) (a3 : Int) (a4 : Bool), (l0.length ≤ maxLen) → ((∀ x ∈ l0, okS56 x)) → (l1.length ≤ maxLen) → ((∀ x ∈ l1, okS56 x)) → ((Lit.int .i64 a2).wf = true) → ((Lit.int .u64 a3).wf = true) → gangplanklaw16_SlotsAnew.f l0 l1 a2 a3 a4 = some true

end Go.Proofs.Ytklngklmeanhcaa.P
