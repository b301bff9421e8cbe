/- Each Go function that the laws reach, as a plain function, with the proof that the machine's call comes to what it says; of a law: its row. Made by a program of this seat (wip/hp.py, over the print). -/
import Derived.Test.YtklngklmeanhcaaPx0
import Derived.Test.YtklngklmeanhcaaPx1
import Derived.Test.YtklngklmeanhcaaPx2
import Derived.Test.YtklngklmeanhcaaPx3
import Derived.Test.YtklngklmeanhcaaPx4
namespace Go.Proofs.Ytklngklmeanhcaa.P
open Go.RowKit Go.Proofs.YtklngklmeanhcaaW.PrintWords Go.Proofs.YtklngklmeanhcaaW.PrintLast Go.Proofs.YtklngklmeanhcaaW.PrintMore
attribute [local go_sem] max2_int min2_int max_two min_two max_three min_three max_four min_four   -- for this text's walks alone
set_option linter.unusedVariables false
set_option linter.unusedSimpArgs false

/-! ### gangplanklaw16_SlotsHas: function 4 -/
section
open Go.Shelf Go.Proofs.Ytklngklmeanhcaa.Hand
theorem rS1 (p : List S56) : readS [some (some p)] 0 = some p := rfl
theorem fB1 (p : List S56) (h : checkL p = 0) : fillB [some none] 0 p = true := by unfold fillB; rw [h]; rfl
theorem fS1 (p : List S56) (h : checkL p = 0) : fillS [some none] 0 p = [some (some p)] := by unfold fillS; rw [fB1 p h]; rfl
theorem find_in (p : List S56) (b : S56) (hb : b ∈ p) : 0 ≤ findL p b.f0 := by
  rcases findL_cases p b.f0 with ⟨_, h2⟩ | ⟨k, _, h1, _⟩
  · exact absurd rfl (h2 b hb)
  · omega
/-- A hash goes to one of the pool, if there is one. -/
theorem there16 (p : List S56) (h : Int) (hm : checkL p = 0) : decide (0 ≤ findL p (succL (ofL p) h)) = decide (0 < p.length) := by
  cases hp : p with
  | nil => rfl
  | cons b r =>
    rw [← hp]
    have hw : 1 ≤ b.f1 := by
      rw [hp] at hm
      simp only [checkL, badFrom, outP] at hm
      by_cases h1 : b.f1 < 1
      · simp [h1] at hm
      · omega
    have hlen : 0 < (ofL p).length := by
      rw [ofL_len16, hp]
      have : (ptsT (b :: r)).length = (ptsL b).length + (ptsT r).length := by simp [ptsT]
      rw [this]
      have : (ptsL b).length = cntL b := by simp [ptsL]
      rw [this]
      unfold cntL
      omega
    obtain ⟨x, hx, e⟩ := succ_mem (ofL p) h hlen
    obtain ⟨y, hy, e2⟩ := ofL_f1 p x hx
    rw [e, e2, decide_eq_true (find_in p y hy), decide_eq_true (by rw [hp]; simp)]
set_option maxRecDepth 100000 in
set_option maxHeartbeats 8000000 in
theorem Has16_any (A : Option Addr) (c : Nat) (p : List S56) (hc : p.length ≤ c) (hok : 8 < p.length ∨ idsWf p = true) (id h : Int) (w : World) (hC : Kd.C k56 w A p.length p) :
    Calls Try.prog 4 #[.slice A p.length c, .int .i64 id, .int .u64 h] w fun e w' => e = .returned (.bool true) ∧ Below w.heap.size w w' := by
  have HC := Lib.hid hC
  have HCC := Lib.hid hc
  have HO := Lib.hid hok
  clear hC hc hok
  by_cases hl : 8 < p.length
  · have q1 : decide (8 < (p.length : Int)) = true := decide_eq_true (by omega)
    have q2 : decide (8 < p.length) = true := decide_eq_true hl
    go_enter Try.func4, Try.ntmps4
    go_wp2_with (go_at_call 14; refine (works16_any _).mono ?_; rintro e w1 ⟨rfl, hb⟩; have HW := Lib.hid hb; clear hb)
    go_ret
    exact ⟨rfl, HW.out⟩
  have q1 : decide (8 < (p.length : Int)) = false := decide_eq_false (by omega)
  have q2 : decide (8 < p.length) = false := decide_eq_false hl
  have HWF := Lib.hid (HO.out.resolve_left hl)
  have HL := Lib.hid (show p.length ≤ 8 by omega)
  clear hl HO
  obtain ⟨ck, hck⟩ : ∃ ck, checkL p = ck := ⟨_, rfl⟩
  have HCK := Lib.hid (show ∀ W, Kd.C k56 W A p.length p → Calls Try.prog 26 #[.slice A p.length c] W fun e w' => e = .returned (.int .i64 ck) ∧ Below W.heap.size W w' from fun W h => hck ▸ Check_any A c p (by have := HL.out; omega) HWF.out W h)
  by_cases hz : ck = 0
  · subst hz
    have HZ := Lib.hid hck
    clear hck
    go_enter Try.func4, Try.ntmps4
    go_wp2_with fail
    go_at_call 14
    refine (works16_any _).mono ?_
    rintro e w0 ⟨rfl, hb⟩
    have HW0 := Lib.hid hb
    clear hb
    go_wp2_with fail
    go_at_call 26
    refine (HCK.out _ (Kd.C_below HC.out HW0.out)).mono ?_
    rintro e w1 ⟨rfl, hb⟩
    have HW := Lib.hid (HW0.out.trans (hb.mono HW0.out.size))
    clear hb
    go_wp2_with fail
    go_at_call 16
    refine (newS_any 1 _).mono ?_
    rintro e w2 ⟨qs, ss, rfl, hs, hss, hb⟩
    have HS := Lib.hid (show Sl w2 qs ss 1 [none] from hs)
    have HSS := Lib.hid (Nat.le_trans HW.out.size hss)
    have HB := Lib.hid (HW.out.trans (hb.mono HW.out.size))
    have HK := Lib.hid (KeptB.refl ss w2)
    clear hs hss hb
    go_wp2_with fail
    go_at_call 27
    refine (BeginS_any qs ss 1 [none] 0 _ HS.out).mono ?_
    rintro e wa1 ⟨he, h1, h2⟩
    obtain rfl : e = .returned (.bool true) := he
    have HSa1 := Lib.hid (show Sl wa1 qs ss 1 [some none] from h1)
    have HKa1 := Lib.hid (HK.out.trans h2)
    clear h1 h2
    go_wp2_with fail
    go_at_call 28
    refine (FillS_any qs ss 1 [some none] 0 A c p (by have := HL.out; omega) HCC.out HWF.out _ HSa1.out (Kd.C_below HC.out (HB.out.trans (HKa1.out.below _ HSS.out HB.out.size)))).mono ?_
    rintro e wa2 ⟨he, h1, h2⟩
    rw [fB1 p HZ.out] at he
    rw [fS1 p HZ.out] at h1
    obtain rfl : e = .returned (.bool true) := he
    have HSa2 := Lib.hid (show Sl wa2 qs ss 1 [some (some p)] from h1)
    have HKa2 := Lib.hid (HKa1.out.trans h2)
    clear h1 h2
    go_wp2_with fail
    go_at_call 22
    refine (HasS_any qs ss 1 [some (some p)] 0 id _ HSa2.out (few1 p (by have := HL.out; omega))).mono ?_
    rintro e wa3 ⟨he, hb⟩
    rw [rS1] at he
    obtain rfl : e = .returned (.tuple #[.bool (decide (0 ≤ findL p id)), .bool true]) := he
    have HSa3 := Lib.hid (HSa2.out.below hb)
    have HKa3 := Lib.hid (HKa2.out.trans (KeptB.of_below hb))
    clear hb
    go_wp2_with fail
    go_at_call 20
    refine (PickS_any qs ss 1 [some (some p)] 0 h _ HSa3.out (few1 p (by have := HL.out; omega))).mono ?_
    rintro e wa4 ⟨he, hb⟩
    rw [rS1] at he
    obtain rfl : e = .returned (.tuple #[.int .i64 (succL (ofL p) h), .bool true]) := he
    have HSa4 := Lib.hid (HSa3.out.below hb)
    have HKa4 := Lib.hid (HKa3.out.trans (KeptB.of_below hb))
    clear hb
    go_wp2_with fail
    go_at_call 22
    refine (HasS_any qs ss 1 [some (some p)] 0 (succL (ofL p) h) _ HSa4.out (few1 p (by have := HL.out; omega))).mono ?_
    rintro e wa5 ⟨he, hb⟩
    rw [rS1] at he
    obtain rfl : e = .returned (.tuple #[.bool (decide (0 ≤ findL p (succL (ofL p) h))), .bool true]) := he
    have HSa5 := Lib.hid (HSa4.out.below hb)
    have HKa5 := Lib.hid (HKa4.out.trans (KeptB.of_below hb))
    clear hb
    rw [there16 p h HZ.out]
    have HF := Lib.hid (Find_any A c p (by have := HL.out; omega) id _ (Kd.C_below HC.out (HB.out.trans (HKa5.out.below _ HSS.out HB.out.size))))
    obtain ⟨r, hr⟩ : ∃ r, findL p id = r := ⟨_, rfl⟩
    rw [hr] at HF ⊢
    clear hr
    have e1 : decide (0 < (p.length : Int)) = decide (0 < p.length) := decide_eq_decide.2 (by omega)
    obtain ⟨bl, hbl⟩ : ∃ bl, decide (0 < p.length) = bl := ⟨_, rfl⟩
    rw [hbl] at e1 ⊢
    obtain ⟨br, hbr⟩ : ∃ br, decide (0 ≤ r) = br := ⟨_, rfl⟩
    rw [hbr]
    go_wp2_with (go_at_call 29; refine HF.out.mono ?_; rintro e w9 ⟨rfl, hb⟩; have HB9 := Lib.hid ((HB.out.trans (HKa5.out.below _ HSS.out HB.out.size)).trans (hb.mono (HB.out.trans (HKa5.out.below _ HSS.out HB.out.size)).size)); clear hb)
    go_ret
    exact ⟨by cases br <;> cases bl <;> simp_all, HB9.out⟩
  · have qz : (ck != 0) = true := bne_iff_ne.mpr hz
    have qy : (ck == 0) = false := beq_eq_false_iff_ne.mpr hz
    clear hck hz
    go_enter Try.func4, Try.ntmps4
    go_wp2_with fail
    go_at_call 14
    refine (works16_any _).mono ?_
    rintro e w0 ⟨rfl, hb⟩
    have HW0 := Lib.hid hb
    clear hb
    go_wp2_with fail
    go_at_call 26
    refine (HCK.out _ (Kd.C_below HC.out HW0.out)).mono ?_
    rintro e w1 ⟨rfl, hb⟩
    have HW := Lib.hid (HW0.out.trans (hb.mono HW0.out.size))
    clear hb
    go_wp2
    go_ret
    exact ⟨rfl, HW.out⟩
def gangplanklaw16_SlotsHas.f (l0 : List S56) (a1 : Int) (a2 : Int) : Option Bool := if 8 < l0.length ∨ idsWf l0 = true then some true else none
theorem gangplanklaw16_SlotsHas.calls (A0 : Option Addr) (c0 : Nat) (l0 : List S56) (a1 : Int) (a2 : Int) (r : Bool) (w : World) (hr0 : Kd.C k56 w A0 l0.length l0) (hc0 : l0.length ≤ c0) (h : gangplanklaw16_SlotsHas.f l0 a1 a2 = some r) :
    Calls Try.prog 4 #[.slice A0 l0.length c0, .int .i64 a1, .int .u64 a2] w fun e w' => e = .returned (.bool r) ∧ Below w.heap.size w w' := by
  unfold gangplanklaw16_SlotsHas.f at h
  by_cases hl : 8 < l0.length ∨ idsWf l0 = true
  · rw [if_pos hl] at h
    obtain rfl := Option.some.inj h
    exact Has16_any A0 c0 l0 hc0 hl a1 a2 w hr0
  · rw [if_neg hl] at h
    exact absurd h (by simp)
end


/-- THE PURE STATEMENT of gangplanklaw16_SlotsHas. -/
def gangplanklaw16_SlotsHas.Pure : Prop := ∀ (l0 : List (S56)) (a1 : Int) (a2 : Int), (l0.length ≤ maxLen) → ((∀ x ∈ l0, okS56 x)) → ((Lit.int .i64 a1).wf = true) → ((Lit.int .u64 a2).wf = true) → gangplanklaw16_SlotsHas.f l0 a1 a2 = some true

end Go.Proofs.Ytklngklmeanhcaa.P
