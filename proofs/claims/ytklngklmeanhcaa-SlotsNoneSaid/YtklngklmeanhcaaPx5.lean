/- Each Go function that the laws reach, as a plain function, with the proof that the machine's call comes to what it says; of a law: its row. Made by a program of this seat (wip/hp.py, over the print). -/
import Derived.Test.YtklngklmeanhcaaPx0
import Derived.Test.YtklngklmeanhcaaPx1
import Derived.Test.YtklngklmeanhcaaPx3
import Derived.Test.YtklngklmeanhcaaPx4
namespace Go.Proofs.Ytklngklmeanhcaa.P
open Go.RowKit Go.Proofs.YtklngklmeanhcaaW.PrintWords Go.Proofs.YtklngklmeanhcaaW.PrintLast Go.Proofs.YtklngklmeanhcaaW.PrintMore
attribute [local go_sem] max2_int min2_int max_two min_two max_three min_three max_four min_four   -- for this text's walks alone
set_option linter.unusedVariables false
set_option linter.unusedSimpArgs false

/-! ### gangplanklaw16_SlotsNone: function 5 -/
section
open Go.Shelf Go.Proofs.Ytklngklmeanhcaa.Hand
theorem putO (n i : Int) (h : inS i (mOf n) = false) (s : Option (Option (List S56))) : putS (List.replicate (mOf n) none) i s = List.replicate (mOf n) none := by
  unfold putS
  rw [List.length_replicate, h, if_neg (by decide)]
theorem fillO (n i : Int) (p : List S56) (h : inS i (mOf n) = false) : fillB (List.replicate (mOf n) none) i p = false := by
  unfold fillB
  rw [List.length_replicate, h]
  rfl
theorem fillSO (n i : Int) (p : List S56) (h : inS i (mOf n) = false) : fillS (List.replicate (mOf n) none) i p = List.replicate (mOf n) none := by
  unfold fillS
  rw [fillO n i p h, if_neg (by decide)]
theorem readO (n i : Int) (h : inS i (mOf n) = false) : readS (List.replicate (mOf n) none) i = none := by
  unfold readS
  rw [List.length_replicate, h, if_neg (by decide)]
theorem fewN (m : Nat) : FewS (List.replicate m none) := fun i q h => by
  rw [List.getD_eq_getElem?_getD, List.getElem?_replicate] at h
  split at h <;> cases h
set_option maxRecDepth 100000 in
set_option maxHeartbeats 8000000 in
theorem None16_any (n i id h : Int) (A : Option Addr) (c : Nat) (p : List S56) (hc : p.length ≤ c) (hok : 8 < p.length ∨ idsWf p = true) (w : World) (hC : Kd.C k56 w A p.length p) :
    Calls Try.prog 5 #[.int .i64 n, .int .i64 i, .int .i64 id, .int .u64 h, .slice A p.length c] w fun e w' => e = .returned (.bool true) ∧ Below w.heap.size w w' := by
  have HC := Lib.hid hC
  have HCC := Lib.hid hc
  have HO := Lib.hid hok
  clear hC hc hok
  go_enter Try.func5, Try.ntmps5
  go_wp2_with fail
  go_at_call 14
  refine (works16_any _).mono ?_
  rintro e w1 ⟨rfl, hb⟩
  have HW1 : Aside0 (Below w.heap.size w w1) := ⟨hb⟩
  clear hb
  go_upto_region 4 with (fail)
  go_cut [40] from 22 (fun sb wc => sb = .bool (decide ((0 ≤ i ∧ i < n ∧ i < 8) ∨ 8 < p.length)) ∧ Aside0 (Below w.heap.size w wc))
  case first =>
    by_cases c1 : 0 ≤ i
    · have t1 : decide (0 ≤ i) = true := decide_eq_true c1
      by_cases c2 : i < n
      · have t2 : decide (i < n) = true := decide_eq_true c2
        by_cases c3 : i < 8
        · have t3 : decide (i < 8) = true := decide_eq_true c3
          go_wp2_with fail
          go_meet
          case rel => exact ⟨congrArg Value.bool (decide_eq_true (Or.inl ⟨c1, c2, c3⟩)).symm, HW1⟩
        · have t3 : decide (i < 8) = false := decide_eq_false c3
          by_cases c4 : 8 < p.length
          · have t4 : decide (8 < (p.length : Int)) = true := decide_eq_true (by omega)
            have t5 : decide (8 < p.length) = true := decide_eq_true c4
            go_wp2_with fail
            go_meet
            case rel => exact ⟨congrArg Value.bool (decide_eq_true (Or.inr c4)).symm, HW1⟩
          · have t4 : decide (8 < (p.length : Int)) = false := decide_eq_false (by omega)
            have t5 : decide (8 < p.length) = false := decide_eq_false c4
            go_wp2_with fail
            go_meet
            case rel => exact ⟨congrArg Value.bool (decide_eq_false (fun h => by omega)).symm, HW1⟩
      · have t2 : decide (i < n) = false := decide_eq_false c2
        by_cases c4 : 8 < p.length
        · have t4 : decide (8 < (p.length : Int)) = true := decide_eq_true (by omega)
          have t5 : decide (8 < p.length) = true := decide_eq_true c4
          go_wp2_with fail
          go_meet
          case rel => exact ⟨congrArg Value.bool (decide_eq_true (Or.inr c4)).symm, HW1⟩
        · have t4 : decide (8 < (p.length : Int)) = false := decide_eq_false (by omega)
          have t5 : decide (8 < p.length) = false := decide_eq_false c4
          go_wp2_with fail
          go_meet
          case rel => exact ⟨congrArg Value.bool (decide_eq_false (fun h => by omega)).symm, HW1⟩
    · have t1 : decide (0 ≤ i) = false := decide_eq_false c1
      by_cases c4 : 8 < p.length
      · have t4 : decide (8 < (p.length : Int)) = true := decide_eq_true (by omega)
        have t5 : decide (8 < p.length) = true := decide_eq_true c4
        go_wp2_with fail
        go_meet
        case rel => exact ⟨congrArg Value.bool (decide_eq_true (Or.inr c4)).symm, HW1⟩
      · have t4 : decide (8 < (p.length : Int)) = false := decide_eq_false (by omega)
        have t5 : decide (8 < p.length) = false := decide_eq_false c4
        go_wp2_with fail
        go_meet
        case rel => exact ⟨congrArg Value.bool (decide_eq_false (fun h => by omega)).symm, HW1⟩
  case rest =>
    clear HW1
    obtain ⟨rfl, HWW⟩ := hcut
    have HW := Lib.hid HWW.out
    clear HWW
    by_cases hd : (0 ≤ i ∧ i < n ∧ i < 8) ∨ 8 < p.length
    · rw [decide_eq_true hd]
      clear hd
      go_wp2
      go_ret
      exact ⟨rfl, HW.out⟩
    · rw [decide_eq_false hd]
      have HL := Lib.hid (show p.length ≤ 8 by omega)
      have HWF := Lib.hid (HO.out.resolve_left (fun h => hd (.inr h)))
      have HIN := Lib.hid (show inS i (mOf n) = false from by rw [mOf_in]; exact decide_eq_false fun h => hd (.inl h))
      clear hd HO
      go_wp2_with fail
      go_at_call 16
      refine (newS_any n _).mono ?_
      rintro e w2 ⟨qs, ss, rfl, hs, hss, hb⟩
      have HS := Lib.hid (show Sl w2 qs ss (mOf n) (List.replicate (mOf n) none) from hs)
      have HSS := Lib.hid (Nat.le_trans HW.out.size hss)
      have HB := Lib.hid (HW.out.trans (hb.mono HW.out.size))
      have HK := Lib.hid (KeptB.refl ss w2)
      clear hs hss hb
      go_wp2_with fail
      go_at_call 27
      refine (BeginS_any qs ss (mOf n) (List.replicate (mOf n) none) i _ HS.out).mono ?_
      rintro e wa1 ⟨he, h1, h2⟩
      rw [HIN.out] at he
      rw [putO n i HIN.out] at h1
      obtain rfl : e = .returned (.bool false) := he
      have HSa1 := Lib.hid (show Sl wa1 qs ss (mOf n) (List.replicate (mOf n) none) from h1)
      have HKa1 := Lib.hid (HK.out.trans h2)
      clear h1 h2
      go_wp2_with fail
      go_at_call 28
      refine (FillS_any qs ss (mOf n) (List.replicate (mOf n) none) i A c p (by have := HL.out; omega) HCC.out HWF.out _ HSa1.out (Kd.C_below HC.out (HB.out.trans (HKa1.out.below _ HSS.out HB.out.size)))).mono ?_
      rintro e wa2 ⟨he, h1, h2⟩
      rw [fillO n i p HIN.out] at he
      rw [fillSO n i p HIN.out] at h1
      obtain rfl : e = .returned (.bool false) := he
      have HSa2 := Lib.hid (show Sl wa2 qs ss (mOf n) (List.replicate (mOf n) none) from h1)
      have HKa2 := Lib.hid (HKa1.out.trans h2)
      clear h1 h2
      go_wp2_with fail
      go_at_call 30
      refine (SpoilS_any qs ss (mOf n) (List.replicate (mOf n) none) i _ HSa2.out).mono ?_
      rintro e wa3 ⟨he, h1, h2⟩
      rw [HIN.out] at he
      rw [putO n i HIN.out] at h1
      obtain rfl : e = .returned (.bool false) := he
      have HSa3 := Lib.hid (show Sl wa3 qs ss (mOf n) (List.replicate (mOf n) none) from h1)
      have HKa3 := Lib.hid (HKa2.out.trans h2)
      clear h1 h2
      go_wp2_with fail
      go_at_call 20
      refine (PickS_any qs ss (mOf n) (List.replicate (mOf n) none) i h _ HSa3.out (fewN (mOf n))).mono ?_
      rintro e wa4 ⟨he, hb⟩
      rw [readO n i HIN.out] at he
      obtain rfl : e = .returned (.tuple #[.int .i64 0, .bool false]) := he
      have HSa4 := Lib.hid (HSa3.out.below hb)
      have HKa4 := Lib.hid (HKa3.out.trans (KeptB.of_below hb))
      clear hb
      go_wp2_with fail
      go_at_call 22
      refine (HasS_any qs ss (mOf n) (List.replicate (mOf n) none) i id _ HSa4.out (fewN (mOf n))).mono ?_
      rintro e wa5 ⟨he, hb⟩
      rw [readO n i HIN.out] at he
      obtain rfl : e = .returned (.tuple #[.bool false, .bool false]) := he
      have HSa5 := Lib.hid (HSa4.out.below hb)
      have HKa5 := Lib.hid (HKa4.out.trans (KeptB.of_below hb))
      clear hb
      go_wp2_with fail
      go_at_call 24
      refine (SizeS_any qs ss (mOf n) (List.replicate (mOf n) none) i _ HSa5.out).mono ?_
      rintro e wa6 ⟨he, hb⟩
      rw [readO n i HIN.out] at he
      obtain rfl : e = .returned (.tuple #[.int .i64 0, .bool false]) := he
      have HSa6 := Lib.hid (HSa5.out.below hb)
      have HKa6 := Lib.hid (HKa5.out.trans (KeptB.of_below hb))
      clear hb
      go_wp2_with fail
      go_ret
      exact ⟨rfl, HB.out.trans (HKa6.out.below _ HSS.out HB.out.size)⟩
def gangplanklaw16_SlotsNone.f (a0 : Int) (a1 : Int) (a2 : Int) (a3 : Int) (l4 : List S56) : Option Bool := if 8 < l4.length ∨ idsWf l4 = true then some true else none
theorem gangplanklaw16_SlotsNone.calls (a0 : Int) (a1 : Int) (a2 : Int) (a3 : Int) (A4 : Option Addr) (c4 : Nat) (l4 : List S56) (r : Bool) (w : World) (hr4 : Kd.C k56 w A4 l4.length l4) (hc4 : l4.length ≤ c4) (h : gangplanklaw16_SlotsNone.f a0 a1 a2 a3 l4 = some r) :
    Calls Try.prog 5 #[.int .i64 a0, .int .i64 a1, .int .i64 a2, .int .u64 a3, .slice A4 l4.length c4] w fun e w' => e = .returned (.bool r) ∧ Below w.heap.size w w' := by
  unfold gangplanklaw16_SlotsNone.f at h
  by_cases hl : 8 < l4.length ∨ idsWf l4 = true
  · rw [if_pos hl] at h
    obtain rfl := Option.some.inj h
    exact None16_any a0 a1 a2 a3 A4 c4 l4 hc4 hl w hr4
  · rw [if_neg hl] at h
    exact absurd h (by simp)
end


/-- THE PURE STATEMENT of gangplanklaw16_SlotsNone. -/
def gangplanklaw16_SlotsNone.Pure : Prop := ∀ (a0 : Int) (a1 : Int) (a2 : Int) (a3 : Int) (l4 : List (S56)), ((Lit.int .i64 a0).wf = true) → ((Lit.int .i64 a1).wf = true) → ((Lit.int .i64 a2).wf = true) → ((Lit.int .u64 a3).wf = true) → (l4.length ≤ maxLen) → ((∀ x ∈ l4, okS56 x)) → gangplanklaw16_SlotsNone.f a0 a1 a2 a3 l4 = some true

/-! ### ring_Pick: function 31 -/
def ring_Pick.f (l0 : List (S56)) (a1 : Int) : Option (Int) := (points_Of.f l0).bind fun t121 => ((ring_Succ.f t121 a1).bind fun t124 => (some t124))
set_option maxHeartbeats 8000000 in
set_option maxRecDepth 100000 in
theorem ring_Pick.calls (A0 : Option Addr) (c0 : Nat) (l0 : List (S56)) (a1 : Int) (r : Int) (w : World) (hr0 : Kd.C k56 w A0 l0.length l0) (hc0 : l0.length ≤ c0) (h : ring_Pick.f l0 a1 = some r) :
    Calls Try.prog 31 #[.slice A0 l0.length c0, .int .u64 a1] w fun e w' => e = .returned (.int .i64 r) ∧ Below w.heap.size w w' := by
  have HR0 := Aside0.mk hr0
  have HC0 := Aside0.mk hc0
  clear hr0 hc0
  have HB := Aside0.mk (Below.refl w.heap.size w)
  have H : ((points_Of.f l0).bind fun t121 => ((ring_Succ.f t121 a1).bind fun t124 => (some t124))) = some r := h
  clear h
  replace H := Option.bind_eq_some_iff.mp H
  obtain ⟨t121, A30, H⟩ := H
  replace H : ((ring_Succ.f t121 a1).bind fun t124 => (some t124)) = some r := H
  have A3 := Aside0.mk A30
  clear A30
  replace H := Option.bind_eq_some_iff.mp H
  obtain ⟨t124, A40, H⟩ := H
  replace H : (some t124) = some r := H
  have A4 := Aside0.mk A40
  clear A40
  obtain rfl := Option.some.inj H
  go_enter Try.func31, Try.ntmps31
  go_wp2_with (first | ((with_reducible refine gate_callee (f := 61) rfl ?_); refine goesL_ (some 6) rfl rfl Try.func61 (by kernel_rfl) rfl #[.slice A0 l0.length c0] rfl (by (try simp only [List.map_toArray, List.map_cons, List.map_nil]); first | done | rfl | (simp only [List.length_drop, List.length_take]; rfl)) ?_; (with_reducible refine (points_Of.calls _ _ l0 t121 _ ?side1 ?side2 A3.out).mono ?_); (case side1 => repeat (first | exact HR0.out | (with_reducible refine Kd.C_alloc ?_ _) | (with_reducible refine Kd.C_drewN ?_ _) | (with_reducible refine Kd.C_drew ?_))); (case side2 => exact HC0.out); (try clear A3); rintro e w5 ⟨v122, rfl, ho0, hb⟩; refine ⟨_, rfl, ?_⟩; have n0_ := Aside0.mk (Kd.R_lower ho0 (below_size (by repeat (first | (with_reducible first | exact HB.out | apply below_alloc | apply pw_below_drewN | apply below_drew1) | exact HB.out)))); have n1_ := Aside0.mk (below_step (by repeat (first | (with_reducible first | exact HB.out | apply below_alloc | apply pw_below_drewN | apply below_drew1) | exact HB.out)) hb); clear HB; have HO123 := n0_; have HB := n1_; clear n0_ n1_; (try clear hb); (try clear hb2); (try clear hk); (try clear hi); (try clear ho0); obtain ⟨Ao6, co6, eo6⟩ := Kd.R_slice HO123.out; subst eo6) | ((with_reducible refine gate_callee (f := 51) rfl ?_); refine goesL_ (some 8) rfl rfl Try.func51 (by kernel_rfl) rfl #[.slice Ao6 t121.length co6, .int .u64 a1] rfl (by (try simp only [List.map_toArray, List.map_cons, List.map_nil]); first | done | rfl | (simp only [List.length_drop, List.length_take]; rfl)) ?_; (with_reducible refine (ring_Succ.calls _ _ t121 a1 t124 _ ?side1 ?side2 A4.out).mono ?_); (case side1 => repeat (first | exact (Kd.R_reads' HO123.out).2.2 | (with_reducible refine Kd.C_alloc ?_ _) | (with_reducible refine Kd.C_drewN ?_ _) | (with_reducible refine Kd.C_drew ?_))); (case side2 => exact (Kd.R_reads' HO123.out).2.1); (try clear A4); rintro e w7 ⟨rfl, hb⟩; refine ⟨_, rfl, ?_⟩; have n0_ := Aside0.mk (Kd.R_below (by (with_reducible repeat (first | apply Kd.R_alloc | apply Kd.R_drewN | apply Kd.R_drew)); exact HO123.out) hb); have n1_ := Aside0.mk (below_step (by repeat (first | (with_reducible first | exact HB.out | apply below_alloc | apply pw_below_drewN | apply below_drew1) | exact HB.out)) hb); clear HO123; clear HB; have HO123 := n0_; have HB := n1_; clear n0_ n1_; (try clear hb); (try clear hb2); (try clear hk); (try clear hi)))
  go_ret
  exact ⟨by first | rfl | (simp [errW_none, errW_some] <;> rfl) | (simp [*, errW_none, errW_some] <;> rfl), by repeat (first | (with_reducible first | exact HB.out | apply below_alloc | apply pw_below_drewN | apply below_drew1) | exact HB.out)⟩

-- NOT PRINTED: function 7 (gangplanklaw16_SlotsAnew)

end Go.Proofs.Ytklngklmeanhcaa.P
