/- Each Go function that the laws reach, as a plain function, with the proof that the machine's call comes to what it says; of a law: its row. Made by a program of this seat (wip/hp.py, over the print). -/
import Derived.Test.YtklngklmeanhcaaPx0
import Derived.Test.YtklngklmeanhcaaPx1
import Derived.Test.YtklngklmeanhcaaPx3
import Derived.Test.YtklngklmeanhcaaPx4
namespace Go.Proofs.Ytklngklmeanhcaa.P
open Go.RowKit Go.Proofs.YtklngklmeanhcaaW.PrintWords Go.Proofs.YtklngklmeanhcaaW.PrintLast Go.Proofs.YtklngklmeanhcaaW.PrintMore
attribute [local go_sem] max2_int min2_int max_two min_two max_three min_three max_four min_four   -- for this text's walks alone
set_option linter.unusedVariables false
set_option linter.unusedSimpArgs false

/-! ### gangplanklaw16_do: function 18 -/
section
open Go.Shelf Go.Proofs.Ytklngklmeanhcaa.Hand
/-- What an act makes of slots, and what it tells. -/
def actS (st : List (Option (Option (List S56)))) (k i : Int) (p : List S56) : List (Option (Option (List S56))) := if k = 0 then putS st i (some none) else if k = 1 then fillS st i p else putS st i none
def actB (st : List (Option (Option (List S56)))) (k i : Int) (p : List S56) : Bool := if k = 0 then inS i st.length else if k = 1 then fillB st i p else inS i st.length
set_option maxRecDepth 100000 in
set_option maxHeartbeats 4000000 in
theorem do16_any (qs ss m : Nat) (st : List (Option (Option (List S56)))) (k i : Int) (A : Option Addr) (c : Nat) (p : List S56) (hp : p.length ≤ 1000) (hpc : p.length ≤ c) (hwf : idsWf p = true) (W : World) (hS : Sl W qs ss m st) (hC : Kd.C k56 W A p.length p) :
    Calls Try.prog 18 #[.pointer (some ⟨qs, 0, none⟩), .agg #[.int .i64 k, .int .i64 i, .slice A p.length c]] W fun e W' => e = .returned (.bool (actB st k i p)) ∧ Sl W' qs ss m (actS st k i p) ∧ KeptB ss W W' := by
  have hl := hS.hl
  have hS := hS.below (below_alloc (Below.refl W.heap.size W) (.cells #[.int .i64 k, .int .i64 i, .slice A p.length c] 33))
  have hC := Kd.C_alloc hC (.cells #[.int .i64 k, .int .i64 i, .slice A p.length c] 33)
  have HK := Lib.hid (KeptB.of_below (ss := ss) (below_alloc (Below.refl W.heap.size W) (.cells #[.int .i64 k, .int .i64 i, .slice A p.length c] 33)))
  by_cases h0 : k = 0
  · have HC := Lib.hid (BeginS_any qs ss m st i _ hS)
    have eb : actB st k i p = inS i m := by unfold actB; rw [if_pos h0, hl]
    have es : actS st k i p = putS st i (some none) := by unfold actS; rw [if_pos h0]
    have e0 : (k == 0) = true := beq_iff_eq.mpr h0
    rw [eb, es]
    clear hS hC hl h0 eb es hwf hp hpc
    go_enter Try.func18, Try.ntmps18
    go_wp2_with (go_at_call 27; refine HC.out.mono ?_; rintro e w1 ⟨rfl, h1, h2⟩; have H1 := Lib.hid h1; have H2 := Lib.hid h2; clear h1 h2)
    go_ret
    exact ⟨rfl, H1.out, HK.out.trans H2.out⟩
  by_cases h1 : k = 1
  · have HC := Lib.hid (FillS_any qs ss m st i A c p hp hpc hwf _ hS hC)
    have eb : actB st k i p = fillB st i p := by unfold actB; rw [if_neg h0, if_pos h1]
    have es : actS st k i p = fillS st i p := by unfold actS; rw [if_neg h0, if_pos h1]
    have e0 : (k == 0) = false := beq_eq_false_iff_ne.mpr h0
    have e1 : (k == 1) = true := beq_iff_eq.mpr h1
    rw [eb, es]
    clear hS hC hl h0 h1 eb es hwf hp hpc
    go_enter Try.func18, Try.ntmps18
    go_wp2_with (go_at_call 28; refine HC.out.mono ?_; rintro e w1 ⟨rfl, h1, h2⟩; have H1 := Lib.hid h1; have H2 := Lib.hid h2; clear h1 h2)
    go_ret
    exact ⟨rfl, H1.out, HK.out.trans H2.out⟩
  · have HC := Lib.hid (SpoilS_any qs ss m st i _ hS)
    have eb : actB st k i p = inS i m := by unfold actB; rw [if_neg h0, if_neg h1, hl]
    have es : actS st k i p = putS st i none := by unfold actS; rw [if_neg h0, if_neg h1]
    have e0 : (k == 0) = false := beq_eq_false_iff_ne.mpr h0
    have e1 : (k == 1) = false := beq_eq_false_iff_ne.mpr h1
    rw [eb, es]
    clear hS hC hl h0 h1 eb es hwf hp hpc
    go_enter Try.func18, Try.ntmps18
    go_wp2_with (go_at_call 30; refine HC.out.mono ?_; rintro e w1 ⟨rfl, h1, h2⟩; have H1 := Lib.hid h1; have H2 := Lib.hid h2; clear h1 h2)
    go_ret
    exact ⟨rfl, H1.out, HK.out.trans H2.out⟩
theorem actS_len (st : List (Option (Option (List S56)))) (k i : Int) (p : List S56) : (actS st k i p).length = st.length := by
  unfold actS fillS putS
  repeat' split
  all_goals first | rfl | exact List.length_set
/-- Of the slot j an act at another slot changes nothing. -/
theorem actS_far (st : List (Option (Option (List S56)))) (k i : Int) (p : List S56) (j : Int) (hj : 0 ≤ j) (h : i ≠ j) : (actS st k i p).getD j.toNat none = st.getD j.toNat none := by
  have hs : ∀ x, inS i st.length = true → (st.set i.toNat x).getD j.toNat none = st.getD j.toNat none := fun x hi => by
    have h2 := of_decide_eq_true hi
    rw [List.getD_eq_getElem?_getD, List.getElem?_set_ne (by omega), ← List.getD_eq_getElem?_getD]
  unfold actS fillS putS
  repeat' split
  all_goals first | rfl | (apply hs; assumption) | (apply hs; rename_i hf; unfold fillB at hf; exact (Bool.and_eq_true_iff.1 hf).1)
theorem few_set {st : List (Option (Option (List S56)))} (h : FewS st) (i : Nat) (x : Option (Option (List S56))) (hx : ∀ p, x = some (some p) → p.length ≤ 1000) : FewS (st.set i x) := fun j p hp => by
  rw [List.getD_eq_getElem?_getD, List.getElem?_set] at hp
  split at hp
  · split at hp
    · exact hx p hp
    · cases hp
  · rw [← List.getD_eq_getElem?_getD] at hp
    exact h j p hp
theorem actS_few {st : List (Option (Option (List S56)))} (h : FewS st) (k i : Int) (p : List S56) (hp : p.length ≤ 1000) : FewS (actS st k i p) := by
  unfold actS fillS putS
  repeat' split
  all_goals first | exact h | exact few_set h _ _ (fun q hq => by cases hq <;> exact hp)
theorem few_none (m : Nat) : FewS (List.replicate m none) := fun i p h => by
  rw [List.getD_eq_getElem?_getD, List.getElem?_replicate] at h
  split at h <;> cases h
end

/-! ### ring_Pick: function 31 -/
def ring_Pick.f (l0 : List (S56)) (a1 : Int) : Option (Int) := (points_Of.f l0).bind fun t122 => ((ring_Succ.f t122 a1).bind fun t125 => (some t125))
set_option maxHeartbeats 8000000 in
set_option maxRecDepth 100000 in
theorem ring_Pick.calls (A0 : Option Addr) (c0 : Nat) (l0 : List (S56)) (a1 : Int) (r : Int) (w : World) (hr0 : Kd.C k56 w A0 l0.length l0) (hc0 : l0.length ≤ c0) (h : ring_Pick.f l0 a1 = some r) :
    Calls Try.prog 31 #[.slice A0 l0.length c0, .int .u64 a1] w fun e w' => e = .returned (.int .i64 r) ∧ Below w.heap.size w w' := by
  have HR0 := Aside0.mk hr0
  have HC0 := Aside0.mk hc0
  clear hr0 hc0
  have HB := Aside0.mk (Below.refl w.heap.size w)
  have H : ((points_Of.f l0).bind fun t122 => ((ring_Succ.f t122 a1).bind fun t125 => (some t125))) = some r := h
  clear h
  replace H := Option.bind_eq_some_iff.mp H
  obtain ⟨t122, A30, H⟩ := H
  replace H : ((ring_Succ.f t122 a1).bind fun t125 => (some t125)) = some r := H
  have A3 := Aside0.mk A30
  clear A30
  replace H := Option.bind_eq_some_iff.mp H
  obtain ⟨t125, A40, H⟩ := H
  replace H : (some t125) = some r := H
  have A4 := Aside0.mk A40
  clear A40
  obtain rfl := Option.some.inj H
  go_enter Try.func31, Try.ntmps31
  go_wp2_with (first | ((with_reducible refine gate_callee (f := 61) rfl ?_); refine goesL_ (some 6) rfl rfl Try.func61 (by kernel_rfl) rfl #[.slice A0 l0.length c0] rfl (by (try simp only [List.map_toArray, List.map_cons, List.map_nil]); first | done | rfl | (simp only [List.length_drop, List.length_take]; rfl)) ?_; (with_reducible refine (points_Of.calls _ _ l0 t122 _ ?side1 ?side2 A3.out).mono ?_); (case side1 => repeat (first | exact HR0.out | (with_reducible refine Kd.C_alloc ?_ _) | (with_reducible refine Kd.C_drewN ?_ _) | (with_reducible refine Kd.C_drew ?_))); (case side2 => exact HC0.out); (try clear A3); rintro e w5 ⟨v123, rfl, ho0, hb⟩; refine ⟨_, rfl, ?_⟩; have n0_ := Aside0.mk (Kd.R_lower ho0 (below_size (by repeat (first | (with_reducible first | exact HB.out | apply below_alloc | apply pw_below_drewN | apply below_drew1) | exact HB.out)))); have n1_ := Aside0.mk (below_step (by repeat (first | (with_reducible first | exact HB.out | apply below_alloc | apply pw_below_drewN | apply below_drew1) | exact HB.out)) hb); clear HB; have HO124 := n0_; have HB := n1_; clear n0_ n1_; (try clear hb); (try clear hb2); (try clear hk); (try clear hi); (try clear ho0); obtain ⟨Ao6, co6, eo6⟩ := Kd.R_slice HO124.out; subst eo6) | ((with_reducible refine gate_callee (f := 51) rfl ?_); refine goesL_ (some 8) rfl rfl Try.func51 (by kernel_rfl) rfl #[.slice Ao6 t122.length co6, .int .u64 a1] rfl (by (try simp only [List.map_toArray, List.map_cons, List.map_nil]); first | done | rfl | (simp only [List.length_drop, List.length_take]; rfl)) ?_; (with_reducible refine (ring_Succ.calls _ _ t122 a1 t125 _ ?side1 ?side2 A4.out).mono ?_); (case side1 => repeat (first | exact (Kd.R_reads' HO124.out).2.2 | (with_reducible refine Kd.C_alloc ?_ _) | (with_reducible refine Kd.C_drewN ?_ _) | (with_reducible refine Kd.C_drew ?_))); (case side2 => exact (Kd.R_reads' HO124.out).2.1); (try clear A4); rintro e w7 ⟨rfl, hb⟩; refine ⟨_, rfl, ?_⟩; have n0_ := Aside0.mk (Kd.R_below (by (with_reducible repeat (first | apply Kd.R_alloc | apply Kd.R_drewN | apply Kd.R_drew)); exact HO124.out) hb); have n1_ := Aside0.mk (below_step (by repeat (first | (with_reducible first | exact HB.out | apply below_alloc | apply pw_below_drewN | apply below_drew1) | exact HB.out)) hb); clear HO124; clear HB; have HO124 := n0_; have HB := n1_; clear n0_ n1_; (try clear hb); (try clear hb2); (try clear hk); (try clear hi)))
  go_ret
  exact ⟨by first | rfl | (simp [errW_none, errW_some] <;> rfl) | (simp [*, errW_none, errW_some] <;> rfl), by repeat (first | (with_reducible first | exact HB.out | apply below_alloc | apply pw_below_drewN | apply below_drew1) | exact HB.out)⟩

/-! ### gangplanklaw16_SlotsReady: function 6 -/
section
open Go.Shelf Go.Proofs.Ytklngklmeanhcaa.Hand
theorem few_l0 (l : List S33) (hl : l.length ≤ 30) : ∀ (k j : Nat), j ≤ l.length → l.length - j < k → ∃ b, gangplanklaw16_few.l0 k l (j : Int) = some b ∧ (b = true → ∀ i : Nat, j ≤ i → i < l.length → (rd_T33 l (i : Int)).f2.length ≤ 8)
  | 0, j, h1, h2 => by omega
  | k + 1, j, h1, h2 => by
    unfold gangplanklaw16_few.l0
    by_cases hj : (j : Int) < (l.length : Int)
    · rw [if_pos hj, if_pos (by omega)]
      by_cases h8 : (((rd_T33 l (j : Int)).f2).length : Int) > 8
      · rw [if_pos h8]
        exact ⟨false, rfl, fun h => by cases h⟩
      · rw [if_neg h8, show wrap64 ((j : Int) + 1) = ((j + 1 : Nat) : Int) from by unfold wrap64; omega]
        obtain ⟨b, hb, hb2⟩ := few_l0 l hl k (j + 1) (by omega) (by omega)
        refine ⟨b, hb, fun h i hi hi2 => ?_⟩
        by_cases e : i = j
        · rw [e]; omega
        · exact hb2 h i (by omega) hi2
    · rw [if_neg hj]
      exact ⟨true, rfl, fun _ i hi hi2 => by omega⟩
theorem few16_any (A : Option Addr) (c : Nat) (l : List S33) (hc : l.length ≤ c) : ∃ b : Bool, (b = true → l.length ≤ 30 ∧ ∀ i : Nat, i < l.length → (rd_T33 l (i : Int)).f2.length ≤ 8) ∧ ∀ W, Kd.C k33 W A l.length l →
    Calls Try.prog 15 #[.slice A l.length c] W fun e W' => e = .returned (.bool b) ∧ Below W.heap.size W W' := by
  have hf : ∃ b : Bool, gangplanklaw16_few.f 40 l = some b ∧ (b = true → l.length ≤ 30 ∧ ∀ i : Nat, i < l.length → (rd_T33 l (i : Int)).f2.length ≤ 8) := by
    unfold gangplanklaw16_few.f
    by_cases h : (l.length : Int) > 30
    · rw [if_pos h]
      exact ⟨false, rfl, fun h => by cases h⟩
    · rw [if_neg h]
      obtain ⟨b, hb, hb2⟩ := few_l0 l (by omega) 40 0 (Nat.zero_le _) (by omega)
      exact ⟨b, hb, fun h => ⟨by omega, fun i hi => hb2 h i (Nat.zero_le _) hi⟩⟩
  obtain ⟨b, hb, hb2⟩ := hf
  refine ⟨b, hb2, fun W hC => (gangplanklaw16_few.calls 40 A c l b W hC hc hb).mono ?_⟩
  rintro e W' ⟨h1, h2⟩
  exact ⟨h1, h2.below⟩
/-- What is read of the slot i, by its state. -/
theorem readS_at (st : List (Option (Option (List S56)))) (m : Nat) (i : Int) (hl : st.length = m) (hi : inS i m = true) : readS st i = (match st.getD i.toNat none with | some (some p) => some p | _ => none) := by
  unfold readS
  rw [hl, if_pos hi]
  cases st.getD i.toNat none with
  | none => rfl
  | some x => cases x <;> rfl
theorem putS_at (st : List (Option (Option (List S56)))) (m : Nat) (i : Int) (hl : st.length = m) (hi : inS i m = true) (x : Option (Option (List S56))) : (putS st i x).getD i.toNat none = x ∧ (putS st i x).length = m := by
  have h := of_decide_eq_true hi
  unfold putS
  rw [hl, if_pos hi]
  refine ⟨?_, by rw [List.length_set]; exact hl⟩
  rw [List.getD_eq_getElem?_getD, List.getElem?_set_self (by omega)]
  rfl
theorem fillS_at (st : List (Option (Option (List S56)))) (m : Nat) (i : Int) (p : List S56) (hl : st.length = m) (hi : inS i m = true) (hb : st.getD i.toNat none = some none) :
    fillB st i p = decide (checkL p = 0) ∧ (fillS st i p).length = m ∧ (fillS st i p).getD i.toNat none = (if checkL p = 0 then some (some p) else some none) ∧ fillB (fillS st i p) i p = false ∧ fillS (fillS st i p) i p = fillS st i p := by
  have h := of_decide_eq_true hi
  have hB : fillB st i p = decide (checkL p = 0) := by unfold fillB; rw [hl, hi, hb]; show (true && (decide (checkL p = 0) && true)) = _; rw [Bool.true_and, Bool.and_true]
  have hL : (fillS st i p).length = m := by unfold fillS; split; · rw [List.length_set]; exact hl
                                            · exact hl
  have hG : (fillS st i p).getD i.toNat none = (if checkL p = 0 then some (some p) else some none) := by
    unfold fillS
    rw [hB]
    by_cases hc : checkL p = 0
    · rw [if_pos (decide_eq_true hc), if_pos hc, List.getD_eq_getElem?_getD, List.getElem?_set_self (by omega)]
      rfl
    · rw [if_neg (by rw [decide_eq_false hc]; exact Bool.false_ne_true), if_neg hc]
      exact hb
  have hF : fillB (fillS st i p) i p = false := by
    unfold fillB
    rw [hL, hi, hG]
    by_cases hc : checkL p = 0
    · rw [if_pos hc]; show (true && (_ && false)) = false; rw [Bool.and_false]; rfl
    · rw [decide_eq_false hc]; rfl
  refine ⟨hB, hL, hG, hF, ?_⟩
  show (if fillB (fillS st i p) i p = true then _ else fillS st i p) = _
  rw [hF]
  rfl
theorem pickRr (p : List S56) (h : Int) (hp : p.length ≤ 1000) : ring_Pick.f p h = some (succL (ofL p) h) := by
  unfold ring_Pick.f points_Of.f
  rw [if_pos (by omega), Option.bind_some, succ_someS _ _ (ofL_few p hp)]
  rfl
-- WALK
set_option maxRecDepth 100000 in
set_option maxHeartbeats 16000000 in
theorem Ready16_any (n : Int) (A1 : Option Addr) (c1 : Nat) (l : List S33) (h1 : l.length ≤ c1) (i : Int) (A2 : Option Addr) (c2 : Nat) (p : List S56) (h2 : p.length ≤ c2) (h : Int) (hok : ∀ k : Nat, k < l.length → idsWf (rd_T33 l (k : Int)).f2 = true) (hokp : idsWf p = true) (w : World) (hC1 : Kd.C k33 w A1 l.length l) (hC2 : Kd.C k56 w A2 p.length p) :
    Calls Try.prog 6 #[.int .i64 n, .slice A1 l.length c1, .int .i64 i, .slice A2 p.length c2, .int .u64 h] w fun e w' => e = .returned (.bool true) ∧ Below w.heap.size w w' := by
  obtain ⟨b, hb, hfew⟩ := few16_any A1 c1 l h1
  have HFEW := Lib.hid hfew
  have HC1 := Lib.hid hC1
  have HC2 := Lib.hid hC2
  have HC1c := Lib.hid h1
  have HC2c := Lib.hid h2
  have HWF := Lib.hid hok
  have HWFp := Lib.hid hokp
  clear hfew hC1 hC2 h1 h2 hok hokp
  cases b with
  | false =>
    clear hb
    go_enter Try.func6, Try.ntmps6
    go_wp2_with fail
    go_at_call 14
    refine (works16_any _).mono ?_
    rintro e w0 ⟨rfl, hb⟩
    have HW0 := Lib.hid hb
    clear hb
    go_wp2_with fail
    go_at_call 15
    refine (HFEW.out _ (Kd.C_below HC1.out HW0.out)).mono ?_
    rintro e w1 ⟨rfl, hb⟩
    have HW := Lib.hid (HW0.out.trans (hb.mono HW0.out.size))
    clear hb
    go_wp2
    go_ret
    exact ⟨rfl, HW.out⟩
  | true =>
    have HB8 := Lib.hid (hb rfl)
    clear hb
    by_cases l0 : 8 < p.length
    · have t00 : decide (8 < (p.length : Int)) = true := decide_eq_true (by omega)
      have t01 : decide (8 < p.length) = true := decide_eq_true (by omega)
      clear l0
      go_enter Try.func6, Try.ntmps6
      go_wp2_with fail
      go_at_call 14
      refine (works16_any _).mono ?_
      rintro e w0 ⟨rfl, hb⟩
      have HW0 := Lib.hid hb
      clear hb
      go_wp2_with fail
      go_at_call 15
      refine (HFEW.out _ (Kd.C_below HC1.out HW0.out)).mono ?_
      rintro e w1 ⟨rfl, hb⟩
      have HW := Lib.hid (HW0.out.trans (hb.mono HW0.out.size))
      clear hb
      go_wp2
      go_ret
      exact ⟨rfl, HW.out⟩
    have t00 : decide (8 < (p.length : Int)) = false := decide_eq_false (by omega)
    have t01 : decide (8 < p.length) = false := decide_eq_false (by omega)
    by_cases l1 : i < 0
    · have t10 : decide (i < 0) = true := decide_eq_true (by omega)
      clear l1
      go_enter Try.func6, Try.ntmps6
      go_wp2_with fail
      go_at_call 14
      refine (works16_any _).mono ?_
      rintro e w0 ⟨rfl, hb⟩
      have HW0 := Lib.hid hb
      clear hb
      go_wp2_with fail
      go_at_call 15
      refine (HFEW.out _ (Kd.C_below HC1.out HW0.out)).mono ?_
      rintro e w1 ⟨rfl, hb⟩
      have HW := Lib.hid (HW0.out.trans (hb.mono HW0.out.size))
      clear hb
      go_wp2
      go_ret
      exact ⟨rfl, HW.out⟩
    have t10 : decide (i < 0) = false := decide_eq_false (by omega)
    by_cases l2 : n ≤ i
    · have t20 : decide (n ≤ i) = true := decide_eq_true (by omega)
      clear l2
      go_enter Try.func6, Try.ntmps6
      go_wp2_with fail
      go_at_call 14
      refine (works16_any _).mono ?_
      rintro e w0 ⟨rfl, hb⟩
      have HW0 := Lib.hid hb
      clear hb
      go_wp2_with fail
      go_at_call 15
      refine (HFEW.out _ (Kd.C_below HC1.out HW0.out)).mono ?_
      rintro e w1 ⟨rfl, hb⟩
      have HW := Lib.hid (HW0.out.trans (hb.mono HW0.out.size))
      clear hb
      go_wp2
      go_ret
      exact ⟨rfl, HW.out⟩
    have t20 : decide (n ≤ i) = false := decide_eq_false (by omega)
    by_cases l3 : 8 ≤ i
    · have t30 : decide (8 ≤ i) = true := decide_eq_true (by omega)
      clear l3
      go_enter Try.func6, Try.ntmps6
      go_wp2_with fail
      go_at_call 14
      refine (works16_any _).mono ?_
      rintro e w0 ⟨rfl, hb⟩
      have HW0 := Lib.hid hb
      clear hb
      go_wp2_with fail
      go_at_call 15
      refine (HFEW.out _ (Kd.C_below HC1.out HW0.out)).mono ?_
      rintro e w1 ⟨rfl, hb⟩
      have HW := Lib.hid (HW0.out.trans (hb.mono HW0.out.size))
      clear hb
      go_wp2
      go_ret
      exact ⟨rfl, HW.out⟩
    have t30 : decide (8 ≤ i) = false := decide_eq_false (by omega)
    have HP8 := Lib.hid (show p.length ≤ 8 by omega)
    have hin : inS i (mOf n) = true := by rw [mOf_in]; exact decide_eq_true (by omega)
    have h0i : 0 ≤ i := by omega
    clear l0 l1 l2 l3
    have hnew := newS_any n
    obtain ⟨m, hm⟩ : ∃ m, mOf n = m := ⟨_, rfl⟩
    rw [hm] at hin
    rw [hm] at hnew
    clear hm
    have HI := Lib.hid hin
    have H0I := Lib.hid h0i
    have HNEW := Lib.hid hnew
    clear hin h0i hnew
    go_enter Try.func6, Try.ntmps6
    go_wp2_with fail
    go_at_call 14
    refine (works16_any _).mono ?_
    rintro e w0 ⟨rfl, hb⟩
    have HW0 := Lib.hid hb
    clear hb
    go_wp2_with fail
    go_at_call 15
    refine (HFEW.out _ (Kd.C_below HC1.out HW0.out)).mono ?_
    rintro e w1 ⟨rfl, hb⟩
    have HW := Lib.hid (HW0.out.trans (hb.mono HW0.out.size))
    clear hb
    go_wp2_with fail
    go_at_call 16
    refine (HNEW.out _).mono ?_
    rintro e w2 ⟨qs, ss, rfl, hs, hss, hb⟩
    have HS := Lib.hid hs
    have HSS := Lib.hid (Nat.le_trans HW.out.size hss)
    have HB := Lib.hid (HW.out.trans (hb.mono HW.out.size))
    clear hs hss hb
    go_wp2
    go_loopw [13] (fun v wr => ∃ (k : Nat) (st : List (Option (Option (List S56)))), k ≤ l.length ∧ v = .int .i64 (k : Int) ∧ Aside0 (Sl wr qs ss m st) ∧ Aside0 (FewS st) ∧ Aside0 (KeptB ss w2 wr))
      (fun v _ => l.length - (intOf v).toNat)
    case atStart => exact ⟨0, _, Nat.zero_le _, rfl, ⟨HS.out⟩, ⟨few_none m⟩, ⟨KeptB.refl _ _⟩⟩
    case round =>
      obtain ⟨k, st, hk, rfl, HSr, HFr, HKr⟩ := hrel
      by_cases hlt : k < l.length
      · obtain ⟨ad, A3, c3, hA, x0, x1, x2, hl3, hc3⟩ := at_T33 (Kd.C_below HC1.out (HB.out.trans (HKr.out.below _ HSS.out HB.out.size))) (k : Int) (by omega) (by omega)
        subst hA
        rw [Int.toNat_natCast] at x0 x1 x2
        have HD := Lib.hid (do16_any qs ss m st (rd_T33 l (k : Int)).f0 (rd_T33 l (k : Int)).f1 A3 c3 (rd_T33 l (k : Int)).f2 (by have := HB8.out.2 k hlt; omega) hl3 (HWF.out k hlt) wr HSr.out hc3)
        have HF2 := Lib.hid (actS_few HFr.out (rd_T33 l (k : Int)).f0 (rd_T33 l (k : Int)).f1 (rd_T33 l (k : Int)).f2 (by have := HB8.out.2 k hlt; omega))
        have HLT := Lib.hid hlt
        have q1 : decide ((k : Int) < (l.length : Int)) = true := decide_eq_true (by omega)
        have q2 : (0 : Int) ≤ (k : Int) := by omega
        have q3 : (k : Int) < (l.length : Int) := by omega
        have q4 := eq_true q2
        have q5 := eq_true q3
        have hwk : wrap64 ((k : Int) + 1) = ((k + 1 : Nat) : Int) := by have := HB8.out.1; unfold wrap64; omega
        clear hl3 hc3 HSr HFr hlt
        go_wp2_with fail
        go_at_call 18
        refine HD.out.mono ?_
        rintro e w3 ⟨rfl, h3, h4⟩
        have HS3 := Lib.hid h3
        have HK3 := Lib.hid (HKr.out.trans h4)
        clear h3 h4
        go_wp2
        go_roundw
        case rel => exact ⟨k + 1, _, Nat.succ_le_of_lt HLT.out, by rw [hwk], ⟨HS3.out⟩, ⟨HF2.out⟩, ⟨HK3.out⟩⟩
        case measure =>
          rw [hwk]
          show l.length - (((k + 1 : Nat) : Int)).toNat < l.length - ((k : Int)).toNat
          rw [Int.toNat_natCast, Int.toNat_natCast]
          exact Nat.sub_succ_lt_self _ _ HLT.out
      · obtain rfl : k = l.length := Nat.le_antisymm hk (Nat.le_of_not_lt hlt)
        have q1 : decide ((l.length : Int) < (l.length : Int)) = false := decide_eq_false (by omega)
        have HSa := Lib.hid HSr.out
        have HFa := Lib.hid HFr.out
        have HKa := Lib.hid HKr.out
        clear HSr HFr HKr hlt hk
        go_wp2_with fail
        have hsp := HSa.out.hl
        obtain ⟨g1, L1⟩ := putS_at st m i hsp HI.out (some none)
        have HF1 : FewS (putS st i (some none)) := by
          unfold putS; split
          · exact few_set HFa.out _ _ (fun q hq => by cases hq)
          · exact HFa.out
        have HBEG := Lib.hid (BeginS_any qs ss m st i wr HSa.out)
        obtain ⟨st1, e1⟩ : ∃ st1, putS st i (some none) = st1 := ⟨_, rfl⟩
        rw [e1] at g1 L1 HF1 HBEG
        have G1 := Lib.hid g1
        have GL1 := Lib.hid L1
        have GF1 := Lib.hid HF1
        clear g1 L1 HF1 e1 hsp
        have r1 : readS st1 i = none := by rw [readS_at st1 m i GL1.out HI.out, G1.out]
        obtain ⟨fb, fl, fg, fn, fs⟩ := fillS_at st1 m i p GL1.out HI.out G1.out
        have R1 := Lib.hid r1
        have FB := Lib.hid fb
        have FL := Lib.hid fl
        have FG := Lib.hid fg
        have FN := Lib.hid fn
        have FS := Lib.hid fs
        clear r1 fb fl fg fn fs
        refine HBEG.out.mono ?_
        rintro e wa1 ⟨he, h1, h2⟩
        rw [HI.out] at he
        obtain rfl : e = .returned (.bool true) := he
        have HS1 := Lib.hid h1
        have HK1 := Lib.hid (HKa.out.trans h2)
        clear h1 h2
        go_wp2_with fail
        go_at_call 20
        refine (PickS_any qs ss m st1 i h _ HS1.out GF1.out).mono ?_
        rintro e wa2 ⟨he, hb⟩
        rw [R1.out] at he
        obtain rfl : e = .returned (.tuple #[.int .i64 0, .bool false]) := he
        have HS2 := Lib.hid (HS1.out.below hb)
        have HK2 := Lib.hid (HK1.out.trans (KeptB.of_below hb))
        clear hb
        go_wp2_with fail
        go_at_call 28
        refine (FillS_any qs ss m st1 i A2 c2 p (by have := HP8.out; omega) HC2c.out HWFp.out _ HS2.out (Kd.C_below HC2.out (HB.out.trans (HK2.out.below _ HSS.out HB.out.size)))).mono ?_
        rintro e wa3 ⟨he, h1, h2⟩
        rw [FB.out] at he
        obtain rfl : e = .returned (.bool (decide (checkL p = 0))) := he
        have HS3 := Lib.hid h1
        have HK3 := Lib.hid (HK2.out.trans h2)
        clear h1 h2
        go_wp2_with fail
        go_at_call 28
        refine (FillS_any qs ss m (fillS st1 i p) i A2 c2 p (by have := HP8.out; omega) HC2c.out HWFp.out _ HS3.out (Kd.C_below HC2.out (HB.out.trans (HK3.out.below _ HSS.out HB.out.size)))).mono ?_
        rintro e wa4 ⟨he, h1, h2⟩
        rw [FN.out] at he
        rw [FS.out] at h1
        obtain rfl : e = .returned (.bool false) := he
        have HS4 := Lib.hid h1
        have HK4 := Lib.hid (HK3.out.trans h2)
        clear h1 h2
        have HF4 : FewS (fillS st1 i p) := by
          unfold fillS; split
          · exact few_set GF1.out _ _ (fun q hq => by cases hq; have := HP8.out; omega)
          · exact GF1.out
        obtain ⟨st4, e4⟩ : ∃ st4, fillS st1 i p = st4 := ⟨_, rfl⟩
        have HS4 := Lib.hid (e4 ▸ HS4.out)
        have HF4 := Lib.hid (e4 ▸ HF4)
        have HG4 := Lib.hid (e4 ▸ FG.out)
        clear e4
        go_wp2
        go_loopw [19] (fun v wr => ∃ (k : Nat) (st : List (Option (Option (List S56)))), k ≤ l.length ∧ v = .int .i64 (k : Int) ∧ Aside0 (Sl wr qs ss m st) ∧ Aside0 (FewS st) ∧ Aside0 (KeptB ss w2 wr) ∧ Aside0 (st.getD i.toNat none = (if checkL p = 0 then some (some p) else some none)))
          (fun v _ => l.length - (intOf v).toNat)
        case atStart => exact ⟨0, _, Nat.zero_le _, rfl, ⟨HS4.out⟩, ⟨HF4.out⟩, ⟨HK4.out⟩, ⟨HG4.out⟩⟩
        case round =>
          clear HSa HFa HKa HS1 HK1 HS2 HK2 HS3 HK3 HS4 HK4 HF4 HG4 HBEG q1
          obtain ⟨k, st, hk, rfl, HSr, HFr, HKr, HGr⟩ := hrel
          by_cases hlt : k < l.length
          · obtain ⟨ad, A3, c3, hA, x0, x1, x2, hl3, hc3⟩ := at_T33 (Kd.C_below HC1.out (HB.out.trans (HKr.out.below _ HSS.out HB.out.size))) (k : Int) (by omega) (by omega)
            subst hA
            rw [Int.toNat_natCast] at x0 x1 x2
            have HD := Lib.hid (do16_any qs ss m st (rd_T33 l (k : Int)).f0 (rd_T33 l (k : Int)).f1 A3 c3 (rd_T33 l (k : Int)).f2 (by have := HB8.out.2 k hlt; omega) hl3 (HWF.out k hlt) wr HSr.out hc3)
            have HF2 := Lib.hid (actS_few HFr.out (rd_T33 l (k : Int)).f0 (rd_T33 l (k : Int)).f1 (rd_T33 l (k : Int)).f2 (by have := HB8.out.2 k hlt; omega))
            have HFAR := Lib.hid (actS_far st (rd_T33 l (k : Int)).f0 (rd_T33 l (k : Int)).f1 (rd_T33 l (k : Int)).f2 i H0I.out)
            have HLT := Lib.hid hlt
            have q1 : decide ((k : Int) < (l.length : Int)) = true := decide_eq_true (by omega)
            have q2 : (0 : Int) ≤ (k : Int) := by omega
            have q3 : (k : Int) < (l.length : Int) := by omega
            have q4 := eq_true q2
            have q5 := eq_true q3
            have hwk : wrap64 ((k : Int) + 1) = ((k + 1 : Nat) : Int) := by have := HB8.out.1; unfold wrap64; omega
            clear hl3 hc3 hlt
            by_cases hne : (rd_T33 l (k : Int)).f1 = i
            · have n1 : ((rd_T33 l (k : Int)).f1 == i) = true := beq_iff_eq.mpr hne
              clear hne
              go_wp2
              go_roundw
              case rel => exact ⟨k + 1, _, Nat.succ_le_of_lt HLT.out, by rw [hwk], HSr, HFr, HKr, HGr⟩
              case measure =>
                rw [hwk]
                show l.length - (((k + 1 : Nat) : Int)).toNat < l.length - ((k : Int)).toNat
                rw [Int.toNat_natCast, Int.toNat_natCast]
                exact Nat.sub_succ_lt_self _ _ HLT.out
            · have n1 : ((rd_T33 l (k : Int)).f1 == i) = false := beq_eq_false_iff_ne.mpr hne
              have HNE := Lib.hid ((HFAR.out hne).trans HGr.out)
              clear hne HSr HFr HGr
              go_wp2_with fail
              go_at_call 18
              refine HD.out.mono ?_
              rintro e w3 ⟨rfl, h3, h4⟩
              have HS3 := Lib.hid h3
              have HK3 := Lib.hid (HKr.out.trans h4)
              clear h3 h4
              go_wp2
              go_roundw
              case rel => exact ⟨k + 1, _, Nat.succ_le_of_lt HLT.out, by rw [hwk], ⟨HS3.out⟩, ⟨HF2.out⟩, ⟨HK3.out⟩, ⟨HNE.out⟩⟩
              case measure =>
                rw [hwk]
                show l.length - (((k + 1 : Nat) : Int)).toNat < l.length - ((k : Int)).toNat
                rw [Int.toNat_natCast, Int.toNat_natCast]
                exact Nat.sub_succ_lt_self _ _ HLT.out
          · obtain rfl : k = l.length := Nat.le_antisymm hk (Nat.le_of_not_lt hlt)
            have q1 : decide ((l.length : Int) < (l.length : Int)) = false := decide_eq_false (by omega)
            have HSb := Lib.hid HSr.out
            have HFb := Lib.hid HFr.out
            have HKb := Lib.hid HKr.out
            have HGb := Lib.hid HGr.out
            clear HSr HFr HKr HGr hlt hk
            have rI := readS_at st m i HSb.out.hl HI.out
            obtain ⟨gn, Ln⟩ := putS_at st m i HSb.out.hl HI.out none
            have hFn : FewS (putS st i none) := by
              unfold putS; split
              · exact few_set HFb.out _ _ (fun q hq => by cases hq)
              · exact HFb.out
            have hSPL := fun (W : World) (hS : Sl W qs ss m st) => SpoilS_any qs ss m st i W hS
            obtain ⟨st5, e5⟩ : ∃ st5, putS st i none = st5 := ⟨_, rfl⟩
            rw [e5] at gn Ln hFn
            simp only [e5] at hSPL
            have R5 := Lib.hid (show readS st5 i = none by rw [readS_at st5 m i Ln HI.out, gn])
            have F5 := Lib.hid hFn
            have SPL := Lib.hid hSPL
            clear gn Ln hFn hSPL e5
            have HCK := Lib.hid (show ∀ W, Kd.C k56 W A2 p.length p → Calls Try.prog 26 #[.slice A2 p.length c2] W fun e w' => e = .returned (.int .i64 (checkL p)) ∧ Below W.heap.size W w' from fun W h => Check_any A2 c2 p (by have := HP8.out; omega) HWFp.out W h)
            by_cases hz : checkL p = 0
            · rw [HGb.out, if_pos hz] at rI
              have RI := Lib.hid (show readS st i = some p from rI)
              have qd : decide (checkL p = 0) = true := decide_eq_true hz
              have qe : (checkL p == 0) = true := beq_iff_eq.mpr hz
              clear rI hz HGb
              go_wp2_with fail
              go_at_call 20
              refine (PickS_any qs ss m st i h _ HSb.out HFb.out).mono ?_
              rintro e wb1 ⟨he, hb⟩
              rw [RI.out] at he
              obtain rfl : e = .returned (.tuple #[.int .i64 (succL (ofL p) h), .bool true]) := he
              have HSb1 := Lib.hid (HSb.out.below hb)
              have HKb1 := Lib.hid (HKb.out.trans (KeptB.of_below hb))
              clear hb
              go_wp2_with fail
              go_at_call 24
              refine (SizeS_any qs ss m st i _ HSb1.out).mono ?_
              rintro e wb2 ⟨he, hb⟩
              rw [RI.out] at he
              obtain rfl : e = .returned (.tuple #[.int .i64 (p.length : Int), .bool true]) := he
              have HSb2 := Lib.hid (HSb1.out.below hb)
              have HKb2 := Lib.hid (HKb1.out.trans (KeptB.of_below hb))
              clear hb
              go_wp2_with fail
              go_at_call 30
              refine (SPL.out _ HSb2.out).mono ?_
              rintro e wb3 ⟨he, h1, h2⟩
              rw [HI.out] at he
              obtain rfl : e = .returned (.bool true) := he
              have HSb3 := Lib.hid h1
              have HKb3 := Lib.hid (HKb2.out.trans h2)
              clear h1 h2
              go_wp2_with fail
              go_at_call 20
              refine (PickS_any qs ss m st5 i h _ HSb3.out F5.out).mono ?_
              rintro e wb4 ⟨he, hb⟩
              rw [R5.out] at he
              obtain rfl : e = .returned (.tuple #[.int .i64 0, .bool false]) := he
              have HSb4 := Lib.hid (HSb3.out.below hb)
              have HKb4 := Lib.hid (HKb3.out.trans (KeptB.of_below hb))
              clear hb
              go_wp2_with fail
              go_at_call 26
              refine (HCK.out _ (Kd.C_below HC2.out (HB.out.trans (HKb4.out.below _ HSS.out HB.out.size)))).mono ?_
              rintro e wb5 ⟨rfl, hb⟩
              have HSb5 := Lib.hid (HSb4.out.below hb)
              have HKb5 := Lib.hid (HKb4.out.trans (KeptB.of_below hb))
              clear hb
              obtain ⟨xq, hxq⟩ : ∃ xq, succL (ofL p) h = xq := ⟨_, rfl⟩
              have HPQ := Lib.hid (pickRr p h (by have := HP8.out; omega))
              rw [hxq] at HPQ ⊢
              clear hxq
              go_wp2_with fail
              go_at_call 31
              refine (ring_Pick.calls A2 c2 p h xq _ (Kd.C_below HC2.out (HB.out.trans (HKb5.out.below _ HSS.out HB.out.size))) HC2c.out HPQ.out).mono ?_
              rintro e wb6 ⟨rfl, hb⟩
              have HSb6 := Lib.hid (HSb5.out.below hb)
              have HKb6 := Lib.hid (HKb5.out.trans (KeptB.of_below hb))
              clear hb
              go_wp2_with fail
              go_ret
              exact ⟨by simp_all, HB.out.trans (HKb6.out.below _ HSS.out HB.out.size)⟩
            · rw [HGb.out, if_neg hz] at rI
              have RI := Lib.hid (show readS st i = none from rI)
              have qd : decide (checkL p = 0) = false := decide_eq_false hz
              have qe : (checkL p == 0) = false := beq_eq_false_iff_ne.mpr hz
              clear rI hz HGb
              go_wp2_with fail
              go_at_call 20
              refine (PickS_any qs ss m st i h _ HSb.out HFb.out).mono ?_
              rintro e wb1 ⟨he, hb⟩
              rw [RI.out] at he
              obtain rfl : e = .returned (.tuple #[.int .i64 0, .bool false]) := he
              have HSb1 := Lib.hid (HSb.out.below hb)
              have HKb1 := Lib.hid (HKb.out.trans (KeptB.of_below hb))
              clear hb
              go_wp2_with fail
              go_at_call 24
              refine (SizeS_any qs ss m st i _ HSb1.out).mono ?_
              rintro e wb2 ⟨he, hb⟩
              rw [RI.out] at he
              obtain rfl : e = .returned (.tuple #[.int .i64 0, .bool false]) := he
              have HSb2 := Lib.hid (HSb1.out.below hb)
              have HKb2 := Lib.hid (HKb1.out.trans (KeptB.of_below hb))
              clear hb
              go_wp2_with fail
              go_at_call 30
              refine (SPL.out _ HSb2.out).mono ?_
              rintro e wb3 ⟨he, h1, h2⟩
              rw [HI.out] at he
              obtain rfl : e = .returned (.bool true) := he
              have HSb3 := Lib.hid h1
              have HKb3 := Lib.hid (HKb2.out.trans h2)
              clear h1 h2
              go_wp2_with fail
              go_at_call 20
              refine (PickS_any qs ss m st5 i h _ HSb3.out F5.out).mono ?_
              rintro e wb4 ⟨he, hb⟩
              rw [R5.out] at he
              obtain rfl : e = .returned (.tuple #[.int .i64 0, .bool false]) := he
              have HSb4 := Lib.hid (HSb3.out.below hb)
              have HKb4 := Lib.hid (HKb3.out.trans (KeptB.of_below hb))
              clear hb
              go_wp2_with fail
              go_at_call 26
              refine (HCK.out _ (Kd.C_below HC2.out (HB.out.trans (HKb4.out.below _ HSS.out HB.out.size)))).mono ?_
              rintro e wb5 ⟨rfl, hb⟩
              have HSb5 := Lib.hid (HSb4.out.below hb)
              have HKb5 := Lib.hid (HKb4.out.trans (KeptB.of_below hb))
              clear hb
              go_wp2_with fail
              go_ret
              exact ⟨rfl, HB.out.trans (HKb5.out.below _ HSS.out HB.out.size)⟩
open Classical in
noncomputable def gangplanklaw16_SlotsReady.f (a0 : Int) (l1 : List S33) (a2 : Int) (l3 : List S56) (a4 : Int) : Option Bool := if (∀ k : Nat, k < l1.length → idsWf (rd_T33 l1 (k : Int)).f2 = true) ∧ idsWf l3 = true then some true else none
theorem gangplanklaw16_SlotsReady.calls (a0 : Int) (A1 : Option Addr) (c1 : Nat) (l1 : List S33) (a2 : Int) (A3 : Option Addr) (c3 : Nat) (l3 : List S56) (a4 : Int) (r : Bool) (w : World) (hr1 : Kd.C k33 w A1 l1.length l1) (hc1 : l1.length ≤ c1) (hr3 : Kd.C k56 w A3 l3.length l3) (hc3 : l3.length ≤ c3) (h : gangplanklaw16_SlotsReady.f a0 l1 a2 l3 a4 = some r) :
    Calls Try.prog 6 #[.int .i64 a0, .slice A1 l1.length c1, .int .i64 a2, .slice A3 l3.length c3, .int .u64 a4] w fun e w' => e = .returned (.bool r) ∧ Below w.heap.size w w' := by
  unfold gangplanklaw16_SlotsReady.f at h
  by_cases hl : (∀ k : Nat, k < l1.length → idsWf (rd_T33 l1 (k : Int)).f2 = true) ∧ idsWf l3 = true
  · rw [if_pos hl] at h
    obtain rfl := Option.some.inj h
    exact Ready16_any a0 A1 c1 l1 hc1 a2 A3 c3 l3 hc3 a4 hl.1 hl.2 w hr1 hr3
  · rw [if_neg hl] at h
    exact absurd h (by simp)
end


/-- THE PURE STATEMENT of gangplanklaw16_SlotsReady. -/
def gangplanklaw16_SlotsReady.Pure : Prop := ∀ (a0 : Int) (l1 : List (S33)) (a2 : Int) (l3 : List (S56)) (a4 : Int), ((Lit.int .i64 a0).wf = true) → (l1.length ≤ maxLen) → ((∀ x ∈ l1, okS33 x)) → ((Lit.int .i64 a2).wf = true) → (l3.length ≤ maxLen) → ((∀ x ∈ l3, okS56 x)) → ((Lit.int .u64 a4).wf = true) → gangplanklaw16_SlotsReady.f a0 l1 a2 l3 a4 = some true

end Go.Proofs.Ytklngklmeanhcaa.P
