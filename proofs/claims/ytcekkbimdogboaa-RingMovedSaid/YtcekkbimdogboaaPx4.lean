/- Each Go function that the laws reach, as a plain function, with the proof that the machine's call comes to what it says; of a law: its row. Made by a program of this seat (wip/hp.py, over the print). -/
import Derived.Test.YtcekkbimdogboaaPx0
import Derived.Test.YtcekkbimdogboaaPx1
import Derived.Test.YtcekkbimdogboaaPx2
import Derived.Test.YtcekkbimdogboaaPx3
namespace Go.Proofs.Ytcekkbimdogboaa.P
open Go.RowKit Go.Proofs.YtcekkbimdogboaaW.PrintWords Go.Proofs.YtcekkbimdogboaaW.PrintLast Go.Proofs.YtcekkbimdogboaaW.PrintMore
attribute [local go_sem] max2_int min2_int max_two min_two max_three min_three max_four min_four   -- for this text's walks alone
set_option linter.unusedVariables false
set_option linter.unusedSimpArgs false

/-! ### gangplanklaw10_RingArc: function 11 -/
mutual
def gangplanklaw10_RingArc.j0 : Nat → List (S39) → Int → Int → Bool → Bool → Option (Bool)
  | 0, _, _, _, _, _ => none
  | k + 1, x0, x1, x2, x7, x25 => if x25 = true then (some x7) else ((points_Of.f x0).bind fun t148 => (gangplanklaw10_RingArc.l0 k x0 x1 x2 x7 t148 0))
def gangplanklaw10_RingArc.l0 : Nat → List (S39) → Int → Int → Bool → List (S30) → Int → Option (Bool)
  | 0, _, _, _, _, _, _ => none
  | k + 1, x0, x1, x2, x7, x8, x9 => if x9 < (x8.length : Int) then (if 0 ≤ x9 then (if ((rd_T30 x8 x9).f0) ≥ x1 then (if ((rd_T30 x8 x9).f0) < x2 then (some x7) else (gangplanklaw10_RingArc.l0 k x0 x1 x2 x7 x8 (wrap64 (x9 + 1)))) else (gangplanklaw10_RingArc.l0 k x0 x1 x2 x7 x8 (wrap64 (x9 + 1)))) else (none)) else (if x7 = true then ((ring_Pick.f x0 x1).bind fun t153 => ((ring_Pick.f x0 x2).bind fun t154 => (if t153 = t154 then ((ring_Succ.f x8 x1).bind fun t155 => ((ring_Pick.f x0 x1).bind fun t156 => (some (t155 == t156)))) else (some false)))) else (some false))
end
def gangplanklaw10_RingArc.f (k : Nat) (l0 : List (S39)) (a1 : Int) (a2 : Int) : Option (Bool) := (gangplanklaw10_works.f).bind fun t146 => (if t146 = true then (if (l0.length : Int) > 8 then (gangplanklaw10_RingArc.j0 k l0 a1 a2 t146 true) else ((pool_Check.f l0).bind fun t147 => (if t147 = 0 then (gangplanklaw10_RingArc.j0 k l0 a1 a2 t146 (decide (a1 > a2))) else (gangplanklaw10_RingArc.j0 k l0 a1 a2 t146 true)))) else (some false))
theorem gangplanklaw10_RingArc.mono_l : ∀ k, (∀ y0 y1 y2 y3 y4, LeO (gangplanklaw10_RingArc.j0 k y0 y1 y2 y3 y4) (gangplanklaw10_RingArc.j0 (k + 1) y0 y1 y2 y3 y4)) ∧ (∀ y0 y1 y2 y3 y4 y5, LeO (gangplanklaw10_RingArc.l0 k y0 y1 y2 y3 y4 y5) (gangplanklaw10_RingArc.l0 (k + 1) y0 y1 y2 y3 y4 y5))
  | 0 => ⟨fun _ _ _ _ _ r h => by simp [gangplanklaw10_RingArc.j0] at h, fun _ _ _ _ _ _ r h => by simp [gangplanklaw10_RingArc.l0] at h⟩
  | k + 1 => by
    obtain ⟨ih0, ih1⟩ := gangplanklaw10_RingArc.mono_l k
    refine ⟨?_, ?_⟩
    · intro y0 y1 y2 y3 y4
      unfold gangplanklaw10_RingArc.j0
      repeat' first
      | (with_reducible exact ih0 _ _ _ _ _)
      | (with_reducible exact ih1 _ _ _ _ _ _)
      | (with_reducible exact LeO.refl _)
      | (with_reducible exact LeO.none _)
      | (with_reducible refine LeO.ite ?_ ?_)
      | (with_reducible refine LeO.bind ?_ (fun _ => ?_))
      | exact ih0 _ _ _ _ _
      | exact ih1 _ _ _ _ _ _
      | exact LeO.none _
      | refine LeO.ite ?_ ?_
      | refine LeO.bind ?_ (fun _ => ?_)
    · intro y0 y1 y2 y3 y4 y5
      unfold gangplanklaw10_RingArc.l0
      repeat' first
      | (with_reducible exact ih0 _ _ _ _ _)
      | (with_reducible exact ih1 _ _ _ _ _ _)
      | (with_reducible exact LeO.refl _)
      | (with_reducible exact LeO.none _)
      | (with_reducible refine LeO.ite ?_ ?_)
      | (with_reducible refine LeO.bind ?_ (fun _ => ?_))
      | exact ih0 _ _ _ _ _
      | exact ih1 _ _ _ _ _ _
      | exact LeO.none _
      | refine LeO.ite ?_ ?_
      | refine LeO.bind ?_ (fun _ => ?_)
theorem gangplanklaw10_RingArc.mono : ∀ a0 a1 a2 k, LeO (gangplanklaw10_RingArc.f k a0 a1 a2) (gangplanklaw10_RingArc.f (k + 1) a0 a1 a2) := by
  intro a0 a1 a2 k
  obtain ⟨ih0, ih1⟩ := gangplanklaw10_RingArc.mono_l k
  unfold gangplanklaw10_RingArc.f
  repeat' first
      | (with_reducible exact ih0 _ _ _ _ _)
      | (with_reducible exact ih1 _ _ _ _ _ _)
      | (with_reducible exact LeO.refl _)
      | (with_reducible exact LeO.none _)
      | (with_reducible refine LeO.ite ?_ ?_)
      | (with_reducible refine LeO.bind ?_ (fun _ => ?_))
      | exact ih0 _ _ _ _ _
      | exact ih1 _ _ _ _ _ _
      | exact LeO.none _
      | refine LeO.ite ?_ ?_
      | refine LeO.bind ?_ (fun _ => ?_)
set_option maxHeartbeats 8000000 in
set_option maxRecDepth 100000 in
theorem gangplanklaw10_RingArc.calls (k : Nat) (A0 : Option Addr) (c0 : Nat) (l0 : List (S39)) (a1 : Int) (a2 : Int) (r : Bool) (w : World) (hr0 : Kd.C k39 w A0 l0.length l0) (hc0 : l0.length ≤ c0) (h : gangplanklaw10_RingArc.f k l0 a1 a2 = some r) :
    Calls Try.prog 11 #[.slice A0 l0.length c0, .int .u64 a1, .int .u64 a2] w fun e w' => e = .returned (.bool r) ∧ Below w.heap.size w w' := by
  have HR0 := Aside0.mk hr0
  have HC0 := Aside0.mk hc0
  clear hr0 hc0
  have HB := Aside0.mk (Below.refl w.heap.size w)
  have H : ((gangplanklaw10_works.f).bind fun t146 => (if t146 = true then (if (l0.length : Int) > 8 then (gangplanklaw10_RingArc.j0 k l0 a1 a2 t146 true) else ((pool_Check.f l0).bind fun t147 => (if t147 = 0 then (gangplanklaw10_RingArc.j0 k l0 a1 a2 t146 (decide (a1 > a2))) else (gangplanklaw10_RingArc.j0 k l0 a1 a2 t146 true)))) else (some false))) = some r := h
  clear h
  replace H := Option.bind_eq_some_iff.mp H
  obtain ⟨t146, A40, H⟩ := H
  replace H : (if t146 = true then (if (l0.length : Int) > 8 then (gangplanklaw10_RingArc.j0 k l0 a1 a2 t146 true) else ((pool_Check.f l0).bind fun t147 => (if t147 = 0 then (gangplanklaw10_RingArc.j0 k l0 a1 a2 t146 (decide (a1 > a2))) else (gangplanklaw10_RingArc.j0 k l0 a1 a2 t146 true)))) else (some false)) = some r := H
  have A4 := Aside0.mk A40
  clear A40
  by_cases c5 : t146 = true
  · subst c5
    have H1 : (if (l0.length : Int) > 8 then (gangplanklaw10_RingArc.j0 k l0 a1 a2 true true) else ((pool_Check.f l0).bind fun t147 => (if t147 = 0 then (gangplanklaw10_RingArc.j0 k l0 a1 a2 true (decide (a1 > a2))) else (gangplanklaw10_RingArc.j0 k l0 a1 a2 true true)))) = some r := by first | (rw [if_pos rfl] at H; exact H) | (rw [if_pos trivial] at H; exact H)
    clear H
    have H := H1
    clear H1
    have HC6 := Aside0.mk H
    clear H
    go_enter Try.func11, Try.ntmps11
    go_upto_region 4 with (first | ((with_reducible refine gate_callee (f := 27) rfl ?_); refine goesL_ (some 10) rfl rfl Try.func27 (by kernel_rfl) rfl #[] rfl (by (try simp only [List.map_toArray, List.map_cons, List.map_nil]); first | done | rfl | (simp only [List.length_drop, List.length_take]; rfl)) ?_; (with_reducible refine (gangplanklaw10_works.calls  true _ A4.out).mono ?_); (try clear A4); rintro e w7 ⟨rfl, hb⟩; refine ⟨_, rfl, ?_⟩; have n0_ := Aside0.mk (below_step (by repeat (first | (with_reducible first | exact HB.out | apply below_alloc | apply pw_below_drewN | apply below_drew1) | exact HB.out)) hb); clear HB; have HB := n0_; clear n0_; (try clear hb); (try clear hb2); (try clear hk); (try clear hi)))
    (try simp only [Act.put, List.setIfInBounds_toArray, List.set_cons_zero, List.set_cons_succ])
    go_cut [25] (fun v25 wc => ∃ (kq : Nat) (x25_5 : Bool), v25 = .bool x25_5 ∧ Aside0 (gangplanklaw10_RingArc.j0 kq l0 a1 a2 true x25_5 = some r) ∧ Aside0 (kq ≤ k) ∧ Aside0 (Below w.heap.size w wc))
    case first =>
      have H := HC6.out
      clear HC6
      by_cases c8 : (l0.length : Int) > 8
      · rw [if_pos c8] at H
        have c8b0 : decide (8 < (l0.length : Int)) = true := decide_eq_true c8
        have c8b1 : decide (8 < l0.length) = true := decide_eq_true (by omega)
        clear c8
        (first | rw [c8b0] | (simp only [i64_w, i32_w]; rw [c8b0]) | skip)
        have H' := Aside0.mk H
        clear H
        go_wp2
        go_meet
        case rel => exact ⟨_, (true), (by first | rfl | (simp; done) | (simp [*]; done)), H', ⟨by first | omega | exact Nat.le_refl _⟩, ⟨by repeat (first | (with_reducible first | exact HB.out | apply below_alloc | apply pw_below_drewN | apply below_drew1) | exact HB.out)⟩⟩
      · rw [if_neg c8] at H
        have c8b0 : decide (8 < (l0.length : Int)) = false := decide_eq_false c8
        have c8b1 : decide (8 < l0.length) = false := decide_eq_false (by omega)
        clear c8
        (first | rw [c8b0] | (simp only [i64_w, i32_w]; rw [c8b0]) | skip)
        replace H := Option.bind_eq_some_iff.mp H
        obtain ⟨t147, A90, H⟩ := H
        replace H : (if t147 = 0 then (gangplanklaw10_RingArc.j0 k l0 a1 a2 true (decide (a1 > a2))) else (gangplanklaw10_RingArc.j0 k l0 a1 a2 true true)) = some r := H
        have A9 := Aside0.mk A90
        clear A90
        by_cases c10 : t147 = 0
        · rw [if_pos c10] at H
          have c10b0 : (t147 == 0) = true := beq_iff_eq.mpr c10
          have c10b1 : (t147 != 0) = false := bne_eq_false_iff_eq.mpr c10
          clear c10
          have H' := Aside0.mk H
          clear H
          go_wp2_with (first | (go_at_call 25; (with_reducible refine (pool_Check.calls _ _ l0 t147 _ ?side1 ?side2 A9.out).mono ?_); (case side1 => repeat (first | exact (Kd.C_below HR0.out HB.out) | (with_reducible refine Kd.C_alloc ?_ _) | (with_reducible refine Kd.C_drewN ?_ _) | (with_reducible refine Kd.C_drew ?_))); (case side2 => exact HC0.out); (try clear A9); rintro e w11 ⟨rfl, hb⟩; have n0_ := Aside0.mk (below_step (by repeat (first | (with_reducible first | exact HB.out | apply below_alloc | apply pw_below_drewN | apply below_drew1) | exact HB.out)) hb); clear HB; have HB := n0_; clear n0_; (try clear hb); (try clear hb2); (try clear hk); (try clear hi)))
          go_meet
          case rel => exact ⟨_, (decide (a1 > a2)), (by first | rfl | (simp; done) | (simp [*]; done)), H', ⟨by first | omega | exact Nat.le_refl _⟩, ⟨by repeat (first | (with_reducible first | exact HB.out | apply below_alloc | apply pw_below_drewN | apply below_drew1) | exact HB.out)⟩⟩
        · rw [if_neg c10] at H
          have c10b0 : (t147 == 0) = false := beq_eq_false_iff_ne.mpr c10
          have c10b1 : (t147 != 0) = true := bne_iff_ne.mpr c10
          have H' := Aside0.mk H
          clear H
          go_wp2_with (first | (go_at_call 25; (with_reducible refine (pool_Check.calls _ _ l0 t147 _ ?side1 ?side2 A9.out).mono ?_); (case side1 => repeat (first | exact (Kd.C_below HR0.out HB.out) | (with_reducible refine Kd.C_alloc ?_ _) | (with_reducible refine Kd.C_drewN ?_ _) | (with_reducible refine Kd.C_drew ?_))); (case side2 => exact HC0.out); (try clear A9); rintro e w12 ⟨rfl, hb⟩; have n0_ := Aside0.mk (below_step (by repeat (first | (with_reducible first | exact HB.out | apply below_alloc | apply pw_below_drewN | apply below_drew1) | exact HB.out)) hb); clear HB; have HB := n0_; clear n0_; (try clear hb); (try clear hb2); (try clear hk); (try clear hi)))
          go_meet
          case rel => exact ⟨_, (true), (by first | rfl | (simp; done) | (simp [*]; done)), H', ⟨by first | omega | exact Nat.le_refl _⟩, ⟨by repeat (first | (with_reducible first | exact HB.out | apply below_alloc | apply pw_below_drewN | apply below_drew1) | exact HB.out)⟩⟩
    case rest =>
      clear HC6
      try clear c1
      try clear c2
      try clear p2
      try clear c5
      try clear c8
      try clear c8b0
      try clear c8b1
      try clear c10
      try clear c10b0
      try clear c10b1
      try clear c11
      obtain ⟨kq, x25_5, rfl, HA, HJ5, HB⟩ := hcut
      cases kq with
      | zero => exact absurd HA.out (by simp [gangplanklaw10_RingArc.j0])
      | succ kj5 =>
        have H := HA.out
        clear HA
        simp only [gangplanklaw10_RingArc.j0] at H
        by_cases c13 : x25_5 = true
        · subst c13
          have H1 : (some true) = some r := by first | (rw [if_pos rfl] at H; exact H) | (rw [if_pos trivial] at H; exact H)
          clear H
          have H := H1
          clear H1
          obtain rfl := Option.some.inj H
          go_wp2
          go_ret
          exact ⟨by first | rfl | (simp [errW_none, errW_some] <;> rfl) | (simp [*, errW_none, errW_some] <;> rfl), by repeat (first | (with_reducible first | exact HB.out | apply below_alloc | apply pw_below_drewN | apply below_drew1) | exact HB.out)⟩
        · replace c13 := Bool.eq_false_iff.mpr c13
          subst c13
          have H1 : ((points_Of.f l0).bind fun t148 => (gangplanklaw10_RingArc.l0 kj5 l0 a1 a2 true t148 0)) = some r := by rw [if_neg (show ¬ (false = true) by decide)] at H; exact H
          clear H
          have H := H1
          clear H1
          replace H := Option.bind_eq_some_iff.mp H
          obtain ⟨t148, A140, H⟩ := H
          replace H : (gangplanklaw10_RingArc.l0 kj5 l0 a1 a2 true t148 0) = some r := H
          have A14 := Aside0.mk A140
          clear A140
          have H' := Aside0.mk H
          clear H
          go_wp2_with (first | ((with_reducible refine gate_callee (f := 17) rfl ?_); refine goesL_ (some 28) rfl rfl Try.func17 (by kernel_rfl) rfl #[.slice A0 l0.length c0] rfl (by (try simp only [List.map_toArray, List.map_cons, List.map_nil]); first | done | rfl | (simp only [List.length_drop, List.length_take]; rfl)) ?_; (with_reducible refine (points_Of.calls _ _ l0 t148 _ ?side1 ?side2 A14.out).mono ?_); (case side1 => repeat (first | exact (Kd.C_below HR0.out HB.out) | (with_reducible refine Kd.C_alloc ?_ _) | (with_reducible refine Kd.C_drewN ?_ _) | (with_reducible refine Kd.C_drew ?_))); (case side2 => exact HC0.out); (try clear A14); rintro e w15 ⟨v149, rfl, ho0, hb⟩; refine ⟨_, rfl, ?_⟩; have n0_ := Aside0.mk (Kd.R_lower ho0 (below_size (by repeat (first | (with_reducible first | exact HB.out | apply below_alloc | apply pw_below_drewN | apply below_drew1) | exact HB.out)))); have n1_ := Aside0.mk (below_step (by repeat (first | (with_reducible first | exact HB.out | apply below_alloc | apply pw_below_drewN | apply below_drew1) | exact HB.out)) hb); clear HB; have HO150 := n0_; have HB := n1_; clear n0_ n1_; (try clear hb); (try clear hb2); (try clear hk); (try clear hi); (try clear ho0)))
          go_loopg [9] kj5 (fun kq v9 w' => ∃ (x9_2 : Int), v9 = .int .i64 x9_2 ∧ Aside0 (gangplanklaw10_RingArc.l0 kq l0 a1 a2 true t148 x9_2 = some r) ∧ Aside0 (kq ≤ kj5) ∧ Aside0 (Kd.R k30 30 w' w.heap.size (fun _ => True) v149 t148) ∧ Aside0 (Below w.heap.size w w'))
          case atStart => exact ⟨(0), (by first | rfl | (simp; done) | (simp [*]; done)), H', ⟨Nat.le_refl _⟩, ⟨by (with_reducible repeat (first | apply Kd.R_alloc | apply Kd.R_drewN | apply Kd.R_drew)); exact HO150.out⟩, ⟨by repeat (first | (with_reducible first | exact HB.out | apply below_alloc | apply pw_below_drewN | apply below_drew1) | exact HB.out)⟩⟩
          case round =>
            clear H'
            try clear c1
            try clear c2
            try clear p2
            try clear c5
            try clear c8
            try clear c8b0
            try clear c8b1
            try clear c10
            try clear c10b0
            try clear c10b1
            try clear c11
            try clear c13
            try clear p2
            obtain ⟨x9_2, rfl, HA, HK2, HO_8, HB⟩ := hrel
            cases gk with
            | zero => exact absurd HA.out (by simp [gangplanklaw10_RingArc.l0])
            | succ k2 =>
              have H := HA.out
              clear HA
              simp only [gangplanklaw10_RingArc.l0] at H
              by_cases c16 : x9_2 < (t148.length : Int)
              · rw [if_pos c16] at H
                have c16b0 : decide (x9_2 < (t148.length : Int)) = true := decide_eq_true c16
                clear c16
                by_cases c17 : 0 ≤ x9_2
                · rw [if_pos c17] at H
                  have c17b0 : decide (0 ≤ x9_2) = true := decide_eq_true c17
                  clear c17
                  by_cases c18 : ((rd_T30 t148 x9_2).f0) ≥ a1
                  · rw [if_pos c18] at H
                    have c18b0 : decide (a1 ≤ ((rd_T30 t148 x9_2).f0)) = true := decide_eq_true c18
                    clear c18
                    by_cases c19 : ((rd_T30 t148 x9_2).f0) < a2
                    · rw [if_pos c19] at H
                      have c19b0 : decide (((rd_T30 t148 x9_2).f0) < a2) = true := decide_eq_true c19
                      clear c19
                      obtain rfl := Option.some.inj H
                      obtain ⟨Ao20, co20, eo20⟩ := Kd.R_slice HO_8.out
                      subst eo20
                      have p151 : 0 ≤ (x9_2 : Int) := of_decide_eq_true (by first | (with_reducible assumption) | assumption)
                      have q151 : x9_2 < (t148.length : Int) := of_decide_eq_true (by first | (with_reducible assumption) | assumption)
                      obtain ⟨ad151, e151, hx151_0, hx151_1⟩ := at_T30 (Kd.R_reads' HO_8.out).2.2 x9_2 p151 q151
                      cases e151
                      replace p151 := eq_true p151
                      replace q151 := eq_true q151
                      have p152 : 0 ≤ (x9_2 : Int) := of_decide_eq_true (by first | (with_reducible assumption) | assumption)
                      have q152 : x9_2 < (t148.length : Int) := of_decide_eq_true (by first | (with_reducible assumption) | assumption)
                      obtain ⟨ad152, e152, hx152_0, hx152_1⟩ := at_T30 (Kd.R_reads' HO_8.out).2.2 x9_2 p152 q152
                      obtain rfl : ad151 = ad152 := (by injection e152)
                      replace p152 := eq_true p152
                      replace q152 := eq_true q152
                      go_wp2
                      go_ret
                      exact ⟨by first | rfl | (simp [errW_none, errW_some] <;> rfl) | (simp [*, errW_none, errW_some] <;> rfl), by repeat (first | (with_reducible first | exact HB.out | apply below_alloc | apply pw_below_drewN | apply below_drew1) | exact HB.out)⟩
                    · rw [if_neg c19] at H
                      have c19b0 : decide (((rd_T30 t148 x9_2).f0) < a2) = false := decide_eq_false c19
                      clear c19
                      have H' := Aside0.mk H
                      clear H
                      obtain ⟨Ao21, co21, eo21⟩ := Kd.R_slice HO_8.out
                      subst eo21
                      have p151 : 0 ≤ (x9_2 : Int) := of_decide_eq_true (by first | (with_reducible assumption) | assumption)
                      have q151 : x9_2 < (t148.length : Int) := of_decide_eq_true (by first | (with_reducible assumption) | assumption)
                      obtain ⟨ad151, e151, hx151_0, hx151_1⟩ := at_T30 (Kd.R_reads' HO_8.out).2.2 x9_2 p151 q151
                      cases e151
                      replace p151 := eq_true p151
                      replace q151 := eq_true q151
                      have p152 : 0 ≤ (x9_2 : Int) := of_decide_eq_true (by first | (with_reducible assumption) | assumption)
                      have q152 : x9_2 < (t148.length : Int) := of_decide_eq_true (by first | (with_reducible assumption) | assumption)
                      obtain ⟨ad152, e152, hx152_0, hx152_1⟩ := at_T30 (Kd.R_reads' HO_8.out).2.2 x9_2 p152 q152
                      obtain rfl : ad151 = ad152 := (by injection e152)
                      replace p152 := eq_true p152
                      replace q152 := eq_true q152
                      go_wp2
                      go_roundg k2
                      case measure => have := HJ5.out; have := HK2.out; omega
                      case rel => exact ⟨(wrap64 (x9_2 + 1)), (by first | rfl | (simp; done) | (simp [*]; done)), H', ⟨by have := HJ5.out; have := HK2.out; omega⟩, ⟨by (with_reducible repeat (first | apply Kd.R_alloc | apply Kd.R_drewN | apply Kd.R_drew)); exact HO_8.out⟩, ⟨by repeat (first | (with_reducible first | exact HB.out | apply below_alloc | apply pw_below_drewN | apply below_drew1) | exact HB.out)⟩⟩
                  · rw [if_neg c18] at H
                    have c18b0 : decide (a1 ≤ ((rd_T30 t148 x9_2).f0)) = false := decide_eq_false c18
                    clear c18
                    have H' := Aside0.mk H
                    clear H
                    obtain ⟨Ao22, co22, eo22⟩ := Kd.R_slice HO_8.out
                    subst eo22
                    have p151 : 0 ≤ (x9_2 : Int) := of_decide_eq_true (by first | (with_reducible assumption) | assumption)
                    have q151 : x9_2 < (t148.length : Int) := of_decide_eq_true (by first | (with_reducible assumption) | assumption)
                    obtain ⟨ad151, e151, hx151_0, hx151_1⟩ := at_T30 (Kd.R_reads' HO_8.out).2.2 x9_2 p151 q151
                    cases e151
                    replace p151 := eq_true p151
                    replace q151 := eq_true q151
                    go_wp2
                    go_roundg k2
                    case measure => have := HJ5.out; have := HK2.out; omega
                    case rel => exact ⟨(wrap64 (x9_2 + 1)), (by first | rfl | (simp; done) | (simp [*]; done)), H', ⟨by have := HJ5.out; have := HK2.out; omega⟩, ⟨by (with_reducible repeat (first | apply Kd.R_alloc | apply Kd.R_drewN | apply Kd.R_drew)); exact HO_8.out⟩, ⟨by repeat (first | (with_reducible first | exact HB.out | apply below_alloc | apply pw_below_drewN | apply below_drew1) | exact HB.out)⟩⟩
                · rw [if_neg c17] at H
                  exact absurd H (by simp)
              · rw [if_neg c16] at H
                have c16b0 : decide (x9_2 < (t148.length : Int)) = false := decide_eq_false c16
                clear c16
                by_cases c23 : true = true
                · skip
                  have H1 : ((ring_Pick.f l0 a1).bind fun t153 => ((ring_Pick.f l0 a2).bind fun t154 => (if t153 = t154 then ((ring_Succ.f t148 a1).bind fun t155 => ((ring_Pick.f l0 a1).bind fun t156 => (some (t155 == t156)))) else (some false)))) = some r := by first | (rw [if_pos rfl] at H; exact H) | (rw [if_pos trivial] at H; exact H)
                  clear H
                  have H := H1
                  clear H1
                  replace H := Option.bind_eq_some_iff.mp H
                  obtain ⟨t153, A240, H⟩ := H
                  replace H : ((ring_Pick.f l0 a2).bind fun t154 => (if t153 = t154 then ((ring_Succ.f t148 a1).bind fun t155 => ((ring_Pick.f l0 a1).bind fun t156 => (some (t155 == t156)))) else (some false))) = some r := H
                  have A24 := Aside0.mk A240
                  clear A240
                  replace H := Option.bind_eq_some_iff.mp H
                  obtain ⟨t154, A250, H⟩ := H
                  replace H : (if t153 = t154 then ((ring_Succ.f t148 a1).bind fun t155 => ((ring_Pick.f l0 a1).bind fun t156 => (some (t155 == t156)))) else (some false)) = some r := H
                  have A25 := Aside0.mk A250
                  clear A250
                  by_cases c26 : t153 = t154
                  · rw [if_pos c26] at H
                    have c26b0 : (t153 == t154) = true := beq_iff_eq.mpr c26
                    have c26b1 : (t153 != t154) = false := bne_eq_false_iff_eq.mpr c26
                    clear c26
                    replace H := Option.bind_eq_some_iff.mp H
                    obtain ⟨t155, A270, H⟩ := H
                    replace H : ((ring_Pick.f l0 a1).bind fun t156 => (some (t155 == t156))) = some r := H
                    have A27 := Aside0.mk A270
                    clear A270
                    replace H := Option.bind_eq_some_iff.mp H
                    obtain ⟨t156, A280, H⟩ := H
                    replace H : (some (t155 == t156)) = some r := H
                    have A28 := Aside0.mk A280
                    clear A280
                    obtain rfl := Option.some.inj H
                    obtain ⟨Ao29, co29, eo29⟩ := Kd.R_slice HO_8.out
                    subst eo29
                    go_wp2_with (first | (go_at_call 34; (with_reducible refine (ring_Pick.calls _ _ l0 a1 t153 _ ?side1 ?side2 A24.out).mono ?_); (case side1 => repeat (first | exact (Kd.C_below HR0.out HB.out) | (with_reducible refine Kd.C_alloc ?_ _) | (with_reducible refine Kd.C_drewN ?_ _) | (with_reducible refine Kd.C_drew ?_))); (case side2 => exact HC0.out); (try clear A24); rintro e w30 ⟨rfl, hb⟩; have n0_ := Aside0.mk (Kd.R_below (by (with_reducible repeat (first | apply Kd.R_alloc | apply Kd.R_drewN | apply Kd.R_drew)); exact HO_8.out) hb); have n1_ := Aside0.mk (below_step (by repeat (first | (with_reducible first | exact HB.out | apply below_alloc | apply pw_below_drewN | apply below_drew1) | exact HB.out)) hb); clear HO_8; clear HB; have HO_8 := n0_; have HB := n1_; clear n0_ n1_; (try clear hb); (try clear hb2); (try clear hk); (try clear hi)) | (go_at_call 34; (with_reducible refine (ring_Pick.calls _ _ l0 a2 t154 _ ?side1 ?side2 A25.out).mono ?_); (case side1 => repeat (first | exact (Kd.C_below HR0.out HB.out) | (with_reducible refine Kd.C_alloc ?_ _) | (with_reducible refine Kd.C_drewN ?_ _) | (with_reducible refine Kd.C_drew ?_))); (case side2 => exact HC0.out); (try clear A25); rintro e w31 ⟨rfl, hb⟩; have n0_ := Aside0.mk (Kd.R_below (by (with_reducible repeat (first | apply Kd.R_alloc | apply Kd.R_drewN | apply Kd.R_drew)); exact HO_8.out) hb); have n1_ := Aside0.mk (below_step (by repeat (first | (with_reducible first | exact HB.out | apply below_alloc | apply pw_below_drewN | apply below_drew1) | exact HB.out)) hb); clear HO_8; clear HB; have HO_8 := n0_; have HB := n1_; clear n0_ n1_; (try clear hb); (try clear hb2); (try clear hk); (try clear hi)) | (go_at_call 28; (with_reducible refine (ring_Succ.calls _ _ t148 a1 t155 _ ?side1 ?side2 A27.out).mono ?_); (case side1 => repeat (first | exact (Kd.R_reads' HO_8.out).2.2 | (with_reducible refine Kd.C_alloc ?_ _) | (with_reducible refine Kd.C_drewN ?_ _) | (with_reducible refine Kd.C_drew ?_))); (case side2 => exact (Kd.R_reads' HO_8.out).2.1); (try clear A27); rintro e w32 ⟨rfl, hb⟩; have n0_ := Aside0.mk (Kd.R_below (by (with_reducible repeat (first | apply Kd.R_alloc | apply Kd.R_drewN | apply Kd.R_drew)); exact HO_8.out) hb); have n1_ := Aside0.mk (below_step (by repeat (first | (with_reducible first | exact HB.out | apply below_alloc | apply pw_below_drewN | apply below_drew1) | exact HB.out)) hb); clear HO_8; clear HB; have HO_8 := n0_; have HB := n1_; clear n0_ n1_; (try clear hb); (try clear hb2); (try clear hk); (try clear hi)) | (go_at_call 34; (with_reducible refine (ring_Pick.calls _ _ l0 a1 t156 _ ?side1 ?side2 A28.out).mono ?_); (case side1 => repeat (first | exact (Kd.C_below HR0.out HB.out) | (with_reducible refine Kd.C_alloc ?_ _) | (with_reducible refine Kd.C_drewN ?_ _) | (with_reducible refine Kd.C_drew ?_))); (case side2 => exact HC0.out); (try clear A28); rintro e w33 ⟨rfl, hb⟩; have n0_ := Aside0.mk (Kd.R_below (by (with_reducible repeat (first | apply Kd.R_alloc | apply Kd.R_drewN | apply Kd.R_drew)); exact HO_8.out) hb); have n1_ := Aside0.mk (below_step (by repeat (first | (with_reducible first | exact HB.out | apply below_alloc | apply pw_below_drewN | apply below_drew1) | exact HB.out)) hb); clear HO_8; clear HB; have HO_8 := n0_; have HB := n1_; clear n0_ n1_; (try clear hb); (try clear hb2); (try clear hk); (try clear hi)))
                    go_ret
                    exact ⟨by first | rfl | (simp [errW_none, errW_some] <;> rfl) | (simp [*, errW_none, errW_some] <;> rfl), by repeat (first | (with_reducible first | exact HB.out | apply below_alloc | apply pw_below_drewN | apply below_drew1) | exact HB.out)⟩
                  · rw [if_neg c26] at H
                    have c26b0 : (t153 == t154) = false := beq_eq_false_iff_ne.mpr c26
                    have c26b1 : (t153 != t154) = true := bne_iff_ne.mpr c26
                    obtain rfl := Option.some.inj H
                    obtain ⟨Ao34, co34, eo34⟩ := Kd.R_slice HO_8.out
                    subst eo34
                    go_wp2_with (first | (go_at_call 34; (with_reducible refine (ring_Pick.calls _ _ l0 a1 t153 _ ?side1 ?side2 A24.out).mono ?_); (case side1 => repeat (first | exact (Kd.C_below HR0.out HB.out) | (with_reducible refine Kd.C_alloc ?_ _) | (with_reducible refine Kd.C_drewN ?_ _) | (with_reducible refine Kd.C_drew ?_))); (case side2 => exact HC0.out); (try clear A24); rintro e w35 ⟨rfl, hb⟩; have n0_ := Aside0.mk (Kd.R_below (by (with_reducible repeat (first | apply Kd.R_alloc | apply Kd.R_drewN | apply Kd.R_drew)); exact HO_8.out) hb); have n1_ := Aside0.mk (below_step (by repeat (first | (with_reducible first | exact HB.out | apply below_alloc | apply pw_below_drewN | apply below_drew1) | exact HB.out)) hb); clear HO_8; clear HB; have HO_8 := n0_; have HB := n1_; clear n0_ n1_; (try clear hb); (try clear hb2); (try clear hk); (try clear hi)) | (go_at_call 34; (with_reducible refine (ring_Pick.calls _ _ l0 a2 t154 _ ?side1 ?side2 A25.out).mono ?_); (case side1 => repeat (first | exact (Kd.C_below HR0.out HB.out) | (with_reducible refine Kd.C_alloc ?_ _) | (with_reducible refine Kd.C_drewN ?_ _) | (with_reducible refine Kd.C_drew ?_))); (case side2 => exact HC0.out); (try clear A25); rintro e w36 ⟨rfl, hb⟩; have n0_ := Aside0.mk (Kd.R_below (by (with_reducible repeat (first | apply Kd.R_alloc | apply Kd.R_drewN | apply Kd.R_drew)); exact HO_8.out) hb); have n1_ := Aside0.mk (below_step (by repeat (first | (with_reducible first | exact HB.out | apply below_alloc | apply pw_below_drewN | apply below_drew1) | exact HB.out)) hb); clear HO_8; clear HB; have HO_8 := n0_; have HB := n1_; clear n0_ n1_; (try clear hb); (try clear hb2); (try clear hk); (try clear hi)))
                    go_ret
                    exact ⟨by first | rfl | (simp [errW_none, errW_some] <;> rfl) | (simp [*, errW_none, errW_some] <;> rfl), by repeat (first | (with_reducible first | exact HB.out | apply below_alloc | apply pw_below_drewN | apply below_drew1) | exact HB.out)⟩
                · exact absurd rfl c23
  · replace c5 := Bool.eq_false_iff.mpr c5
    subst c5
    have H1 : (some false) = some r := by rw [if_neg (show ¬ (false = true) by decide)] at H; exact H
    clear H
    have H := H1
    clear H1
    obtain rfl := Option.some.inj H
    go_enter Try.func11, Try.ntmps11
    go_wp2_with (first | ((with_reducible refine gate_callee (f := 27) rfl ?_); refine goesL_ (some 10) rfl rfl Try.func27 (by kernel_rfl) rfl #[] rfl (by (try simp only [List.map_toArray, List.map_cons, List.map_nil]); first | done | rfl | (simp only [List.length_drop, List.length_take]; rfl)) ?_; (with_reducible refine (gangplanklaw10_works.calls  false _ A4.out).mono ?_); (try clear A4); rintro e w38 ⟨rfl, hb⟩; refine ⟨_, rfl, ?_⟩; have n0_ := Aside0.mk (below_step (by repeat (first | (with_reducible first | exact HB.out | apply below_alloc | apply pw_below_drewN | apply below_drew1) | exact HB.out)) hb); clear HB; have HB := n0_; clear n0_; (try clear hb); (try clear hb2); (try clear hk); (try clear hi)))
    go_ret
    exact ⟨by first | rfl | (simp [errW_none, errW_some] <;> rfl) | (simp [*, errW_none, errW_some] <;> rfl), by repeat (first | (with_reducible first | exact HB.out | apply below_alloc | apply pw_below_drewN | apply below_drew1) | exact HB.out)⟩

/-- THE PURE STATEMENT of gangplanklaw10_RingArc. -/
def gangplanklaw10_RingArc.Pure : Prop := ∀ (l0 : List (S39)) (a1 : Int) (a2 : Int), (l0.length ≤ maxLen) → ((∀ x ∈ l0, okS39 x)) → ((Lit.int .u64 a1).wf = true) → ((Lit.int .u64 a2).wf = true) → ∃ k, gangplanklaw10_RingArc.f k l0 a1 a2 = some true

-- NOT PRINTED: function 50 (api_Backend_50)

-- NOT PRINTED: function 72 (pool_named_1)

-- NOT PRINTED: function 51 (pool_named)

/-! ### pool_Find: function 26 -/
section
open Go.Shelf Go.Proofs.Ytcekkbimdogboaa.Hand
def findAt (id : Int) : List S39 → Int → Int
  | [], _ => -1
  | b :: l, i => if b.f0 = id then i else findAt id l (i + 1)
/-- Where a backend stands, or -1. -/
def findL (l : List S39) (id : Int) : Int := findAt id l 0
theorem findAt_step (id : Int) (l : List S39) (k : Nat) (h : k < l.length) (i : Int) : findAt id (l.drop k) i = if (l.getD k z39).f0 = id then i else findAt id (l.drop (k + 1)) (i + 1) := by
  rw [List.drop_eq_getElem_cons h]
  simp [findAt, h]
theorem findAt_end (id : Int) (l : List S39) (i : Int) : findAt id (l.drop l.length) i = -1 := by
  rw [List.drop_length]; rfl
theorem findAt_cases (id : Int) : ∀ (l : List S39) (i : Int), (findAt id l i = -1 ∧ ∀ b ∈ l, b.f0 ≠ id) ∨ ∃ k : Nat, ∃ h : k < l.length, findAt id l i = i + k ∧ l[k].f0 = id ∧ ∀ j (hj : j < k), l[j].f0 ≠ id
  | [], i => .inl ⟨rfl, fun b hb => by cases hb⟩
  | b :: l, i => by
    by_cases hb : b.f0 = id
    · exact .inr ⟨0, by simp, by simp [findAt, hb], hb, fun j hj => absurd hj (Nat.not_lt_zero _)⟩
    · rcases findAt_cases id l (i + 1) with ⟨h1, h2⟩ | ⟨k, h, h1, h2, h3⟩
      · exact .inl ⟨by simp [findAt, hb, h1], fun x hx => by rcases List.mem_cons.1 hx with rfl | hx; exact hb; exact h2 x hx⟩
      · refine .inr ⟨k + 1, by simp; omega, by simp [findAt, hb, h1]; omega, by simpa using h2, fun j hj => ?_⟩
        cases j with
        | zero => simpa using hb
        | succ j => simpa using h3 j (by omega)
theorem findL_cases (l : List S39) (id : Int) : (findL l id = -1 ∧ ∀ b ∈ l, b.f0 ≠ id) ∨ ∃ k : Nat, ∃ h : k < l.length, findL l id = k ∧ l[k].f0 = id ∧ ∀ j (hj : j < k), l[j].f0 ≠ id := by
  rcases findAt_cases id l 0 with h | ⟨k, h, h1, h2⟩
  · exact .inl h
  · exact .inr ⟨k, h, by unfold findL; omega, h2⟩
set_option maxHeartbeats 1000000 in
theorem named1_any (id : Int) (B : Nat) (x : S39) (W : World) (hc : W.cell? ⟨B, 0, none⟩ = some (.int .i64 id)) (hB : B < W.heap.size) :
    Calls Try.prog 72 #[.agg #[.int .i64 x.f0, .int .i64 x.f1], .pointer (some ⟨B, 0, none⟩)] W fun e w' => e = .returned (.bool (x.f0 == id)) ∧ w' = W.alloc (.cells #[.int .i64 x.f0, .int .i64 x.f1] 39) := by
  obtain ⟨x0, x1⟩ := x
  have hne : B ≠ W.heap.size := by omega
  go_enter Try.func72, Try.ntmps72
  go_wp2
  go_ret
  exact ⟨rfl, rfl⟩
set_option maxHeartbeats 1000000 in
theorem named_any (id : Int) (W : World) :
    Calls Try.prog 51 #[.int .i64 id] W fun e w' => e = .returned (.func (.func 72) #[] #[.pointer (some ⟨W.heap.size, 0, none⟩)]) ∧ w' = W.alloc (.cells #[.int .i64 id] 3) := by
  go_enter Try.func51, Try.ntmps51
  go_wp2
  go_ret
  exact ⟨rfl, rfl⟩
set_option maxRecDepth 100000 in
set_option maxHeartbeats 4000000 in
theorem IndexFunc_named (id : Int) (B : Nat) (A : Option Addr) (c : Nat) (l : List S39) (hl : l.length ≤ 4611686018427387904) (w : World) (hC : Kd.C k39 w A l.length l) (hB : B < w.heap.size) (hc : w.cell? ⟨B, 0, none⟩ = some (.int .i64 id)) :
    Calls Try.prog 50 #[.slice A l.length c, .func (.func 72) #[] #[.pointer (some ⟨B, 0, none⟩)]] w fun e w' => e = .returned (.int .i64 (findL l id)) ∧ Below w.heap.size w w' := by
  have HC := Lib.hid hC
  have HL := Lib.hid hl
  have HB := Lib.hid hB
  have HCC := Lib.hid hc
  clear hC hl hB hc
  unfold findL
  obtain ⟨r, hr⟩ : ∃ r, findAt id l 0 = r := ⟨_, rfl⟩
  rw [hr]
  have eg := enters_of Try.func72 (by kernel_rfl) rfl
  have HR := Lib.hid hr
  clear hr
  go_enter Try.func50, Try.ntmps50
  go_wp2
  go_loopw [8] (fun i wr => ∃ (k : Nat), k ≤ l.length ∧ i = .int .i64 k ∧ Aside0 (findAt id (l.drop k) (k : Int) = r) ∧ Aside0 (Below w.heap.size w wr))
    (fun i _ => l.length - (intOf i).toNat)
  case atStart => exact ⟨0, Nat.zero_le _, rfl, ⟨HR.out⟩, ⟨Below.refl _ _⟩⟩
  case round =>
    obtain ⟨k, hk, rfl, HK, HBr⟩ := hrel
    by_cases hlt : k < l.length
    · obtain ⟨ad, hA, c0, c1⟩ := at_T39 (Kd.C_below HC.out HBr.out) (k : Int) (by omega) (by omega)
      subst hA
      have hst := HK.out
      rw [findAt_step id l k hlt] at hst
      rw [show rd_T39 l (k : Int) = l.getD k z39 from rfl] at c0 c1
      obtain ⟨b, hb⟩ : ∃ b, l.getD k z39 = b := ⟨_, rfl⟩
      rw [hb] at c0 c1 hst
      rw [Int.toNat_natCast] at c0 c1
      have hcall := named1_any id B b wr ((HBr.out.cell (p := ⟨B, 0, none⟩) HB.out).trans HCC.out) (Nat.lt_of_lt_of_le HB.out HBr.out.size)
      have HST := Lib.hid hst
      have HBW := Lib.hid HBr.out
      have q1 : decide ((k : Int) < (l.length : Int)) = true := decide_eq_true (by omega)
      have q2 : (0 : Int) ≤ (k : Int) := by omega
      have q3 : (k : Int) < (l.length : Int) := by omega
      have hwk : wrap64 ((k : Int) + 1) = ((k + 1 : Nat) : Int) := by have := HL.out; unfold wrap64; omega
      have hbe : (b.f0 == id) = true ∨ (b.f0 == id) = false := by cases (b.f0 == id) <;> simp
      clear hst hb HK HBr
      rcases hbe with hbe | hbe
      · rw [hbe] at hcall
        have hr2 : (k : Int) = r := by have h := HST.out; rw [if_pos (by simpa using hbe)] at h; exact h
        have HR2 := Lib.hid hr2
        clear hr2 hbe
        have HCL := Lib.hid hcall
        clear hcall
        go_wp2_with fail
        refine HCL.out.mono ?_
        rintro e w3 ⟨rfl, rfl⟩
        go_wp2
        go_ret
        exact ⟨by rw [HR2.out]; rfl, below_alloc HBW.out _⟩
      · rw [hbe] at hcall
        have hr2 : findAt id (l.drop (k + 1)) ((k : Int) + 1) = r := by have h := HST.out; rw [if_neg (by simpa using hbe)] at h; exact h
        have HR2 := Lib.hid hr2
        clear hr2 hbe
        have HCL := Lib.hid hcall
        clear hcall
        go_wp2_with fail
        refine HCL.out.mono ?_
        rintro e w3 ⟨rfl, rfl⟩
        go_wp2
        go_roundw
        case rel => exact ⟨k + 1, Nat.succ_le_of_lt hlt, by rw [hwk], ⟨HR2.out⟩, ⟨below_alloc HBW.out _⟩⟩
        case measure =>
          rw [hwk]
          show l.length - (((k + 1 : Nat) : Int)).toNat < l.length - ((k : Int)).toNat
          rw [Int.toNat_natCast, Int.toNat_natCast]
          exact Nat.sub_succ_lt_self _ _ hlt
    · obtain rfl : k = l.length := Nat.le_antisymm hk (Nat.le_of_not_lt hlt)
      have q1 : decide ((l.length : Int) < (l.length : Int)) = false := decide_eq_false (by omega)
      have HR2 := Lib.hid (HK.out.symm.trans (findAt_end id l _))
      clear HK
      go_wp2
      go_ret
      exact ⟨by rw [HR2.out]; rfl, HBr.out⟩
def pool_Find.f (l0 : List S39) (a1 : Int) : Option Int := if l0.length ≤ 1000000 then some (findL l0 a1) else none
set_option maxHeartbeats 1000000 in
theorem Find_any (A : Option Addr) (c : Nat) (l : List S39) (hl : l.length ≤ 1000000) (id : Int) (w : World) (hC : Kd.C k39 w A l.length l) :
    Calls Try.prog 26 #[.slice A l.length c, .int .i64 id] w fun e w' => e = .returned (.int .i64 (findL l id)) ∧ Below w.heap.size w w' := by
  have hI := IndexFunc_named id w.heap.size A c l (Nat.le_trans hl (by decide)) (w.alloc (.cells #[.int .i64 id] 3)) (Kd.C_alloc hC _) (by simp) ((Blk.new w 3 [.int .i64 id]).cell 0)
  have HI := Lib.hid hI
  clear hI hC hl
  go_enter Try.func26, Try.ntmps26
  go_wp2_with (first
    | (go_at_call 51; refine (named_any _ _).mono ?_; rintro e w1 ⟨rfl, rfl⟩)
    | (go_at_call 50; refine HI.out.mono ?_; rintro e w2 ⟨rfl, hb⟩; have HB2 := Lib.hid hb; clear hb))
  go_ret
  exact ⟨rfl, (below_alloc (Below.refl _ _) _).trans (HB2.out.mono (by simp))⟩
theorem pool_Find.calls (A0 : Option Addr) (c0 : Nat) (l0 : List S39) (a1 : Int) (r : Int) (w : World) (hr0 : Kd.C k39 w A0 l0.length l0) (hc0 : l0.length ≤ c0) (h : pool_Find.f l0 a1 = some r) :
    Calls Try.prog 26 #[.slice A0 l0.length c0, .int .i64 a1] w fun e w' => e = .returned (.int .i64 r) ∧ Below w.heap.size w w' := by
  unfold pool_Find.f at h
  by_cases hl : l0.length ≤ 1000000
  · rw [if_pos hl] at h
    obtain rfl := Option.some.inj h
    exact Find_any A0 c0 l0 hl a1 w hr0
  · rw [if_neg hl] at h
    exact absurd h (by simp)
end

/-! ### api_Backend_55: function 55 -/
section
open Go.Shelf Go.Proofs.Ytcekkbimdogboaa.Hand
theorem infoBk_ : (Try.prog.info? 39).map (fun i => (i.zero, i.size, i.bytes)) = some (some (.agg #[(.int .i64 0), (.int .i64 0)]), 2, 16) := by kernel_rfl
def api_Backend_55.f (l0 : List S39) : Option (List S39) := if l0.length ≤ 1000000 then some l0 else none

set_option maxRecDepth 100000 in
set_option maxHeartbeats 4000000 in
theorem cloneBk_any (A : Option Addr) (c : Nat) (l : List S39) (hl : l.length ≤ 1000000) (w : World) (hC : Kd.C k39 w A l.length l) :
    Calls Try.prog 55 #[.slice A l.length c] w fun e w' => ∃ v : Value, e = .returned v ∧ Kd.R k39 39 w' w.heap.size (fun _ => True) v l ∧ Below w.heap.size w w' := by
  have he := fun (w : World) => Lib.run_eql_slice_nil (P := Try.prog) w 22 39 A l.length c 0 0 Try.underlying22
  cases A with
  | none =>
    have hn : l = [] := by
      cases l with
      | nil => rfl
      | cons x l => obtain ⟨ad, e, _⟩ := hC.2.2 (by simp); cases e
    subst hn
    clear he
    have he : ∀ w : World, (binOp .eql 22 (.slice none 0 c) (.slice none 0 0)).run Try.prog w = .ok (.bool true) w := fun w => Lib.run_eql_slice_nil (P := Try.prog) w 22 39 none 0 c 0 0 Try.underlying22
    go_enter Try.func55, Try.ntmps55
    go_wp2
    go_ret
    exact ⟨_, rfl, Kd.R_nil _ _ _ _ _, Below.refl _ _⟩
  | some a =>
    obtain ⟨z, hz⟩ : ∃ z, ([] : List S39) = z := ⟨_, rfl⟩
    have HZ := Lib.hid hz
    clear hz
    have HC := Lib.hid hC
    clear hC
    have HB := Aside0.mk (Below.refl w.heap.size w)
    go_enter Try.func55, Try.ntmps55
    go_wp2_with (first | ((with_reducible refine gate_dst (N := 5) rfl ?_); refine Kd.R_lit k39 _ 39 ?hg (N := 5) ?hd (xs := ([] : List S39)) (inner := []) (ok := fun _ => True) (okp := fun _ => True) ?hr ?hp (fun _ hk => hk) trivial (Below.refl _ _) (Nat.le_refl _) (by simp) ?_; (case hd => rfl); (case hg => rfl); (case hr => first | (go_simp; done) | (go_simp; rfl)); (case hp => exact (Reps.none _ _)); intro v160 w31 ho32 hb hg_ hnew_; clear hg_ hnew_; rw [HZ.out] at ho32; have HB1 := Aside0.mk hb; have HO1 := Aside0.mk ho32; clear hb ho32) | ((with_reducible refine gate_builtin (b := .append) (xs := #[.tmp 5, .tmp 6]) rfl ?_); at_builtin; refine Kd.R_append_rows k39 (w0 := w) w.heap.size rfl (.tmp 5) (.tmp 6) 22 39 (.agg #[(.int .i64 0), (.int .i64 0)]) 16 rfl Try.underlying22 infoBk_ rfl (by decide) (by omega) v160 z l _ _ _ (fun _ => True) (fun _ => False) rfl rfl ?aO ?aR (fun _ _ h => h) (fun _ h => h.elim) ?aF ?aB ?aS ?aL ?_; (case aR => exact Kd.C_below HC.out HB1.out); (case aB => exact HB1.out); (case aF => exact (fun _ _ => trivial)); (case aO => exact HO1.out); (case aS => exact HB1.out.size); (case aL => rw [← HZ.out]; simp; omega); intro v163 w33 ho hb hg hat; rw [← HZ.out, List.nil_append] at ho; have HB2 := Aside0.mk hb; have HO2 := Aside0.mk ho; clear ho hb hg hat))
    go_ret
    exact ⟨_, rfl, HO2.out, HB2.out⟩

theorem cloneBk_f (l0 : List S39) (h : l0.length ≤ 1000000) : api_Backend_55.f l0 = some l0 := if_pos h
theorem api_Backend_55.calls (A0 : Option Addr) (c0 : Nat) (l0 : List S39) (r : List S39) (w : World) (hr0 : Kd.C k39 w A0 l0.length l0) (hc0 : l0.length ≤ c0) (h : api_Backend_55.f l0 = some r) :
    Calls Try.prog 55 #[.slice A0 l0.length c0] w fun e w' => ∃ v0_ : Value, e = .returned (v0_) ∧ Kd.R k39 39 w' w.heap.size (fun _ => True) v0_ r ∧ Below w.heap.size w w' := by
  unfold api_Backend_55.f at h
  by_cases hl : l0.length ≤ 1000000
  · rw [if_pos hl] at h
    obtain rfl := Option.some.inj h
    exact cloneBk_any A0 c0 l0 hl w hr0
  · rw [if_neg hl] at h
    exact absurd h (by simp)
end

/-! ### bk -/
section
open Go.Shelf Go.Proofs.Ytcekkbimdogboaa.Hand
def encBk (x : S39) : List Value := [.int .i64 x.f0, .int .i64 x.f1]
theorem reps_flat2 {R : S39 → List Value → Prop} (hR : ∀ p c, R p c → c = encBk p) : ∀ (xs : List S39) (cs : List Value), Reps R 2 xs cs → cs = xs.flatMap encBk
  | [], cs, h => by have := h.1; simp at this; simp [this]
  | x :: l, cs, h => by
    have h0 := hR _ _ (h.2 0 x rfl)
    have hl := h.1
    rw [Nat.zero_mul, List.drop_zero] at h0
    have ht : Reps R 2 l (cs.drop 2) := ⟨by rw [List.length_drop, hl, List.length_cons, Nat.add_mul, Nat.one_mul, Nat.add_sub_cancel], fun j p hj => by
      have := h.2 (j + 1) p hj
      rw [List.drop_drop, show 2 + j * 2 = (j + 1) * 2 by rw [Nat.add_mul, Nat.one_mul, Nat.add_comm]]
      exact this⟩
    have ih := reps_flat2 hR l _ ht
    rw [List.flatMap_cons, ← h0, ← ih, List.take_append_drop]
theorem reps_of2 {R : S39 → List Value → Prop} (hR : ∀ p, R p (encBk p)) : ∀ (l pre : List S39) (cs : List Value), Reps R 2 pre cs → Reps R 2 (pre ++ l) (cs ++ l.flatMap encBk)
  | [], pre, cs, h => by simpa using h
  | x :: l, pre, cs, h => by
    have e1 : pre ++ x :: l = (pre ++ [x]) ++ l := by simp
    have e2 : cs ++ (x :: l).flatMap encBk = (cs ++ encBk x) ++ l.flatMap encBk := by simp
    rw [e1, e2]
    exact reps_of2 hR l _ _ (h.snoc (hR x) rfl)
theorem R_bk {W : World} {base : Nat} {v : Value} {xs : List S39} (h : W.ownsRow base 39 2 v xs.length (xs.flatMap encBk)) : Kd.R k39 39 W base (fun _ => True) v xs :=
  ⟨fun _ _ => trivial, xs.flatMap encBk, h, by
    have e := reps_of2 (R := (k39).M W base (fun k => True ∧ some k ≠ v.ownBlock)) (fun x => k39_mkM W base _ x) xs [] [] (Reps.none _ _)
    rw [List.nil_append, List.nil_append] at e
    exact e⟩
theorem flat_take2 (xs : List S39) : ∀ i, i ≤ xs.length → (xs.flatMap encBk).take (i * 2) = (xs.take i).flatMap encBk := by
  induction xs with
  | nil => intro i hi; simp
  | cons x l ih =>
    intro i hi
    cases i with
    | zero => simp
    | succ i =>
      have := ih i (by simpa using hi)
      rw [List.take_succ_cons, List.flatMap_cons, List.flatMap_cons, ← this, Nat.add_mul, Nat.one_mul]
      simp [encBk]
theorem own_bk {W : World} {base g c : Nat} {xs : List S39} (h : Kd.R k39 39 W base (fun _ => True) (.slice (some ⟨g, 0, none⟩) xs.length c) xs) :
    W.ownsRow base 39 2 (.slice (some ⟨g, 0, none⟩) xs.length c) xs.length (xs.flatMap encBk) ∧ (∀ t, t < xs.length * 2 → (W.cell? ⟨g, t, none⟩).isSome = true) ∧ ∀ t, W.frozen? ⟨g, t, none⟩ = false := by
  obtain ⟨_, inner, ho, hr⟩ := h
  obtain rfl := reps_flat2 (fun p c h => k39_openM h) xs inner hr
  have ho' : W.ownsRow base 39 2 (.slice (some ⟨g, 0, none⟩) xs.length c) xs.length (xs.flatMap encBk) := ho
  refine ⟨ho', ?_⟩
  obtain ⟨hl, hn | ⟨g', cap', cur, hv, hb, hg, h1, h2, h3, h4⟩⟩ := ho'
  · cases hn.1
  · injection hv with hA _ hc
    injection hA with hA
    injection hA with hA
    subst hA
    refine ⟨fun t ht => ?_, fun t => ?_⟩
    · simp only [World.cell?, hg]
      have : t < cur.size := by rw [h3]; omega
      simp [this]
    · simp only [World.frozen?, hg]
      simp
theorem own_bk_end {W : World} {base g c : Nat} {xs : List S39} (h : W.ownsRow base 39 2 (.slice (some ⟨g, 0, none⟩) xs.length c) xs.length (xs.flatMap encBk)) {i : Nat} (hi : i ≤ xs.length) (us : List Value) :
    Kd.R k39 39 (W.setCells g (i * 2) us) base (fun _ => True) (.slice (some ⟨g, 0, none⟩) (xs.take i).length c) (xs.take i) := by
  have h1 := own_cut h hi
  rw [flat_take2 xs i hi] at h1
  have h2 := own_beyonds us (i * 2) W h1 (Nat.le_refl _)
  have hl : (xs.take i).length = i := by rw [List.length_take]; omega
  exact R_bk (by rw [hl]; exact h2)
end

/-! ### pool_With: function 37 -/
section
open Go.Shelf Go.Proofs.Ytcekkbimdogboaa.Hand
/-- A pool with a backend. -/
def withL (l : List S39) (a b : Int) : List S39 := if findL l a < 0 then l ++ [⟨a, b⟩] else l.set (findL l a).toNat ⟨a, b⟩
theorem infoBk3 : (Try.prog.info? 39).map (fun i => (i.zero, i.size, i.bytes)) = some (some (.agg #[.int .i64 0, .int .i64 0]), 2, 16) := by kernel_rfl
theorem gate_store2 {P : Program} {ops : Array Oper} {Q : Exit → Act → World → Prop} {o : Oper} {rest : List Oper} {a : Act} {W : World} {t : TypeId} {p x : Operand} (_ho : o.op = .store t p x) (h : wpList P ops Q (o :: rest) a W) : wpList P ops Q (o :: rest) a W := h
theorem with_nums (n i : Nat) (hl : n ≤ 1000000) (h : i < n) : decide ((0 : Int) ≤ (i : Int)) = true ∧ (0 : Int) ≤ (i : Int) ∧ (i : Int) < (n : Int) := ⟨decide_eq_true (by omega), by omega, by omega⟩
theorem below_alloc2 {n₀ : Nat} {W w : World} (hn : n₀ ≤ W.heap.size) (h : Below n₀ W w) (o : Obj) : Below n₀ W (w.alloc o) := h.trans ((Below.refl n₀ w).alloc (Nat.le_trans hn h.size) o)
set_option maxRecDepth 100000 in
set_option maxHeartbeats 4000000 in
theorem With_any (A : Option Addr) (c : Nat) (l : List S39) (hl : l.length ≤ 1000000) (a b : Int) (w : World) (hC : Kd.C k39 w A l.length l) :
    Calls Try.prog 37 #[.slice A l.length c, .agg #[.int .i64 a, .int .i64 b]] w fun e w' => ∃ v : Value, e = .returned v ∧ Kd.R k39 39 w' w.heap.size (fun _ => True) v (withL l a b) ∧ Below w.heap.size w w' := by
  have hb0 := below_alloc (Below.refl w.heap.size w) (.cells #[.int .i64 a, .int .i64 b] 39)
  have hx0 := Blk.new w 39 [.int .i64 a, .int .i64 b]
  have hC0 := Kd.C_below hC hb0
  obtain ⟨g0, hg0⟩ : ∃ g0, w.heap.size = g0 := ⟨_, rfl⟩
  obtain ⟨W0, hW0⟩ : ∃ W0, (w.alloc (.cells #[.int .i64 a, .int .i64 b] 39)) = W0 := ⟨_, rfl⟩
  have hbz : w.heap.size < W0.heap.size := by rw [← hW0]; simp
  rw [hW0] at hb0 hx0 hC0
  have HC0 := Lib.hid hC0
  have HB0 := Lib.hid hb0
  have HX0 := Lib.hid hx0
  have HL := Lib.hid hl
  have HBZ := Lib.hid hbz
  rcases findL_cases l a with ⟨hf, hf2⟩ | ⟨i, hi, hf, hf2, hf3⟩
  · have hv : withL l a b = l ++ [⟨a, b⟩] := by unfold withL; rw [hf, if_pos (by decide)]
    rw [hv]
    have HF := Lib.hid hf
    clear hf2
    clear hC hC0 hb0 hx0 hl hf hv hbz hg0
    go_enter Try.func37, Try.ntmps37
    go_upto_region 1 with (fail)
    clear hW0
    go_wp2_with (first
      | (go_at_call 55; refine (cloneBk_any A c l HL.out _ HC0.out).mono ?_; rintro e w1 ⟨v, rfl, hr, hb⟩; obtain ⟨A2, c2, rfl⟩ := Kd.R_slice hr; have HR := Lib.hid hr; have HB := Lib.hid hb; clear hr hb; have y0 : w1.cell? ⟨w.heap.size, 0, none⟩ = some (.int .i64 a) := (HX0.out.below HB.out).cell 0; have y1 : w1.cell? ⟨w.heap.size, 1, none⟩ = some (.int .i64 b) := (HX0.out.below HB.out).cell 1)
      | (go_at_call 26; refine (Find_any _ _ l HL.out a _ (Kd.R_reads' HR.out).2.2).mono ?_; rintro e w2 ⟨rfl, hb⟩; rw [HF.out]; have HR2 := Lib.hid (Kd.R_lower (Kd.R_below HR.out hb) (Nat.le_of_lt HBZ.out)); have HB2 := Lib.hid (HB0.out.trans ((HB.out.trans (hb.mono HB.out.size)).mono HB0.out.size)); have HX2 := Lib.hid ((HX0.out.below HB.out).below hb); clear hb; have z0 : w2.cell? ⟨w.heap.size, 0, none⟩ = some (.int .i64 a) := HX2.out.cell 0; have z1 : w2.cell? ⟨w.heap.size, 1, none⟩ = some (.int .i64 b) := HX2.out.cell 1)
      | (at_builtin; refine Kd.R_append k39 (w0 := w) w.heap.size rfl (.tmp 20) (.tmp 22) 22 39 (.agg #[(.int .i64 0), (.int .i64 0)]) 16 rfl Try.underlying22 infoBk3 rfl (by decide) (by omega) _ _ (⟨a, b⟩ : S39) [.int .i64 a, .int .i64 b] (fun _ => True) (fun _ => False) rfl rfl (k39_mkM _ _ _ _) (fun _ hk => hk.elim) (fun _ _ => trivial) HR2.out HB2.out HB2.out.size (by have := HL.out; omega) ?_; intro v2 w3 ho hb hg hat; have HV2 := Lib.hid ho; have HB3 := Lib.hid hb; clear ho hb hg hat))
    go_ret
    exact ⟨_, rfl, HV2.out, HB3.out⟩
  · have hv : withL l a b = l.set i ⟨a, b⟩ := by unfold withL; rw [hf, if_neg (by omega), Int.toNat_natCast]
    rw [hv]
    have HF := Lib.hid hf
    have HI := Lib.hid hi
    clear hf2 hf3
    obtain ⟨q0, q5, q6⟩ := with_nums l.length i hl hi
    clear hC hC0 hb0 hx0 hl hf hv hbz hg0 hi
    go_enter Try.func37, Try.ntmps37
    go_upto_region 1 with (fail)
    clear hW0
    go_upto_region 4 with (first
      | (go_at_call 55; refine (cloneBk_any A c l HL.out _ HC0.out).mono ?_; rintro e w1 ⟨v, rfl, hr, hb⟩; obtain ⟨g, cap, rfl, _, _, _⟩ := Kd.R_form hr (Nat.lt_of_le_of_lt (Nat.zero_le _) HI.out); have HR := Lib.hid hr; have HB := Lib.hid hb; clear hr hb; have y0 : w1.cell? ⟨w.heap.size, 0, none⟩ = some (.int .i64 a) := (HX0.out.below HB.out).cell 0; have y1 : w1.cell? ⟨w.heap.size, 1, none⟩ = some (.int .i64 b) := (HX0.out.below HB.out).cell 1)
      | (go_at_call 26; refine (Find_any _ _ l HL.out a _ (Kd.R_reads' HR.out).2.2).mono ?_; rintro e w2 ⟨rfl, hb⟩; rw [HF.out]; have HR2 := Lib.hid (Kd.R_lower (Kd.R_below HR.out hb) (Nat.le_of_lt HBZ.out)); have HB2 := Lib.hid (HB0.out.trans ((HB.out.trans (hb.mono HB.out.size)).mono HB0.out.size)); have HX2 := Lib.hid ((HX0.out.below HB.out).below hb); clear hb; have z0 : w2.cell? ⟨w.heap.size, 0, none⟩ = some (.int .i64 a) := HX2.out.cell 0; have z1 : w2.cell? ⟨w.heap.size, 1, none⟩ = some (.int .i64 b) := HX2.out.cell 1))
    clear y0 y1
    obtain ⟨ad2, hA2, d0, d1⟩ := at_T39 (Kd.R_reads' HR2.out).2.2 (i : Int) (by omega) (by omega)
    cases hA2
    rw [Int.toNat_natCast, add_plain] at d0 d1
    obtain ⟨x0, hx0⟩ : ∃ x0, (rd_T39 l (i : Int)).f0 = x0 := ⟨_, rfl⟩
    obtain ⟨x1, hx1⟩ : ∃ x1, (rd_T39 l (i : Int)).f1 = x1 := ⟨_, rfl⟩
    rw [hx0] at d0
    rw [hx1] at d1
    clear hx0 hx1
    have D0 := Lib.hid d0
    have D1 := Lib.hid d1
    clear d0 d1
    have hij : (i : Int).toNat = i := Int.toNat_natCast i
    have HIJ := Lib.hid hij
    clear hij
    go_wp2_with ((with_reducible refine gate_store2 (t := 39) rfl ?_); refine Kd.R_store k39 (w0 := w) w.heap.size rfl rfl 39 _ _ rfl 39 (i : Int) 0 l (⟨a, b⟩ : S39) _ [.int .i64 a, .int .i64 b] [.int .i64 x0, .int .i64 x1] (fun _ => True) (fun _ => False) rfl ?sO rfl rfl (by kernel_rfl) ?sI HR2.out q5 q6 rfl ?sC (Nat.le_refl 2) (k39_mkM _ _ _ _) (fun _ h => h.elim) HB2.out ?_; (case sO => rw [HIJ.out]; rfl); (case sI => intro q hq; simp at hq; rcases hq with rfl | rfl <;> rfl); (case sC => intro jj uu hu; match jj, hu with | 0, hu => (simp at hu; rw [← hu, HIJ.out]; exact D0.out) | 1, hu => (simp at hu; rw [← hu, HIJ.out]; exact D1.out) | jj + 2, hu => simp at hu); intro w5 hr5 hb5 hg5; rw [HIJ.out] at hr5; have HR5 := Lib.hid hr5; have HB5 := Lib.hid hb5; clear hr5 hb5 hg5)
    go_ret
    exact ⟨_, rfl, HR5.out, HB5.out⟩
def pool_With.f (l0 : List S39) (a1_0 : Int) (a1_1 : Int) : Option (List S39) := if l0.length ≤ 1000000 then some (withL l0 a1_0 a1_1) else none
theorem pool_With.calls (A0 : Option Addr) (c0 : Nat) (l0 : List S39) (a1_0 : Int) (a1_1 : Int) (r : List S39) (w : World) (hr0 : Kd.C k39 w A0 l0.length l0) (hc0 : l0.length ≤ c0) (h : pool_With.f l0 a1_0 a1_1 = some r) :
    Calls Try.prog 37 #[.slice A0 l0.length c0, .agg #[.int .i64 a1_0, .int .i64 a1_1]] w fun e w' => ∃ v0_ : Value, e = .returned v0_ ∧ Kd.R k39 39 w' w.heap.size (fun _ => True) v0_ r ∧ Below w.heap.size w w' := by
  unfold pool_With.f at h
  by_cases hl : l0.length ≤ 1000000
  · rw [if_pos hl] at h
    obtain rfl := Option.some.inj h
    exact With_any A0 c0 l0 hl a1_0 a1_1 w hr0
  · rw [if_neg hl] at h
    exact absurd h (by simp)
end

end Go.Proofs.Ytcekkbimdogboaa.P
