/- Each Go function that the laws reach, as a plain function, with the proof that the machine's call comes to what it says; of a law: its row. Made by a program of this seat (wip/hp.py, over the print). -/
import Derived.Test.YtcekkbimdogboaaPx0
import Derived.Test.YtcekkbimdogboaaPx1
import Derived.Test.YtcekkbimdogboaaPx3
import Derived.Test.YtcekkbimdogboaaPx4
namespace Go.Proofs.Ytcekkbimdogboaa.P
open Go.RowKit Go.Proofs.YtcekkbimdogboaaW.PrintWords Go.Proofs.YtcekkbimdogboaaW.PrintLast Go.Proofs.YtcekkbimdogboaaW.PrintMore
attribute [local go_sem] max2_int min2_int max_two min_two max_three min_three max_four min_four   -- for this text's walks alone
set_option linter.unusedVariables false
set_option linter.unusedSimpArgs false

/-! ### gangplanklaw10_RingWith: function 12 -/
def gangplanklaw10_RingWith.j0 : Nat → List (S39) → Int → Bool → List (S39) → Bool → Int → Int → Option (Bool)
  | 0, _, _, _, _, _, _, _ => none
  | k + 1, x0, x2, x7, x8, x36, x158000, x158001 => if x36 = true then (some x7) else ((ring_Pick.f x0 x2).bind fun t165 => ((ring_Pick.f x8 x2).bind fun t166 => (if x7 = true then (if t166 = t165 then (some true) else (some (t166 == x158000))) else (some false))))
def gangplanklaw10_RingWith.f (k : Nat) (l0 : List (S39)) (a1_0 : Int) (a1_1 : Int) (a2 : Int) : Option (Bool) := (gangplanklaw10_works.f).bind fun t158 => (if t158 = true then ((pool_With.f l0 a1_0 a1_1).bind fun t159 => (if (l0.length : Int) > 8 then (gangplanklaw10_RingWith.j0 k l0 a2 t158 t159 true a1_0 a1_1) else ((pool_Check.f l0).bind fun t162 => (if t162 = 0 then ((pool_Check.f t159).bind fun t163 => (if t163 = 0 then ((pool_Find.f l0 a1_0).bind fun t164 => (gangplanklaw10_RingWith.j0 k l0 a2 t158 t159 (decide (t164 ≥ 0)) a1_0 a1_1)) else (gangplanklaw10_RingWith.j0 k l0 a2 t158 t159 true a1_0 a1_1))) else (gangplanklaw10_RingWith.j0 k l0 a2 t158 t159 true a1_0 a1_1))))) else (some false))
theorem gangplanklaw10_RingWith.mono_l : ∀ k, (∀ y0 y1 y2 y3 y4 y5 y6, LeO (gangplanklaw10_RingWith.j0 k y0 y1 y2 y3 y4 y5 y6) (gangplanklaw10_RingWith.j0 (k + 1) y0 y1 y2 y3 y4 y5 y6))
  | 0 => fun _ _ _ _ _ _ _ r h => by simp [gangplanklaw10_RingWith.j0] at h
  | k + 1 => by
    have ih0 := gangplanklaw10_RingWith.mono_l k
    · intro y0 y1 y2 y3 y4 y5 y6
      unfold gangplanklaw10_RingWith.j0
      repeat' first
      | (with_reducible exact ih0 _ _ _ _ _ _ _)
      | (with_reducible exact LeO.refl _)
      | (with_reducible exact LeO.none _)
      | (with_reducible refine LeO.ite ?_ ?_)
      | (with_reducible refine LeO.bind ?_ (fun _ => ?_))
      | exact ih0 _ _ _ _ _ _ _
      | exact LeO.none _
      | refine LeO.ite ?_ ?_
      | refine LeO.bind ?_ (fun _ => ?_)
theorem gangplanklaw10_RingWith.mono : ∀ a0 a1 a2 a3 k, LeO (gangplanklaw10_RingWith.f k a0 a1 a2 a3) (gangplanklaw10_RingWith.f (k + 1) a0 a1 a2 a3) := by
  intro a0 a1 a2 a3 k
  have ih0 := gangplanklaw10_RingWith.mono_l k
  unfold gangplanklaw10_RingWith.f
  repeat' first
      | (with_reducible exact ih0 _ _ _ _ _ _ _)
      | (with_reducible exact LeO.refl _)
      | (with_reducible exact LeO.none _)
      | (with_reducible refine LeO.ite ?_ ?_)
      | (with_reducible refine LeO.bind ?_ (fun _ => ?_))
      | exact ih0 _ _ _ _ _ _ _
      | exact LeO.none _
      | refine LeO.ite ?_ ?_
      | refine LeO.bind ?_ (fun _ => ?_)
set_option maxHeartbeats 8000000 in
set_option maxRecDepth 100000 in
theorem gangplanklaw10_RingWith.calls (k : Nat) (A0 : Option Addr) (c0 : Nat) (l0 : List (S39)) (a1_0 : Int) (a1_1 : Int) (a2 : Int) (r : Bool) (w : World) (hr0 : Kd.C k39 w A0 l0.length l0) (hc0 : l0.length ≤ c0) (h : gangplanklaw10_RingWith.f k l0 a1_0 a1_1 a2 = some r) :
    Calls Try.prog 12 #[.slice A0 l0.length c0, .agg #[.int .i64 a1_0, .int .i64 a1_1], .int .u64 a2] w fun e w' => e = .returned (.bool r) ∧ Below w.heap.size w w' := by
  have hu39 := Try.underlying39
  have HR0 := Aside0.mk hr0
  have HC0 := Aside0.mk hc0
  clear hr0 hc0
  have HB := Aside0.mk (Below.refl w.heap.size w)
  have H : ((gangplanklaw10_works.f).bind fun t158 => (if t158 = true then ((pool_With.f l0 a1_0 a1_1).bind fun t159 => (if (l0.length : Int) > 8 then (gangplanklaw10_RingWith.j0 k l0 a2 t158 t159 true a1_0 a1_1) else ((pool_Check.f l0).bind fun t162 => (if t162 = 0 then ((pool_Check.f t159).bind fun t163 => (if t163 = 0 then ((pool_Find.f l0 a1_0).bind fun t164 => (gangplanklaw10_RingWith.j0 k l0 a2 t158 t159 (decide (t164 ≥ 0)) a1_0 a1_1)) else (gangplanklaw10_RingWith.j0 k l0 a2 t158 t159 true a1_0 a1_1))) else (gangplanklaw10_RingWith.j0 k l0 a2 t158 t159 true a1_0 a1_1))))) else (some false))) = some r := h
  clear h
  replace H := Option.bind_eq_some_iff.mp H
  obtain ⟨t158, A40, H⟩ := H
  replace H : (if t158 = true then ((pool_With.f l0 a1_0 a1_1).bind fun t159 => (if (l0.length : Int) > 8 then (gangplanklaw10_RingWith.j0 k l0 a2 t158 t159 true a1_0 a1_1) else ((pool_Check.f l0).bind fun t162 => (if t162 = 0 then ((pool_Check.f t159).bind fun t163 => (if t163 = 0 then ((pool_Find.f l0 a1_0).bind fun t164 => (gangplanklaw10_RingWith.j0 k l0 a2 t158 t159 (decide (t164 ≥ 0)) a1_0 a1_1)) else (gangplanklaw10_RingWith.j0 k l0 a2 t158 t159 true a1_0 a1_1))) else (gangplanklaw10_RingWith.j0 k l0 a2 t158 t159 true a1_0 a1_1))))) else (some false)) = some r := H
  have A4 := Aside0.mk A40
  clear A40
  by_cases c5 : t158 = true
  · subst c5
    have H1 : ((pool_With.f l0 a1_0 a1_1).bind fun t159 => (if (l0.length : Int) > 8 then (gangplanklaw10_RingWith.j0 k l0 a2 true t159 true a1_0 a1_1) else ((pool_Check.f l0).bind fun t162 => (if t162 = 0 then ((pool_Check.f t159).bind fun t163 => (if t163 = 0 then ((pool_Find.f l0 a1_0).bind fun t164 => (gangplanklaw10_RingWith.j0 k l0 a2 true t159 (decide (t164 ≥ 0)) a1_0 a1_1)) else (gangplanklaw10_RingWith.j0 k l0 a2 true t159 true a1_0 a1_1))) else (gangplanklaw10_RingWith.j0 k l0 a2 true t159 true a1_0 a1_1))))) = some r := by first | (rw [if_pos rfl] at H; exact H) | (rw [if_pos trivial] at H; exact H)
    clear H
    have H := H1
    clear H1
    replace H := Option.bind_eq_some_iff.mp H
    obtain ⟨t159, A60, H⟩ := H
    replace H : (if (l0.length : Int) > 8 then (gangplanklaw10_RingWith.j0 k l0 a2 true t159 true a1_0 a1_1) else ((pool_Check.f l0).bind fun t162 => (if t162 = 0 then ((pool_Check.f t159).bind fun t163 => (if t163 = 0 then ((pool_Find.f l0 a1_0).bind fun t164 => (gangplanklaw10_RingWith.j0 k l0 a2 true t159 (decide (t164 ≥ 0)) a1_0 a1_1)) else (gangplanklaw10_RingWith.j0 k l0 a2 true t159 true a1_0 a1_1))) else (gangplanklaw10_RingWith.j0 k l0 a2 true t159 true a1_0 a1_1)))) = some r := H
    have A6 := Aside0.mk A60
    clear A60
    have HC7 := Aside0.mk H
    clear H
    go_enter Try.func12, Try.ntmps12
    go_upto_region 5 with (first | ((with_reducible refine gate_dst (N := 4) rfl ?_); refine box_event ?hg (N := 4) ?hd (cs := #[.int .i64 a1_0, .int .i64 a1_1]) (t := 39) ?hr ?_; (case hd => rfl); (case hg => rfl); (case hr => first | (go_simp; done) | (go_simp; rfl)); intro gb157 hg w8 hbox hb; have n0_ := Aside0.mk (below_step (by repeat (first | (with_reducible first | exact HB.out | apply below_alloc | apply pw_below_drewN | apply below_drew1) | exact HB.out)) hb); have n1_ := Aside0.mk (hbox); have n2_ := Aside0.mk ((by rw [hg]; exact (below_size (by repeat (first | (with_reducible first | exact HB.out | apply below_alloc | apply pw_below_drewN | apply below_drew1) | exact HB.out))) : w.heap.size ≤ gb157)); have n3_ := Aside0.mk ((by rw [hg]; exact (below_size (by repeat (first | (with_reducible first | exact HB.out | apply below_alloc | apply pw_below_drewN | apply below_drew1) | exact HB.out))) : w.heap.size ≤ gb157)); clear HB; have HB := n0_; have BK157 := n1_; have GW157 := n2_; have GE157 := n3_; clear n0_ n1_ n2_ n3_; clear hb hbox hg) | ((with_reducible refine gate_callee (f := 27) rfl ?_); refine goesL_ (some 11) rfl rfl Try.func27 (by kernel_rfl) rfl #[] rfl (by (try simp only [List.map_toArray, List.map_cons, List.map_nil]); first | done | rfl | (simp only [List.length_drop, List.length_take]; rfl)) ?_; (with_reducible refine (gangplanklaw10_works.calls  true _ A4.out).mono ?_); (try clear A4); rintro e w9 ⟨rfl, hb⟩; refine ⟨_, rfl, ?_⟩; have n0_ := Aside0.mk (blk_below (g := gb157) (o := .cells #[.int .i64 a1_0, .int .i64 a1_1] 39 (0, 0)) (by (with_reducible repeat (first | refine blk_drewN ?_ _ | refine blk_drew ?_ | refine blk_alloc ?_ _)); exact BK157.out) hb); have n1_ := Aside0.mk (below_step (by repeat (first | (with_reducible first | exact HB.out | apply below_alloc | apply pw_below_drewN | apply below_drew1 | refine below_set ?_ GE157.out) | exact HB.out)) hb); clear BK157; clear HB; have BK157 := n0_; have HB := n1_; clear n0_ n1_; (try clear hb); (try clear hb2); (try clear hk); (try clear hi); have hcz10_0 : w9.cell? ⟨gb157, 0, none⟩ = some (.int .i64 a1_0) := (blk_cell BK157.out 0).trans rfl; have hcz10_1 : w9.cell? ⟨gb157, 1, none⟩ = some (.int .i64 a1_1) := (blk_cell BK157.out 1).trans rfl; have hfz10_0 := blk_frozen BK157.out 0; have hfz10_1 := blk_frozen BK157.out 1) | ((with_reducible refine gate_callee (f := 37) rfl ?_); refine goesL_ (some 16) rfl rfl Try.func37 (by kernel_rfl) rfl #[.slice A0 l0.length c0, .agg #[.int .i64 a1_0, .int .i64 a1_1]] rfl (by (try simp only [List.map_toArray, List.map_cons, List.map_nil]); first | done | rfl | (simp only [List.length_drop, List.length_take]; rfl)) ?_; (with_reducible refine (pool_With.calls _ _ l0 a1_0 a1_1 t159 _ ?side1 ?side2 A6.out).mono ?_); (case side1 => repeat (first | exact (Kd.C_below HR0.out HB.out) | (with_reducible refine Kd.C_alloc ?_ _) | (with_reducible refine Kd.C_drewN ?_ _) | (with_reducible refine Kd.C_drew ?_))); (case side2 => exact HC0.out); (try clear A6); rintro e w11 ⟨v160, rfl, ho0, hb⟩; refine ⟨_, rfl, ?_⟩; have n0_ := Aside0.mk (Kd.R_lower (Kd.R_newB ho0 (g := gb157) (o := .cells #[.int .i64 a1_0, .int .i64 a1_1] 39 (0, 0)) (by (with_reducible repeat (first | refine blk_drewN ?_ _ | refine blk_drew ?_ | refine blk_alloc ?_ _)); exact BK157.out)) (below_size (by repeat (first | (with_reducible first | exact HB.out | apply below_alloc | apply pw_below_drewN | apply below_drew1 | refine below_set ?_ GE157.out) | exact HB.out)))); have n1_ := Aside0.mk (blk_below (g := gb157) (o := .cells #[.int .i64 a1_0, .int .i64 a1_1] 39 (0, 0)) (by (with_reducible repeat (first | refine blk_drewN ?_ _ | refine blk_drew ?_ | refine blk_alloc ?_ _)); exact BK157.out) hb); have n2_ := Aside0.mk (below_step (by repeat (first | (with_reducible first | exact HB.out | apply below_alloc | apply pw_below_drewN | apply below_drew1 | refine below_set ?_ GE157.out) | exact HB.out)) hb); clear BK157; clear HB; have HO161 := n0_; have BK157 := n1_; have HB := n2_; clear n0_ n1_ n2_; (try clear hb); (try clear hb2); (try clear hk); (try clear hi); (try clear ho0)))
    (try simp only [Act.put, List.setIfInBounds_toArray, List.set_cons_zero, List.set_cons_succ])
    go_cut [36] (fun v36 wc => ∃ (kq : Nat) (x36_6 : Bool), v36 = .bool x36_6 ∧ Aside0 (gangplanklaw10_RingWith.j0 kq l0 a2 true t159 x36_6 a1_0 a1_1 = some r) ∧ Aside0 (kq ≤ k) ∧ Aside0 (Kd.R k39 39 wc w.heap.size (fun k_ => k_ ≠ gb157) v160 t159) ∧ Aside0 (wc.heap[gb157]? = some (.cells #[.int .i64 a1_0, .int .i64 a1_1] 39 (0, 0))) ∧ Aside0 (Below w.heap.size w wc))
    case first =>
      have H := HC7.out
      clear HC7
      by_cases c12 : (l0.length : Int) > 8
      · rw [if_pos c12] at H
        have c12b0 : decide (8 < (l0.length : Int)) = true := decide_eq_true c12
        have c12b1 : decide (8 < l0.length) = true := decide_eq_true (by omega)
        clear c12
        (first | rw [c12b0] | (simp only [i64_w, i32_w]; rw [c12b0]) | skip)
        have H' := Aside0.mk H
        clear H
        go_wp2
        go_meet
        case rel => exact ⟨_, (true), (by first | rfl | (simp; done) | (simp [*]; done)), H', ⟨by first | omega | exact Nat.le_refl _⟩, ⟨by (with_reducible repeat (first | apply Kd.R_alloc | apply Kd.R_drewN | apply Kd.R_drew)); exact Kd.R_mono HO161.out (fun _ hk => hk.2)⟩, ⟨by (with_reducible repeat (first | refine blk_drewN ?_ _ | refine blk_drew ?_ | refine blk_alloc ?_ _)); exact BK157.out⟩, ⟨by repeat (first | (with_reducible first | exact HB.out | apply below_alloc | apply pw_below_drewN | apply below_drew1 | refine below_set ?_ GE157.out) | exact HB.out)⟩⟩
      · rw [if_neg c12] at H
        have c12b0 : decide (8 < (l0.length : Int)) = false := decide_eq_false c12
        have c12b1 : decide (8 < l0.length) = false := decide_eq_false (by omega)
        clear c12
        (first | rw [c12b0] | (simp only [i64_w, i32_w]; rw [c12b0]) | skip)
        replace H := Option.bind_eq_some_iff.mp H
        obtain ⟨t162, A130, H⟩ := H
        replace H : (if t162 = 0 then ((pool_Check.f t159).bind fun t163 => (if t163 = 0 then ((pool_Find.f l0 a1_0).bind fun t164 => (gangplanklaw10_RingWith.j0 k l0 a2 true t159 (decide (t164 ≥ 0)) a1_0 a1_1)) else (gangplanklaw10_RingWith.j0 k l0 a2 true t159 true a1_0 a1_1))) else (gangplanklaw10_RingWith.j0 k l0 a2 true t159 true a1_0 a1_1)) = some r := H
        have A13 := Aside0.mk A130
        clear A130
        by_cases c14 : t162 = 0
        · rw [if_pos c14] at H
          have c14b0 : (t162 == 0) = true := beq_iff_eq.mpr c14
          have c14b1 : (t162 != 0) = false := bne_eq_false_iff_eq.mpr c14
          clear c14
          replace H := Option.bind_eq_some_iff.mp H
          obtain ⟨t163, A150, H⟩ := H
          replace H : (if t163 = 0 then ((pool_Find.f l0 a1_0).bind fun t164 => (gangplanklaw10_RingWith.j0 k l0 a2 true t159 (decide (t164 ≥ 0)) a1_0 a1_1)) else (gangplanklaw10_RingWith.j0 k l0 a2 true t159 true a1_0 a1_1)) = some r := H
          have A15 := Aside0.mk A150
          clear A150
          by_cases c16 : t163 = 0
          · rw [if_pos c16] at H
            have c16b0 : (t163 == 0) = true := beq_iff_eq.mpr c16
            have c16b1 : (t163 != 0) = false := bne_eq_false_iff_eq.mpr c16
            clear c16
            replace H := Option.bind_eq_some_iff.mp H
            obtain ⟨t164, A170, H⟩ := H
            replace H : (gangplanklaw10_RingWith.j0 k l0 a2 true t159 (decide (t164 ≥ 0)) a1_0 a1_1) = some r := H
            have A17 := Aside0.mk A170
            clear A170
            have H' := Aside0.mk H
            clear H
            go_wp2_with (first | (go_at_call 25; (with_reducible refine (pool_Check.calls _ _ l0 t162 _ ?side1 ?side2 A13.out).mono ?_); (case side1 => repeat (first | exact (Kd.C_below HR0.out HB.out) | (with_reducible refine Kd.C_alloc ?_ _) | (with_reducible refine Kd.C_drewN ?_ _) | (with_reducible refine Kd.C_drew ?_))); (case side2 => exact HC0.out); (try clear A13); rintro e w18 ⟨rfl, hb⟩; have n0_ := Aside0.mk (Kd.R_below (by (with_reducible repeat (first | apply Kd.R_alloc | apply Kd.R_drewN | apply Kd.R_drew)); exact HO161.out) hb); have n1_ := Aside0.mk (blk_below (g := gb157) (o := .cells #[.int .i64 a1_0, .int .i64 a1_1] 39 (0, 0)) (by (with_reducible repeat (first | refine blk_drewN ?_ _ | refine blk_drew ?_ | refine blk_alloc ?_ _)); exact BK157.out) hb); have n2_ := Aside0.mk (below_step (by repeat (first | (with_reducible first | exact HB.out | apply below_alloc | apply pw_below_drewN | apply below_drew1 | refine below_set ?_ GE157.out) | exact HB.out)) hb); clear HO161; clear BK157; clear HB; have HO161 := n0_; have BK157 := n1_; have HB := n2_; clear n0_ n1_ n2_; (try clear hb); (try clear hb2); (try clear hk); (try clear hi); obtain ⟨Ao19, co19, eo19⟩ := Kd.R_slice HO161.out; subst eo19) | (go_at_call 25; (with_reducible refine (pool_Check.calls _ _ t159 t163 _ ?side1 ?side2 A15.out).mono ?_); (case side1 => repeat (first | exact (Kd.R_reads' HO161.out).2.2 | (with_reducible refine Kd.C_alloc ?_ _) | (with_reducible refine Kd.C_drewN ?_ _) | (with_reducible refine Kd.C_drew ?_))); (case side2 => exact (Kd.R_reads' HO161.out).2.1); (try clear A15); rintro e w20 ⟨rfl, hb⟩; have n0_ := Aside0.mk (Kd.R_below (by (with_reducible repeat (first | apply Kd.R_alloc | apply Kd.R_drewN | apply Kd.R_drew)); exact HO161.out) hb); have n1_ := Aside0.mk (blk_below (g := gb157) (o := .cells #[.int .i64 a1_0, .int .i64 a1_1] 39 (0, 0)) (by (with_reducible repeat (first | refine blk_drewN ?_ _ | refine blk_drew ?_ | refine blk_alloc ?_ _)); exact BK157.out) hb); have n2_ := Aside0.mk (below_step (by repeat (first | (with_reducible first | exact HB.out | apply below_alloc | apply pw_below_drewN | apply below_drew1 | refine below_set ?_ GE157.out) | exact HB.out)) hb); clear HO161; clear BK157; clear HB; have HO161 := n0_; have BK157 := n1_; have HB := n2_; clear n0_ n1_ n2_; (try clear hb); (try clear hb2); (try clear hk); (try clear hi); have hcz21_0 : w20.cell? ⟨gb157, 0, none⟩ = some (.int .i64 a1_0) := (blk_cell BK157.out 0).trans rfl; have hcz21_1 : w20.cell? ⟨gb157, 1, none⟩ = some (.int .i64 a1_1) := (blk_cell BK157.out 1).trans rfl; have hfz21_0 := blk_frozen BK157.out 0; have hfz21_1 := blk_frozen BK157.out 1) | (go_at_call 26; (with_reducible refine (pool_Find.calls _ _ l0 a1_0 t164 _ ?side1 ?side2 A17.out).mono ?_); (case side1 => repeat (first | exact (Kd.C_below HR0.out HB.out) | (with_reducible refine Kd.C_alloc ?_ _) | (with_reducible refine Kd.C_drewN ?_ _) | (with_reducible refine Kd.C_drew ?_))); (case side2 => exact HC0.out); (try clear A17); rintro e w22 ⟨rfl, hb⟩; have n0_ := Aside0.mk (Kd.R_below (by (with_reducible repeat (first | apply Kd.R_alloc | apply Kd.R_drewN | apply Kd.R_drew)); exact HO161.out) hb); have n1_ := Aside0.mk (blk_below (g := gb157) (o := .cells #[.int .i64 a1_0, .int .i64 a1_1] 39 (0, 0)) (by (with_reducible repeat (first | refine blk_drewN ?_ _ | refine blk_drew ?_ | refine blk_alloc ?_ _)); exact BK157.out) hb); have n2_ := Aside0.mk (below_step (by repeat (first | (with_reducible first | exact HB.out | apply below_alloc | apply pw_below_drewN | apply below_drew1 | refine below_set ?_ GE157.out) | exact HB.out)) hb); clear HO161; clear BK157; clear HB; have HO161 := n0_; have BK157 := n1_; have HB := n2_; clear n0_ n1_ n2_; (try clear hb); (try clear hb2); (try clear hk); (try clear hi)))
            go_meet
            case rel => exact ⟨_, (decide (t164 ≥ 0)), (by first | rfl | (simp; done) | (simp [*]; done)), H', ⟨by first | omega | exact Nat.le_refl _⟩, ⟨by (with_reducible repeat (first | apply Kd.R_alloc | apply Kd.R_drewN | apply Kd.R_drew)); exact Kd.R_mono HO161.out (fun _ hk => hk.2)⟩, ⟨by (with_reducible repeat (first | refine blk_drewN ?_ _ | refine blk_drew ?_ | refine blk_alloc ?_ _)); exact BK157.out⟩, ⟨by repeat (first | (with_reducible first | exact HB.out | apply below_alloc | apply pw_below_drewN | apply below_drew1 | refine below_set ?_ GE157.out) | exact HB.out)⟩⟩
          · rw [if_neg c16] at H
            have c16b0 : (t163 == 0) = false := beq_eq_false_iff_ne.mpr c16
            have c16b1 : (t163 != 0) = true := bne_iff_ne.mpr c16
            have H' := Aside0.mk H
            clear H
            go_wp2_with (first | (go_at_call 25; (with_reducible refine (pool_Check.calls _ _ l0 t162 _ ?side1 ?side2 A13.out).mono ?_); (case side1 => repeat (first | exact (Kd.C_below HR0.out HB.out) | (with_reducible refine Kd.C_alloc ?_ _) | (with_reducible refine Kd.C_drewN ?_ _) | (with_reducible refine Kd.C_drew ?_))); (case side2 => exact HC0.out); (try clear A13); rintro e w23 ⟨rfl, hb⟩; have n0_ := Aside0.mk (Kd.R_below (by (with_reducible repeat (first | apply Kd.R_alloc | apply Kd.R_drewN | apply Kd.R_drew)); exact HO161.out) hb); have n1_ := Aside0.mk (blk_below (g := gb157) (o := .cells #[.int .i64 a1_0, .int .i64 a1_1] 39 (0, 0)) (by (with_reducible repeat (first | refine blk_drewN ?_ _ | refine blk_drew ?_ | refine blk_alloc ?_ _)); exact BK157.out) hb); have n2_ := Aside0.mk (below_step (by repeat (first | (with_reducible first | exact HB.out | apply below_alloc | apply pw_below_drewN | apply below_drew1 | refine below_set ?_ GE157.out) | exact HB.out)) hb); clear HO161; clear BK157; clear HB; have HO161 := n0_; have BK157 := n1_; have HB := n2_; clear n0_ n1_ n2_; (try clear hb); (try clear hb2); (try clear hk); (try clear hi); obtain ⟨Ao24, co24, eo24⟩ := Kd.R_slice HO161.out; subst eo24) | (go_at_call 25; (with_reducible refine (pool_Check.calls _ _ t159 t163 _ ?side1 ?side2 A15.out).mono ?_); (case side1 => repeat (first | exact (Kd.R_reads' HO161.out).2.2 | (with_reducible refine Kd.C_alloc ?_ _) | (with_reducible refine Kd.C_drewN ?_ _) | (with_reducible refine Kd.C_drew ?_))); (case side2 => exact (Kd.R_reads' HO161.out).2.1); (try clear A15); rintro e w25 ⟨rfl, hb⟩; have n0_ := Aside0.mk (Kd.R_below (by (with_reducible repeat (first | apply Kd.R_alloc | apply Kd.R_drewN | apply Kd.R_drew)); exact HO161.out) hb); have n1_ := Aside0.mk (blk_below (g := gb157) (o := .cells #[.int .i64 a1_0, .int .i64 a1_1] 39 (0, 0)) (by (with_reducible repeat (first | refine blk_drewN ?_ _ | refine blk_drew ?_ | refine blk_alloc ?_ _)); exact BK157.out) hb); have n2_ := Aside0.mk (below_step (by repeat (first | (with_reducible first | exact HB.out | apply below_alloc | apply pw_below_drewN | apply below_drew1 | refine below_set ?_ GE157.out) | exact HB.out)) hb); clear HO161; clear BK157; clear HB; have HO161 := n0_; have BK157 := n1_; have HB := n2_; clear n0_ n1_ n2_; (try clear hb); (try clear hb2); (try clear hk); (try clear hi)))
            go_meet
            case rel => exact ⟨_, (true), (by first | rfl | (simp; done) | (simp [*]; done)), H', ⟨by first | omega | exact Nat.le_refl _⟩, ⟨by (with_reducible repeat (first | apply Kd.R_alloc | apply Kd.R_drewN | apply Kd.R_drew)); exact Kd.R_mono HO161.out (fun _ hk => hk.2)⟩, ⟨by (with_reducible repeat (first | refine blk_drewN ?_ _ | refine blk_drew ?_ | refine blk_alloc ?_ _)); exact BK157.out⟩, ⟨by repeat (first | (with_reducible first | exact HB.out | apply below_alloc | apply pw_below_drewN | apply below_drew1 | refine below_set ?_ GE157.out) | exact HB.out)⟩⟩
        · rw [if_neg c14] at H
          have c14b0 : (t162 == 0) = false := beq_eq_false_iff_ne.mpr c14
          have c14b1 : (t162 != 0) = true := bne_iff_ne.mpr c14
          have H' := Aside0.mk H
          clear H
          go_wp2_with (first | (go_at_call 25; (with_reducible refine (pool_Check.calls _ _ l0 t162 _ ?side1 ?side2 A13.out).mono ?_); (case side1 => repeat (first | exact (Kd.C_below HR0.out HB.out) | (with_reducible refine Kd.C_alloc ?_ _) | (with_reducible refine Kd.C_drewN ?_ _) | (with_reducible refine Kd.C_drew ?_))); (case side2 => exact HC0.out); (try clear A13); rintro e w26 ⟨rfl, hb⟩; have n0_ := Aside0.mk (Kd.R_below (by (with_reducible repeat (first | apply Kd.R_alloc | apply Kd.R_drewN | apply Kd.R_drew)); exact HO161.out) hb); have n1_ := Aside0.mk (blk_below (g := gb157) (o := .cells #[.int .i64 a1_0, .int .i64 a1_1] 39 (0, 0)) (by (with_reducible repeat (first | refine blk_drewN ?_ _ | refine blk_drew ?_ | refine blk_alloc ?_ _)); exact BK157.out) hb); have n2_ := Aside0.mk (below_step (by repeat (first | (with_reducible first | exact HB.out | apply below_alloc | apply pw_below_drewN | apply below_drew1 | refine below_set ?_ GE157.out) | exact HB.out)) hb); clear HO161; clear BK157; clear HB; have HO161 := n0_; have BK157 := n1_; have HB := n2_; clear n0_ n1_ n2_; (try clear hb); (try clear hb2); (try clear hk); (try clear hi)))
          go_meet
          case rel => exact ⟨_, (true), (by first | rfl | (simp; done) | (simp [*]; done)), H', ⟨by first | omega | exact Nat.le_refl _⟩, ⟨by (with_reducible repeat (first | apply Kd.R_alloc | apply Kd.R_drewN | apply Kd.R_drew)); exact Kd.R_mono HO161.out (fun _ hk => hk.2)⟩, ⟨by (with_reducible repeat (first | refine blk_drewN ?_ _ | refine blk_drew ?_ | refine blk_alloc ?_ _)); exact BK157.out⟩, ⟨by repeat (first | (with_reducible first | exact HB.out | apply below_alloc | apply pw_below_drewN | apply below_drew1 | refine below_set ?_ GE157.out) | exact HB.out)⟩⟩
    case rest =>
      clear HC7
      try clear c1
      try clear c2
      try clear p2
      try clear c3
      try clear c5
      try clear c12
      try clear c12b0
      try clear c12b1
      try clear c14
      try clear c14b0
      try clear c14b1
      try clear c16
      try clear c16b0
      try clear c16b1
      try clear hcz10_0
      try clear hcz10_1
      try clear hcz21_0
      try clear hcz21_1
      try clear hfz10_0
      try clear hfz10_1
      try clear hfz21_0
      try clear hfz21_1
      obtain ⟨kq, x36_6, rfl, HA, HJ6, HO_8, BK157, HB⟩ := hcut
      cases kq with
      | zero => exact absurd HA.out (by simp [gangplanklaw10_RingWith.j0])
      | succ kj6 =>
        have H := HA.out
        clear HA
        simp only [gangplanklaw10_RingWith.j0] at H
        by_cases c27 : x36_6 = true
        · subst c27
          have H1 : (some true) = some r := by first | (rw [if_pos rfl] at H; exact H) | (rw [if_pos trivial] at H; exact H)
          clear H
          have H := H1
          clear H1
          obtain rfl := Option.some.inj H
          go_wp2
          go_ret
          exact ⟨by first | rfl | (simp [errW_none, errW_some] <;> rfl) | (simp [*, errW_none, errW_some] <;> rfl), by repeat (first | (with_reducible first | exact HB.out | apply below_alloc | apply pw_below_drewN | apply below_drew1 | refine below_set ?_ GE157.out) | exact HB.out)⟩
        · replace c27 := Bool.eq_false_iff.mpr c27
          subst c27
          have H1 : ((ring_Pick.f l0 a2).bind fun t165 => ((ring_Pick.f t159 a2).bind fun t166 => (if true = true then (if t166 = t165 then (some true) else (some (t166 == a1_0))) else (some false)))) = some r := by rw [if_neg (show ¬ (false = true) by decide)] at H; exact H
          clear H
          have H := H1
          clear H1
          replace H := Option.bind_eq_some_iff.mp H
          obtain ⟨t165, A280, H⟩ := H
          replace H : ((ring_Pick.f t159 a2).bind fun t166 => (if true = true then (if t166 = t165 then (some true) else (some (t166 == a1_0))) else (some false))) = some r := H
          have A28 := Aside0.mk A280
          clear A280
          replace H := Option.bind_eq_some_iff.mp H
          obtain ⟨t166, A290, H⟩ := H
          replace H : (if true = true then (if t166 = t165 then (some true) else (some (t166 == a1_0))) else (some false)) = some r := H
          have A29 := Aside0.mk A290
          clear A290
          by_cases c30 : true = true
          · skip
            have H1 : (if t166 = t165 then (some true) else (some (t166 == a1_0))) = some r := by first | (rw [if_pos rfl] at H; exact H) | (rw [if_pos trivial] at H; exact H)
            clear H
            have H := H1
            clear H1
            by_cases c31 : t166 = t165
            · rw [if_pos c31] at H
              have c31b0 : (t166 == t165) = true := beq_iff_eq.mpr c31
              have c31b1 : (t166 != t165) = false := bne_eq_false_iff_eq.mpr c31
              clear c31
              obtain rfl := Option.some.inj H
              go_wp2_with (first | ((with_reducible refine gate_callee (f := 34) rfl ?_); refine goesL_ (some 40) rfl rfl Try.func34 (by kernel_rfl) rfl #[.slice A0 l0.length c0, .int .u64 a2] rfl (by (try simp only [List.map_toArray, List.map_cons, List.map_nil]); first | done | rfl | (simp only [List.length_drop, List.length_take]; rfl)) ?_; (with_reducible refine (ring_Pick.calls _ _ l0 a2 t165 _ ?side1 ?side2 A28.out).mono ?_); (case side1 => repeat (first | exact (Kd.C_below HR0.out HB.out) | (with_reducible refine Kd.C_alloc ?_ _) | (with_reducible refine Kd.C_drewN ?_ _) | (with_reducible refine Kd.C_drew ?_))); (case side2 => exact HC0.out); (try clear A28); rintro e w32 ⟨rfl, hb⟩; refine ⟨_, rfl, ?_⟩; have n0_ := Aside0.mk (Kd.R_below (by (with_reducible repeat (first | apply Kd.R_alloc | apply Kd.R_drewN | apply Kd.R_drew)); exact HO_8.out) hb); have n1_ := Aside0.mk (blk_below (g := gb157) (o := .cells #[.int .i64 a1_0, .int .i64 a1_1] 39 (0, 0)) (by (with_reducible repeat (first | refine blk_drewN ?_ _ | refine blk_drew ?_ | refine blk_alloc ?_ _)); exact BK157.out) hb); have n2_ := Aside0.mk (below_step (by repeat (first | (with_reducible first | exact HB.out | apply below_alloc | apply pw_below_drewN | apply below_drew1 | refine below_set ?_ GE157.out) | exact HB.out)) hb); clear HO_8; clear BK157; clear HB; have HO_8 := n0_; have BK157 := n1_; have HB := n2_; clear n0_ n1_ n2_; (try clear hb); (try clear hb2); (try clear hk); (try clear hi); obtain ⟨Ao33, co33, eo33⟩ := Kd.R_slice HO_8.out; subst eo33) | ((with_reducible refine gate_callee (f := 34) rfl ?_); refine goesL_ (some 43) rfl rfl Try.func34 (by kernel_rfl) rfl #[.slice Ao33 t159.length co33, .int .u64 a2] rfl (by (try simp only [List.map_toArray, List.map_cons, List.map_nil]); first | done | rfl | (simp only [List.length_drop, List.length_take]; rfl)) ?_; (with_reducible refine (ring_Pick.calls _ _ t159 a2 t166 _ ?side1 ?side2 A29.out).mono ?_); (case side1 => repeat (first | exact (Kd.R_reads' HO_8.out).2.2 | (with_reducible refine Kd.C_alloc ?_ _) | (with_reducible refine Kd.C_drewN ?_ _) | (with_reducible refine Kd.C_drew ?_))); (case side2 => exact (Kd.R_reads' HO_8.out).2.1); (try clear A29); rintro e w34 ⟨rfl, hb⟩; refine ⟨_, rfl, ?_⟩; have n0_ := Aside0.mk (Kd.R_below (by (with_reducible repeat (first | apply Kd.R_alloc | apply Kd.R_drewN | apply Kd.R_drew)); exact HO_8.out) hb); have n1_ := Aside0.mk (blk_below (g := gb157) (o := .cells #[.int .i64 a1_0, .int .i64 a1_1] 39 (0, 0)) (by (with_reducible repeat (first | refine blk_drewN ?_ _ | refine blk_drew ?_ | refine blk_alloc ?_ _)); exact BK157.out) hb); have n2_ := Aside0.mk (below_step (by repeat (first | (with_reducible first | exact HB.out | apply below_alloc | apply pw_below_drewN | apply below_drew1 | refine below_set ?_ GE157.out) | exact HB.out)) hb); clear HO_8; clear BK157; clear HB; have HO_8 := n0_; have BK157 := n1_; have HB := n2_; clear n0_ n1_ n2_; (try clear hb); (try clear hb2); (try clear hk); (try clear hi)))
              go_ret
              exact ⟨by first | rfl | (simp [errW_none, errW_some] <;> rfl) | (simp [*, errW_none, errW_some] <;> rfl), by repeat (first | (with_reducible first | exact HB.out | apply below_alloc | apply pw_below_drewN | apply below_drew1 | refine below_set ?_ GE157.out) | exact HB.out)⟩
            · rw [if_neg c31] at H
              have c31b0 : (t166 == t165) = false := beq_eq_false_iff_ne.mpr c31
              have c31b1 : (t166 != t165) = true := bne_iff_ne.mpr c31
              obtain rfl := Option.some.inj H
              go_wp2_with (first | ((with_reducible refine gate_callee (f := 34) rfl ?_); refine goesL_ (some 40) rfl rfl Try.func34 (by kernel_rfl) rfl #[.slice A0 l0.length c0, .int .u64 a2] rfl (by (try simp only [List.map_toArray, List.map_cons, List.map_nil]); first | done | rfl | (simp only [List.length_drop, List.length_take]; rfl)) ?_; (with_reducible refine (ring_Pick.calls _ _ l0 a2 t165 _ ?side1 ?side2 A28.out).mono ?_); (case side1 => repeat (first | exact (Kd.C_below HR0.out HB.out) | (with_reducible refine Kd.C_alloc ?_ _) | (with_reducible refine Kd.C_drewN ?_ _) | (with_reducible refine Kd.C_drew ?_))); (case side2 => exact HC0.out); (try clear A28); rintro e w35 ⟨rfl, hb⟩; refine ⟨_, rfl, ?_⟩; have n0_ := Aside0.mk (Kd.R_below (by (with_reducible repeat (first | apply Kd.R_alloc | apply Kd.R_drewN | apply Kd.R_drew)); exact HO_8.out) hb); have n1_ := Aside0.mk (blk_below (g := gb157) (o := .cells #[.int .i64 a1_0, .int .i64 a1_1] 39 (0, 0)) (by (with_reducible repeat (first | refine blk_drewN ?_ _ | refine blk_drew ?_ | refine blk_alloc ?_ _)); exact BK157.out) hb); have n2_ := Aside0.mk (below_step (by repeat (first | (with_reducible first | exact HB.out | apply below_alloc | apply pw_below_drewN | apply below_drew1 | refine below_set ?_ GE157.out) | exact HB.out)) hb); clear HO_8; clear BK157; clear HB; have HO_8 := n0_; have BK157 := n1_; have HB := n2_; clear n0_ n1_ n2_; (try clear hb); (try clear hb2); (try clear hk); (try clear hi); obtain ⟨Ao36, co36, eo36⟩ := Kd.R_slice HO_8.out; subst eo36) | ((with_reducible refine gate_callee (f := 34) rfl ?_); refine goesL_ (some 43) rfl rfl Try.func34 (by kernel_rfl) rfl #[.slice Ao36 t159.length co36, .int .u64 a2] rfl (by (try simp only [List.map_toArray, List.map_cons, List.map_nil]); first | done | rfl | (simp only [List.length_drop, List.length_take]; rfl)) ?_; (with_reducible refine (ring_Pick.calls _ _ t159 a2 t166 _ ?side1 ?side2 A29.out).mono ?_); (case side1 => repeat (first | exact (Kd.R_reads' HO_8.out).2.2 | (with_reducible refine Kd.C_alloc ?_ _) | (with_reducible refine Kd.C_drewN ?_ _) | (with_reducible refine Kd.C_drew ?_))); (case side2 => exact (Kd.R_reads' HO_8.out).2.1); (try clear A29); rintro e w37 ⟨rfl, hb⟩; refine ⟨_, rfl, ?_⟩; have n0_ := Aside0.mk (Kd.R_below (by (with_reducible repeat (first | apply Kd.R_alloc | apply Kd.R_drewN | apply Kd.R_drew)); exact HO_8.out) hb); have n1_ := Aside0.mk (blk_below (g := gb157) (o := .cells #[.int .i64 a1_0, .int .i64 a1_1] 39 (0, 0)) (by (with_reducible repeat (first | refine blk_drewN ?_ _ | refine blk_drew ?_ | refine blk_alloc ?_ _)); exact BK157.out) hb); have n2_ := Aside0.mk (below_step (by repeat (first | (with_reducible first | exact HB.out | apply below_alloc | apply pw_below_drewN | apply below_drew1 | refine below_set ?_ GE157.out) | exact HB.out)) hb); clear HO_8; clear BK157; clear HB; have HO_8 := n0_; have BK157 := n1_; have HB := n2_; clear n0_ n1_ n2_; (try clear hb); (try clear hb2); (try clear hk); (try clear hi); have hcz38_0 : w37.cell? ⟨gb157, 0, none⟩ = some (.int .i64 a1_0) := (blk_cell BK157.out 0).trans rfl; have hcz38_1 : w37.cell? ⟨gb157, 1, none⟩ = some (.int .i64 a1_1) := (blk_cell BK157.out 1).trans rfl; have hfz38_0 := blk_frozen BK157.out 0; have hfz38_1 := blk_frozen BK157.out 1))
              go_ret
              exact ⟨by first | rfl | (simp [errW_none, errW_some] <;> rfl) | (simp [*, errW_none, errW_some] <;> rfl), by repeat (first | (with_reducible first | exact HB.out | apply below_alloc | apply pw_below_drewN | apply below_drew1 | refine below_set ?_ GE157.out) | exact HB.out)⟩
          · exact absurd rfl c30
  · replace c5 := Bool.eq_false_iff.mpr c5
    subst c5
    have H1 : (some false) = some r := by rw [if_neg (show ¬ (false = true) by decide)] at H; exact H
    clear H
    have H := H1
    clear H1
    obtain rfl := Option.some.inj H
    go_enter Try.func12, Try.ntmps12
    go_wp2_with (first | ((with_reducible refine gate_dst (N := 4) rfl ?_); refine box_event ?hg (N := 4) ?hd (cs := #[.int .i64 a1_0, .int .i64 a1_1]) (t := 39) ?hr ?_; (case hd => rfl); (case hg => rfl); (case hr => first | (go_simp; done) | (go_simp; rfl)); intro gb157 hg w42 hbox hb; have n0_ := Aside0.mk (below_step (by repeat (first | (with_reducible first | exact HB.out | apply below_alloc | apply pw_below_drewN | apply below_drew1) | exact HB.out)) hb); have n1_ := Aside0.mk (hbox); have n2_ := Aside0.mk ((by rw [hg]; exact (below_size (by repeat (first | (with_reducible first | exact HB.out | apply below_alloc | apply pw_below_drewN | apply below_drew1) | exact HB.out))) : w.heap.size ≤ gb157)); have n3_ := Aside0.mk ((by rw [hg]; exact (below_size (by repeat (first | (with_reducible first | exact HB.out | apply below_alloc | apply pw_below_drewN | apply below_drew1) | exact HB.out))) : w.heap.size ≤ gb157)); clear HB; have HB := n0_; have BK157 := n1_; have GW157 := n2_; have GE157 := n3_; clear n0_ n1_ n2_ n3_; clear hb hbox hg) | ((with_reducible refine gate_callee (f := 27) rfl ?_); refine goesL_ (some 11) rfl rfl Try.func27 (by kernel_rfl) rfl #[] rfl (by (try simp only [List.map_toArray, List.map_cons, List.map_nil]); first | done | rfl | (simp only [List.length_drop, List.length_take]; rfl)) ?_; (with_reducible refine (gangplanklaw10_works.calls  false _ A4.out).mono ?_); (try clear A4); rintro e w43 ⟨rfl, hb⟩; refine ⟨_, rfl, ?_⟩; have n0_ := Aside0.mk (blk_below (g := gb157) (o := .cells #[.int .i64 a1_0, .int .i64 a1_1] 39 (0, 0)) (by (with_reducible repeat (first | refine blk_drewN ?_ _ | refine blk_drew ?_ | refine blk_alloc ?_ _)); exact BK157.out) hb); have n1_ := Aside0.mk (below_step (by repeat (first | (with_reducible first | exact HB.out | apply below_alloc | apply pw_below_drewN | apply below_drew1 | refine below_set ?_ GE157.out) | exact HB.out)) hb); clear BK157; clear HB; have BK157 := n0_; have HB := n1_; clear n0_ n1_; (try clear hb); (try clear hb2); (try clear hk); (try clear hi)))
    go_ret
    exact ⟨by first | rfl | (simp [errW_none, errW_some] <;> rfl) | (simp [*, errW_none, errW_some] <;> rfl), by repeat (first | (with_reducible first | exact HB.out | apply below_alloc | apply pw_below_drewN | apply below_drew1 | refine below_set ?_ GE157.out) | exact HB.out)⟩

/-- THE PURE STATEMENT of gangplanklaw10_RingWith. -/
def gangplanklaw10_RingWith.Pure : Prop := ∀ (l0 : List (S39)) (a1_0 : Int) (a1_1 : Int) (a2 : Int), (l0.length ≤ maxLen) → ((∀ x ∈ l0, okS39 x)) → ((Lit.int .i64 a1_0).wf = true) → ((Lit.int .i64 a1_1).wf = true) → ((Lit.int .u64 a2).wf = true) → ∃ k, gangplanklaw10_RingWith.f k l0 a1_0 a1_1 a2 = some true

/-! ### api_Backend_54: function 54 -/
section
open Go.Shelf Go.Proofs.Ytcekkbimdogboaa.Hand
/-- All others of a pool. -/
def keptL (id : Int) (l : List S39) : List S39 := l.filter fun b => !(b.f0 == id)
structure DelInv (id : Int) (l : List S39) (j i : Nat) (xs : List S39) : Prop where
  lt : i < j
  len : xs.length = l.length
  low : xs.take i = keptL id (l.take j)
  high : xs.drop j = l.drop j
theorem keptL_take (id : Int) (l : List S39) (j : Nat) (h : j < l.length) : keptL id (l.take (j + 1)) = keptL id (l.take j) ++ (if (l[j].f0 == id) = true then [] else [l[j]]) := by
  unfold keptL
  rw [List.take_succ_eq_append_getElem h, List.filter_append]
  congr 1
  cases hb : (l[j].f0 == id) <;> simp [hb]
theorem DelInv.skip {id : Int} {l xs : List S39} {j i : Nat} (h : DelInv id l j i xs) (hj : j < l.length) (he : (l[j].f0 == id) = true) : DelInv id l (j + 1) i xs :=
  ⟨Nat.lt_succ_of_lt h.lt, h.len, by rw [keptL_take id l j hj, if_pos he, List.append_nil]; exact h.low, by have := congrArg (List.drop 1) h.high; rwa [List.drop_drop, List.drop_drop] at this⟩
theorem DelInv.keep {id : Int} {l xs : List S39} {j i : Nat} (h : DelInv id l j i xs) (hj : j < l.length) (he : (l[j].f0 == id) = false) : DelInv id l (j + 1) (i + 1) (xs.set i l[j]) := by
  have hlt := h.lt
  have hl := h.len
  refine ⟨Nat.succ_lt_succ hlt, by rw [List.length_set]; exact hl, ?_, ?_⟩
  · rw [keptL_take id l j hj, he, if_neg (by decide), ← h.low, List.take_succ_eq_append_getElem (by rw [List.length_set]; omega), List.take_set_of_le (Nat.le_refl _), List.getElem_set_self]
  · rw [List.drop_set_of_lt (by omega)]
    have := congrArg (List.drop 1) h.high
    rwa [List.drop_drop, List.drop_drop] at this
theorem DelInv.read {id : Int} {l xs : List S39} {j i : Nat} (h : DelInv id l j i xs) (hj : j < l.length) : xs.getD j z39 = l[j] := by
  have e := congrArg (fun q => q[0]?) h.high
  simp only [List.getElem?_drop, Nat.add_zero] at e
  simp [List.getD_eq_getElem?_getD, e, hj]
theorem DelInv.start {id : Int} {l : List S39} {k : Nat} (hk : k < l.length) (h1 : l[k].f0 = id) (h2 : ∀ j (hj : j < k), l[j].f0 ≠ id) : DelInv id l (k + 1) k l := by
  refine ⟨Nat.lt_succ_self _, rfl, ?_, rfl⟩
  rw [keptL_take id l k hk, if_pos (by simp [h1]), List.append_nil]
  unfold keptL
  refine (List.filter_eq_self.2 fun b hb => ?_).symm
  obtain ⟨j, hj, rfl⟩ := List.mem_iff_getElem.1 hb
  have hjk : j < k := by rw [List.length_take] at hj; omega
  have := h2 j hjk
  simpa using this
theorem keptL_none {id : Int} {l : List S39} (h : ∀ b ∈ l, b.f0 ≠ id) : keptL id l = l := List.filter_eq_self.2 fun b hb => by simpa using h b hb
theorem blk_grown1 {W w1 : World} {B g : Nat} {t : TypeId} {cs : List Value} (h : Blk W B t cs) (hg : W.grownBy w1 (some g)) (hne : B ≠ g) : Blk w1 B t cs := (hg.block B h.lt (by intro e; injection e with e; exact hne e)).trans h
theorem run_clear_bk (W : World) (ty : TypeId) (b o n c : Nat) (hn : 0 < n)
    (hc : ∀ j, j < n * 2 → (W.cell? ⟨b, o + j, none⟩).isSome = true) (hf : ∀ j, j < n * 2 → W.frozen? ⟨b, o + j, none⟩ = false) :
    (Builtin.clear_ #[22] ty #[.slice (some ⟨b, o, none⟩) n c]).run Try.prog W = .ok (.tuple #[]) (W.setCells b o (List.replicate (n * 2) (.int .i64 0))) := by
  have hz : ∀ w, (zeroValue 39).run Try.prog w = .ok (.agg #[.int .i64 0, .int .i64 0]) w := Try.zeroValue39
  have hzc : (Builtin.zeroCells (Value.agg #[.int .i64 0, .int .i64 0]).cells n).toList = List.replicate (n * 2) (.int .i64 0) := by
    simp [Builtin.zeroCells, Value.cells]
    apply List.ext_getElem
    · simp
    · intro i h1 h2
      simp
      rcases Nat.mod_two_eq_zero_or_one i with h | h <;> simp [h]
  have hst := run_storeCells_cells (P := Try.prog) b o (List.replicate (n * 2) (.int .i64 0)) 0 W (by simpa using hc) (by simpa using hf) (by intro v hv'; rw [List.eq_of_mem_replicate hv']; rfl)
  simp only [Nat.add_zero] at hst
  obtain ⟨m, rfl⟩ : ∃ m, n = m + 1 := ⟨n - 1, by omega⟩
  simp [Builtin.clear_, run_underlying Try.underlying22, hz, hzc, hst]
theorem gate_store {P : Program} {ops : Array Oper} {Q : Exit → Act → World → Prop} {o : Oper} {rest : List Oper} {a : Act} {W : World} {t : TypeId} {p x : Operand} (_ho : o.op = .store t p x) (h : wpList P ops Q (o :: rest) a W) : wpList P ops Q (o :: rest) a W := h
theorem below_alloc' {n₀ : Nat} {W w : World} (hn : n₀ ≤ W.heap.size) (h : Below n₀ W w) (o : Obj) : Below n₀ W (w.alloc o) := h.trans ((Below.refl n₀ w).alloc (Nat.le_trans hn h.size) o)
theorem del_nums (n j i : Nat) (hl : n ≤ 1000000) (h : j < n) (hij : i < j) : decide ((j : Int) < (n : Int)) = true ∧ (0 : Int) ≤ (j : Int) ∧ (j : Int) < (n : Int) ∧ wrap64 ((j : Int) + 1) = ((j + 1 : Nat) : Int) ∧ (0 : Int) ≤ (i : Int) ∧ (i : Int) < (n : Int) ∧ wrap64 ((i : Int) + 1) = ((i + 1 : Nat) : Int) :=
  ⟨decide_eq_true (by omega), by omega, by omega, by unfold wrap64; omega, by omega, by omega, by unfold wrap64; omega⟩
theorem del_meas (n k : Nat) (h : k < n) : n - (((k + 1 : Nat) : Int)).toNat < n - ((k : Int)).toNat := by
  rw [Int.toNat_natCast, Int.toNat_natCast]; omega
set_option maxHeartbeats 1000000 in
theorem DeleteFunc_none (id : Int) (B : Nat) (A : Option Addr) (c : Nat) (l : List S39) (hl : l.length ≤ 1000000) (W : World) (hC : Kd.C k39 W A l.length l) (hB : Blk W B 3 [.int .i64 id]) (hno : findL l id = -1) :
    Calls Try.prog 54 #[.slice A l.length c, .func (.func 72) #[] #[.pointer (some ⟨B, 0, none⟩)]] W fun e w' => e = .returned (.slice A l.length c) ∧ Below W.heap.size W w' := by
  have hI := IndexFunc_named id B A c l (Nat.le_trans hl (by decide)) W hC hB.lt (hB.cell 0)
  rw [hno] at hI
  have HI := Lib.hid hI
  clear hI hC hl hB hno
  go_enter Try.func54, Try.ntmps54
  go_wp2_with (go_at_call 50; refine HI.out.mono ?_; rintro e w2 ⟨rfl, hb⟩; have HB2 := Lib.hid hb; clear hb)
  go_ret
  exact ⟨rfl, HB2.out⟩
set_option maxRecDepth 100000 in
set_option maxHeartbeats 8000000 in
theorem DeleteFunc_some (id : Int) (B : Nat) (g c : Nat) (l : List S39) (hl : l.length ≤ 1000000) (n₀ : Nat) (W : World) (hn : n₀ ≤ W.heap.size) (hR : Kd.R k39 39 W n₀ (fun _ => True) (.slice (some ⟨g, 0, none⟩) l.length c) l) (hB : Blk W B 3 [.int .i64 id]) (k0 : Nat) (hk0 : k0 < l.length) (hf : findL l id = (k0 : Int)) (hD : DelInv id l (k0 + 1) k0 l) :
    Calls Try.prog 54 #[.slice (some ⟨g, 0, none⟩) l.length c, .func (.func 72) #[] #[.pointer (some ⟨B, 0, none⟩)]] W fun e w' => ∃ v', e = .returned v' ∧ Kd.R k39 39 w' n₀ (fun _ => True) v' (keptL id l) ∧ Below n₀ W w' := by
  have hgB : B ≠ g := by
    rintro rfl
    obtain ⟨cells, hc⟩ := Kd.R_typed hR B rfl
    have h := (show _ = _ from hB).symm.trans hc
    injection h with h
    injection h with _ h
    exact absurd h (by decide)
  have hgn : n₀ ≤ g := Kd.R_base hR g rfl
  have hI := IndexFunc_named id B (some ⟨g, 0, none⟩) c l (Nat.le_trans hl (by decide)) W (Kd.R_reads' hR).2.2 hB.lt (hB.cell 0)
  rw [hf] at hI
  have hcap := (Kd.R_reads' hR).2.1
  have hne : ((k0 : Int) == -1) = false := beq_eq_false_iff_ne.2 (by omega)
  have hw0 : wrap64 ((k0 : Int) + 1) = ((k0 + 1 : Nat) : Int) := by unfold wrap64; omega
  have HI := Lib.hid hI
  have HL := Lib.hid hl
  have HR := Lib.hid hR
  have HB := Lib.hid hB
  have HD := Lib.hid hD
  have HN := Lib.hid hn
  have HGB := Lib.hid hgB
  have HGN := Lib.hid hgn
  have HCAP := Lib.hid hcap
  have HK0 := Lib.hid hk0
  clear hI hl hR hB hD hn hgB hgn hcap hf hk0
  go_enter Try.func54, Try.ntmps54
  go_wp2_with (go_at_call 50; refine HI.out.mono ?_; rintro e w2 ⟨rfl, hb⟩; have HB2 := Lib.hid hb; clear hb)
  clear hne
  go_loopw [5, 6] (fun s5 s6 wr => ∃ (i j : Nat) (xs : List S39), s5 = .int .i64 i ∧ s6 = .int .i64 j ∧ j ≤ l.length ∧ Aside0 (DelInv id l j i xs) ∧ Aside0 (Kd.R k39 39 wr n₀ (fun _ => True) (.slice (some ⟨g, 0, none⟩) l.length c) xs) ∧ Aside0 (Blk wr B 3 [.int .i64 id]) ∧ Aside0 (Below n₀ W wr))
    (fun _ s6 _ => l.length - (intOf s6).toNat)
  case atStart => exact ⟨k0, k0 + 1, l, rfl, by rw [hw0], HK0.out, ⟨HD.out⟩, ⟨Kd.R_below HR.out HB2.out⟩, ⟨HB.out.below HB2.out⟩, ⟨HB2.out.mono HN.out⟩⟩
  case round =>
    clear hw0
    obtain ⟨i, j, xs, rfl, rfl, hj, HD2, HR2, HBk, HBr⟩ := hrel
    by_cases hlt : j < l.length
    · have hxl := (Kd.R_reads' HR2.out).1
      obtain ⟨ad, hA, c0, c1⟩ := at_T39 (Kd.R_reads' HR2.out).2.2 (j : Int) (by omega) (by omega)
      cases hA
      rw [show rd_T39 xs (j : Int) = xs.getD j z39 from rfl, HD2.out.read hlt] at c0 c1
      obtain ⟨b, hb⟩ : ∃ b, l[j] = b := ⟨_, rfl⟩
      rw [hb] at c0 c1
      rw [Int.toNat_natCast, add_plain] at c0 c1
      clear hxl
      obtain ⟨q1, q2, q3, hwj, q5, q6, hwi⟩ := del_nums l.length j i HL.out hlt HD2.out.lt
      have hskip := fun h => HD2.out.skip hlt h
      have hkeep := fun h => HD2.out.keep hlt h
      rw [hb] at hskip hkeep
      have HSK := Lib.hid hskip
      have HKE := Lib.hid hkeep
      clear hb hskip hkeep
      obtain ⟨b0, b1⟩ := b
      go_upto_region 8 with (fail)
      have hbx := Blk.new wr 39 [.int .i64 b0, .int .i64 b1]
      have hb1 := below_alloc' HN.out HBr.out (.cells #[.int .i64 b0, .int .i64 b1] 39)
      have hr1 := Kd.R_alloc HR2.out (.cells #[.int .i64 b0, .int .i64 b1] 39)
      have hk1 := HBk.out.alloc (.cells #[.int .i64 b0, .int .i64 b1] 39)
      obtain ⟨g5, hg5⟩ : ∃ g5, wr.heap.size = g5 := ⟨_, rfl⟩
      obtain ⟨W1, hW1⟩ : ∃ W1, (wr.alloc (.cells #[.int .i64 b0, .int .i64 b1] 39)) = W1 := ⟨_, rfl⟩
      rw [hg5] at hbx ⊢
      rw [hW1] at hbx hb1 hr1 hk1 ⊢
      clear hg5 hW1 c0 c1 HBr HR2 HBk
      have c0 : W1.cell? ⟨g5, 0, none⟩ = some (.int .i64 b0) := hbx.cell 0
      have c1 : W1.cell? ⟨g5, 1, none⟩ = some (.int .i64 b1) := hbx.cell 1
      have hcall := named1_any id B ⟨b0, b1⟩ W1 (hk1.cell 0) hk1.lt
      have HB1 := Lib.hid hb1
      have HR1 := Lib.hid hr1
      have HK1 := Lib.hid hk1
      have HX1 := Lib.hid hbx
      clear hb1 hr1 hk1 hbx
      obtain ⟨eq, heq⟩ : ∃ eq, (b0 == id) = eq := ⟨_, rfl⟩
      have hsk := HSK.out
      have hke := HKE.out
      clear HSK HKE
      simp only [heq] at hcall hsk hke
      have HCL := Lib.hid hcall
      clear hcall heq
      cases eq with
      | true =>
        have HD3 := Lib.hid (hsk rfl)
        clear hsk hke
        go_wp2_with fail
        refine HCL.out.mono ?_
        rintro e w3 ⟨rfl, rfl⟩
        go_wp2
        go_roundw
        case rel => exact ⟨i, j + 1, xs, rfl, by rw [hwj], Nat.succ_le_of_lt hlt, ⟨HD3.out⟩, ⟨Kd.R_alloc HR1.out _⟩, ⟨HK1.out.alloc _⟩, ⟨below_alloc' HN.out HB1.out _⟩⟩
        case measure =>
          rw [hwj]
          exact del_meas _ _ hlt
      | false =>
        have HD3 := Lib.hid (hke rfl)
        clear hsk hke
        go_wp2_with fail
        refine HCL.out.mono ?_
        rintro e w3 ⟨rfl, rfl⟩
        have hb2 := below_alloc' HN.out HB1.out (.cells #[.int .i64 b0, .int .i64 b1] 39)
        have hr2 := Kd.R_alloc HR1.out (.cells #[.int .i64 b0, .int .i64 b1] 39)
        have hk2 := HK1.out.alloc (.cells #[.int .i64 b0, .int .i64 b1] 39)
        have hx2 := HX1.out.alloc (.cells #[.int .i64 b0, .int .i64 b1] 39)
        obtain ⟨W2, hW2⟩ : ∃ W2, (W1.alloc (.cells #[.int .i64 b0, .int .i64 b1] 39)) = W2 := ⟨_, rfl⟩
        rw [hW2] at hb2 hr2 hk2 hx2 ⊢
        clear hW2 c0 c1 HB1 HR1 HK1 HX1 HCL
        have c0 : W2.cell? ⟨g5, 0, none⟩ = some (.int .i64 b0) := hx2.cell 0
        have c1 : W2.cell? ⟨g5, 1, none⟩ = some (.int .i64 b1) := hx2.cell 1
        have hxl := (Kd.R_reads' hr2).1
        obtain ⟨ad2, hA2, d0, d1⟩ := at_T39 (Kd.R_reads' hr2).2.2 (i : Int) (by omega) (by omega)
        cases hA2
        rw [Int.toNat_natCast, add_plain] at d0 d1
        obtain ⟨x0, hx0⟩ : ∃ x0, (rd_T39 xs (i : Int)).f0 = x0 := ⟨_, rfl⟩
        obtain ⟨x1, hx1⟩ : ∃ x1, (rd_T39 xs (i : Int)).f1 = x1 := ⟨_, rfl⟩
        rw [hx0] at d0
        rw [hx1] at d1
        clear hx0 hx1 hxl
        have HB2 := Lib.hid hb2
        have HR2 := Lib.hid hr2
        have HK2 := Lib.hid hk2
        clear hb2 hr2 hk2 hx2
        have D0 := Lib.hid d0
        have D1 := Lib.hid d1
        clear d0 d1
        have hij : (i : Int).toNat = i := Int.toNat_natCast i
        go_wp2_with ((with_reducible refine gate_store (t := 39) rfl ?_); refine Kd.R_store k39 (w0 := W) n₀ rfl rfl 39 _ _ rfl 39 (i : Int) 0 xs (⟨b0, b1⟩ : S39) _ [.int .i64 b0, .int .i64 b1] [.int .i64 x0, .int .i64 x1] (fun _ => True) (fun _ => False) rfl ?sO rfl rfl (by kernel_rfl) ?sI HR2.out q5 q6 rfl ?sC (Nat.le_refl 2) (k39_mkM _ _ _ _) (fun _ h => h.elim) HB2.out ?_; (case sO => rw [hij]; rfl); (case sI => intro q hq; simp at hq; rcases hq with rfl | rfl <;> rfl); (case sC => intro jj uu hu; match jj, hu with | 0, hu => (simp at hu; rw [← hu, hij]; exact D0.out) | 1, hu => (simp at hu; rw [← hu, hij]; exact D1.out) | jj + 2, hu => simp at hu); intro w5 hr5 hb5 hg5; rw [hij] at hr5; have HR5 := Lib.hid hr5; have HB5 := Lib.hid hb5; have HK5 := Lib.hid (blk_grown1 HK2.out hg5 HGB.out); clear hr5 hb5 hg5)
        go_roundw
        case rel => exact ⟨i + 1, j + 1, xs.set i ⟨b0, b1⟩, by rw [hwi], by rw [hwj], Nat.succ_le_of_lt hlt, ⟨HD3.out⟩, ⟨HR5.out⟩, ⟨HK5.out⟩, ⟨HB5.out⟩⟩
        case measure =>
          rw [hwj]
          exact del_meas _ _ hlt
    · obtain rfl : j = l.length := Nat.le_antisymm hj (Nat.le_of_not_lt hlt)
      have q1 : decide ((l.length : Int) < (l.length : Int)) = false := decide_eq_false (by omega)
      have hil := HD2.out.lt
      have hcap := HCAP.out
      have hlow : xs.take i = keptL id l := by have h := HD2.out.low; rwa [List.take_length] at h
      have hxl : xs.length = l.length := HD2.out.len
      have hr2 := HR2.out
      rw [← hxl] at hr2
      obtain ⟨hrow, hcl, hfl⟩ := own_bk hr2
      have hend := own_bk_end hrow (i := i) (by omega) (List.replicate ((l.length - i) * 2) (.int .i64 0))
      rw [hlow] at hend
      have hil2 : (keptL id l).length = i := by rw [← hlow, List.length_take]; omega
      rw [hil2] at hend
      obtain ⟨i0, hi, hz0, hz1, hz2⟩ := info_parts (show (Try.prog.info? 39).map (fun i => (i.zero, i.size, i.bytes)) = some (some (.agg #[.int .i64 0, .int .i64 0]), 2, 16) from by kernel_rfl)
      have k1 : ∀ W : World, (Instr.slice 22 (.slice (some ⟨g, 0, none⟩) l.length c) (some (.int .i64 (i : Int))) none none).run Try.prog W = .ok (.slice (some ⟨g, i * 2, none⟩) (l.length - i) (c - i)) W := fun W => by
        rw [cut_from (P := Try.prog) 22 39 .i64 Try.underlying22 hi 2 hz1 (some ⟨g, 0, none⟩) l.length c (i : Int) (by omega) (by omega), Int.toNat_natCast, if_neg (by omega), Option.map_some, add_plain]
      have k2 : ∀ W : World, (Instr.slice 22 (.slice (some ⟨g, 0, none⟩) l.length c) none (some (.int .i64 (i : Int))) none).run Try.prog W = .ok (.slice (some ⟨g, 0, none⟩) i c) W := fun W => by
        rw [cut_to (P := Try.prog) 22 39 .i64 Try.underlying22 hi (some ⟨g, 0, none⟩) l.length c (i : Int) (by omega) (by omega) hcap, Int.toNat_natCast]
      have k3 : ∀ ty, (Builtin.clear_ #[22] ty #[.slice (some ⟨g, i * 2, none⟩) (l.length - i) (c - i)]).run Try.prog wr = .ok (.tuple #[]) (wr.setCells g (i * 2) (List.replicate ((l.length - i) * 2) (.int .i64 0))) := fun ty =>
        run_clear_bk wr ty g (i * 2) (l.length - i) (c - i) (by omega) (fun t ht => hcl _ (by omega)) (fun t _ => hfl _)
      have hbb := below_setCells HGN.out (List.replicate ((l.length - i) * 2) (.int .i64 0)) (i * 2) W wr HBr.out
      have HEND := Lib.hid hend
      have HBB := Lib.hid hbb
      have K1 := Lib.hid k1
      clear hend hbb hrow hcl hfl hr2 hlow hxl hil hcap hil2 hi hz0 hz1 hz2 HD2 HR2 HBk HBr hlt
      go_wp2
      go_ret
      exact ⟨_, rfl, HEND.out, HBB.out⟩
theorem DeleteFunc_named (id : Int) (B : Nat) (v : Value) (l : List S39) (hl : l.length ≤ 1000000) (n₀ : Nat) (W : World) (hn : n₀ ≤ W.heap.size) (hR : Kd.R k39 39 W n₀ (fun _ => True) v l) (hB : Blk W B 3 [.int .i64 id]) :
    Calls Try.prog 54 #[v, .func (.func 72) #[] #[.pointer (some ⟨B, 0, none⟩)]] W fun e w' => ∃ v', e = .returned v' ∧ Kd.R k39 39 w' n₀ (fun _ => True) v' (keptL id l) ∧ Below n₀ W w' := by
  rcases findL_cases l id with ⟨h1, h2⟩ | ⟨k, hk, h1, h2, h3⟩
  · obtain ⟨A, c, rfl⟩ := Kd.R_slice hR
    refine (DeleteFunc_none id B A c l hl W (Kd.R_reads' hR).2.2 hB h1).mono ?_
    rintro e w' ⟨rfl, hb⟩
    rw [keptL_none h2]
    exact ⟨_, rfl, Kd.R_below hR hb, hb.mono hn⟩
  · obtain ⟨g, cap, rfl, _, _, _⟩ := Kd.R_form hR (by omega)
    exact DeleteFunc_some id B g cap l hl n₀ W hn hR hB k hk h1 (DelInv.start hk h2 h3)
end

/-! ### pool_Without: function 36 -/
section
open Go.Shelf Go.Proofs.Ytcekkbimdogboaa.Hand
set_option maxHeartbeats 1000000 in
theorem Without_any (A : Option Addr) (c : Nat) (l : List S39) (hl : l.length ≤ 1000000) (id : Int) (w : World) (hC : Kd.C k39 w A l.length l) :
    Calls Try.prog 36 #[.slice A l.length c, .int .i64 id] w fun e w' => ∃ v : Value, e = .returned v ∧ Kd.R k39 39 w' w.heap.size (fun _ => True) v (keptL id l) ∧ Below w.heap.size w w' := by
  have HC := Lib.hid hC
  have HL := Lib.hid hl
  clear hC hl
  go_enter Try.func36, Try.ntmps36
  go_wp2_with (first
    | (go_at_call 55; refine (cloneBk_any A c l HL.out _ HC.out).mono ?_; rintro e w1 ⟨v, rfl, hr, hb⟩; have HR := Lib.hid hr; have HB := Lib.hid hb; clear hr hb)
    | (go_at_call 51; refine (named_any _ _).mono ?_; rintro e w2 ⟨rfl, rfl⟩)
    | (go_at_call 54; refine (DeleteFunc_named id w1.heap.size v l HL.out w.heap.size (w1.alloc (.cells #[.int .i64 id] 3)) (below_alloc HB.out _).size (Kd.R_alloc HR.out _) (Blk.new w1 3 [.int .i64 id])).mono ?_; rintro e w3 ⟨v3, rfl, hr3, hb3⟩; have HR3 := Lib.hid hr3; have HB3 := Lib.hid ((below_alloc HB.out _).trans hb3); clear hr3 hb3))
  go_ret
  exact ⟨_, rfl, HR3.out, HB3.out⟩
def pool_Without.f (l0 : List S39) (a1 : Int) : Option (List S39) := if l0.length ≤ 1000000 then some (keptL a1 l0) else none
theorem pool_Without.calls (A0 : Option Addr) (c0 : Nat) (l0 : List S39) (a1 : Int) (r : List S39) (w : World) (hr0 : Kd.C k39 w A0 l0.length l0) (hc0 : l0.length ≤ c0) (h : pool_Without.f l0 a1 = some r) :
    Calls Try.prog 36 #[.slice A0 l0.length c0, .int .i64 a1] w fun e w' => ∃ v0_ : Value, e = .returned v0_ ∧ Kd.R k39 39 w' w.heap.size (fun _ => True) v0_ r ∧ Below w.heap.size w w' := by
  unfold pool_Without.f at h
  by_cases hl : l0.length ≤ 1000000
  · rw [if_pos hl] at h
    obtain rfl := Option.some.inj h
    exact Without_any A0 c0 l0 hl a1 w hr0
  · rw [if_neg hl] at h
    exact absurd h (by simp)
end

end Go.Proofs.Ytcekkbimdogboaa.P
