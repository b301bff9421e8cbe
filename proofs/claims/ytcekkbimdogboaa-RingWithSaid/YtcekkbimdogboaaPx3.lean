/- Each Go function that the laws reach, as a plain function, with the proof that the machine's call comes to what it says; of a law: its row. Made by a program of this seat (wip/hp.py, over the print). -/
import Derived.Test.YtcekkbimdogboaaPx0
import Derived.Test.YtcekkbimdogboaaPx1
import Derived.Test.YtcekkbimdogboaaPx2
namespace Go.Proofs.Ytcekkbimdogboaa.P
open Go.RowKit Go.Proofs.YtcekkbimdogboaaW.PrintWords Go.Proofs.YtcekkbimdogboaaW.PrintLast Go.Proofs.YtcekkbimdogboaaW.PrintMore
attribute [local go_sem] max2_int min2_int max_two min_two max_three min_three max_four min_four   -- for this text's walks alone
set_option linter.unusedVariables false
set_option linter.unusedSimpArgs false

/-! ### points_place_order: function 41 -/
def points_place_order.f (k : Nat) (a0_0 : Int) (a0_1 : Int) (a1_0 : Int) (a1_1 : Int) : Option (Int) := (cmp_Compare_uint64.f a0_0 a1_0).bind fun t115 => ((cmp_Compare_int.f a0_1 a1_1).bind fun t116 => ((cmp_Or_int.f k (([t115, t116] : List Int))).bind fun t120 => (some t120)))
theorem points_place_order.mono : ∀ a0 a1 a2 a3 k, LeO (points_place_order.f k a0 a1 a2 a3) (points_place_order.f (k + 1) a0 a1 a2 a3) := by
  intro a0 a1 a2 a3 k
  unfold points_place_order.f
  repeat' first
      | (with_reducible exact cmp_Or_int.mono _ _)
      | (with_reducible exact LeO.refl _)
      | (with_reducible exact LeO.none _)
      | (with_reducible refine LeO.ite ?_ ?_)
      | (with_reducible refine LeO.bind ?_ (fun _ => ?_))
      | exact cmp_Or_int.mono _ _
      | exact LeO.none _
      | refine LeO.ite ?_ ?_
      | refine LeO.bind ?_ (fun _ => ?_)
def points_place_order.T1 : Bool × List (List Nat × List Nat) := (true, [([], []), ([0], [0]), ([], []), ([2], [2]), ([1, 3], [1, 3]), ([], []), ([5], [5]), ([], []), ([7], [7]), ([6, 8, 4], [6, 8]), ([4, 9], [4, 9]), ([10, 9], [10]), ([11, 11, 0, 1, 2, 3, 4, 5, 6, 7, 8, 9, 10, 11], [11])])
def points_place_order.B1 : List Nat := [0, 1, 0, 4, 15, 0, 32, 0, 128, 511, 1023, 2047, 4095]
theorem points_place_order.tab1 : rtab .any (opsOf Try.f41 1) = points_place_order.T1 := by kernel_rfl
theorem points_place_order.bits1 : waitsOk points_place_order.T1.2 points_place_order.B1 = true := by kernel_rfl
set_option maxHeartbeats 8000000 in
set_option maxRecDepth 100000 in
theorem points_place_order.calls (k : Nat) (a0_0 : Int) (a0_1 : Int) (a1_0 : Int) (a1_1 : Int) (r : Int) (w : World) (h : points_place_order.f k a0_0 a0_1 a1_0 a1_1 = some r) :
    Calls Try.prog 41 #[.agg #[.int .u64 a0_0, .int .i64 a0_1], .agg #[.int .u64 a1_0, .int .i64 a1_1]] w fun e w' => e = .returned (.int .i64 r) ∧ Below w.heap.size w w' := by
  have hu61 := Try.underlying61
  have HB := Aside0.mk (Below.refl w.heap.size w)
  have H : ((cmp_Compare_uint64.f a0_0 a1_0).bind fun t115 => ((cmp_Compare_int.f a0_1 a1_1).bind fun t116 => ((cmp_Or_int.f k (([t115, t116] : List Int))).bind fun t120 => (some t120)))) = some r := h
  clear h
  replace H := Option.bind_eq_some_iff.mp H
  obtain ⟨t115, A30, H⟩ := H
  replace H : ((cmp_Compare_int.f a0_1 a1_1).bind fun t116 => ((cmp_Or_int.f k (([t115, t116] : List Int))).bind fun t120 => (some t120))) = some r := H
  have A3 := Aside0.mk A30
  clear A30
  replace H := Option.bind_eq_some_iff.mp H
  obtain ⟨t116, A40, H⟩ := H
  replace H : ((cmp_Or_int.f k (([t115, t116] : List Int))).bind fun t120 => (some t120)) = some r := H
  have A4 := Aside0.mk A40
  clear A40
  obtain ⟨y117, hy117⟩ : ∃ y_ : List Int, y_ = (([t115, t116] : List Int)) := ⟨_, rfl⟩
  replace H : ((cmp_Or_int.f k y117).bind fun t120 => (some t120)) = some r := by first | (rw [hy117]; with_reducible exact H) | (have H2_ := (Option.bind_some _ _).symm.trans H; rw [hy117]; with_reducible exact H2_) | (have H2_ := (Option.bind_some _ _).symm.trans H; with_reducible exact H2_) | with_reducible exact H | (rw [hy117]; exact H) | exact H
  have Ny117 := Aside0.mk hy117
  clear hy117
  replace H := Option.bind_eq_some_iff.mp H
  obtain ⟨t120, A50, H⟩ := H
  replace H : (some t120) = some r := H
  have A5 := Aside0.mk A50
  clear A50
  obtain rfl := Option.some.inj H
  go_enter Try.func41, Try.ntmps41
  try go_wp2_with (first | ((with_reducible refine gate_dst (N := 2) rfl ?_); refine box_event ?hg (N := 2) ?hd (cs := #[.int .u64 a0_0, .int .i64 a0_1]) (t := 61) ?hr ?_; (case hd => rfl); (case hg => rfl); (case hr => first | (go_simp; done) | (go_simp; rfl)); intro gb113 hg w6 hbox hb; have n0_ := Aside0.mk (below_step (by repeat (first | (with_reducible first | exact HB.out | apply below_alloc | apply pw_below_drewN | apply below_drew1) | exact HB.out)) hb); have n1_ := Aside0.mk (hbox); have n2_ := Aside0.mk ((by rw [hg]; exact (below_size (by repeat (first | (with_reducible first | exact HB.out | apply below_alloc | apply pw_below_drewN | apply below_drew1) | exact HB.out))) : w.heap.size ≤ gb113)); have n3_ := Aside0.mk ((by rw [hg]; exact (below_size (by repeat (first | (with_reducible first | exact HB.out | apply below_alloc | apply pw_below_drewN | apply below_drew1) | exact HB.out))) : w.heap.size ≤ gb113)); clear HB; have HB := n0_; have BK113 := n1_; have GW113 := n2_; have GE113 := n3_; clear n0_ n1_ n2_ n3_; clear hb hbox hg) | ((with_reducible refine gate_dst (N := 3) rfl ?_); refine box_event ?hg (N := 3) ?hd (cs := #[.int .u64 a1_0, .int .i64 a1_1]) (t := 61) ?hr ?_; (case hd => rfl); (case hg => rfl); (case hr => first | (go_simp; done) | (go_simp; rfl)); intro gb114 hg w7 hbox hb; have n0_ := Aside0.mk (blk_below (g := gb113) (o := .cells #[.int .u64 a0_0, .int .i64 a0_1] 61 (0, 0)) (by (with_reducible repeat (first | refine blk_drewN ?_ _ | refine blk_drew ?_ | refine blk_alloc ?_ _)); exact BK113.out) hb); have n1_ := Aside0.mk (below_step (by repeat (first | (with_reducible first | exact HB.out | apply below_alloc | apply pw_below_drewN | apply below_drew1 | refine below_set ?_ GE113.out) | exact HB.out)) hb); have n2_ := Aside0.mk (hbox); have n3_ := Aside0.mk ((by rw [hg]; exact (below_size (by repeat (first | (with_reducible first | exact HB.out | apply below_alloc | apply pw_below_drewN | apply below_drew1 | refine below_set ?_ GE113.out) | exact HB.out))) : w.heap.size ≤ gb114)); have n4_ := Aside0.mk ((by rw [hg]; exact (below_size (by repeat (first | (with_reducible first | exact HB.out | apply below_alloc | apply pw_below_drewN | apply below_drew1 | refine below_set ?_ GE113.out) | exact HB.out))) : w.heap.size ≤ gb114)); have n5_ := Aside0.mk ((by rw [hg]; exact Nat.ne_of_lt (blk_lt (g := gb113) (o := .cells #[.int .u64 a0_0, .int .i64 a0_1] 61 (0, 0)) (by (with_reducible repeat (first | refine blk_drewN ?_ _ | refine blk_drew ?_ | refine blk_alloc ?_ _)); exact BK113.out)) : gb113 ≠ gb114)); have n6_ := Aside0.mk ((by rw [hg]; exact Nat.ne_of_gt (blk_lt (g := gb113) (o := .cells #[.int .u64 a0_0, .int .i64 a0_1] 61 (0, 0)) (by (with_reducible repeat (first | refine blk_drewN ?_ _ | refine blk_drew ?_ | refine blk_alloc ?_ _)); exact BK113.out)) : gb114 ≠ gb113)); clear BK113; clear HB; have BK113 := n0_; have HB := n1_; have BK114 := n2_; have GW114 := n3_; have GE114 := n4_; have NB113_114 := n5_; have NB114_113 := n6_; clear n0_ n1_ n2_ n3_ n4_ n5_ n6_; clear hb hbox hg))
  have n0_ := Aside0.mk (blk_drew BK113.out)
  have n1_ := Aside0.mk (blk_drew BK114.out)
  have n2_ := Aside0.mk (below_drew1 HB.out)
  clear BK113
  clear BK114
  clear HB
  have BK113 := n0_
  have BK114 := n1_
  have HB := n2_
  clear n0_ n1_ n2_
  refine start_ (n := 13) (S := fun w' => w'.cell? ⟨gb113, 0, none⟩ = some (.int .u64 a0_0) ∧ w'.cell? ⟨gb113, 1, none⟩ = some (.int .i64 a0_1) ∧ w'.cell? ⟨gb114, 0, none⟩ = some (.int .u64 a1_0) ∧ w'.cell? ⟨gb114, 1, none⟩ = some (.int .i64 a1_1)) (ds := []) #[false, false, false, false, false, false, false, false, false, false, false, false, false] (by kernel_rfl) rfl rfl ⟨(blk_cell BK113.out 0).trans rfl, (blk_cell BK113.out 1).trans rfl, (blk_cell BK114.out 0).trans rfl, (blk_cell BK114.out 1).trans rfl⟩ (fun hHeld => ?_); refine with_tabW points_place_order.tab1 points_place_order.bits1 (fun HT_ HW_ => ?_)
  generalize w7.drew = w8 at BK113 BK114 HB hHeld ⊢
  refine pure_ (i := 0) (N := some 5) (v := ?_) (a' := ?_) #[true, false, false, false, false, false, false, false, false, false, false, false, false] rfl rfl (any_of HT_.out (by kernel_rfl)) (fun _ _ _ h => h) (Or.inl ⟨by rfl, ?_⟩) ?_ ?_
  rotate_left
  · intro w'
    go_simp
    with_reducible rfl
  rotate_left
  · simp only [Act.put, List.setIfInBounds_toArray, List.set_cons_zero, List.set_cons_succ, i64_w, i32_w]
    rfl
  refine pure_ (i := 2) (N := some 7) (v := ?_) (a' := ?_) #[true, false, true, false, false, false, false, false, false, false, false, false, false] rfl rfl (any_of HT_.out (by kernel_rfl)) (fun _ _ _ h => h) (Or.inl ⟨by rfl, ?_⟩) ?_ ?_
  rotate_left
  · intro w'
    go_simp
    with_reducible rfl
  rotate_left
  · simp only [Act.put, List.setIfInBounds_toArray, List.set_cons_zero, List.set_cons_succ, i64_w, i32_w]
    rfl
  refine pure_ (i := 5) (N := some 10) (v := ?_) (a' := ?_) #[true, false, true, false, false, true, false, false, false, false, false, false, false] rfl rfl (any_of HT_.out (by kernel_rfl)) (fun _ _ _ h => h) (Or.inl ⟨by rfl, ?_⟩) ?_ ?_
  rotate_left
  · intro w'
    go_simp
    with_reducible rfl
  rotate_left
  · simp only [Act.put, List.setIfInBounds_toArray, List.set_cons_zero, List.set_cons_succ, i64_w, i32_w]
    rfl
  refine pure_ (i := 7) (N := some 12) (v := ?_) (a' := ?_) #[true, false, true, false, false, true, false, true, false, false, false, false, false] rfl rfl (any_of HT_.out (by kernel_rfl)) (fun _ _ _ h => h) (Or.inl ⟨by rfl, ?_⟩) ?_ ?_
  rotate_left
  · intro w'
    go_simp
    with_reducible rfl
  rotate_left
  · simp only [Act.put, List.setIfInBounds_toArray, List.set_cons_zero, List.set_cons_succ, i64_w, i32_w]
    rfl
  refine take_ (i := 1) (N := some 6) (v := ?_) (a' := ?_) #[true, true, true, false, false, true, false, true, false, false, false, false, false] rfl rfl (take_ofW HT_.out HW_.out (by kernel_rfl)) (fun _ _ _ h => h) (Or.inl ⟨by rfl, ?_⟩) hHeld ?_ ?_
  rotate_left
  · rintro w' ⟨s0, s1, s2, s3⟩
    go_simp
    with_reducible rfl
  rotate_left
  · simp only [Act.put, List.setIfInBounds_toArray, List.set_cons_zero, List.set_cons_succ, i64_w, i32_w]
    rfl
  refine take_ (i := 3) (N := some 8) (v := ?_) (a' := ?_) #[true, true, true, true, false, true, false, true, false, false, false, false, false] rfl rfl (take_ofW HT_.out HW_.out (by kernel_rfl)) (fun _ _ _ h => h) (Or.inl ⟨by rfl, ?_⟩) hHeld ?_ ?_
  rotate_left
  · rintro w' ⟨s0, s1, s2, s3⟩
    go_simp
    with_reducible rfl
  rotate_left
  · simp only [Act.put, List.setIfInBounds_toArray, List.set_cons_zero, List.set_cons_succ, i64_w, i32_w]
    rfl
  refine take_ (i := 6) (N := some 11) (v := ?_) (a' := ?_) #[true, true, true, true, false, true, true, true, false, false, false, false, false] rfl rfl (take_ofW HT_.out HW_.out (by kernel_rfl)) (fun _ _ _ h => h) (Or.inl ⟨by rfl, ?_⟩) hHeld ?_ ?_
  rotate_left
  · rintro w' ⟨s0, s1, s2, s3⟩
    go_simp
    with_reducible rfl
  rotate_left
  · simp only [Act.put, List.setIfInBounds_toArray, List.set_cons_zero, List.set_cons_succ, i64_w, i32_w]
    rfl
  refine take_ (i := 8) (N := some 13) (v := ?_) (a' := ?_) #[true, true, true, true, false, true, true, true, true, false, false, false, false] rfl rfl (take_ofW HT_.out HW_.out (by kernel_rfl)) (fun _ _ _ h => h) (Or.inl ⟨by rfl, ?_⟩) hHeld ?_ ?_
  rotate_left
  · rintro w' ⟨s0, s1, s2, s3⟩
    go_simp
    with_reducible rfl
  rotate_left
  · simp only [Act.put, List.setIfInBounds_toArray, List.set_cons_zero, List.set_cons_succ, i64_w, i32_w]
    rfl
  refine one_ (i := 4) (N := some 9) #[true, true, true, true, true, true, true, true, true, false, false, false, false] rfl rfl (one_of HT_.out (by kernel_rfl)) (by decide) (fun K hK => ?_)
  refine goes_ Try.func64 (by kernel_rfl) rfl #[.int .u64 a0_0, .int .u64 a1_0] (by rfl) rfl rfl (by (try simp only [List.map_toArray, List.map_cons, List.map_nil]); first | done | rfl | (simp only [List.length_drop, List.length_take]; rfl)) ?_
  with_reducible refine (cmp_Compare_uint64.calls a0_0 a1_0 t115 _ A3.out).mono ?_
  rintro e w' ⟨rfl, ⟨nd, rfl⟩⟩
  refine ⟨_, rfl, ?_⟩
  refine hK.out _ _ ⟨(blk_cell BK113.out 0).trans rfl, (blk_cell BK113.out 1).trans rfl, (blk_cell BK114.out 0).trans rfl, (blk_cell BK114.out 1).trans rfl⟩ (fun hHeld => ?_)
  clear hK K
  refine norm_ (a' := ?_) ?_ ?_
  rotate_left
  · show Act.put _ (some 9) _ = _
    simp only [Act.put, List.setIfInBounds_toArray, List.set_cons_zero, List.set_cons_succ, i64_w, i32_w]
    rfl
  refine one_ (i := 9) (N := some 14) #[true, true, true, true, true, true, true, true, true, true, false, false, false] rfl rfl (one_of HT_.out (by kernel_rfl)) (by decide) (fun K hK => ?_)
  refine goes_ Try.func59 (by kernel_rfl) rfl #[.int .i64 a0_1, .int .i64 a1_1] (by rfl) rfl rfl (by (try simp only [List.map_toArray, List.map_cons, List.map_nil]); first | done | rfl | (simp only [List.length_drop, List.length_take]; rfl)) ?_
  with_reducible refine (cmp_Compare_int.calls a0_1 a1_1 t116 _ A4.out).mono ?_
  rintro e w' ⟨rfl, ⟨nd, rfl⟩⟩
  refine ⟨_, rfl, ?_⟩
  refine hK.out _ _ ⟨(blk_cell BK113.out 0).trans rfl, (blk_cell BK113.out 1).trans rfl, (blk_cell BK114.out 0).trans rfl, (blk_cell BK114.out 1).trans rfl⟩ (fun hHeld => ?_)
  clear hK K
  refine norm_ (a' := ?_) ?_ ?_
  rotate_left
  · show Act.put _ (some 14) _ = _
    simp only [Act.put, List.setIfInBounds_toArray, List.set_cons_zero, List.set_cons_succ, i64_w, i32_w]
    rfl
  refine one_ (i := 10) (N := some 15) #[true, true, true, true, true, true, true, true, true, true, true, false, false] rfl rfl (one_of HT_.out (by kernel_rfl)) (by decide) (fun K hK => ?_)
  refine Kd.R_lit_step (Kd.int .i64) _ 3 ?hg (N := 15) ?hd (xs := ([t115, t116] : List Int)) (inner := [.int .i64 t115, .int .i64 t116]) (ok := fun _ => True) (okp := fun _ => True) ?hr ?hp (fun _ hk => hk) trivial (Below.refl _ _) (Nat.le_refl _) (by simp) ?_; (case hd => rfl); (case hg => rfl); (case hr => first | (go_simp; done) | (go_simp; rfl)); (case hp => exact (Reps.one (show Kd.M (Kd.int .i64) _ _ _ t115 [.int .i64 t115] from rfl) (Reps.one (show Kd.M (Kd.int .i64) _ _ _ t116 [.int .i64 t116] from rfl) (Reps.none _ _))))
  intro v118 w9 ho10 hb hg_ hnew_
  clear hg_ hnew_
  (first | rw [← Ny117.out] at ho10 | (simp only [Int.reduceToNat] at ho10; rw [← Ny117.out] at ho10))
  have n0_ := Aside0.mk (Kd.R_lower ho10 (below_size (by repeat (first | (with_reducible first | exact HB.out | apply below_alloc | apply pw_below_drewN | apply below_drew1 | refine below_set ?_ GE113.out | refine below_set ?_ GE114.out) | exact HB.out))))
  have n1_ := Aside0.mk (blk_below (g := gb113) (o := .cells #[.int .u64 a0_0, .int .i64 a0_1] 61 (0, 0)) (by (with_reducible repeat (first | refine blk_drewN ?_ _ | refine blk_drew ?_ | refine blk_alloc ?_ _)); exact BK113.out) hb)
  have n2_ := Aside0.mk (blk_below (g := gb114) (o := .cells #[.int .u64 a1_0, .int .i64 a1_1] 61 (0, 0)) (by (with_reducible repeat (first | refine blk_drewN ?_ _ | refine blk_drew ?_ | refine blk_alloc ?_ _)); exact BK114.out) hb)
  have n3_ := Aside0.mk (below_step (by repeat (first | (with_reducible first | exact HB.out | apply below_alloc | apply pw_below_drewN | apply below_drew1 | refine below_set ?_ GE113.out | refine below_set ?_ GE114.out) | exact HB.out)) hb)
  clear BK113
  clear BK114
  clear HB
  have HO119 := n0_
  have BK113 := n1_
  have BK114 := n2_
  have HB := n3_
  clear n0_ n1_ n2_ n3_
  clear hb ho10
  obtain ⟨Ao11, co11, eo11⟩ := Kd.R_slice HO119.out
  (first | subst eo11 | (injection eo11 with f1_ f2_ f3_; have f4_ := f1_.symm; have f5_ := f3_.symm; clear f1_ f2_ f3_; subst f4_; subst f5_))
  refine hK.out _ _ ⟨(blk_cell BK113.out 0).trans rfl, (blk_cell BK113.out 1).trans rfl, (blk_cell BK114.out 0).trans rfl, (blk_cell BK114.out 1).trans rfl⟩ (fun hHeld => ?_)
  clear hK K
  refine norm_ (a' := ?_) ?_ ?_
  rotate_left
  · show Act.put _ (some 15) _ = _
    simp only [Act.put, List.setIfInBounds_toArray, List.set_cons_zero, List.set_cons_succ, i64_w, i32_w]
    rfl
  refine one_ (i := 11) (N := some 16) #[true, true, true, true, true, true, true, true, true, true, true, true, false] rfl rfl (one_of HT_.out (by kernel_rfl)) (by decide) (fun K hK => ?_)
  refine goes_ Try.func63 (by kernel_rfl) rfl #[.slice Ao11 y117.length co11] (by rfl) rfl rfl (by (try simp only [List.map_toArray, List.map_cons, List.map_nil]); first | done | rfl | (simp only [List.length_drop, List.length_take]; rfl)) ?_
  with_reducible refine (cmp_Or_int.calls k _ _ y117 t120 _ ?side1 ?side2 A5.out).mono ?_
  (case side1 => repeat (first | exact (Kd.R_reads' HO119.out).2.2 | (with_reducible refine Kd.C_alloc ?_ _) | (with_reducible refine Kd.C_drewN ?_ _) | (with_reducible refine Kd.C_drew ?_)))
  (case side2 => exact (Kd.R_reads' HO119.out).2.1)
  rintro e w' ⟨rfl, ⟨nd, rfl⟩⟩
  refine ⟨_, rfl, ?_⟩
  refine hK.out _ _ ⟨(blk_cell BK113.out 0).trans rfl, (blk_cell BK113.out 1).trans rfl, (blk_cell BK114.out 0).trans rfl, (blk_cell BK114.out 1).trans rfl⟩ (fun hHeld => ?_)
  clear hK K
  refine norm_ (a' := ?_) ?_ ?_
  rotate_left
  · show Act.put _ (some 16) _ = _
    simp only [Act.put, List.setIfInBounds_toArray, List.set_cons_zero, List.set_cons_succ, i64_w, i32_w]
    rfl
  refine pure_ (i := 12) (N := some 4) (v := ?_) (a' := ?_) #[true, true, true, true, true, true, true, true, true, true, true, true, true] rfl rfl (any_of HT_.out (by kernel_rfl)) (fun _ _ _ h => h) (Or.inl ⟨by rfl, ?_⟩) ?_ ?_
  rotate_left
  · intro w'
    go_simp
    with_reducible rfl
  rotate_left
  · simp only [Act.put, List.setIfInBounds_toArray, List.set_cons_zero, List.set_cons_succ, i64_w, i32_w]
    rfl
  refine done_ (done_of HT_.out (by kernel_rfl)) ?_
  try go_wp2
  go_ret
  exact ⟨by first | rfl | (simp [errW_none, errW_some] <;> rfl) | (simp [*, errW_none, errW_some] <;> rfl), by repeat (first | (with_reducible first | exact HB.out | apply below_alloc | apply pw_below_drewN | apply below_drew1 | refine below_set ?_ GE113.out | refine below_set ?_ GE114.out) | exact HB.out)⟩

-- NOT PRINTED: function 90 (points_place_90)

-- NOT PRINTED: function 102 (points_place_102)

-- NOT PRINTED: function 91 (points_place_91)

-- NOT PRINTED: function 104 (slices_xorshift_Next)

-- NOT PRINTED: function 92 (points_place_92)

-- NOT PRINTED: function 108 (points_place_108)

-- NOT PRINTED: function 106 (points_place_106)

-- NOT PRINTED: function 105 (points_place_105)

-- NOT PRINTED: function 93 (points_place_93)

-- NOT PRINTED: function 94 (points_place_94)

-- NOT PRINTED: function 95 (points_place_95)

-- NOT PRINTED: function 96 (points_place_96)

-- NOT PRINTED: function 97 (points_place_97)

-- NOT PRINTED: function 81 (points_place_81)

/-! ### points_place_61: function 61 -/
section
open Go.Sort (grow grow_empty grow_grow alloc_eq_grow)
open Go.Shelf Go.Proofs.Ytcekkbimdogboaa.Hand
/-- World w' is w with draws, and blocks behind it. -/
def Gr (w w' : World) : Prop := ∃ q os, w' = grow (w.drewN q) os
theorem Gr.refl (w : World) : Gr w w := ⟨0, #[], by rw [grow_empty]; rfl⟩
theorem Gr.alloc {w W : World} (h : Gr w W) (o : Obj) : Gr w (W.alloc o) := by
  obtain ⟨q, os, rfl⟩ := h
  exact ⟨q, os ++ #[o], by rw [alloc_eq_grow, grow_grow]⟩
theorem Gr.drewN {w W : World} (h : Gr w W) (n : Nat) : Gr w (W.drewN n) := by
  obtain ⟨q, os, rfl⟩ := h
  exact ⟨q + n, os, by show grow ((w.drewN q).drewN n) os = _; rw [World.drewN_drewN]⟩
theorem Gr.drew {w W : World} (h : Gr w W) : Gr w W.drew := h.drewN 1
def cmpI (a b : Int) : Int := if a < b then -1 else if b < a then 1 else 0
theorem cmpI_some (a b : Int) : (if a < b then some (-1) else if b < a then some 1 else some 0) = some (cmpI a b) := by
  unfold cmpI
  split
  · rfl
  · split <;> rfl
theorem cmpI_int (a b : Int) : cmp_Compare_int.f a b = some (cmpI a b) := by
  rw [← cmpI_some]; unfold cmp_Compare_int.f cmp_isNaN_int.f; simp
theorem cmpI_u64 (a b : Int) : cmp_Compare_uint64.f a b = some (cmpI a b) := by
  rw [← cmpI_some]; unfold cmp_Compare_uint64.f cmp_isNaN_uint64.f; simp
def orI (a b : Int) : Int := if a = 0 then b else a
theorem orI_eq (a b : Int) : cmp_Or_int.f 3 [a, b] = some (orI a b) := by
  have w1 : wrap64 1 = 1 := by unfold wrap64; omega
  have w2 : wrap64 2 = 2 := by unfold wrap64; omega
  unfold cmp_Or_int.f orI
  by_cases h : a = 0
  · by_cases h2 : b = 0
    · simp [cmp_Or_int.l0, rd, h, h2, w1, w2]
    · simp [cmp_Or_int.l0, rd, h, h2, w1, w2]
  · simp [cmp_Or_int.l0, rd, h]
def ordI (x y : S61) : Int := orI (cmpI x.f0 y.f0) (cmpI x.f1 y.f1)
set_option maxRecDepth 100000 in
set_option maxHeartbeats 8000000 in
theorem order_grown (x y : S61) (W : World) : Calls Try.prog 41 #[.agg #[.int .u64 x.f0, .int .i64 x.f1], .agg #[.int .u64 y.f0, .int .i64 y.f1]] W fun e w' => e = .returned (.int .i64 (ordI x y)) ∧ Gr W w' := by
  unfold ordI
  have hA := fun w => cmp_Compare_uint64.calls x.f0 y.f0 _ w (cmpI_u64 x.f0 y.f0)
  have hB := fun w => cmp_Compare_int.calls x.f1 y.f1 _ w (cmpI_int x.f1 y.f1)
  generalize cmpI x.f0 y.f0 = p at hA ⊢
  generalize cmpI x.f1 y.f1 = q at hB ⊢
  have hO := fun A w h => cmp_Or_int.calls 3 A 2 [p, q] _ w h (by simp) (orI_eq p q)
  generalize orI p q = r at hO ⊢
  have HA := Lib.hid hA
  have HB := Lib.hid hB
  have HO := Lib.hid hO
  clear hA hB hO
  go_enter Try.func41, Try.ntmps41
  go_wp2
  have b1 := Blk.new W 61 [.int .u64 x.f0, .int .i64 x.f1]
  have b2 := Blk.new (W.alloc (.cells #[.int .u64 x.f0, .int .i64 x.f1] 61)) 61 [.int .u64 y.f0, .int .i64 y.f1]
  replace b1 := b1.alloc (.cells #[.int .u64 y.f0, .int .i64 y.f1] 61)
  have hg0 : Gr W ((W.alloc (.cells #[.int .u64 x.f0, .int .i64 x.f1] 61)).alloc (.cells #[.int .u64 y.f0, .int .i64 y.f1] 61)) := ((Gr.refl _).alloc _).alloc _
  obtain ⟨W0, hW0⟩ : ∃ W0, ((W.alloc (.cells #[.int .u64 x.f0, .int .i64 x.f1] 61)).alloc (.cells #[.int .u64 y.f0, .int .i64 y.f1] 61)) = W0 := ⟨_, rfl⟩
  have hs0 : (W.alloc (.cells #[.int .u64 x.f0, .int .i64 x.f1] 61)).heap.size = W.heap.size + 1 := by simp
  rw [hW0] at b1 b2 hg0 ⊢
  rw [hs0] at b2
  clear hW0 hs0
  have BB := Lib.hid b1
  have BC := Lib.hid b2
  have HG0 := Lib.hid hg0
  clear b1 b2 hg0
  refine start_ (n := 13) (S := (fun w' => w'.cell? ⟨W.heap.size, 0, none⟩ = some (.int .u64 x.f0) ∧ w'.cell? ⟨W.heap.size, 1, none⟩ = some (.int .i64 x.f1) ∧ w'.cell? ⟨W.heap.size + 1, 0, none⟩ = some (.int .u64 y.f0) ∧ w'.cell? ⟨W.heap.size + 1, 1, none⟩ = some (.int .i64 y.f1))) (ds := []) #[false, false, false, false, false, false, false, false, false, false, false, false, false] (by kernel_rfl) rfl rfl ⟨(BB.out.cell 0).trans rfl, (BB.out.cell 1).trans rfl, (BC.out.cell 0).trans rfl, (BC.out.cell 1).trans rfl⟩ (fun hHeld => ?_); refine with_tabW points_place_order.tab1 points_place_order.bits1 (fun HT_ HW_ => ?_)
  refine pure_ (i := 0) (N := some 5) (v := ?_) (a' := ?_) #[true, false, false, false, false, false, false, false, false, false, false, false, false] rfl rfl (any_of HT_.out (by kernel_rfl)) (fun _ _ _ h => h) (Or.inl ⟨by rfl, ?_⟩) ?_ ?_
  rotate_left
  · intro w'
    go_simp
    with_reducible rfl
  rotate_left
  · simp only [Act.put, List.setIfInBounds_toArray, List.set_cons_zero, List.set_cons_succ, i64_w, i32_w]
    rfl
  refine pure_ (i := 2) (N := some 7) (v := ?_) (a' := ?_) #[true, false, true, false, false, false, false, false, false, false, false, false, false] rfl rfl (any_of HT_.out (by kernel_rfl)) (fun _ _ _ h => h) (Or.inl ⟨by rfl, ?_⟩) ?_ ?_
  rotate_left
  · intro w'
    go_simp
    with_reducible rfl
  rotate_left
  · simp only [Act.put, List.setIfInBounds_toArray, List.set_cons_zero, List.set_cons_succ, i64_w, i32_w]
    rfl
  refine pure_ (i := 5) (N := some 10) (v := ?_) (a' := ?_) #[true, false, true, false, false, true, false, false, false, false, false, false, false] rfl rfl (any_of HT_.out (by kernel_rfl)) (fun _ _ _ h => h) (Or.inl ⟨by rfl, ?_⟩) ?_ ?_
  rotate_left
  · intro w'
    go_simp
    with_reducible rfl
  rotate_left
  · simp only [Act.put, List.setIfInBounds_toArray, List.set_cons_zero, List.set_cons_succ, i64_w, i32_w]
    rfl
  refine pure_ (i := 7) (N := some 12) (v := ?_) (a' := ?_) #[true, false, true, false, false, true, false, true, false, false, false, false, false] rfl rfl (any_of HT_.out (by kernel_rfl)) (fun _ _ _ h => h) (Or.inl ⟨by rfl, ?_⟩) ?_ ?_
  rotate_left
  · intro w'
    go_simp
    with_reducible rfl
  rotate_left
  · simp only [Act.put, List.setIfInBounds_toArray, List.set_cons_zero, List.set_cons_succ, i64_w, i32_w]
    rfl
  refine take_ (i := 1) (N := some 6) (v := ?_) (a' := ?_) #[true, true, true, false, false, true, false, true, false, false, false, false, false] rfl rfl (take_ofW HT_.out HW_.out (by kernel_rfl)) (fun _ _ _ h => h) (Or.inl ⟨by rfl, ?_⟩) hHeld ?_ ?_
  rotate_left
  · rintro w' ⟨s0, s1, s2, s3⟩
    go_simp
    with_reducible rfl
  rotate_left
  · simp only [Act.put, List.setIfInBounds_toArray, List.set_cons_zero, List.set_cons_succ, i64_w, i32_w]
    rfl
  refine take_ (i := 3) (N := some 8) (v := ?_) (a' := ?_) #[true, true, true, true, false, true, false, true, false, false, false, false, false] rfl rfl (take_ofW HT_.out HW_.out (by kernel_rfl)) (fun _ _ _ h => h) (Or.inl ⟨by rfl, ?_⟩) hHeld ?_ ?_
  rotate_left
  · rintro w' ⟨s0, s1, s2, s3⟩
    go_simp
    with_reducible rfl
  rotate_left
  · simp only [Act.put, List.setIfInBounds_toArray, List.set_cons_zero, List.set_cons_succ, i64_w, i32_w]
    rfl
  refine take_ (i := 6) (N := some 11) (v := ?_) (a' := ?_) #[true, true, true, true, false, true, true, true, false, false, false, false, false] rfl rfl (take_ofW HT_.out HW_.out (by kernel_rfl)) (fun _ _ _ h => h) (Or.inl ⟨by rfl, ?_⟩) hHeld ?_ ?_
  rotate_left
  · rintro w' ⟨s0, s1, s2, s3⟩
    go_simp
    with_reducible rfl
  rotate_left
  · simp only [Act.put, List.setIfInBounds_toArray, List.set_cons_zero, List.set_cons_succ, i64_w, i32_w]
    rfl
  refine take_ (i := 8) (N := some 13) (v := ?_) (a' := ?_) #[true, true, true, true, false, true, true, true, true, false, false, false, false] rfl rfl (take_ofW HT_.out HW_.out (by kernel_rfl)) (fun _ _ _ h => h) (Or.inl ⟨by rfl, ?_⟩) hHeld ?_ ?_
  rotate_left
  · rintro w' ⟨s0, s1, s2, s3⟩
    go_simp
    with_reducible rfl
  rotate_left
  · simp only [Act.put, List.setIfInBounds_toArray, List.set_cons_zero, List.set_cons_succ, i64_w, i32_w]
    rfl
  refine one_ (i := 4) (N := some 9) #[true, true, true, true, true, true, true, true, true, false, false, false, false] rfl rfl (one_of HT_.out (by kernel_rfl)) (by decide) (fun K hK => ?_)
  refine goes_ Try.func64 (by kernel_rfl) rfl #[.int .u64 x.f0, .int .u64 y.f0] (by rfl) rfl rfl (by simp only [List.map_toArray, List.map_cons, List.map_nil]; first | done | rfl) ?_
  refine (HA.out _).mono ?_
  rintro e w' ⟨rfl, ⟨n1, rfl⟩⟩
  refine ⟨_, rfl, ?_⟩
  refine hK.out _ _ ⟨(BB.out.cell 0).trans rfl, (BB.out.cell 1).trans rfl, (BC.out.cell 0).trans rfl, (BC.out.cell 1).trans rfl⟩ (fun hHeld => ?_)
  clear hK K
  refine norm_ (a' := ?_) ?_ ?_
  rotate_left
  · show Act.put _ (some 9) _ = _
    simp only [Act.put, List.setIfInBounds_toArray, List.set_cons_zero, List.set_cons_succ, i64_w, i32_w]
    rfl
  refine one_ (i := 9) (N := some 14) #[true, true, true, true, true, true, true, true, true, true, false, false, false] rfl rfl (one_of HT_.out (by kernel_rfl)) (by decide) (fun K hK => ?_)
  refine goes_ Try.func59 (by kernel_rfl) rfl #[.int .i64 x.f1, .int .i64 y.f1] (by rfl) rfl rfl (by simp only [List.map_toArray, List.map_cons, List.map_nil]; first | done | rfl) ?_
  refine (HB.out _).mono ?_
  rintro e w' ⟨rfl, ⟨n2, rfl⟩⟩
  refine ⟨_, rfl, ?_⟩
  refine hK.out _ _ ⟨(BB.out.cell 0).trans rfl, (BB.out.cell 1).trans rfl, (BC.out.cell 0).trans rfl, (BC.out.cell 1).trans rfl⟩ (fun hHeld => ?_)
  clear hK K
  refine norm_ (a' := ?_) ?_ ?_
  rotate_left
  · show Act.put _ (some 14) _ = _
    simp only [Act.put, List.setIfInBounds_toArray, List.set_cons_zero, List.set_cons_succ, i64_w, i32_w]
    rfl
  refine one_ (i := 10) (N := some 15) #[true, true, true, true, true, true, true, true, true, true, true, false, false] rfl rfl (one_of HT_.out (by kernel_rfl)) (by decide) (fun K hK => ?_)
  refine value_ (v := .slice (some ⟨W0.heap.size, 0, none⟩) 2 2) (w1 := (W0.drewN (1 + n1 + n2)).alloc (.cells #[.int .i64 p, .int .i64 q] 3)) rfl rfl (by first | (go_simp; done) | (go_simp; rfl)) ?_
  have hb2 := BB.out.alloc (.cells #[.int .i64 p, .int .i64 q] 3)
  have hc2 := BC.out.alloc (.cells #[.int .i64 p, .int .i64 q] 3)
  clear BB BC
  have BB := Lib.hid hb2
  have BC := Lib.hid hc2
  clear hb2 hc2
  refine hK.out _ _ ⟨(BB.out.cell 0).trans rfl, (BB.out.cell 1).trans rfl, (BC.out.cell 0).trans rfl, (BC.out.cell 1).trans rfl⟩ (fun hHeld => ?_)
  clear hK K
  refine norm_ (a' := ?_) ?_ ?_
  rotate_left
  · show Act.put _ (some 15) _ = _
    simp only [Act.put, List.setIfInBounds_toArray, List.set_cons_zero, List.set_cons_succ, i64_w, i32_w]
    rfl
  refine one_ (i := 11) (N := some 16) #[true, true, true, true, true, true, true, true, true, true, true, true, false] rfl rfl (one_of HT_.out (by kernel_rfl)) (by decide) (fun K hK => ?_)
  refine goes_ Try.func63 (by kernel_rfl) rfl #[.slice (some ⟨W0.heap.size, 0, none⟩) 2 2] (by rfl) rfl rfl (by simp only [List.map_toArray, List.map_cons, List.map_nil]; first | done | rfl) ?_
  refine (HO.out _ _ ?ho).mono ?_
  case ho =>
    have own : ((W0.drewN (1 + n1 + n2)).alloc (.cells #[.int .i64 p, .int .i64 q] 3)).ownsRow 0 3 1 (.slice (some ⟨W0.heap.size, 0, none⟩) 2 2) 2 [.int .i64 p, .int .i64 q] := ⟨rfl, .inr ⟨_, 2, _, rfl, Nat.zero_le _, heap_alloc_new _ _, Nat.le_refl _, by decide, rfl, rfl⟩⟩
    exact (Kd.R_reads' (Kd.R_of_own (xs := [p, q]) own (fun _ _ => trivial))).2.2
  rintro e w' ⟨rfl, ⟨n3, rfl⟩⟩
  refine ⟨_, rfl, ?_⟩
  refine hK.out _ _ ⟨(BB.out.cell 0).trans rfl, (BB.out.cell 1).trans rfl, (BC.out.cell 0).trans rfl, (BC.out.cell 1).trans rfl⟩ (fun hHeld => ?_)
  clear hK K
  refine norm_ (a' := ?_) ?_ ?_
  rotate_left
  · show Act.put _ (some 16) _ = _
    simp only [Act.put, List.setIfInBounds_toArray, List.set_cons_zero, List.set_cons_succ, i64_w, i32_w]
    rfl
  refine pure_ (i := 12) (N := some 4) (v := ?_) (a' := ?_) #[true, true, true, true, true, true, true, true, true, true, true, true, true] rfl rfl (any_of HT_.out (by kernel_rfl)) (fun _ _ _ h => h) (Or.inl ⟨by rfl, ?_⟩) ?_ ?_
  rotate_left
  · intro w'
    go_simp
    with_reducible rfl
  rotate_left
  · simp only [Act.put, List.setIfInBounds_toArray, List.set_cons_zero, List.set_cons_succ, i64_w, i32_w]
    rfl
  refine done_ (done_of HT_.out (by kernel_rfl)) ?_
  try go_wp2
  go_ret
  exact ⟨rfl, ((HG0.out.drewN _).alloc _).drewN _⟩
/-- A place's two cells. -/
def encPl (x : S61) : List Value := [.int .u64 x.f0, .int .i64 x.f1]
theorem encPl_len (x : S61) : (encPl x).length = 2 := rfl
theorem encPl_one (x : S61) : ∀ v ∈ encPl x, v.oneCell' = true := fun v hv => by simp [encPl] at hv; rcases hv with rfl | rfl <;> rfl
instance inhPl : Inhabited S61 := ⟨z61⟩
theorem ordI_neg (x y : S61) : ordI x y < 0 ↔ x.f0 < y.f0 ∨ (x.f0 = y.f0 ∧ x.f1 < y.f1) := by
  unfold ordI orI cmpI; split <;> (repeat' split) <;> omega
theorem ltOrd (x y : S61) : ltOf ordI x y = decide (x.f0 < y.f0 ∨ (x.f0 = y.f0 ∧ x.f1 < y.f1)) := by
  unfold ltOf; exact decide_eq_decide.2 (ordI_neg x y)
theorem swoOrd : Go.Sort.SWO (ltOf ordI) where
  irrefl x := by rw [ltOrd]; simp
  trans x y z h1 h2 := by rw [ltOrd] at *; simp at *; omega
  ntrans x y z h1 h2 := by rw [ltOrd] at *; simp at *; omega
theorem totOrd (x y : S61) (h1 : ltOf ordI x y = false) (h2 : ltOf ordI y x = false) : x = y := by
  rw [ltOrd] at *
  obtain ⟨a, b⟩ := x
  obtain ⟨c, d⟩ := y
  simp at h1 h2
  obtain rfl : a = c := by omega
  obtain rfl : b = d := by omega
  rfl
/-- Places in order. -/
def srtL (l : List S61) : List S61 := l.mergeSort fun x y => !(ltOf ordI y x)
theorem srtL_len (l : List S61) : (srtL l).length = l.length := List.length_mergeSort l
theorem reps_flatMap {α : Type} {R : α → List Value → Prop} {enc : α → List Value} {k : Nat} (hR : ∀ p c, R p c → c = enc p) : ∀ (xs : List α) (cs : List Value), Reps R k xs cs → cs = xs.flatMap enc
  | [], cs, h => by have := h.1; simp at this; simp [this]
  | x :: l, cs, h => by
    have h0 := hR _ _ (h.2 0 x rfl)
    have hl := h.1
    rw [Nat.zero_mul, List.drop_zero] at h0
    have ht : Reps R k l (cs.drop k) := ⟨by rw [List.length_drop, hl, List.length_cons, Nat.add_mul, Nat.one_mul, Nat.add_sub_cancel], fun j p hj => by
      have := h.2 (j + 1) p hj
      rw [List.drop_drop, show k + j * k = (j + 1) * k by rw [Nat.add_mul, Nat.one_mul, Nat.add_comm]]
      exact this⟩
    have ih := reps_flatMap hR l _ ht
    rw [List.flatMap_cons, ← h0, ← ih, List.take_append_drop]
theorem ptVs_flat (l : List S61) : ptVs l = l.flatMap encPl := rfl
set_option maxRecDepth 100000 in
set_option maxHeartbeats 4000000 in
theorem SortFunc_pts (v : Value) (xs : List S61) (hl : xs.length ≤ 100000000) (n₀ : Nat) (W : World) (hn : n₀ ≤ W.heap.size) (hR : Kd.R k61 61 W n₀ (fun _ => True) v xs) :
    Calls Try.prog 61 #[v, .func (.func 41) #[] #[]] W fun e w' => e = .returned (.tuple #[]) ∧ Kd.R k61 61 w' n₀ (fun _ => True) v (srtL xs) ∧ Below n₀ W w' := by
  cases hx : xs with
  | nil =>
    subst hx
    obtain ⟨A, c, rfl⟩ := Kd.R_slice hR
    have hcon := AnyF.slices_SortFunc_none Try.sortPl A c (.func (.func 41) #[] #[]) W
    change Calls Try.prog 61 _ _ _ at hcon
    refine hcon.mono ?_
    rintro e w' ⟨rfl, rfl⟩
    exact ⟨rfl, by simpa [srtL] using hR, Below.refl _ _⟩
  | cons x0 l0 =>
    have hpos : 0 < xs.length := by rw [hx]; simp
    rw [← hx]
    obtain ⟨g, cap, rfl, hg1, hg2, _⟩ := Kd.R_form hR hpos
    obtain ⟨_, inner, ho, hr⟩ := hR
    obtain rfl := reps_flatMap (enc := encPl) (fun p c h => k61_openM h) xs inner hr
    have ho' : W.ownsRow n₀ 61 2 (.slice (some ⟨g, 0, none⟩) xs.length cap) xs.length (xs.flatMap encPl) := ho
    obtain ⟨hH, _⟩ := holdsK_own encPl_len ho'
    have eg : ∀ args w, (callFunc 41 args).run Try.prog w = .ok (.enter 41 args) w := enters_of Try.func41 (by kernel_rfl) rfl
    have hcon := AnyQ.slices_SortFunc_total Try.sortPl 2 Try.isAgg61 Try.sizeOf61 encPl encPl_len encPl_one ordI swoOrd 41 #[] g 0 cap xs.toArray W eg (fun _ _ _ _ x y => order_grown x y _) hH hg2 (by simp; omega) totOrd
    change Calls Try.prog 61 _ _ _ at hcon
    rw [show xs.toArray.size = xs.length from rfl] at hcon
    refine hcon.mono ?_
    rintro e w' ⟨rfl, n, os, rfl⟩
    rw [show xs.toArray.toList = xs from rfl]
    have h2 := own_sorted encPl_len ho' (srtL_len xs) n os
    rw [srtL_len] at h2
    refine ⟨rfl, R_pts (by rw [srtL_len]; exact h2), sorted_below _ _ _ _ _ _ _ _ hg1 hn⟩
end

-- NOT PRINTED: function 39 (points_place_39)

/-! ### points_Of: function 17 -/
section
open Go.Shelf Go.Proofs.Ytcekkbimdogboaa.Hand
theorem AppendSeq_any (Bt : Nat) (A : Option Addr) (c : Nat) (ps : List S39) (hps : ps.length ≤ 100000) (hpc : ps.length ≤ c) (w : World) (hC : Kd.C k39 w A ps.length ps) (ht : Blk w Bt 22 [.slice A ps.length c]) :
    Calls Try.prog 80 #[.slice none 0 0, .func (.func 62) #[] #[.pointer (some ⟨Bt, 0, none⟩)]] w fun e W' => ∃ v, e = .returned v ∧ Kd.R k61 61 W' w.heap.size (fun _ => True) v (ptsT ps) ∧ Below w.heap.size w W' :=
  (callsIn_wide (n := 6)).1 (AppendSeq_pts 6 (by omega) Bt A c ps hps hpc w hC ht)
set_option maxHeartbeats 1000000 in
theorem Collect_pts (Bt : Nat) (A : Option Addr) (c : Nat) (ps : List S39) (hps : ps.length ≤ 100000) (hpc : ps.length ≤ c) (w : World) (hC : Kd.C k39 w A ps.length ps) (ht : Blk w Bt 22 [.slice A ps.length c]) :
    Calls Try.prog 60 #[.func (.func 62) #[] #[.pointer (some ⟨Bt, 0, none⟩)]] w fun e W' => ∃ v, e = .returned v ∧ Kd.R k61 61 W' w.heap.size (fun _ => True) v (ptsT ps) ∧ Below w.heap.size w W' := by
  have hA := Lib.hid (AppendSeq_any Bt A c ps hps hpc w hC ht)
  clear hC ht hps hpc
  go_enter Try.func60, Try.ntmps60
  go_wp2_with (go_at_call 80; refine hA.out.mono ?_; rintro e w1 ⟨v, rfl, hr, hb⟩; have HR := Lib.hid hr; have HB := Lib.hid hb; clear hr hb)
  go_ret
  exact ⟨v, rfl, HR.out, HB.out⟩
set_option maxHeartbeats 1000000 in
theorem SortedFunc_pts (Bt : Nat) (A : Option Addr) (c : Nat) (ps : List S39) (hps : ps.length ≤ 100000) (hpc : ps.length ≤ c) (w : World) (hC : Kd.C k39 w A ps.length ps) (ht : Blk w Bt 22 [.slice A ps.length c]) :
    Calls Try.prog 39 #[.func (.func 62) #[] #[.pointer (some ⟨Bt, 0, none⟩)], .func (.func 41) #[] #[]] w fun e W' => ∃ v, e = .returned v ∧ Kd.R k61 61 W' w.heap.size (fun _ => True) v (srtL (ptsT ps)) ∧ Below w.heap.size w W' := by
  have hln := ptsT_len ps
  have hA := Lib.hid (Collect_pts Bt A c ps hps hpc w hC ht)
  have HL := Lib.hid (show (ptsT ps).length ≤ 100000000 by omega)
  clear hC ht hps hpc hln
  go_enter Try.func39, Try.ntmps39
  go_wp2_with (first
    | (go_at_call 60; refine hA.out.mono ?_; rintro e w1 ⟨v, rfl, hr, hb⟩; have HR := Lib.hid hr; have HB := Lib.hid hb; clear hr hb)
    | (go_at_call 61; refine (SortFunc_pts v (ptsT ps) HL.out w.heap.size _ HB.out.size HR.out).mono ?_; rintro e w2 ⟨rfl, hr, hb⟩; have HR2 := Lib.hid hr; have HB2 := Lib.hid hb; clear hr hb))
  go_ret
  exact ⟨v, rfl, HR2.out, HB.out.trans HB2.out⟩
/-- Does one point stand ahead of another? -/
def lessP (x y : S30) : Bool := decide (x.f0 < y.f0 ∨ (x.f0 = y.f0 ∧ x.f1 < y.f1))
def leP (x y : S30) : Bool := !lessP y x
def ptOf (x : S61) : S30 := ⟨x.f0, x.f1⟩
def ofL (ps : List S39) : List S30 := (srtL (ptsT ps)).map ptOf
theorem map_take_next (l : List S61) (k : Nat) (h : k < l.length) : (l.take (k + 1)).map ptOf = (l.take k).map ptOf ++ [⟨(l.getD k z61).f0, (l.getD k z61).f1⟩] := by
  rw [List.take_succ_eq_append_getElem h, List.map_append]; simp [h, ptOf]
theorem infoPoint : (Try.prog.info? 30).map (fun i => (i.zero, i.size, i.bytes)) = some (some (.agg #[.int .u64 0, .int .i64 0]), 2, 16) := by kernel_rfl
set_option maxRecDepth 100000 in
set_option maxHeartbeats 4000000 in
theorem Of_any (A : Option Addr) (c : Nat) (ps : List S39) (hps : ps.length ≤ 100000) (hpc : ps.length ≤ c) (w : World) (hC : Kd.C k39 w A ps.length ps) :
    Calls Try.prog 17 #[.slice A ps.length c] w fun e W' => ∃ v, e = .returned v ∧ Kd.R k30 30 W' w.heap.size (fun _ => True) v (ofL ps) ∧ Below w.heap.size w W' := by
  have hln := ptsT_len ps
  obtain ⟨ys, hys⟩ : ∃ ys, srtL (ptsT ps) = ys := ⟨_, rfl⟩
  have hyl : ys.length ≤ 12800000 := by rw [← hys, srtL_len]; omega
  have hS := SortedFunc_pts w.heap.size A c ps hps hpc (w.alloc (.cells #[.slice A ps.length c] 22)) (Kd.C_alloc hC _) (Blk.new w 22 [.slice A ps.length c])
  unfold ofL
  rw [hys] at hS ⊢
  have HS := Lib.hid hS
  have HYL := Lib.hid hyl
  clear hC hps hpc hln hS hys hyl
  have HB0 := Aside0.mk ((Below.refl w.heap.size w).alloc (Nat.le_refl _) (.cells #[.slice A ps.length c] 22))
  go_enter Try.func17, Try.ntmps17
  go_wp2_with (first
    | (go_at_call 40; refine (each_any _ _ _ _).mono ?_; rintro e w1 ⟨rfl, rfl⟩)
    | (go_at_call 39; refine HS.out.mono ?_; rintro e w2 ⟨v, rfl, hr, hb⟩; obtain ⟨A2, c2, rfl⟩ := Kd.R_slice hr; have HR := Lib.hid hr; have HB := Lib.hid (HB0.out.trans (hb.mono (by simp))); clear hr hb))
  go_loopw [3, 10] (fun v i wr => ∃ (k : Nat), k ≤ ys.length ∧ i = .int .i64 k ∧ Aside0 (Kd.R k30 30 wr w.heap.size (fun _ => True) v ((ys.take k).map ptOf)) ∧ Aside0 (Kd.R k61 61 wr w.heap.size (fun _ => True) (.slice A2 ys.length c2) ys) ∧ Aside0 (Below w.heap.size w wr))
    (fun _ i _ => ys.length - (intOf i).toNat)
  case atStart => exact ⟨0, Nat.zero_le _, rfl, ⟨Kd.R_nil _ _ _ _ _⟩, ⟨Kd.R_lower HR.out (by simp)⟩, ⟨HB.out⟩⟩
  case round =>
    obtain ⟨k, hk, rfl, HV, HS2, HBr⟩ := hrel
    by_cases hlt : k < ys.length
    · obtain ⟨ad, hA, c0, c1⟩ := at_T61 (Kd.R_reads' HS2.out).2.2 (k : Int) (by omega) (by omega)
      subst hA
      have htk := map_take_next ys k hlt
      rw [show rd_T61 ys (k : Int) = ys.getD k z61 from rfl] at c0 c1
      obtain ⟨b, hb⟩ : ∃ b, ys.getD k z61 = b := ⟨_, rfl⟩
      rw [hb] at c0 c1 htk
      rw [Int.toNat_natCast] at c0 c1
      have HTK := Lib.hid htk
      clear htk hb
      have q1 : decide ((k : Int) < (ys.length : Int)) = true := decide_eq_true (by omega)
      have q2 : (0 : Int) ≤ (k : Int) := by omega
      have q3 : (k : Int) < (ys.length : Int) := by omega
      have hwk : wrap64 ((k : Int) + 1) = ((k + 1 : Nat) : Int) := by have := HYL.out; unfold wrap64; omega
      have HLK := Lib.hid (show ((ys.take k).map ptOf).length + 1 ≤ 12800000 by have := HYL.out; rw [List.length_map, List.length_take]; omega)
      go_upto_region 5 with (fail)
      have hbx := Blk.new wr 61 [.int .u64 b.f0, .int .i64 b.f1]
      have hb1 := below_alloc HBr.out (.cells #[.int .u64 b.f0, .int .i64 b.f1] 61)
      have hv1 := Kd.R_alloc HV.out (.cells #[.int .u64 b.f0, .int .i64 b.f1] 61)
      have hs3 := Kd.R_alloc HS2.out (.cells #[.int .u64 b.f0, .int .i64 b.f1] 61)
      clear HBr HV HS2
      obtain ⟨g5, hg5⟩ : ∃ g5, wr.heap.size = g5 := ⟨_, rfl⟩
      obtain ⟨W1, hW1⟩ : ∃ W1, (wr.alloc (.cells #[.int .u64 b.f0, .int .i64 b.f1] 61)) = W1 := ⟨_, rfl⟩
      rw [hg5] at hbx ⊢
      rw [hW1] at hbx hb1 hv1 hs3 ⊢
      clear hg5 hW1 c0 c1
      have c0 : W1.cell? ⟨g5, 0, none⟩ = some (.int .u64 b.f0) := hbx.cell 0
      have c1 : W1.cell? ⟨g5, 1, none⟩ = some (.int .i64 b.f1) := hbx.cell 1
      have HB1 := Aside0.mk hb1
      have HV1 := Aside0.mk hv1
      have HS3 := Aside0.mk hs3
      clear hbx hb1 hv1 hs3
      go_wp2_with ((with_reducible refine gate_builtin (b := .append) (xs := #[.tmp 14, .tmp 16]) rfl ?_); (try (refine gate_guard (by rfl) ?_; dsimp only)); at_builtin; refine Kd.R_append k30 (w0 := w) w.heap.size rfl (.tmp 14) (.tmp 16) 24 30 (.agg #[(.int .u64 0), (.int .i64 0)]) 16 rfl Try.underlying24 infoPoint rfl (by decide) (by omega) u3 ((ys.take k).map ptOf) (⟨b.f0, b.f1⟩ : S30) [.int .u64 b.f0, .int .i64 b.f1] (fun _ => True) (fun _ => False) rfl rfl ?aP (fun _ hk => hk.elim) ?aF ?aO ?aB ?aS ?aL ?_; (case aP => exact k30_mkM _ _ _ (⟨b.f0, b.f1⟩ : S30)); (case aB => exact HB1.out); (case aF => exact (fun _ _ => trivial)); (case aO => exact HV1.out); (case aS => exact HB1.out.size); (case aL => have := HLK.out; omega); intro v2 w3 ho hb hg hat; rw [← HTK.out] at ho; have HV2 := Aside0.mk ho; have HB2 := Aside0.mk hb; have HS4 := Aside0.mk (Kd.R_over HS3.out HV1.out (by decide) hg); clear ho hb hg hat)
      go_roundw
      case rel => exact ⟨k + 1, Nat.succ_le_of_lt hlt, by rw [hwk], HV2, HS4, HB2⟩
      case measure =>
        rw [hwk]
        show ys.length - (((k + 1 : Nat) : Int)).toNat < ys.length - ((k : Int)).toNat
        rw [Int.toNat_natCast, Int.toNat_natCast]
        omega
    · obtain rfl : k = ys.length := by omega
      have q1 : decide ((ys.length : Int) < (ys.length : Int)) = false := decide_eq_false (by omega)
      have hv := HV.out
      rw [List.take_length] at hv
      have HV1 := Aside0.mk hv
      clear hv HV
      go_wp2
      go_ret
      exact ⟨_, rfl, HV1.out, HBr.out⟩
def points_Of.f (l0 : List S39) : Option (List S30) := if l0.length ≤ 100000 then some (ofL l0) else none
theorem points_Of.calls (A0 : Option Addr) (c0 : Nat) (l0 : List S39) (r : List S30) (w : World) (hr0 : Kd.C k39 w A0 l0.length l0) (hc0 : l0.length ≤ c0) (h : points_Of.f l0 = some r) :
    Calls Try.prog 17 #[.slice A0 l0.length c0] w fun e w' => ∃ v0_ : Value, e = .returned v0_ ∧ Kd.R k30 30 w' w.heap.size (fun _ => True) v0_ r ∧ Below w.heap.size w w' := by
  unfold points_Of.f at h
  by_cases hl : l0.length ≤ 100000
  · rw [if_pos hl] at h
    obtain rfl := Option.some.inj h
    exact Of_any A0 c0 l0 hl hc0 w hr0
  · rw [if_neg hl] at h
    exact absurd h (by simp)
end

-- NOT PRINTED: function 75 (ring_both_1)

/-! ### ring_both: function 53 -/
section
open Go.Shelf Go.Proofs.Ytcekkbimdogboaa.Hand
attribute [local go_sem] Oper.semAt_some
def bothAt (la lb : List S30) (hs : List Int) (i : Nat) : Int × Int × Int := ((i : Int), succL la (hs.getD i 0), succL lb (hs.getD i 0))
def bothL (la lb : List S30) (hs : List Int) : List (Int × Int × Int) := (List.range hs.length).map (bothAt la lb hs)
theorem bothL_len (la lb : List S30) (hs : List Int) : (bothL la lb hs).length = hs.length := by simp [bothL]
theorem bothL_take (la lb : List S30) (hs : List Int) (k : Nat) (h : k < hs.length) : (bothL la lb hs).take (k + 1) = (bothL la lb hs).take k ++ [bothAt la lb hs k] := by
  rw [List.take_succ_eq_append_getElem (by rw [bothL_len]; exact h)]
  simp [bothL]
theorem both_nums (n k : Nat) (hl : n ≤ 1000000) (h : k < n) : decide ((k : Int) < (n : Int)) = true ∧ (0 : Int) ≤ (k : Int) ∧ (k : Int) < (n : Int) ∧ wrap64 ((k : Int) + 1) = ((k + 1 : Nat) : Int) :=
  ⟨decide_eq_true (by omega), by omega, by omega, by unfold wrap64; omega⟩
theorem both_meas (n k : Nat) (h : k < n) : n - (((k + 1 : Nat) : Int)).toNat < n - ((k : Int)).toNat := by
  rw [Int.toNat_natCast, Int.toNat_natCast]; omega
theorem cell_u64 {W : World} {A : Option Addr} {xs : List Int} (h : Kd.C (Kd.int .u64) W A xs.length xs) (k : Nat) (hk : k < xs.length) : ∃ ad, A = some ad ∧ W.cell? (ad.add k) = some (.int .u64 (xs.getD k 0)) := by
  obtain ⟨ad, c, e, _, hK, hc⟩ := Kd.C_get h (0 : Int) (k : Int) (by omega) (by omega)
  rw [Int.toNat_natCast] at hK hc
  obtain rfl : c = [.int .u64 (xs.getD k 0)] := hK
  refine ⟨ad, e, ?_⟩
  have h1 := hc 0 _ rfl
  rw [show (Kd.int .u64).sz = 1 from rfl, Nat.mul_one, Nat.add_zero] at h1
  exact h1
theorem circle_any (l : List S30) (hl : l.length ≤ 1000000000) (A : Option Addr) (c : Nat) (hc : l.length ≤ c) (h : Int) (W : World) (hC : Kd.C k30 W A l.length l) :
    Calls Try.prog 52 #[.slice A l.length c, .int .u64 h] W fun e w' => e = .returned (.int .i64 (succL l h)) ∧ Below W.heap.size W w' :=
  ring_circle_succ.calls A c l h _ W hC hc (if_pos hl)
set_option maxRecDepth 100000 in
set_option maxHeartbeats 16000000 in
theorem both1_in (n : Nat) (hn : 2 ≤ n) (y B1 B2 B3 n₀ : Nat) (ts : List TypeId) (ht1 : 78 ∉ ts) (ht2 : 44 ∉ ts) (A1 A2 AH : Option Addr) (c1 c2 cH : Nat) (la lb : List S30) (hs : List Int)
    (hla : la.length ≤ 1000000000) (hlb : lb.length ≤ 1000000000) (hca : la.length ≤ c1) (hcb : lb.length ≤ c2) (hhs : hs.length ≤ 1000000)
    (w : World) (hw : w.heap.size = n₀) (hCa : Kd.C k30 w A1 la.length la) (hCb : Kd.C k30 w A2 lb.length lb) (hCh : Kd.C (Kd.int .u64) w AH hs.length hs)
    (J Jx : List (Int × Int × Int) → World → Prop) (B : Nat) (hJ : AbidesFrom B J)
    (hY : ∀ pre x W, J pre W → pre.length < (bothL la lb hs).length → YieldAt Fence.wide (n - 1) Try.prog y #[.int .i64 x.1, .agg #[.int .i64 x.2.1, .int .i64 x.2.2]] W fun e W' =>
      (e = .returned (.bool true) ∧ J (pre ++ [x]) W' ∧ KpT n₀ ts W W') ∨ (e = .returned (.bool false) ∧ Jx (pre ++ [x]) W'))
    (W : World) (hB : Below n₀ w W) (hnW : n₀ ≤ W.heap.size) (b1 : Blk W B1 78 [.func (.func 52) #[.slice A1 la.length c1] #[]]) (b2 : Blk W B2 78 [.func (.func 52) #[.slice A2 lb.length c2] #[]]) (b3 : Blk W B3 44 [.slice AH hs.length cH]) (h0 : J [] W) (hBB : B ≤ W.heap.size) :
    CallsIn Fence.wide n Try.prog 75 #[.func (.yield y) #[] #[], .pointer (some ⟨B3, 0, none⟩), .pointer (some ⟨B1, 0, none⟩), .pointer (some ⟨B2, 0, none⟩)] W fun e W' => (∃ v, e = .returned v) ∧
      ((∃ ys, ys = bothL la lb hs ∧ J ys W') ∨ (∃ pre, (pre <+: bothL la lb hs) ∧ Jx pre W')) := by
  have hro : Fence.wide.round = none := rfl
  refine callsIn_of_wp Try.func75 rfl trivial ?_ hro
  simp only [Try.ntmps75, List.size_toArray, List.length_cons, List.length_nil, Nat.reduceAdd, Nat.reduceSub, Array.replicate_succ, Array.replicate_zero, List.push_toArray, List.append_toArray, List.nil_append, List.cons_append]
  have z0 : W.cell? ⟨B3, 0, none⟩ = some (.slice AH hs.length cH) := b3.cell 0
  have HPS := Lib.hid hhs
  have HCA := Lib.hid hCa
  have HCB := Lib.hid hCb
  have HCH := Lib.hid hCh
  have HB := Lib.hid hB
  have HW0 := Lib.hid hw
  have HNW := Lib.hid hnW
  have HY := Lib.hid hY
  have HJ := Lib.hid hJ
  have H0 := Lib.hid h0
  have HBB := Lib.hid hBB
  have HN := Lib.hid hn
  have HB1 := Lib.hid b1
  have HB2 := Lib.hid b2
  have HFA := Lib.hid (circle_any la hla A1 c1 hca)
  have HFB := Lib.hid (circle_any lb hlb A2 c2 hcb)
  clear hhs hCa hCb hCh hB hw hY hJ h0 hn hBB b1 b2 b3 hla hlb hca hcb hnW
  gi_wp2
  gi_loopw [9] (fun i wr => ∃ (k : Nat), k ≤ hs.length ∧ i = .int .i64 k ∧ J ((bothL la lb hs).take k) wr ∧ Below n₀ w wr ∧ W.heap.size ≤ wr.heap.size ∧ Blk wr B1 78 [.func (.func 52) #[.slice A1 la.length c1] #[]] ∧ Blk wr B2 78 [.func (.func 52) #[.slice A2 lb.length c2] #[]])
    (fun i _ => hs.length - (intOf i).toNat)
  case atStart => exact ⟨0, Nat.zero_le _, rfl, by simpa using H0.out, HB.out, Nat.le_refl _, HB1.out, HB2.out⟩
  case round =>
    obtain ⟨k, hk', rfl, hJs, hnx, hsz, hb1, hb2⟩ := hrel
    by_cases hlt : k < hs.length
    · have hBr : Below w.heap.size w wr := by rw [HW0.out]; exact hnx
      obtain ⟨q1, q2, q3, hwk⟩ := both_nums hs.length k HPS.out hlt
      obtain ⟨ad, hA, c0⟩ := cell_u64 (Kd.C_below HCH.out hBr) k hlt
      subst hA
      have htk := bothL_take la lb hs k hlt
      have hpx : (bothL la lb hs).take (k + 1) <+: bothL la lb hs := List.take_prefix _ _
      have hln : ((bothL la lb hs).take k).length < (bothL la lb hs).length := by rw [List.length_take, bothL_len]; exact Nat.lt_of_le_of_lt (Nat.min_le_left _ _) hlt
      unfold bothAt at htk
      obtain ⟨h, hh⟩ : ∃ h, hs.getD k 0 = h := ⟨_, rfl⟩
      rw [hh] at c0 htk
      have HTK := Lib.hid htk
      have HPX := Lib.hid hpx
      have HLN := Lib.hid hln
      have HJ1 := Lib.hid hJs
      have HNX := Lib.hid hnx
      have HSZ := Lib.hid hsz
      have HBR := Lib.hid hBr
      have HK1 := Lib.hid hb1
      have HK2 := Lib.hid hb2
      have z1 : wr.cell? ⟨B1, 0, none⟩ = some (.func (.func 52) #[.slice A1 la.length c1] #[]) := hb1.cell 0
      have z2 : wr.cell? ⟨B2, 0, none⟩ = some (.func (.func 52) #[.slice A2 lb.length c2] #[]) := hb2.cell 0
      clear htk hpx hln hh hJs hnx hsz hBr hb1 hb2
      gi_wp2
      gi_region_with (first
        | (refine ⟨trivial, fun _ => (by have := HN.out; omega), ?_⟩; (with_reducible refine (callsIn_wide.2 (HFA.out h _ ?hCa)).mono ?_); (case hCa => first | exact Kd.C_drew (Kd.C_below HCA.out HBR.out) | exact Kd.C_drewN (Kd.C_below HCA.out HBR.out) _ | exact Kd.C_below HCA.out HBR.out); rintro e w3 ⟨rfl, hb3⟩; have HBW := Lib.hid (show Below wr.heap.size wr w3 from by first | exact hb3 | exact (below_drew (Below.refl _ _)).trans hb3 | exact (pw_below_drewN (Below.refl _ _) _).trans hb3); clear hb3; have g3 : w3.cell? ⟨B2, 0, none⟩ = some (.func (.func 52) #[.slice A2 lb.length c2] #[]) := (HK2.out.below HBW.out).cell 0)
        | (refine ⟨trivial, fun _ => (by have := HN.out; omega), ?_⟩; (with_reducible refine (callsIn_wide.2 (HFB.out h _ ?hCb)).mono ?_); (case hCb => first | exact Kd.C_below (Kd.C_below HCB.out HBR.out) HBW.out | exact Kd.C_drew (Kd.C_below (Kd.C_below HCB.out HBR.out) HBW.out) | exact Kd.C_drewN (Kd.C_below (Kd.C_below HCB.out HBR.out) HBW.out) _); rintro e w4 ⟨rfl, hb4⟩; have HBX := Lib.hid (show Below wr.heap.size wr w4 from HBW.out.trans ((show Below w3.heap.size w3 w4 from by first | exact hb4 | exact (below_drew (Below.refl _ _)).trans hb4 | exact (pw_below_drewN (Below.refl _ _) _).trans hb4).mono HBW.out.size)); clear hb4; obtain ⟨fn, tmps, assign, body, hy, hYR⟩ := HY.out _ ((k : Int), succL la h, succL lb h) w4 (HJ.out _ _ _ none HJ1.out (grown_of_below HBX.out none) (fun r e => by cases e)) HLN.out; have HYR := Lib.hid hYR; clear hYR)
        | (refine ⟨fun _ => (by have := HN.out; omega), HYR.out.mono ?_⟩; rintro e W3 hh; obtain ⟨bo, rfl, hA, hB⟩ := two_ways hh; have HA := Lib.hid hA; have HX := Lib.hid hB; clear hh hA hB))
      all_goals
        cases bo
        · have HX3 := Lib.hid (HX.out rfl)
          clear HA HX
          gi_wp2
          refine bodyPost_ret (results_none rfl _ _ _) rfl ?_
          exact ⟨⟨_, rfl⟩, .inr ⟨(bothL la lb hs).take k ++ [((k : Int), succL la h, succL lb h)], by rw [← HTK.out]; exact HPX.out, HX3.out⟩⟩
        · have HJ3 := Lib.hid (HA.out rfl).1
          have HK3 := Lib.hid (HA.out rfl).2
          clear HA HX
          gi_wp2
          go_roundw
          case rel => exact ⟨k + 1, Nat.succ_le_of_lt hlt, by rw [hwk], by rw [HTK.out]; exact HJ3.out, (HNX.out.trans (HBX.out.mono (Nat.le_trans HNW.out HSZ.out))).trans HK3.out.1, Nat.le_trans HSZ.out (Nat.le_trans HBX.out.size HK3.out.2.1), HK3.out.blk (HK1.out.below HBX.out) ht1, HK3.out.blk (HK2.out.below HBX.out) ht1⟩
          case measure =>
            rw [hwk]
            exact both_meas _ _ hlt
    · obtain rfl : k = hs.length := Nat.le_antisymm hk' (Nat.le_of_not_lt hlt)
      have q1 : decide ((hs.length : Int) < (hs.length : Int)) = false := decide_eq_false (by omega)
      have HJ3 := Lib.hid hJs
      clear hJs hnx hsz hb1 hb2
      gi_wp2
      go_end0
      exact ⟨⟨_, rfl⟩, .inl ⟨_, by rw [List.take_of_length_le (by rw [bothL_len]; exact Nat.le_refl _)], HJ3.out⟩⟩
end

/-! ### ring_Moved: function 32 -/
section
open Go.Shelf Go.Proofs.Ytcekkbimdogboaa.Hand
attribute [local go_sem] Oper.semAt_some
theorem both_stops (d : Nat) (hd : 2 ≤ d) (B1 B2 B3 n₀ : Nat) (ts : List TypeId) (ht1 : 78 ∉ ts) (ht2 : 44 ∉ ts) (A1 A2 AH : Option Addr) (c1 c2 cH : Nat) (la lb : List S30) (hs : List Int)
    (hla : la.length ≤ 1000000000) (hlb : lb.length ≤ 1000000000) (hca : la.length ≤ c1) (hcb : lb.length ≤ c2) (hhs : hs.length ≤ 1000000)
    (w W : World) (hw : w.heap.size = n₀) (hCa : Kd.C k30 w A1 la.length la) (hCb : Kd.C k30 w A2 lb.length lb) (hCh : Kd.C (Kd.int .u64) w AH hs.length hs) (hB : Below n₀ w W) (hnW : n₀ ≤ W.heap.size)
    (b1 : Blk W B1 78 [.func (.func 52) #[.slice A1 la.length c1] #[]]) (b2 : Blk W B2 78 [.func (.func 52) #[.slice A2 lb.length c2] #[]]) (b3 : Blk W B3 44 [.slice AH hs.length cH]) :
    SeqStopsK Fence.wide d Try.prog 75 #[.pointer (some ⟨B3, 0, none⟩), .pointer (some ⟨B1, 0, none⟩), .pointer (some ⟨B2, 0, none⟩)] (fun x : Int × Int × Int => #[.int .i64 x.1, .agg #[.int .i64 x.2.1, .int .i64 x.2.2]]) (KpT n₀ ts) (fun ys => ys = bothL la lb hs) (fun pre => pre <+: bothL la lb hs) (bothL la lb hs).length W := fun y J Jx W' hW hJ _ hY h0 =>
  both1_in d hd y B1 B2 B3 n₀ ts ht1 ht2 A1 A2 AH c1 c2 cH la lb hs hla hlb hca hcb hhs w hw hCa hCb hCh J Jx _ hJ hY W' (hB.trans (hW.mono hnW)) (Nat.le_trans hnW hW.size) (b1.below hW) (b2.below hW) (b3.below hW) h0 (Nat.le_refl _)
set_option maxHeartbeats 1000000 in
theorem both_any (f1 f2 : Value) (h1 : ∃ g b c, f1 = .func g b c) (h2 : ∃ g b c, f2 = .func g b c) (A : Option Addr) (n c : Nat) (w : World) :
    Calls Try.prog 53 #[f1, f2, .slice A n c] w fun e w' => e = .returned (.func (.func 75) #[] #[.pointer (some ⟨w.heap.size + 1 + 1, 0, none⟩), .pointer (some ⟨w.heap.size, 0, none⟩), .pointer (some ⟨w.heap.size + 1, 0, none⟩)]) ∧ w' = ((w.alloc (.cells #[f1] 78)).alloc (.cells #[f2] 78)).alloc (.cells #[.slice A n c] 44) := by
  obtain ⟨g1, b1, d1, rfl⟩ := h1
  obtain ⟨g2, b2, d2, rfl⟩ := h2
  go_enter Try.func53, Try.ntmps53
  go_wp2
  go_ret
  exact ⟨rfl, rfl⟩
/-- The places of what goes elsewhere. -/
def mvL (l : List (Int × Int × Int)) : List Int := (l.filter fun x => x.2.1 != x.2.2).map (·.1)
def movedL (la lb : List S30) (hs : List Int) : List Int := mvL (bothL la lb hs)
theorem mvL_len (l : List (Int × Int × Int)) : (mvL l).length ≤ l.length := by unfold mvL; rw [List.length_map]; exact List.length_filter_le _ _
theorem infoInt : (Try.prog.info? 3).map (fun i => (i.zero, i.size, i.bytes)) = some (some (.int .i64 0), 1, 8) := by kernel_rfl
set_option maxRecDepth 100000 in
set_option maxHeartbeats 16000000 in
theorem Moved_in (A1 A2 AH : Option Addr) (c1 c2 cH : Nat) (p q : List S39) (hs : List Int) (hp : p.length ≤ 100000) (hq : q.length ≤ 100000) (hpc : p.length ≤ c1) (hqc : q.length ≤ c2) (hhs : hs.length ≤ 1000000) (w : World)
    (hC1 : Kd.C k39 w A1 p.length p) (hC2 : Kd.C k39 w A2 q.length q) (hCh : Kd.C (Kd.int .u64) w AH hs.length hs) :
    CallsIn Fence.wide 6 Try.prog 32 #[.slice A1 p.length c1, .slice A2 q.length c2, .slice AH hs.length cH] w fun e W' => ∃ v, e = .returned v ∧ Kd.R (Kd.int .i64) 3 W' w.heap.size (fun _ => True) v (movedL (ofL p) (ofL q) hs) ∧ Below w.heap.size w W' := by
  have hro : Fence.wide.round = none := rfl
  obtain ⟨i0, hi, hz0, hz1, hz2⟩ := info_parts infoInt
  have hlp : (ofL p).length ≤ 1000000000 := by have := ptsT_len p; unfold ofL; rw [List.length_map, srtL_len]; omega
  have hlq : (ofL q).length ≤ 1000000000 := by have := ptsT_len q; unfold ofL; rw [List.length_map, srtL_len]; omega
  have HO1 := Lib.hid (Of_any A1 c1 p hp hpc w hC1)
  have HO2 := Lib.hid (fun W h => Of_any A2 c2 q hq hqc W h)
  have HLP := Lib.hid hlp
  have HLQ := Lib.hid hlq
  have HC2 := Lib.hid hC2
  have HCH := Lib.hid hCh
  have HHS := Lib.hid hhs
  unfold movedL
  obtain ⟨la, hla⟩ : ∃ la, ofL p = la := ⟨_, rfl⟩
  obtain ⟨lb, hlb⟩ : ∃ lb, ofL q = lb := ⟨_, rfl⟩
  rw [hla] at HO1 HLP ⊢
  rw [hlb] at HO2 HLQ ⊢
  clear hC1 hC2 hCh hp hq hpc hqc hhs hlp hlq hla hlb
  refine callsIn_of_wp_marks Try.func32 rfl trivial ?_ hro
  simp only [Try.ntmps32, List.size_toArray, List.length_cons, List.length_nil, Nat.reduceAdd, Nat.reduceSub, Array.replicate_succ, Array.replicate_zero, List.push_toArray, List.append_toArray, List.nil_append, List.cons_append]
  gi_wp2_with (first
    | (refine ⟨trivial, ?_⟩; gi_at_call 17; (with_reducible refine (callsIn_wide.2 HO1.out).mono ?_); rintro e w1 ⟨v1, rfl, hr1, hb1⟩; obtain ⟨P1, d1, rfl⟩ := Kd.R_slice hr1; have HR1 := Lib.hid hr1; have HB1 := Lib.hid hb1; clear hr1 hb1)
    | (refine ⟨trivial, ?_⟩; gi_at_call 17; (with_reducible refine (callsIn_wide.2 (HO2.out w1 (Kd.C_below HC2.out HB1.out))).mono ?_); rintro e w2 ⟨v2, rfl, hr2, hb2⟩; obtain ⟨P2, d2, rfl⟩ := Kd.R_slice hr2; have HR2 := Lib.hid hr2; have HB2 := Lib.hid hb2; clear hr2 hb2)
    | (refine ⟨trivial, ?_⟩; gi_at_call 53; refine (callsIn_wide.2 (both_any _ _ ⟨_, _, _, rfl⟩ ⟨_, _, _, rfl⟩ _ _ _ _)).mono ?_; rintro e w3 ⟨rfl, rfl⟩))
  have b0 := Boxed.new w2 46 (.slice none 0 0)
  have b1 := Blk.new (w2.alloc (.cells #[.slice none 0 0] 46)) 78 [.func (.func 52) #[.slice P1 la.length d1] #[]]
  have b2 := Blk.new ((w2.alloc (.cells #[.slice none 0 0] 46)).alloc (.cells #[.func (.func 52) #[.slice P1 la.length d1] #[]] 78)) 78 [.func (.func 52) #[.slice P2 lb.length d2] #[]]
  have b3 := Blk.new (((w2.alloc (.cells #[.slice none 0 0] 46)).alloc (.cells #[.func (.func 52) #[.slice P1 la.length d1] #[]] 78)).alloc (.cells #[.func (.func 52) #[.slice P2 lb.length d2] #[]] 78)) 44 [.slice AH hs.length cH]
  replace b0 := ((b0.alloc (.cells #[.func (.func 52) #[.slice P1 la.length d1] #[]] 78)).alloc (.cells #[.func (.func 52) #[.slice P2 lb.length d2] #[]] 78)).alloc (.cells #[.slice AH hs.length cH] 44)
  replace b1 := (b1.alloc (.cells #[.func (.func 52) #[.slice P2 lb.length d2] #[]] 78)).alloc (.cells #[.slice AH hs.length cH] 44)
  replace b2 := b2.alloc (.cells #[.slice AH hs.length cH] 44)
  have hB0 : Below w2.heap.size w2 ((((w2.alloc (.cells #[.slice none 0 0] 46)).alloc (.cells #[.func (.func 52) #[.slice P1 la.length d1] #[]] 78)).alloc (.cells #[.func (.func 52) #[.slice P2 lb.length d2] #[]] 78)).alloc (.cells #[.slice AH hs.length cH] 44)) := below_alloc (below_alloc (below_alloc (below_alloc (Below.refl _ _) _) _) _) _
  simp only [World.size_alloc] at b1 b2 b3
  obtain ⟨W0, hW0⟩ : ∃ W0, ((((w2.alloc (.cells #[.slice none 0 0] 46)).alloc (.cells #[.func (.func 52) #[.slice P1 la.length d1] #[]] 78)).alloc (.cells #[.func (.func 52) #[.slice P2 lb.length d2] #[]] 78)).alloc (.cells #[.slice AH hs.length cH] 44)) = W0 := ⟨_, rfl⟩
  rw [hW0] at b0 b1 b2 b3 hB0 ⊢
  clear hW0
  refine wpIn_rangeFunc_ownH hro (by omega) (gf := 75) (lb := #[.pointer (some ⟨w2.heap.size + 1 + 1 + 1, 0, none⟩), .pointer (some ⟨w2.heap.size + 1, 0, none⟩), .pointer (some ⟨w2.heap.size + 1 + 1, 0, none⟩)]) rfl trivial (enters_of Try.func75 (by kernel_rfl) rfl)
    (both_stops (6 - 1) (by omega) (w2.heap.size + 1) (w2.heap.size + 1 + 1) (w2.heap.size + 1 + 1 + 1) w2.heap.size [3, 46] (by decide) (by decide) P1 P2 AH d1 d2 cH la lb hs HLP.out HLQ.out (Kd.R_reads' HR1.out).2.1 (Kd.R_reads' HR2.out).2.1 HHS.out w2 W0 rfl (Kd.C_below (Kd.R_reads' HR1.out).2.2 HB2.out) (Kd.R_reads' HR2.out).2.2 (Kd.C_below (Kd.C_below HCH.out HB1.out) HB2.out) hB0 hB0.size b1 b2 b3) (fun h k => h.trans k) (fun W L o o' hL h1 h2 h3 => KpT.putObj (w := W0) hB0.size W L o o' hL h1 h2 h3) (Below.refl _ _) (fun _ => rfl)
    (fun pre W => (∃ v, Boxed W w2.heap.size 46 v ∧ W.ownsRow w2.heap.size 3 1 v (mvL pre).length (encs (Value.int .i64) (mvL pre)) ∧ True) ∧ Below w2.heap.size w2 W)
    (fun _ _ _ => False)
    (OwnFrom.and (Own.from (holdsRow_own w2.heap.size w2.heap.size 46 3 1 (fun pre => (mvL pre).length) (fun pre => encs (Value.int .i64) (mvL pre)) (fun pre v => True)) _) (ownFrom_below (Nat.le_refl _) hB0.size))
    (fun _ _ _ _ _ hs _ _ => hs)
    ⟨⟨_, b0, World.ownsRow_nil _ _ _ _, trivial⟩, hB0⟩
    (fun x a' W => ∃ q5, w2.heap.size ≤ q5 ∧ Blk W q5 73 [.int .i64 x.2.1, .int .i64 x.2.2] ∧ a' = { tmps := #[.slice A1 p.length c1, .slice A2 q.length c2, .slice AH hs.length cH, undef, undef, undef, .slice none 0 0, .slice P1 la.length d1, .slice P2 lb.length d2, .pointer (some ⟨w2.heap.size, 0, none⟩), .int .i64 x.1, .pointer (some ⟨q5, 0, none⟩), .slice A1 p.length c1, .slice P1 la.length d1, .slice A2 q.length c2, .slice P2 lb.length d2, .slice P1 la.length d1, .func (.func 52) #[.slice P1 la.length d1] #[], .slice P2 lb.length d2, .func (.func 52) #[.slice P2 lb.length d2] #[], .slice AH hs.length cH, .func (.func 75) #[] #[.pointer (some ⟨w2.heap.size + 1 + 1 + 1, 0, none⟩), .pointer (some ⟨w2.heap.size + 1, 0, none⟩), .pointer (some ⟨w2.heap.size + 1 + 1, 0, none⟩)], .int .i64 x.1, .agg #[.int .i64 x.2.1, .int .i64 x.2.2], undef, undef, undef, undef, undef, undef, undef, undef, undef, undef], defers := [] })
    (fun x a' => OwnFrom.ex fun q5 => OwnFrom.and (OwnFrom.pure fun _ => w2.heap.size ≤ q5) (OwnFrom.and (blk_ownFrom _ q5 73 (fun _ => [.int .i64 x.2.1, .int .i64 x.2.2])) (OwnFrom.pure fun _ => _))) ?assign ?body ?done ?stop
  case assign =>
    rintro y pre x W K ⟨⟨v, hv, hrow, _⟩, hB⟩ hK
    gi_wp2
    have hbn := Blk.new W 73 [.int .i64 x.2.1, .int .i64 x.2.2]
    exact hK _ _ ((KeepsOthers.alloc _ _).from _) (KpT.alloc _ _ hB.size) ⟨⟨v, hv.alloc _, hrow.alloc _, trivial⟩, hB.trans ((Below.refl _ _).alloc hB.size _)⟩ ⟨_, hB.size, hbn, rfl⟩
  case body =>
    rintro y pre x a' W hy ⟨r, hr⟩ ⟨⟨v, hv, hrow, _⟩, hB⟩ ⟨q5, hq5, hbq, rfl⟩ hlt
    have hc := hv.cell
    have e0 := hbq.cell 0
    have e1 := hbq.cell 1
    have hml := mvL_len pre
    rw [bothL_len] at hlt
    have HML := Lib.hid (show (mvL pre).length + 1 ≤ 1000000 by have := HHS.out; omega)
    have hmx : (1000000 : Nat) < maxLen := by decide
    have HMX := Lib.hid hmx
    clear hml hlt hmx
    by_cases hne : x.2.1 = x.2.2
    · have ek : mvL (pre ++ [x]) = mvL pre := by unfold mvL; rw [List.filter_append]; simp [hne]
      have qne : (x.2.1 != x.2.2) = false := by simp [hne]
      have EK := Lib.hid ek
      clear ek hne
      gi_wp2
      exact ⟨KeepsFrom.refl _ _, KpT.refl _ _ _, ⟨v, hv, by rw [EK.out]; exact hrow, trivial⟩, hB⟩
    · have ek : mvL (pre ++ [x]) = mvL pre ++ [x.1] := by unfold mvL; rw [List.filter_append, List.map_append]; simp [hne]
      have qne : (x.2.1 != x.2.2) = true := by simp [hne]
      have EK := Lib.hid ek
      clear ek hne
      gi_wp2_with (gi_at_builtin; refine wpListIn_append_own_at _ rfl _ _ 46 rfl w2.heap.size 3 i0 (.int .i64 0) 1 8 Try.underlying46 hi hz0 hz1 hz2 rfl (by decide) _ _ _ rfl (hrow.alloc _) ⟨W.heap.size, 0, none⟩ 1 1 [.int .i64 x.1] rfl rfl (cell_one_new _ _ _) (by simp [Value.oneCell']) (by have := HML.out; have := HMX.out; omega) (by have := HML.out; omega) (by have := hB.size; simp; omega) ?_; intro v' w5 hown' hgrow _ hat; obtain ⟨g', cap', rfl⟩ := ownsRow_succ hown'; obtain ⟨hv1, hv2, hr2, hk2, hb2⟩ := hv.appended (by decide) hrow hB.size (Nat.le_refl _) hown' hgrow; have hkp := KpT.appended (ts := [3, 46]) (by decide) (by decide) hv (by decide) hrow hB.size (Nat.le_refl _) hown' hgrow; have hc1 := hv1.cell; have hf1 := hv1.frozen)
      exact ⟨hk2.from _, hkp, ⟨_, hv2, by rw [EK.out, encs_append]; simpa [encs] using hr2, trivial⟩, hB.trans hb2⟩
  case done =>
    rintro D ys W hD hys ⟨⟨v, hv, hrow, _⟩, hB⟩ hK
    subst hys
    have hc := hv.cell
    gi_wp2
    refine ⟨by simp, .inl ⟨_, _, rfl, run_takeDeferred hK, ?_⟩⟩
    have hr2 := ownsRow_putObj hrow (.deferred none) hK rfl
    have hbw : Below w.heap.size w w2 := HB1.out.trans (HB2.out.mono HB1.out.size)
    have hbd := hB.trans (belowK_b (w := w2) (Nat.le_refl _) W D _ (.deferred none) (Nat.le_trans hB0.size hD) hK rfl rfl)
    exact ⟨_, results_tmp rfl _ _ _, v, rfl, Kd.R_lower (Kd.R_of_own hr2 (fun _ _ => trivial)) hbw.size, hbw.trans (hbd.mono hbw.size)⟩
  case stop =>
    rintro D c pre W _ _ h _
    exact h.elim
def ring_Moved.f (l0 : List S39) (l1 : List S39) (l2 : List Int) : Option (List Int) := if l0.length ≤ 100000 ∧ l1.length ≤ 100000 ∧ l2.length ≤ 1000000 then some (movedL (ofL l0) (ofL l1) l2) else none
theorem ring_Moved.calls (A0 : Option Addr) (c0 : Nat) (l0 : List S39) (A1 : Option Addr) (c1 : Nat) (l1 : List S39) (A2 : Option Addr) (c2 : Nat) (l2 : List Int) (r : List Int) (w : World) (hr0 : Kd.C k39 w A0 l0.length l0) (hc0 : l0.length ≤ c0) (hr1 : Kd.C k39 w A1 l1.length l1) (hc1 : l1.length ≤ c1) (hr2 : Kd.C (Kd.int .u64) w A2 l2.length l2) (hc2 : l2.length ≤ c2) (h : ring_Moved.f l0 l1 l2 = some r) :
    Calls Try.prog 32 #[.slice A0 l0.length c0, .slice A1 l1.length c1, .slice A2 l2.length c2] w fun e w' => ∃ v0_ : Value, e = .returned v0_ ∧ Kd.R (Kd.int .i64) 3 w' w.heap.size (fun _ => True) v0_ r ∧ Below w.heap.size w w' := by
  unfold ring_Moved.f at h
  by_cases hl : l0.length ≤ 100000 ∧ l1.length ≤ 100000 ∧ l2.length ≤ 1000000
  · rw [if_pos hl] at h
    obtain rfl := Option.some.inj h
    exact (callsIn_wide (n := 6)).1 (Moved_in A0 A1 A2 c0 c1 c2 l0 l1 l2 hl.1 hl.2.1 hc0 hc1 hl.2.2 w hr0 hr1 hr2)
  · rw [if_neg hl] at h
    exact absurd h (by simp)
end

/-! ### ring_Pick: function 34 -/
def ring_Pick.f (l0 : List (S39)) (a1 : Int) : Option (Int) := (points_Of.f l0).bind fun t121 => ((ring_Succ.f t121 a1).bind fun t124 => (some t124))
set_option maxHeartbeats 8000000 in
set_option maxRecDepth 100000 in
theorem ring_Pick.calls (A0 : Option Addr) (c0 : Nat) (l0 : List (S39)) (a1 : Int) (r : Int) (w : World) (hr0 : Kd.C k39 w A0 l0.length l0) (hc0 : l0.length ≤ c0) (h : ring_Pick.f l0 a1 = some r) :
    Calls Try.prog 34 #[.slice A0 l0.length c0, .int .u64 a1] w fun e w' => e = .returned (.int .i64 r) ∧ Below w.heap.size w w' := by
  have HR0 := Aside0.mk hr0
  have HC0 := Aside0.mk hc0
  clear hr0 hc0
  have HB := Aside0.mk (Below.refl w.heap.size w)
  have H : ((points_Of.f l0).bind fun t121 => ((ring_Succ.f t121 a1).bind fun t124 => (some t124))) = some r := h
  clear h
  replace H := Option.bind_eq_some_iff.mp H
  obtain ⟨t121, A30, H⟩ := H
  replace H : ((ring_Succ.f t121 a1).bind fun t124 => (some t124)) = some r := H
  have A3 := Aside0.mk A30
  clear A30
  replace H := Option.bind_eq_some_iff.mp H
  obtain ⟨t124, A40, H⟩ := H
  replace H : (some t124) = some r := H
  have A4 := Aside0.mk A40
  clear A40
  obtain rfl := Option.some.inj H
  go_enter Try.func34, Try.ntmps34
  go_wp2_with (first | ((with_reducible refine gate_callee (f := 17) rfl ?_); refine goesL_ (some 6) rfl rfl Try.func17 (by kernel_rfl) rfl #[.slice A0 l0.length c0] rfl (by (try simp only [List.map_toArray, List.map_cons, List.map_nil]); first | done | rfl | (simp only [List.length_drop, List.length_take]; rfl)) ?_; (with_reducible refine (points_Of.calls _ _ l0 t121 _ ?side1 ?side2 A3.out).mono ?_); (case side1 => repeat (first | exact HR0.out | (with_reducible refine Kd.C_alloc ?_ _) | (with_reducible refine Kd.C_drewN ?_ _) | (with_reducible refine Kd.C_drew ?_))); (case side2 => exact HC0.out); (try clear A3); rintro e w5 ⟨v122, rfl, ho0, hb⟩; refine ⟨_, rfl, ?_⟩; have n0_ := Aside0.mk (Kd.R_lower ho0 (below_size (by repeat (first | (with_reducible first | exact HB.out | apply below_alloc | apply pw_below_drewN | apply below_drew1) | exact HB.out)))); have n1_ := Aside0.mk (below_step (by repeat (first | (with_reducible first | exact HB.out | apply below_alloc | apply pw_below_drewN | apply below_drew1) | exact HB.out)) hb); clear HB; have HO123 := n0_; have HB := n1_; clear n0_ n1_; (try clear hb); (try clear hb2); (try clear hk); (try clear hi); (try clear ho0); obtain ⟨Ao6, co6, eo6⟩ := Kd.R_slice HO123.out; subst eo6) | ((with_reducible refine gate_callee (f := 28) rfl ?_); refine goesL_ (some 8) rfl rfl Try.func28 (by kernel_rfl) rfl #[.slice Ao6 t121.length co6, .int .u64 a1] rfl (by (try simp only [List.map_toArray, List.map_cons, List.map_nil]); first | done | rfl | (simp only [List.length_drop, List.length_take]; rfl)) ?_; (with_reducible refine (ring_Succ.calls _ _ t121 a1 t124 _ ?side1 ?side2 A4.out).mono ?_); (case side1 => repeat (first | exact (Kd.R_reads' HO123.out).2.2 | (with_reducible refine Kd.C_alloc ?_ _) | (with_reducible refine Kd.C_drewN ?_ _) | (with_reducible refine Kd.C_drew ?_))); (case side2 => exact (Kd.R_reads' HO123.out).2.1); (try clear A4); rintro e w7 ⟨rfl, hb⟩; refine ⟨_, rfl, ?_⟩; have n0_ := Aside0.mk (Kd.R_below (by (with_reducible repeat (first | apply Kd.R_alloc | apply Kd.R_drewN | apply Kd.R_drew)); exact HO123.out) hb); have n1_ := Aside0.mk (below_step (by repeat (first | (with_reducible first | exact HB.out | apply below_alloc | apply pw_below_drewN | apply below_drew1) | exact HB.out)) hb); clear HO123; clear HB; have HO123 := n0_; have HB := n1_; clear n0_ n1_; (try clear hb); (try clear hb2); (try clear hk); (try clear hi)))
  go_ret
  exact ⟨by first | rfl | (simp [errW_none, errW_some] <;> rfl) | (simp [*, errW_none, errW_some] <;> rfl), by repeat (first | (with_reducible first | exact HB.out | apply below_alloc | apply pw_below_drewN | apply below_drew1) | exact HB.out)⟩

end Go.Proofs.Ytcekkbimdogboaa.P
