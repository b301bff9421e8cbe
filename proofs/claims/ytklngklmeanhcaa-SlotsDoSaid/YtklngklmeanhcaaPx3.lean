/- Each Go function that the laws reach, as a plain function, with the proof that the machine's call comes to what it says; of a law: its row. Made by a program of this seat (wip/hp.py, over the print). -/
import Derived.Test.YtklngklmeanhcaaPx0
import Derived.Test.YtklngklmeanhcaaPx2
namespace Go.Proofs.Ytklngklmeanhcaa.P
open Go.RowKit Go.Proofs.YtklngklmeanhcaaW.PrintWords Go.Proofs.YtklngklmeanhcaaW.PrintLast Go.Proofs.YtklngklmeanhcaaW.PrintMore
attribute [local go_sem] max2_int min2_int max_two min_two max_three min_three max_four min_four   -- for this text's walks alone
set_option linter.unusedVariables false
set_option linter.unusedSimpArgs false

/-! ### points_place_order: function 81 -/
def points_place_order.f (k : Nat) (a0_0 : Int) (a0_1 : Int) (a1_0 : Int) (a1_1 : Int) : Option (Int) := (cmp_Compare_uint64.f a0_0 a1_0).bind fun t115 => ((cmp_Compare_int.f a0_1 a1_1).bind fun t116 => ((cmp_Or_int.f k (([t115, t116] : List Int))).bind fun t120 => (some t120)))
theorem points_place_order.mono : ∀ a0 a1 a2 a3 k, LeO (points_place_order.f k a0 a1 a2 a3) (points_place_order.f (k + 1) a0 a1 a2 a3) := by
  intro a0 a1 a2 a3 k
  unfold points_place_order.f
  repeat' first
      | (with_reducible exact cmp_Or_int.mono _ _)
      | (with_reducible exact LeO.refl _)
      | (with_reducible exact LeO.none _)
      | (with_reducible refine LeO.ite ?_ ?_)
      | (with_reducible refine LeO.bind ?_ (fun _ => ?_))
      | exact cmp_Or_int.mono _ _
      | exact LeO.none _
      | refine LeO.ite ?_ ?_
      | refine LeO.bind ?_ (fun _ => ?_)
def points_place_order.T1 : Bool × List (List Nat × List Nat) := (true, [([], []), ([0], [0]), ([], []), ([2], [2]), ([1, 3], [1, 3]), ([], []), ([5], [5]), ([], []), ([7], [7]), ([6, 8, 4], [6, 8]), ([4, 9], [4, 9]), ([10, 9], [10]), ([11, 11, 0, 1, 2, 3, 4, 5, 6, 7, 8, 9, 10, 11], [11])])
def points_place_order.B1 : List Nat := [0, 1, 0, 4, 15, 0, 32, 0, 128, 511, 1023, 2047, 4095]
theorem points_place_order.tab1 : rtab .any (opsOf Try.f81 1) = points_place_order.T1 := by kernel_rfl
theorem points_place_order.bits1 : waitsOk points_place_order.T1.2 points_place_order.B1 = true := by kernel_rfl
set_option maxHeartbeats 8000000 in
set_option maxRecDepth 100000 in
theorem points_place_order.calls (k : Nat) (a0_0 : Int) (a0_1 : Int) (a1_0 : Int) (a1_1 : Int) (r : Int) (w : World) (h : points_place_order.f k a0_0 a0_1 a1_0 a1_1 = some r) :
    Calls Try.prog 81 #[.agg #[.int .u64 a0_0, .int .i64 a0_1], .agg #[.int .u64 a1_0, .int .i64 a1_1]] w fun e w' => e = .returned (.int .i64 r) ∧ Below w.heap.size w w' := by
  have hu118 := Try.underlying118
  have HB := Aside0.mk (Below.refl w.heap.size w)
  have H : ((cmp_Compare_uint64.f a0_0 a1_0).bind fun t115 => ((cmp_Compare_int.f a0_1 a1_1).bind fun t116 => ((cmp_Or_int.f k (([t115, t116] : List Int))).bind fun t120 => (some t120)))) = some r := h
  clear h
  replace H := Option.bind_eq_some_iff.mp H
  obtain ⟨t115, A30, H⟩ := H
  replace H : ((cmp_Compare_int.f a0_1 a1_1).bind fun t116 => ((cmp_Or_int.f k (([t115, t116] : List Int))).bind fun t120 => (some t120))) = some r := H
  have A3 := Aside0.mk A30
  clear A30
  replace H := Option.bind_eq_some_iff.mp H
  obtain ⟨t116, A40, H⟩ := H
  replace H : ((cmp_Or_int.f k (([t115, t116] : List Int))).bind fun t120 => (some t120)) = some r := H
  have A4 := Aside0.mk A40
  clear A40
  obtain ⟨y117, hy117⟩ : ∃ y_ : List Int, y_ = (([t115, t116] : List Int)) := ⟨_, rfl⟩
  replace H : ((cmp_Or_int.f k y117).bind fun t120 => (some t120)) = some r := by first | (rw [hy117]; with_reducible exact H) | (have H2_ := (Option.bind_some _ _).symm.trans H; rw [hy117]; with_reducible exact H2_) | (have H2_ := (Option.bind_some _ _).symm.trans H; with_reducible exact H2_) | with_reducible exact H | (rw [hy117]; exact H) | exact H
  have Ny117 := Aside0.mk hy117
  clear hy117
  replace H := Option.bind_eq_some_iff.mp H
  obtain ⟨t120, A50, H⟩ := H
  replace H : (some t120) = some r := H
  have A5 := Aside0.mk A50
  clear A50
  obtain rfl := Option.some.inj H
  go_enter Try.func81, Try.ntmps81
  try go_wp2_with (first | ((with_reducible refine gate_dst (N := 2) rfl ?_); refine box_event ?hg (N := 2) ?hd (cs := #[.int .u64 a0_0, .int .i64 a0_1]) (t := 118) ?hr ?_; (case hd => rfl); (case hg => rfl); (case hr => first | (go_simp; done) | (go_simp; rfl)); intro gb113 hg w6 hbox hb; have n0_ := Aside0.mk (below_step (by repeat (first | (with_reducible first | exact HB.out | apply below_alloc | apply pw_below_drewN | apply below_drew1) | exact HB.out)) hb); have n1_ := Aside0.mk (hbox); have n2_ := Aside0.mk ((by rw [hg]; exact (below_size (by repeat (first | (with_reducible first | exact HB.out | apply below_alloc | apply pw_below_drewN | apply below_drew1) | exact HB.out))) : w.heap.size ≤ gb113)); have n3_ := Aside0.mk ((by rw [hg]; exact (below_size (by repeat (first | (with_reducible first | exact HB.out | apply below_alloc | apply pw_below_drewN | apply below_drew1) | exact HB.out))) : w.heap.size ≤ gb113)); clear HB; have HB := n0_; have BK113 := n1_; have GW113 := n2_; have GE113 := n3_; clear n0_ n1_ n2_ n3_; clear hb hbox hg) | ((with_reducible refine gate_dst (N := 3) rfl ?_); refine box_event ?hg (N := 3) ?hd (cs := #[.int .u64 a1_0, .int .i64 a1_1]) (t := 118) ?hr ?_; (case hd => rfl); (case hg => rfl); (case hr => first | (go_simp; done) | (go_simp; rfl)); intro gb114 hg w7 hbox hb; have n0_ := Aside0.mk (blk_below (g := gb113) (o := .cells #[.int .u64 a0_0, .int .i64 a0_1] 118 (0, 0)) (by (with_reducible repeat (first | refine blk_drewN ?_ _ | refine blk_drew ?_ | refine blk_alloc ?_ _)); exact BK113.out) hb); have n1_ := Aside0.mk (below_step (by repeat (first | (with_reducible first | exact HB.out | apply below_alloc | apply pw_below_drewN | apply below_drew1 | refine below_set ?_ GE113.out) | exact HB.out)) hb); have n2_ := Aside0.mk (hbox); have n3_ := Aside0.mk ((by rw [hg]; exact (below_size (by repeat (first | (with_reducible first | exact HB.out | apply below_alloc | apply pw_below_drewN | apply below_drew1 | refine below_set ?_ GE113.out) | exact HB.out))) : w.heap.size ≤ gb114)); have n4_ := Aside0.mk ((by rw [hg]; exact (below_size (by repeat (first | (with_reducible first | exact HB.out | apply below_alloc | apply pw_below_drewN | apply below_drew1 | refine below_set ?_ GE113.out) | exact HB.out))) : w.heap.size ≤ gb114)); have n5_ := Aside0.mk ((by rw [hg]; exact Nat.ne_of_lt (blk_lt (g := gb113) (o := .cells #[.int .u64 a0_0, .int .i64 a0_1] 118 (0, 0)) (by (with_reducible repeat (first | refine blk_drewN ?_ _ | refine blk_drew ?_ | refine blk_alloc ?_ _)); exact BK113.out)) : gb113 ≠ gb114)); have n6_ := Aside0.mk ((by rw [hg]; exact Nat.ne_of_gt (blk_lt (g := gb113) (o := .cells #[.int .u64 a0_0, .int .i64 a0_1] 118 (0, 0)) (by (with_reducible repeat (first | refine blk_drewN ?_ _ | refine blk_drew ?_ | refine blk_alloc ?_ _)); exact BK113.out)) : gb114 ≠ gb113)); clear BK113; clear HB; have BK113 := n0_; have HB := n1_; have BK114 := n2_; have GW114 := n3_; have GE114 := n4_; have NB113_114 := n5_; have NB114_113 := n6_; clear n0_ n1_ n2_ n3_ n4_ n5_ n6_; clear hb hbox hg))
  have n0_ := Aside0.mk (blk_drew BK113.out)
  have n1_ := Aside0.mk (blk_drew BK114.out)
  have n2_ := Aside0.mk (below_drew1 HB.out)
  clear BK113
  clear BK114
  clear HB
  have BK113 := n0_
  have BK114 := n1_
  have HB := n2_
  clear n0_ n1_ n2_
  refine start_ (n := 13) (S := fun w' => w'.cell? ⟨gb113, 0, none⟩ = some (.int .u64 a0_0) ∧ w'.cell? ⟨gb113, 1, none⟩ = some (.int .i64 a0_1) ∧ w'.cell? ⟨gb114, 0, none⟩ = some (.int .u64 a1_0) ∧ w'.cell? ⟨gb114, 1, none⟩ = some (.int .i64 a1_1)) (ds := []) #[false, false, false, false, false, false, false, false, false, false, false, false, false] (by kernel_rfl) rfl rfl ⟨(blk_cell BK113.out 0).trans rfl, (blk_cell BK113.out 1).trans rfl, (blk_cell BK114.out 0).trans rfl, (blk_cell BK114.out 1).trans rfl⟩ (fun hHeld => ?_); refine with_tabW points_place_order.tab1 points_place_order.bits1 (fun HT_ HW_ => ?_)
  generalize w7.drew = w8 at BK113 BK114 HB hHeld ⊢
  refine pure_ (i := 0) (N := some 5) (v := ?_) (a' := ?_) #[true, false, false, false, false, false, false, false, false, false, false, false, false] rfl rfl (any_of HT_.out (by kernel_rfl)) (fun _ _ _ h => h) (Or.inl ⟨by rfl, ?_⟩) ?_ ?_
  rotate_left
  · intro w'
    go_simp
    with_reducible rfl
  rotate_left
  · simp only [Act.put, List.setIfInBounds_toArray, List.set_cons_zero, List.set_cons_succ, i64_w, i32_w]
    rfl
  refine pure_ (i := 2) (N := some 7) (v := ?_) (a' := ?_) #[true, false, true, false, false, false, false, false, false, false, false, false, false] rfl rfl (any_of HT_.out (by kernel_rfl)) (fun _ _ _ h => h) (Or.inl ⟨by rfl, ?_⟩) ?_ ?_
  rotate_left
  · intro w'
    go_simp
    with_reducible rfl
  rotate_left
  · simp only [Act.put, List.setIfInBounds_toArray, List.set_cons_zero, List.set_cons_succ, i64_w, i32_w]
    rfl
  refine pure_ (i := 5) (N := some 10) (v := ?_) (a' := ?_) #[true, false, true, false, false, true, false, false, false, false, false, false, false] rfl rfl (any_of HT_.out (by kernel_rfl)) (fun _ _ _ h => h) (Or.inl ⟨by rfl, ?_⟩) ?_ ?_
  rotate_left
  · intro w'
    go_simp
    with_reducible rfl
  rotate_left
  · simp only [Act.put, List.setIfInBounds_toArray, List.set_cons_zero, List.set_cons_succ, i64_w, i32_w]
    rfl
  refine pure_ (i := 7) (N := some 12) (v := ?_) (a' := ?_) #[true, false, true, false, false, true, false, true, false, false, false, false, false] rfl rfl (any_of HT_.out (by kernel_rfl)) (fun _ _ _ h => h) (Or.inl ⟨by rfl, ?_⟩) ?_ ?_
  rotate_left
  · intro w'
    go_simp
    with_reducible rfl
  rotate_left
  · simp only [Act.put, List.setIfInBounds_toArray, List.set_cons_zero, List.set_cons_succ, i64_w, i32_w]
    rfl
  refine take_ (i := 1) (N := some 6) (v := ?_) (a' := ?_) #[true, true, true, false, false, true, false, true, false, false, false, false, false] rfl rfl (take_ofW HT_.out HW_.out (by kernel_rfl)) (fun _ _ _ h => h) (Or.inl ⟨by rfl, ?_⟩) hHeld ?_ ?_
  rotate_left
  · rintro w' ⟨s0, s1, s2, s3⟩
    go_simp
    with_reducible rfl
  rotate_left
  · simp only [Act.put, List.setIfInBounds_toArray, List.set_cons_zero, List.set_cons_succ, i64_w, i32_w]
    rfl
  refine take_ (i := 3) (N := some 8) (v := ?_) (a' := ?_) #[true, true, true, true, false, true, false, true, false, false, false, false, false] rfl rfl (take_ofW HT_.out HW_.out (by kernel_rfl)) (fun _ _ _ h => h) (Or.inl ⟨by rfl, ?_⟩) hHeld ?_ ?_
  rotate_left
  · rintro w' ⟨s0, s1, s2, s3⟩
    go_simp
    with_reducible rfl
  rotate_left
  · simp only [Act.put, List.setIfInBounds_toArray, List.set_cons_zero, List.set_cons_succ, i64_w, i32_w]
    rfl
  refine take_ (i := 6) (N := some 11) (v := ?_) (a' := ?_) #[true, true, true, true, false, true, true, true, false, false, false, false, false] rfl rfl (take_ofW HT_.out HW_.out (by kernel_rfl)) (fun _ _ _ h => h) (Or.inl ⟨by rfl, ?_⟩) hHeld ?_ ?_
  rotate_left
  · rintro w' ⟨s0, s1, s2, s3⟩
    go_simp
    with_reducible rfl
  rotate_left
  · simp only [Act.put, List.setIfInBounds_toArray, List.set_cons_zero, List.set_cons_succ, i64_w, i32_w]
    rfl
  refine take_ (i := 8) (N := some 13) (v := ?_) (a' := ?_) #[true, true, true, true, false, true, true, true, true, false, false, false, false] rfl rfl (take_ofW HT_.out HW_.out (by kernel_rfl)) (fun _ _ _ h => h) (Or.inl ⟨by rfl, ?_⟩) hHeld ?_ ?_
  rotate_left
  · rintro w' ⟨s0, s1, s2, s3⟩
    go_simp
    with_reducible rfl
  rotate_left
  · simp only [Act.put, List.setIfInBounds_toArray, List.set_cons_zero, List.set_cons_succ, i64_w, i32_w]
    rfl
  refine one_ (i := 4) (N := some 9) #[true, true, true, true, true, true, true, true, true, false, false, false, false] rfl rfl (one_of HT_.out (by kernel_rfl)) (by decide) (fun K hK => ?_)
  refine goes_ Try.func99 (by kernel_rfl) rfl #[.int .u64 a0_0, .int .u64 a1_0] (by rfl) rfl rfl (by (try simp only [List.map_toArray, List.map_cons, List.map_nil]); first | done | rfl | (simp only [List.length_drop, List.length_take]; rfl)) ?_
  with_reducible refine (cmp_Compare_uint64.calls a0_0 a1_0 t115 _ A3.out).mono ?_
  rintro e w' ⟨rfl, ⟨nd, rfl⟩⟩
  refine ⟨_, rfl, ?_⟩
  refine hK.out _ _ ⟨(blk_cell BK113.out 0).trans rfl, (blk_cell BK113.out 1).trans rfl, (blk_cell BK114.out 0).trans rfl, (blk_cell BK114.out 1).trans rfl⟩ (fun hHeld => ?_)
  clear hK K
  refine norm_ (a' := ?_) ?_ ?_
  rotate_left
  · show Act.put _ (some 9) _ = _
    simp only [Act.put, List.setIfInBounds_toArray, List.set_cons_zero, List.set_cons_succ, i64_w, i32_w]
    rfl
  refine one_ (i := 9) (N := some 14) #[true, true, true, true, true, true, true, true, true, true, false, false, false] rfl rfl (one_of HT_.out (by kernel_rfl)) (by decide) (fun K hK => ?_)
  refine goes_ Try.func67 (by kernel_rfl) rfl #[.int .i64 a0_1, .int .i64 a1_1] (by rfl) rfl rfl (by (try simp only [List.map_toArray, List.map_cons, List.map_nil]); first | done | rfl | (simp only [List.length_drop, List.length_take]; rfl)) ?_
  with_reducible refine (cmp_Compare_int.calls a0_1 a1_1 t116 _ A4.out).mono ?_
  rintro e w' ⟨rfl, ⟨nd, rfl⟩⟩
  refine ⟨_, rfl, ?_⟩
  refine hK.out _ _ ⟨(blk_cell BK113.out 0).trans rfl, (blk_cell BK113.out 1).trans rfl, (blk_cell BK114.out 0).trans rfl, (blk_cell BK114.out 1).trans rfl⟩ (fun hHeld => ?_)
  clear hK K
  refine norm_ (a' := ?_) ?_ ?_
  rotate_left
  · show Act.put _ (some 14) _ = _
    simp only [Act.put, List.setIfInBounds_toArray, List.set_cons_zero, List.set_cons_succ, i64_w, i32_w]
    rfl
  refine one_ (i := 10) (N := some 15) #[true, true, true, true, true, true, true, true, true, true, true, false, false] rfl rfl (one_of HT_.out (by kernel_rfl)) (by decide) (fun K hK => ?_)
  refine Kd.R_lit_step (Kd.int .i64) _ 3 ?hg (N := 15) ?hd (xs := ([t115, t116] : List Int)) (inner := [.int .i64 t115, .int .i64 t116]) (ok := fun _ => True) (okp := fun _ => True) ?hr ?hp (fun _ hk => hk) trivial (Below.refl _ _) (Nat.le_refl _) (by simp) ?_; (case hd => rfl); (case hg => rfl); (case hr => first | (go_simp; done) | (go_simp; rfl)); (case hp => exact (Reps.one (show Kd.M (Kd.int .i64) _ _ _ t115 [.int .i64 t115] from rfl) (Reps.one (show Kd.M (Kd.int .i64) _ _ _ t116 [.int .i64 t116] from rfl) (Reps.none _ _))))
  intro v118 w9 ho10 hb hg_ hnew_
  clear hg_ hnew_
  (first | rw [← Ny117.out] at ho10 | (simp only [Int.reduceToNat] at ho10; rw [← Ny117.out] at ho10))
  have n0_ := Aside0.mk (Kd.R_lower ho10 (below_size (by repeat (first | (with_reducible first | exact HB.out | apply below_alloc | apply pw_below_drewN | apply below_drew1 | refine below_set ?_ GE113.out | refine below_set ?_ GE114.out) | exact HB.out))))
  have n1_ := Aside0.mk (blk_below (g := gb113) (o := .cells #[.int .u64 a0_0, .int .i64 a0_1] 118 (0, 0)) (by (with_reducible repeat (first | refine blk_drewN ?_ _ | refine blk_drew ?_ | refine blk_alloc ?_ _)); exact BK113.out) hb)
  have n2_ := Aside0.mk (blk_below (g := gb114) (o := .cells #[.int .u64 a1_0, .int .i64 a1_1] 118 (0, 0)) (by (with_reducible repeat (first | refine blk_drewN ?_ _ | refine blk_drew ?_ | refine blk_alloc ?_ _)); exact BK114.out) hb)
  have n3_ := Aside0.mk (below_step (by repeat (first | (with_reducible first | exact HB.out | apply below_alloc | apply pw_below_drewN | apply below_drew1 | refine below_set ?_ GE113.out | refine below_set ?_ GE114.out) | exact HB.out)) hb)
  clear BK113
  clear BK114
  clear HB
  have HO119 := n0_
  have BK113 := n1_
  have BK114 := n2_
  have HB := n3_
  clear n0_ n1_ n2_ n3_
  clear hb ho10
  obtain ⟨Ao11, co11, eo11⟩ := Kd.R_slice HO119.out
  (first | subst eo11 | (injection eo11 with f1_ f2_ f3_; have f4_ := f1_.symm; have f5_ := f3_.symm; clear f1_ f2_ f3_; subst f4_; subst f5_))
  refine hK.out _ _ ⟨(blk_cell BK113.out 0).trans rfl, (blk_cell BK113.out 1).trans rfl, (blk_cell BK114.out 0).trans rfl, (blk_cell BK114.out 1).trans rfl⟩ (fun hHeld => ?_)
  clear hK K
  refine norm_ (a' := ?_) ?_ ?_
  rotate_left
  · show Act.put _ (some 15) _ = _
    simp only [Act.put, List.setIfInBounds_toArray, List.set_cons_zero, List.set_cons_succ, i64_w, i32_w]
    rfl
  refine one_ (i := 11) (N := some 16) #[true, true, true, true, true, true, true, true, true, true, true, true, false] rfl rfl (one_of HT_.out (by kernel_rfl)) (by decide) (fun K hK => ?_)
  refine goes_ Try.func98 (by kernel_rfl) rfl #[.slice Ao11 y117.length co11] (by rfl) rfl rfl (by (try simp only [List.map_toArray, List.map_cons, List.map_nil]); first | done | rfl | (simp only [List.length_drop, List.length_take]; rfl)) ?_
  with_reducible refine (cmp_Or_int.calls k _ _ y117 t120 _ ?side1 ?side2 A5.out).mono ?_
  (case side1 => repeat (first | exact (Kd.R_reads' HO119.out).2.2 | (with_reducible refine Kd.C_alloc ?_ _) | (with_reducible refine Kd.C_drewN ?_ _) | (with_reducible refine Kd.C_drew ?_)))
  (case side2 => exact (Kd.R_reads' HO119.out).2.1)
  rintro e w' ⟨rfl, ⟨nd, rfl⟩⟩
  refine ⟨_, rfl, ?_⟩
  refine hK.out _ _ ⟨(blk_cell BK113.out 0).trans rfl, (blk_cell BK113.out 1).trans rfl, (blk_cell BK114.out 0).trans rfl, (blk_cell BK114.out 1).trans rfl⟩ (fun hHeld => ?_)
  clear hK K
  refine norm_ (a' := ?_) ?_ ?_
  rotate_left
  · show Act.put _ (some 16) _ = _
    simp only [Act.put, List.setIfInBounds_toArray, List.set_cons_zero, List.set_cons_succ, i64_w, i32_w]
    rfl
  refine pure_ (i := 12) (N := some 4) (v := ?_) (a' := ?_) #[true, true, true, true, true, true, true, true, true, true, true, true, true] rfl rfl (any_of HT_.out (by kernel_rfl)) (fun _ _ _ h => h) (Or.inl ⟨by rfl, ?_⟩) ?_ ?_
  rotate_left
  · intro w'
    go_simp
    with_reducible rfl
  rotate_left
  · simp only [Act.put, List.setIfInBounds_toArray, List.set_cons_zero, List.set_cons_succ, i64_w, i32_w]
    rfl
  refine done_ (done_of HT_.out (by kernel_rfl)) ?_
  try go_wp2
  go_ret
  exact ⟨by first | rfl | (simp [errW_none, errW_some] <;> rfl) | (simp [*, errW_none, errW_some] <;> rfl), by repeat (first | (with_reducible first | exact HB.out | apply below_alloc | apply pw_below_drewN | apply below_drew1 | refine below_set ?_ GE113.out | refine below_set ?_ GE114.out) | exact HB.out)⟩

-- NOT PRINTED: function 131 (points_place_131)

-- NOT PRINTED: function 145 (points_place_145)

-- NOT PRINTED: function 132 (points_place_132)

-- NOT PRINTED: function 126 (slices_xorshift_Next)

-- NOT PRINTED: function 117 (points_place_117)

/-! ### points_place_95: function 95 -/
section
open Go.Sort (grow grow_empty grow_grow alloc_eq_grow)
open Go.Shelf Go.Proofs.Ytklngklmeanhcaa.Hand
/-- World w' is w with draws, and blocks behind it. -/
def Gr (w w' : World) : Prop := ∃ q os, w' = grow (w.drewN q) os
theorem Gr.refl (w : World) : Gr w w := ⟨0, #[], by rw [grow_empty]; rfl⟩
theorem Gr.alloc {w W : World} (h : Gr w W) (o : Obj) : Gr w (W.alloc o) := by
  obtain ⟨q, os, rfl⟩ := h
  exact ⟨q, os ++ #[o], by rw [alloc_eq_grow, grow_grow]⟩
theorem Gr.drewN {w W : World} (h : Gr w W) (n : Nat) : Gr w (W.drewN n) := by
  obtain ⟨q, os, rfl⟩ := h
  exact ⟨q + n, os, by show grow ((w.drewN q).drewN n) os = _; rw [World.drewN_drewN]⟩
theorem Gr.drew {w W : World} (h : Gr w W) : Gr w W.drew := h.drewN 1
def cmpI (a b : Int) : Int := if a < b then -1 else if b < a then 1 else 0
theorem cmpI_some (a b : Int) : (if a < b then some (-1) else if b < a then some 1 else some 0) = some (cmpI a b) := by
  unfold cmpI
  split
  · rfl
  · split <;> rfl
theorem cmpI_int (a b : Int) : cmp_Compare_int.f a b = some (cmpI a b) := by
  rw [← cmpI_some]; unfold cmp_Compare_int.f cmp_isNaN_int.f; simp
theorem cmpI_u64 (a b : Int) : cmp_Compare_uint64.f a b = some (cmpI a b) := by
  rw [← cmpI_some]; unfold cmp_Compare_uint64.f cmp_isNaN_uint64.f; simp
def orI (a b : Int) : Int := if a = 0 then b else a
theorem orI_eq (a b : Int) : cmp_Or_int.f 3 [a, b] = some (orI a b) := by
  have w1 : wrap64 1 = 1 := by unfold wrap64; omega
  have w2 : wrap64 2 = 2 := by unfold wrap64; omega
  unfold cmp_Or_int.f orI
  by_cases h : a = 0
  · by_cases h2 : b = 0
    · simp [cmp_Or_int.l0, rd, h, h2, w1, w2]
    · simp [cmp_Or_int.l0, rd, h, h2, w1, w2]
  · simp [cmp_Or_int.l0, rd, h]
def ordI (x y : S118) : Int := orI (cmpI x.f0 y.f0) (cmpI x.f1 y.f1)
set_option maxRecDepth 100000 in
set_option maxHeartbeats 8000000 in
theorem order_grown (x y : S118) (W : World) : Calls Try.prog 81 #[.agg #[.int .u64 x.f0, .int .i64 x.f1], .agg #[.int .u64 y.f0, .int .i64 y.f1]] W fun e w' => e = .returned (.int .i64 (ordI x y)) ∧ Gr W w' := by
  unfold ordI
  have hA := fun w => cmp_Compare_uint64.calls x.f0 y.f0 _ w (cmpI_u64 x.f0 y.f0)
  have hB := fun w => cmp_Compare_int.calls x.f1 y.f1 _ w (cmpI_int x.f1 y.f1)
  generalize cmpI x.f0 y.f0 = p at hA ⊢
  generalize cmpI x.f1 y.f1 = q at hB ⊢
  have hO := fun A w h => cmp_Or_int.calls 3 A 2 [p, q] _ w h (by simp) (orI_eq p q)
  generalize orI p q = r at hO ⊢
  have HA := Lib.hid hA
  have HB := Lib.hid hB
  have HO := Lib.hid hO
  clear hA hB hO
  go_enter Try.func81, Try.ntmps81
  go_wp2
  have b1 := Blk.new W 118 [.int .u64 x.f0, .int .i64 x.f1]
  have b2 := Blk.new (W.alloc (.cells #[.int .u64 x.f0, .int .i64 x.f1] 118)) 118 [.int .u64 y.f0, .int .i64 y.f1]
  replace b1 := b1.alloc (.cells #[.int .u64 y.f0, .int .i64 y.f1] 118)
  have hg0 : Gr W ((W.alloc (.cells #[.int .u64 x.f0, .int .i64 x.f1] 118)).alloc (.cells #[.int .u64 y.f0, .int .i64 y.f1] 118)) := ((Gr.refl _).alloc _).alloc _
  obtain ⟨W0, hW0⟩ : ∃ W0, ((W.alloc (.cells #[.int .u64 x.f0, .int .i64 x.f1] 118)).alloc (.cells #[.int .u64 y.f0, .int .i64 y.f1] 118)) = W0 := ⟨_, rfl⟩
  have hs0 : (W.alloc (.cells #[.int .u64 x.f0, .int .i64 x.f1] 118)).heap.size = W.heap.size + 1 := by simp
  rw [hW0] at b1 b2 hg0 ⊢
  rw [hs0] at b2
  clear hW0 hs0
  have BB := Lib.hid b1
  have BC := Lib.hid b2
  have HG0 := Lib.hid hg0
  clear b1 b2 hg0
  refine start_ (n := 13) (S := (fun w' => w'.cell? ⟨W.heap.size, 0, none⟩ = some (.int .u64 x.f0) ∧ w'.cell? ⟨W.heap.size, 1, none⟩ = some (.int .i64 x.f1) ∧ w'.cell? ⟨W.heap.size + 1, 0, none⟩ = some (.int .u64 y.f0) ∧ w'.cell? ⟨W.heap.size + 1, 1, none⟩ = some (.int .i64 y.f1))) (ds := []) #[false, false, false, false, false, false, false, false, false, false, false, false, false] (by kernel_rfl) rfl rfl ⟨(BB.out.cell 0).trans rfl, (BB.out.cell 1).trans rfl, (BC.out.cell 0).trans rfl, (BC.out.cell 1).trans rfl⟩ (fun hHeld => ?_); refine with_tabW points_place_order.tab1 points_place_order.bits1 (fun HT_ HW_ => ?_)
  refine pure_ (i := 0) (N := some 5) (v := ?_) (a' := ?_) #[true, false, false, false, false, false, false, false, false, false, false, false, false] rfl rfl (any_of HT_.out (by kernel_rfl)) (fun _ _ _ h => h) (Or.inl ⟨by rfl, ?_⟩) ?_ ?_
  rotate_left
  · intro w'
    go_simp
    with_reducible rfl
  rotate_left
  · simp only [Act.put, List.setIfInBounds_toArray, List.set_cons_zero, List.set_cons_succ, i64_w, i32_w]
    rfl
  refine pure_ (i := 2) (N := some 7) (v := ?_) (a' := ?_) #[true, false, true, false, false, false, false, false, false, false, false, false, false] rfl rfl (any_of HT_.out (by kernel_rfl)) (fun _ _ _ h => h) (Or.inl ⟨by rfl, ?_⟩) ?_ ?_
  rotate_left
  · intro w'
    go_simp
    with_reducible rfl
  rotate_left
  · simp only [Act.put, List.setIfInBounds_toArray, List.set_cons_zero, List.set_cons_succ, i64_w, i32_w]
    rfl
  refine pure_ (i := 5) (N := some 10) (v := ?_) (a' := ?_) #[true, false, true, false, false, true, false, false, false, false, false, false, false] rfl rfl (any_of HT_.out (by kernel_rfl)) (fun _ _ _ h => h) (Or.inl ⟨by rfl, ?_⟩) ?_ ?_
  rotate_left
  · intro w'
    go_simp
    with_reducible rfl
  rotate_left
  · simp only [Act.put, List.setIfInBounds_toArray, List.set_cons_zero, List.set_cons_succ, i64_w, i32_w]
    rfl
  refine pure_ (i := 7) (N := some 12) (v := ?_) (a' := ?_) #[true, false, true, false, false, true, false, true, false, false, false, false, false] rfl rfl (any_of HT_.out (by kernel_rfl)) (fun _ _ _ h => h) (Or.inl ⟨by rfl, ?_⟩) ?_ ?_
  rotate_left
  · intro w'
    go_simp
    with_reducible rfl
  rotate_left
  · simp only [Act.put, List.setIfInBounds_toArray, List.set_cons_zero, List.set_cons_succ, i64_w, i32_w]
    rfl
  refine take_ (i := 1) (N := some 6) (v := ?_) (a' := ?_) #[true, true, true, false, false, true, false, true, false, false, false, false, false] rfl rfl (take_ofW HT_.out HW_.out (by kernel_rfl)) (fun _ _ _ h => h) (Or.inl ⟨by rfl, ?_⟩) hHeld ?_ ?_
  rotate_left
  · rintro w' ⟨s0, s1, s2, s3⟩
    go_simp
    with_reducible rfl
  rotate_left
  · simp only [Act.put, List.setIfInBounds_toArray, List.set_cons_zero, List.set_cons_succ, i64_w, i32_w]
    rfl
  refine take_ (i := 3) (N := some 8) (v := ?_) (a' := ?_) #[true, true, true, true, false, true, false, true, false, false, false, false, false] rfl rfl (take_ofW HT_.out HW_.out (by kernel_rfl)) (fun _ _ _ h => h) (Or.inl ⟨by rfl, ?_⟩) hHeld ?_ ?_
  rotate_left
  · rintro w' ⟨s0, s1, s2, s3⟩
    go_simp
    with_reducible rfl
  rotate_left
  · simp only [Act.put, List.setIfInBounds_toArray, List.set_cons_zero, List.set_cons_succ, i64_w, i32_w]
    rfl
  refine take_ (i := 6) (N := some 11) (v := ?_) (a' := ?_) #[true, true, true, true, false, true, true, true, false, false, false, false, false] rfl rfl (take_ofW HT_.out HW_.out (by kernel_rfl)) (fun _ _ _ h => h) (Or.inl ⟨by rfl, ?_⟩) hHeld ?_ ?_
  rotate_left
  · rintro w' ⟨s0, s1, s2, s3⟩
    go_simp
    with_reducible rfl
  rotate_left
  · simp only [Act.put, List.setIfInBounds_toArray, List.set_cons_zero, List.set_cons_succ, i64_w, i32_w]
    rfl
  refine take_ (i := 8) (N := some 13) (v := ?_) (a' := ?_) #[true, true, true, true, false, true, true, true, true, false, false, false, false] rfl rfl (take_ofW HT_.out HW_.out (by kernel_rfl)) (fun _ _ _ h => h) (Or.inl ⟨by rfl, ?_⟩) hHeld ?_ ?_
  rotate_left
  · rintro w' ⟨s0, s1, s2, s3⟩
    go_simp
    with_reducible rfl
  rotate_left
  · simp only [Act.put, List.setIfInBounds_toArray, List.set_cons_zero, List.set_cons_succ, i64_w, i32_w]
    rfl
  refine one_ (i := 4) (N := some 9) #[true, true, true, true, true, true, true, true, true, false, false, false, false] rfl rfl (one_of HT_.out (by kernel_rfl)) (by decide) (fun K hK => ?_)
  refine goes_ Try.func99 (by kernel_rfl) rfl #[.int .u64 x.f0, .int .u64 y.f0] (by rfl) rfl rfl (by simp only [List.map_toArray, List.map_cons, List.map_nil]; first | done | rfl) ?_
  refine (HA.out _).mono ?_
  rintro e w' ⟨rfl, ⟨n1, rfl⟩⟩
  refine ⟨_, rfl, ?_⟩
  refine hK.out _ _ ⟨(BB.out.cell 0).trans rfl, (BB.out.cell 1).trans rfl, (BC.out.cell 0).trans rfl, (BC.out.cell 1).trans rfl⟩ (fun hHeld => ?_)
  clear hK K
  refine norm_ (a' := ?_) ?_ ?_
  rotate_left
  · show Act.put _ (some 9) _ = _
    simp only [Act.put, List.setIfInBounds_toArray, List.set_cons_zero, List.set_cons_succ, i64_w, i32_w]
    rfl
  refine one_ (i := 9) (N := some 14) #[true, true, true, true, true, true, true, true, true, true, false, false, false] rfl rfl (one_of HT_.out (by kernel_rfl)) (by decide) (fun K hK => ?_)
  refine goes_ Try.func67 (by kernel_rfl) rfl #[.int .i64 x.f1, .int .i64 y.f1] (by rfl) rfl rfl (by simp only [List.map_toArray, List.map_cons, List.map_nil]; first | done | rfl) ?_
  refine (HB.out _).mono ?_
  rintro e w' ⟨rfl, ⟨n2, rfl⟩⟩
  refine ⟨_, rfl, ?_⟩
  refine hK.out _ _ ⟨(BB.out.cell 0).trans rfl, (BB.out.cell 1).trans rfl, (BC.out.cell 0).trans rfl, (BC.out.cell 1).trans rfl⟩ (fun hHeld => ?_)
  clear hK K
  refine norm_ (a' := ?_) ?_ ?_
  rotate_left
  · show Act.put _ (some 14) _ = _
    simp only [Act.put, List.setIfInBounds_toArray, List.set_cons_zero, List.set_cons_succ, i64_w, i32_w]
    rfl
  refine one_ (i := 10) (N := some 15) #[true, true, true, true, true, true, true, true, true, true, true, false, false] rfl rfl (one_of HT_.out (by kernel_rfl)) (by decide) (fun K hK => ?_)
  refine value_ (v := .slice (some ⟨W0.heap.size, 0, none⟩) 2 2) (w1 := (W0.drewN (1 + n1 + n2)).alloc (.cells #[.int .i64 p, .int .i64 q] 3)) rfl rfl (by first | (go_simp; done) | (go_simp; rfl)) ?_
  have hb2 := BB.out.alloc (.cells #[.int .i64 p, .int .i64 q] 3)
  have hc2 := BC.out.alloc (.cells #[.int .i64 p, .int .i64 q] 3)
  clear BB BC
  have BB := Lib.hid hb2
  have BC := Lib.hid hc2
  clear hb2 hc2
  refine hK.out _ _ ⟨(BB.out.cell 0).trans rfl, (BB.out.cell 1).trans rfl, (BC.out.cell 0).trans rfl, (BC.out.cell 1).trans rfl⟩ (fun hHeld => ?_)
  clear hK K
  refine norm_ (a' := ?_) ?_ ?_
  rotate_left
  · show Act.put _ (some 15) _ = _
    simp only [Act.put, List.setIfInBounds_toArray, List.set_cons_zero, List.set_cons_succ, i64_w, i32_w]
    rfl
  refine one_ (i := 11) (N := some 16) #[true, true, true, true, true, true, true, true, true, true, true, true, false] rfl rfl (one_of HT_.out (by kernel_rfl)) (by decide) (fun K hK => ?_)
  refine goes_ Try.func98 (by kernel_rfl) rfl #[.slice (some ⟨W0.heap.size, 0, none⟩) 2 2] (by rfl) rfl rfl (by simp only [List.map_toArray, List.map_cons, List.map_nil]; first | done | rfl) ?_
  refine (HO.out _ _ ?ho).mono ?_
  case ho =>
    have own : ((W0.drewN (1 + n1 + n2)).alloc (.cells #[.int .i64 p, .int .i64 q] 3)).ownsRow 0 3 1 (.slice (some ⟨W0.heap.size, 0, none⟩) 2 2) 2 [.int .i64 p, .int .i64 q] := ⟨rfl, .inr ⟨_, 2, _, rfl, Nat.zero_le _, heap_alloc_new _ _, Nat.le_refl _, by decide, rfl, rfl⟩⟩
    exact (Kd.R_reads' (Kd.R_of_own (xs := [p, q]) own (fun _ _ => trivial))).2.2
  rintro e w' ⟨rfl, ⟨n3, rfl⟩⟩
  refine ⟨_, rfl, ?_⟩
  refine hK.out _ _ ⟨(BB.out.cell 0).trans rfl, (BB.out.cell 1).trans rfl, (BC.out.cell 0).trans rfl, (BC.out.cell 1).trans rfl⟩ (fun hHeld => ?_)
  clear hK K
  refine norm_ (a' := ?_) ?_ ?_
  rotate_left
  · show Act.put _ (some 16) _ = _
    simp only [Act.put, List.setIfInBounds_toArray, List.set_cons_zero, List.set_cons_succ, i64_w, i32_w]
    rfl
  refine pure_ (i := 12) (N := some 4) (v := ?_) (a' := ?_) #[true, true, true, true, true, true, true, true, true, true, true, true, true] rfl rfl (any_of HT_.out (by kernel_rfl)) (fun _ _ _ h => h) (Or.inl ⟨by rfl, ?_⟩) ?_ ?_
  rotate_left
  · intro w'
    go_simp
    with_reducible rfl
  rotate_left
  · simp only [Act.put, List.setIfInBounds_toArray, List.set_cons_zero, List.set_cons_succ, i64_w, i32_w]
    rfl
  refine done_ (done_of HT_.out (by kernel_rfl)) ?_
  try go_wp2
  go_ret
  exact ⟨rfl, ((HG0.out.drewN _).alloc _).drewN _⟩
/-- A place's two cells. -/
def encPl (x : S118) : List Value := [.int .u64 x.f0, .int .i64 x.f1]
theorem encPl_len (x : S118) : (encPl x).length = 2 := rfl
theorem encPl_one (x : S118) : ∀ v ∈ encPl x, v.oneCell' = true := fun v hv => by simp [encPl] at hv; rcases hv with rfl | rfl <;> rfl
instance inhPl : Inhabited S118 := ⟨z118⟩
theorem ordI_neg (x y : S118) : ordI x y < 0 ↔ x.f0 < y.f0 ∨ (x.f0 = y.f0 ∧ x.f1 < y.f1) := by
  unfold ordI orI cmpI; split <;> (repeat' split) <;> omega
theorem ltOrd (x y : S118) : ltOf ordI x y = decide (x.f0 < y.f0 ∨ (x.f0 = y.f0 ∧ x.f1 < y.f1)) := by
  unfold ltOf; exact decide_eq_decide.2 (ordI_neg x y)
theorem swoOrd : Go.Sort.SWO (ltOf ordI) where
  irrefl x := by rw [ltOrd]; simp
  trans x y z h1 h2 := by rw [ltOrd] at *; simp at *; omega
  ntrans x y z h1 h2 := by rw [ltOrd] at *; simp at *; omega
theorem totOrd (x y : S118) (h1 : ltOf ordI x y = false) (h2 : ltOf ordI y x = false) : x = y := by
  rw [ltOrd] at *
  obtain ⟨a, b⟩ := x
  obtain ⟨c, d⟩ := y
  simp at h1 h2
  obtain rfl : a = c := by omega
  obtain rfl : b = d := by omega
  rfl
/-- Places in order. -/
def srtL (l : List S118) : List S118 := l.mergeSort fun x y => !(ltOf ordI y x)
theorem srtL_len (l : List S118) : (srtL l).length = l.length := List.length_mergeSort l
theorem reps_flatMap {α : Type} {R : α → List Value → Prop} {enc : α → List Value} {k : Nat} (hR : ∀ p c, R p c → c = enc p) : ∀ (xs : List α) (cs : List Value), Reps R k xs cs → cs = xs.flatMap enc
  | [], cs, h => by have := h.1; simp at this; simp [this]
  | x :: l, cs, h => by
    have h0 := hR _ _ (h.2 0 x rfl)
    have hl := h.1
    rw [Nat.zero_mul, List.drop_zero] at h0
    have ht : Reps R k l (cs.drop k) := ⟨by rw [List.length_drop, hl, List.length_cons, Nat.add_mul, Nat.one_mul, Nat.add_sub_cancel], fun j p hj => by
      have := h.2 (j + 1) p hj
      rw [List.drop_drop, show k + j * k = (j + 1) * k by rw [Nat.add_mul, Nat.one_mul, Nat.add_comm]]
      exact this⟩
    have ih := reps_flatMap hR l _ ht
    rw [List.flatMap_cons, ← h0, ← ih, List.take_append_drop]
theorem ptVs_flat (l : List S118) : ptVs l = l.flatMap encPl := rfl
set_option maxRecDepth 100000 in
set_option maxHeartbeats 4000000 in
theorem SortFunc_pts (v : Value) (xs : List S118) (hl : xs.length ≤ 100000000) (n₀ : Nat) (W : World) (hn : n₀ ≤ W.heap.size) (hR : Kd.R k118 118 W n₀ (fun _ => True) v xs) :
    Calls Try.prog 95 #[v, .func (.func 81) #[] #[]] W fun e w' => e = .returned (.tuple #[]) ∧ Kd.R k118 118 w' n₀ (fun _ => True) v (srtL xs) ∧ Below n₀ W w' := by
  cases hx : xs with
  | nil =>
    subst hx
    obtain ⟨A, c, rfl⟩ := Kd.R_slice hR
    have hcon := AnyF.slices_SortFunc_none Try.sortPl A c (.func (.func 81) #[] #[]) W
    change Calls Try.prog 95 _ _ _ at hcon
    refine hcon.mono ?_
    rintro e w' ⟨rfl, rfl⟩
    exact ⟨rfl, by simpa [srtL] using hR, Below.refl _ _⟩
  | cons x0 l0 =>
    have hpos : 0 < xs.length := by rw [hx]; simp
    rw [← hx]
    obtain ⟨g, cap, rfl, hg1, hg2, _⟩ := Kd.R_form hR hpos
    obtain ⟨_, inner, ho, hr⟩ := hR
    obtain rfl := reps_flatMap (enc := encPl) (fun p c h => k118_openM h) xs inner hr
    have ho' : W.ownsRow n₀ 118 2 (.slice (some ⟨g, 0, none⟩) xs.length cap) xs.length (xs.flatMap encPl) := ho
    obtain ⟨hH, _⟩ := holdsK_own encPl_len ho'
    have eg : ∀ args w, (callFunc 81 args).run Try.prog w = .ok (.enter 81 args) w := enters_of Try.func81 (by kernel_rfl) rfl
    have hcon := AnyQ.slices_SortFunc_total Try.sortPl 2 Try.isAgg118 Try.sizeOf118 encPl encPl_len encPl_one ordI swoOrd 81 #[] g 0 cap xs.toArray W eg (fun _ _ _ _ x y => order_grown x y _) hH hg2 (by simp; omega) totOrd
    change Calls Try.prog 95 _ _ _ at hcon
    rw [show xs.toArray.size = xs.length from rfl] at hcon
    refine hcon.mono ?_
    rintro e w' ⟨rfl, n, os, rfl⟩
    rw [show xs.toArray.toList = xs from rfl]
    have h2 := own_sorted encPl_len ho' (srtL_len xs) n os
    rw [srtL_len] at h2
    refine ⟨rfl, R_pts (by rw [srtL_len]; exact h2), sorted_below _ _ _ _ _ _ _ _ hg1 hn⟩
end

-- NOT PRINTED: function 79 (points_place_79)

/-! ### points_Of: function 61 -/
section
open Go.Shelf Go.Proofs.Ytklngklmeanhcaa.Hand
theorem AppendSeq_any (Bt : Nat) (A : Option Addr) (c : Nat) (ps : List S56) (hps : ps.length ≤ 100000) (hpc : ps.length ≤ c) (w : World) (hC : Kd.C k56 w A ps.length ps) (ht : Blk w Bt 31 [.slice A ps.length c]) :
    Calls Try.prog 116 #[.slice none 0 0, .func (.func 96) #[] #[.pointer (some ⟨Bt, 0, none⟩)]] w fun e W' => ∃ v, e = .returned v ∧ Kd.R k118 118 W' w.heap.size (fun _ => True) v (ptsT ps) ∧ Below w.heap.size w W' :=
  (callsIn_wide (n := 6)).1 (AppendSeq_pts 6 (by omega) Bt A c ps hps hpc w hC ht)
set_option maxHeartbeats 1000000 in
theorem Collect_pts (Bt : Nat) (A : Option Addr) (c : Nat) (ps : List S56) (hps : ps.length ≤ 100000) (hpc : ps.length ≤ c) (w : World) (hC : Kd.C k56 w A ps.length ps) (ht : Blk w Bt 31 [.slice A ps.length c]) :
    Calls Try.prog 94 #[.func (.func 96) #[] #[.pointer (some ⟨Bt, 0, none⟩)]] w fun e W' => ∃ v, e = .returned v ∧ Kd.R k118 118 W' w.heap.size (fun _ => True) v (ptsT ps) ∧ Below w.heap.size w W' := by
  have hA := Lib.hid (AppendSeq_any Bt A c ps hps hpc w hC ht)
  clear hC ht hps hpc
  go_enter Try.func94, Try.ntmps94
  go_wp2_with (go_at_call 116; refine hA.out.mono ?_; rintro e w1 ⟨v, rfl, hr, hb⟩; have HR := Lib.hid hr; have HB := Lib.hid hb; clear hr hb)
  go_ret
  exact ⟨v, rfl, HR.out, HB.out⟩
set_option maxHeartbeats 1000000 in
theorem SortedFunc_pts (Bt : Nat) (A : Option Addr) (c : Nat) (ps : List S56) (hps : ps.length ≤ 100000) (hpc : ps.length ≤ c) (w : World) (hC : Kd.C k56 w A ps.length ps) (ht : Blk w Bt 31 [.slice A ps.length c]) :
    Calls Try.prog 79 #[.func (.func 96) #[] #[.pointer (some ⟨Bt, 0, none⟩)], .func (.func 81) #[] #[]] w fun e W' => ∃ v, e = .returned v ∧ Kd.R k118 118 W' w.heap.size (fun _ => True) v (srtL (ptsT ps)) ∧ Below w.heap.size w W' := by
  have hln := ptsT_len ps
  have hA := Lib.hid (Collect_pts Bt A c ps hps hpc w hC ht)
  have HL := Lib.hid (show (ptsT ps).length ≤ 100000000 by omega)
  clear hC ht hps hpc hln
  go_enter Try.func79, Try.ntmps79
  go_wp2_with (first
    | (go_at_call 94; refine hA.out.mono ?_; rintro e w1 ⟨v, rfl, hr, hb⟩; have HR := Lib.hid hr; have HB := Lib.hid hb; clear hr hb)
    | (go_at_call 95; refine (SortFunc_pts v (ptsT ps) HL.out w.heap.size _ HB.out.size HR.out).mono ?_; rintro e w2 ⟨rfl, hr, hb⟩; have HR2 := Lib.hid hr; have HB2 := Lib.hid hb; clear hr hb))
  go_ret
  exact ⟨v, rfl, HR2.out, HB.out.trans HB2.out⟩
/-- Does one point stand ahead of another? -/
def lessP (x y : S124) : Bool := decide (x.f0 < y.f0 ∨ (x.f0 = y.f0 ∧ x.f1 < y.f1))
def leP (x y : S124) : Bool := !lessP y x
def ptOf (x : S118) : S124 := ⟨x.f0, x.f1⟩
def ofL (ps : List S56) : List S124 := (srtL (ptsT ps)).map ptOf
theorem map_take_next (l : List S118) (k : Nat) (h : k < l.length) : (l.take (k + 1)).map ptOf = (l.take k).map ptOf ++ [⟨(l.getD k z118).f0, (l.getD k z118).f1⟩] := by
  rw [List.take_succ_eq_append_getElem h, List.map_append]; simp [h, ptOf]
theorem infoPoint : (Try.prog.info? 124).map (fun i => (i.zero, i.size, i.bytes)) = some (some (.agg #[.int .u64 0, .int .i64 0]), 2, 16) := by kernel_rfl
set_option maxRecDepth 100000 in
set_option maxHeartbeats 4000000 in
theorem Of_any (A : Option Addr) (c : Nat) (ps : List S56) (hps : ps.length ≤ 100000) (hpc : ps.length ≤ c) (w : World) (hC : Kd.C k56 w A ps.length ps) :
    Calls Try.prog 61 #[.slice A ps.length c] w fun e W' => ∃ v, e = .returned v ∧ Kd.R k124 124 W' w.heap.size (fun _ => True) v (ofL ps) ∧ Below w.heap.size w W' := by
  have hln := ptsT_len ps
  obtain ⟨ys, hys⟩ : ∃ ys, srtL (ptsT ps) = ys := ⟨_, rfl⟩
  have hyl : ys.length ≤ 12800000 := by rw [← hys, srtL_len]; omega
  have hS := SortedFunc_pts w.heap.size A c ps hps hpc (w.alloc (.cells #[.slice A ps.length c] 31)) (Kd.C_alloc hC _) (Blk.new w 31 [.slice A ps.length c])
  unfold ofL
  rw [hys] at hS ⊢
  have HS := Lib.hid hS
  have HYL := Lib.hid hyl
  clear hC hps hpc hln hS hys hyl
  have HB0 := Aside0.mk ((Below.refl w.heap.size w).alloc (Nat.le_refl _) (.cells #[.slice A ps.length c] 31))
  go_enter Try.func61, Try.ntmps61
  go_wp2_with (first
    | (go_at_call 80; refine (each_any _ _ _ _).mono ?_; rintro e w1 ⟨rfl, rfl⟩)
    | (go_at_call 79; refine HS.out.mono ?_; rintro e w2 ⟨v, rfl, hr, hb⟩; obtain ⟨A2, c2, rfl⟩ := Kd.R_slice hr; have HR := Lib.hid hr; have HB := Lib.hid (HB0.out.trans (hb.mono (by simp))); clear hr hb))
  go_loopw [3, 10] (fun v i wr => ∃ (k : Nat), k ≤ ys.length ∧ i = .int .i64 k ∧ Aside0 (Kd.R k124 124 wr w.heap.size (fun _ => True) v ((ys.take k).map ptOf)) ∧ Aside0 (Kd.R k118 118 wr w.heap.size (fun _ => True) (.slice A2 ys.length c2) ys) ∧ Aside0 (Below w.heap.size w wr))
    (fun _ i _ => ys.length - (intOf i).toNat)
  case atStart => exact ⟨0, Nat.zero_le _, rfl, ⟨Kd.R_nil _ _ _ _ _⟩, ⟨Kd.R_lower HR.out (by simp)⟩, ⟨HB.out⟩⟩
  case round =>
    obtain ⟨k, hk, rfl, HV, HS2, HBr⟩ := hrel
    by_cases hlt : k < ys.length
    · obtain ⟨ad, hA, c0, c1⟩ := at_T118 (Kd.R_reads' HS2.out).2.2 (k : Int) (by omega) (by omega)
      subst hA
      have htk := map_take_next ys k hlt
      rw [show rd_T118 ys (k : Int) = ys.getD k z118 from rfl] at c0 c1
      obtain ⟨b, hb⟩ : ∃ b, ys.getD k z118 = b := ⟨_, rfl⟩
      rw [hb] at c0 c1 htk
      rw [Int.toNat_natCast] at c0 c1
      have HTK := Lib.hid htk
      clear htk hb
      have q1 : decide ((k : Int) < (ys.length : Int)) = true := decide_eq_true (by omega)
      have q2 : (0 : Int) ≤ (k : Int) := by omega
      have q3 : (k : Int) < (ys.length : Int) := by omega
      have hwk : wrap64 ((k : Int) + 1) = ((k + 1 : Nat) : Int) := by have := HYL.out; unfold wrap64; omega
      have HLK := Lib.hid (show ((ys.take k).map ptOf).length + 1 ≤ 12800000 by have := HYL.out; rw [List.length_map, List.length_take]; omega)
      go_upto_region 5 with (fail)
      have hbx := Blk.new wr 118 [.int .u64 b.f0, .int .i64 b.f1]
      have hb1 := below_alloc HBr.out (.cells #[.int .u64 b.f0, .int .i64 b.f1] 118)
      have hv1 := Kd.R_alloc HV.out (.cells #[.int .u64 b.f0, .int .i64 b.f1] 118)
      have hs3 := Kd.R_alloc HS2.out (.cells #[.int .u64 b.f0, .int .i64 b.f1] 118)
      clear HBr HV HS2
      obtain ⟨g5, hg5⟩ : ∃ g5, wr.heap.size = g5 := ⟨_, rfl⟩
      obtain ⟨W1, hW1⟩ : ∃ W1, (wr.alloc (.cells #[.int .u64 b.f0, .int .i64 b.f1] 118)) = W1 := ⟨_, rfl⟩
      rw [hg5] at hbx ⊢
      rw [hW1] at hbx hb1 hv1 hs3 ⊢
      clear hg5 hW1 c0 c1
      have c0 : W1.cell? ⟨g5, 0, none⟩ = some (.int .u64 b.f0) := hbx.cell 0
      have c1 : W1.cell? ⟨g5, 1, none⟩ = some (.int .i64 b.f1) := hbx.cell 1
      have HB1 := Aside0.mk hb1
      have HV1 := Aside0.mk hv1
      have HS3 := Aside0.mk hs3
      clear hbx hb1 hv1 hs3
      go_wp2_with ((with_reducible refine gate_builtin (b := .append) (xs := #[.tmp 14, .tmp 16]) rfl ?_); (try (refine gate_guard (by rfl) ?_; dsimp only)); at_builtin; refine Kd.R_append k124 (w0 := w) w.heap.size rfl (.tmp 14) (.tmp 16) 77 124 (.agg #[(.int .u64 0), (.int .i64 0)]) 16 rfl Try.underlying77 infoPoint rfl (by decide) (by omega) u3 ((ys.take k).map ptOf) (⟨b.f0, b.f1⟩ : S124) [.int .u64 b.f0, .int .i64 b.f1] (fun _ => True) (fun _ => False) rfl rfl ?aP (fun _ hk => hk.elim) ?aF ?aO ?aB ?aS ?aL ?_; (case aP => exact k124_mkM _ _ _ (⟨b.f0, b.f1⟩ : S124)); (case aB => exact HB1.out); (case aF => exact (fun _ _ => trivial)); (case aO => exact HV1.out); (case aS => exact HB1.out.size); (case aL => have := HLK.out; omega); intro v2 w3 ho hb hg hat; rw [← HTK.out] at ho; have HV2 := Aside0.mk ho; have HB2 := Aside0.mk hb; have HS4 := Aside0.mk (Kd.R_over HS3.out HV1.out (by decide) hg); clear ho hb hg hat)
      go_roundw
      case rel => exact ⟨k + 1, Nat.succ_le_of_lt hlt, by rw [hwk], HV2, HS4, HB2⟩
      case measure =>
        rw [hwk]
        show ys.length - (((k + 1 : Nat) : Int)).toNat < ys.length - ((k : Int)).toNat
        rw [Int.toNat_natCast, Int.toNat_natCast]
        omega
    · obtain rfl : k = ys.length := by omega
      have q1 : decide ((ys.length : Int) < (ys.length : Int)) = false := decide_eq_false (by omega)
      have hv := HV.out
      rw [List.take_length] at hv
      have HV1 := Aside0.mk hv
      clear hv HV
      go_wp2
      go_ret
      exact ⟨_, rfl, HV1.out, HBr.out⟩
def points_Of.f (l0 : List S56) : Option (List S124) := if l0.length ≤ 100000 then some (ofL l0) else none
theorem points_Of.calls (A0 : Option Addr) (c0 : Nat) (l0 : List S56) (r : List S124) (w : World) (hr0 : Kd.C k56 w A0 l0.length l0) (hc0 : l0.length ≤ c0) (h : points_Of.f l0 = some r) :
    Calls Try.prog 61 #[.slice A0 l0.length c0] w fun e w' => ∃ v0_ : Value, e = .returned v0_ ∧ Kd.R k124 124 w' w.heap.size (fun _ => True) v0_ r ∧ Below w.heap.size w w' := by
  unfold points_Of.f at h
  by_cases hl : l0.length ≤ 100000
  · rw [if_pos hl] at h
    obtain rfl := Option.some.inj h
    exact Of_any A0 c0 l0 hl hc0 w hr0
  · rw [if_neg hl] at h
    exact absurd h (by simp)
end

end Go.Proofs.Ytklngklmeanhcaa.P
