/- Each Go function that the laws reach, as a plain function, with the proof that the machine's call comes to what it says; of a law: its row. Made by a program of this seat (wip/hp.py, over the print). -/
import Derived.Test.YthecbaeemmejpaaPx0
import Derived.Test.YthecbaeemmejpaaPx2
import Derived.Test.YthecbaeemmejpaaPx3
namespace Go.Proofs.Ythecbaeemmejpaa.P
open Go.RowKit Go.Proofs.YthecbaeemmejpaaW.PrintWords Go.Proofs.YthecbaeemmejpaaW.PrintLast Go.Proofs.YthecbaeemmejpaaW.PrintMore
attribute [local go_sem] max2_int min2_int max_two min_two max_three min_three max_four min_four   -- for this text's walks alone
set_option linter.unusedVariables false
set_option linter.unusedSimpArgs false

/-! ### gangplankref14_Do: function 27 -/
mutual
def gangplankref14_Do.j0 : Nat → Bool → List Int → List Int → Int → Int → Int → Int → Int → Option (List Int × List Int × Int × Int × Bool)
  | 0, _, _, _, _, _, _, _, _ => none
  | k + 1, x13, x144000, x144001, x144002, x145000, x145001, x145002, x145003 => if x13 = true then (if x145001 < 0 then (some (x144000, x144001, x144002, 0, false)) else (if x145001 ≥ (x144000.length : Int) then (some (x144000, x144001, x144002, 0, false)) else ((gangplankref14_cell.f x144000 x144001 x144002 x145000 x145001 x145002 x145003).bind fun bt147 => (some (bt147.1, bt147.2.1, bt147.2.2.1, bt147.2.2.2.1, bt147.2.2.2.2))))) else (if x145001 < 0 then (gangplankref14_Do.j1 k true x144000 x144001 x144002 x145000 x145001 x145002 x145003) else (gangplankref14_Do.j1 k (decide (x145001 ≥ (x144001.length : Int))) x144000 x144001 x144002 x145000 x145001 x145002 x145003))
def gangplankref14_Do.j1 : Nat → Bool → List Int → List Int → Int → Int → Int → Int → Int → Option (List Int × List Int × Int × Int × Bool)
  | 0, _, _, _, _, _, _, _, _ => none
  | k + 1, x42, x144000, x144001, x144002, x145000, x145001, x145002, x145003 => if x42 = true then (if x145000 = 4 then (gangplankref14_Do.j2 k true x144000 x144001 x144002) else (gangplankref14_Do.j2 k (x145000 == 5) x144000 x144001 x144002)) else (if x145000 = 4 then ((gangplankref14_lock.f k x144000 x144001 x144002 x145000 x145001 x145002 x145003).bind fun bt156 => (some (bt156.1, bt156.2.1, bt156.2.2.1, bt156.2.2.2.1, bt156.2.2.2.2))) else (if x145000 = 5 then ((gangplankref14_lock.f k x144000 x144001 x144002 x145000 x145001 x145002 x145003).bind fun bt165 => (some (bt165.1, bt165.2.1, bt165.2.2.1, bt165.2.2.2.1, bt165.2.2.2.2))) else (if 0 ≤ x145001 then (if x145001 < (x144001.length : Int) then (some (x144000, x144001, x144002, rd x144001 x145001, false)) else (none)) else (none))))
def gangplankref14_Do.j2 : Nat → Bool → List Int → List Int → Int → Option (List Int × List Int × Int × Int × Bool)
  | 0, _, _, _, _ => none
  | k + 1, x50, x144000, x144001, x144002 => if x50 = true then (some (x144000, x144001, x144002, 0, false)) else (some (x144000, x144001, x144002, (-1), false))
end
def gangplankref14_Do.f (k : Nat) (l0_0 : List Int) (l0_1 : List Int) (a0_2 : Int) (a1_0 : Int) (a1_1 : Int) (a1_2 : Int) (a1_3 : Int) : Option (List Int × List Int × Int × Int × Bool) := if a1_0 ≥ 0 then (gangplankref14_Do.j0 k (decide (a1_0 ≤ 3)) l0_0 l0_1 a0_2 a1_0 a1_1 a1_2 a1_3) else (gangplankref14_Do.j0 k false l0_0 l0_1 a0_2 a1_0 a1_1 a1_2 a1_3)
theorem gangplankref14_Do.mono_l : ∀ k, (∀ y0 y1 y2 y3 y4 y5 y6 y7, LeO (gangplankref14_Do.j0 k y0 y1 y2 y3 y4 y5 y6 y7) (gangplankref14_Do.j0 (k + 1) y0 y1 y2 y3 y4 y5 y6 y7)) ∧ (∀ y0 y1 y2 y3 y4 y5 y6 y7, LeO (gangplankref14_Do.j1 k y0 y1 y2 y3 y4 y5 y6 y7) (gangplankref14_Do.j1 (k + 1) y0 y1 y2 y3 y4 y5 y6 y7)) ∧ (∀ y0 y1 y2 y3, LeO (gangplankref14_Do.j2 k y0 y1 y2 y3) (gangplankref14_Do.j2 (k + 1) y0 y1 y2 y3))
  | 0 => ⟨fun _ _ _ _ _ _ _ _ r h => by simp [gangplankref14_Do.j0] at h, fun _ _ _ _ _ _ _ _ r h => by simp [gangplankref14_Do.j1] at h, fun _ _ _ _ r h => by simp [gangplankref14_Do.j2] at h⟩
  | k + 1 => by
    obtain ⟨ih0, ih1, ih2⟩ := gangplankref14_Do.mono_l k
    refine ⟨?_, ?_, ?_⟩
    · intro y0 y1 y2 y3 y4 y5 y6 y7
      unfold gangplankref14_Do.j0
      repeat' first
      | (with_reducible exact ih0 _ _ _ _ _ _ _ _)
      | (with_reducible exact ih1 _ _ _ _ _ _ _ _)
      | (with_reducible exact ih2 _ _ _ _)
      | (with_reducible exact gangplankref14_lock.mono _ _ _ _ _ _ _ _)
      | (with_reducible exact LeO.refl _)
      | (with_reducible exact LeO.none _)
      | (with_reducible refine LeO.ite ?_ ?_)
      | (with_reducible refine LeO.bind ?_ (fun _ => ?_))
      | exact ih0 _ _ _ _ _ _ _ _
      | exact ih1 _ _ _ _ _ _ _ _
      | exact ih2 _ _ _ _
      | exact gangplankref14_lock.mono _ _ _ _ _ _ _ _
      | exact LeO.none _
      | refine LeO.ite ?_ ?_
      | refine LeO.bind ?_ (fun _ => ?_)
    · intro y0 y1 y2 y3 y4 y5 y6 y7
      unfold gangplankref14_Do.j1
      repeat' first
      | (with_reducible exact ih0 _ _ _ _ _ _ _ _)
      | (with_reducible exact ih1 _ _ _ _ _ _ _ _)
      | (with_reducible exact ih2 _ _ _ _)
      | (with_reducible exact gangplankref14_lock.mono _ _ _ _ _ _ _ _)
      | (with_reducible exact LeO.refl _)
      | (with_reducible exact LeO.none _)
      | (with_reducible refine LeO.ite ?_ ?_)
      | (with_reducible refine LeO.bind ?_ (fun _ => ?_))
      | exact ih0 _ _ _ _ _ _ _ _
      | exact ih1 _ _ _ _ _ _ _ _
      | exact ih2 _ _ _ _
      | exact gangplankref14_lock.mono _ _ _ _ _ _ _ _
      | exact LeO.none _
      | refine LeO.ite ?_ ?_
      | refine LeO.bind ?_ (fun _ => ?_)
    · intro y0 y1 y2 y3
      unfold gangplankref14_Do.j2
      repeat' first
      | (with_reducible exact ih0 _ _ _ _ _ _ _ _)
      | (with_reducible exact ih1 _ _ _ _ _ _ _ _)
      | (with_reducible exact ih2 _ _ _ _)
      | (with_reducible exact gangplankref14_lock.mono _ _ _ _ _ _ _ _)
      | (with_reducible exact LeO.refl _)
      | (with_reducible exact LeO.none _)
      | (with_reducible refine LeO.ite ?_ ?_)
      | (with_reducible refine LeO.bind ?_ (fun _ => ?_))
      | exact ih0 _ _ _ _ _ _ _ _
      | exact ih1 _ _ _ _ _ _ _ _
      | exact ih2 _ _ _ _
      | exact gangplankref14_lock.mono _ _ _ _ _ _ _ _
      | exact LeO.none _
      | refine LeO.ite ?_ ?_
      | refine LeO.bind ?_ (fun _ => ?_)
theorem gangplankref14_Do.mono : ∀ a0 a1 a2 a3 a4 a5 a6 k, LeO (gangplankref14_Do.f k a0 a1 a2 a3 a4 a5 a6) (gangplankref14_Do.f (k + 1) a0 a1 a2 a3 a4 a5 a6) := by
  intro a0 a1 a2 a3 a4 a5 a6 k
  obtain ⟨ih0, ih1, ih2⟩ := gangplankref14_Do.mono_l k
  unfold gangplankref14_Do.f
  repeat' first
      | (with_reducible exact ih0 _ _ _ _ _ _ _ _)
      | (with_reducible exact ih1 _ _ _ _ _ _ _ _)
      | (with_reducible exact ih2 _ _ _ _)
      | (with_reducible exact gangplankref14_lock.mono _ _ _ _ _ _ _ _)
      | (with_reducible exact LeO.refl _)
      | (with_reducible exact LeO.none _)
      | (with_reducible refine LeO.ite ?_ ?_)
      | (with_reducible refine LeO.bind ?_ (fun _ => ?_))
      | exact ih0 _ _ _ _ _ _ _ _
      | exact ih1 _ _ _ _ _ _ _ _
      | exact ih2 _ _ _ _
      | exact gangplankref14_lock.mono _ _ _ _ _ _ _ _
      | exact LeO.none _
      | refine LeO.ite ?_ ?_
      | refine LeO.bind ?_ (fun _ => ?_)
def gangplankref14_Do.T11 : Bool × List (List Nat × List Nat) := (true, [([], []), ([], []), ([1], [1]), ([], []), ([3], [3]), ([2, 4], [2, 4]), ([5], [5]), ([6], [6]), ([0, 0], [0]), ([7, 8, 0, 1, 2, 3, 4, 5, 6, 7, 8], [7])])
def gangplankref14_Do.B11 : List Nat := [0, 0, 2, 0, 8, 30, 62, 126, 1, 511]
theorem gangplankref14_Do.tab11 : rtab .any (opsOf Try.f27 11) = gangplankref14_Do.T11 := by kernel_rfl
theorem gangplankref14_Do.bits11 : waitsOk gangplankref14_Do.T11.2 gangplankref14_Do.B11 = true := by kernel_rfl
set_option maxHeartbeats 8000000 in
set_option maxRecDepth 100000 in
theorem gangplankref14_Do.calls (k : Nat) (P0_0_ : Nat → Prop) (u9000_ : Value) (l0_0 : List Int) (P0_1_ : Nat → Prop) (u9001_ : Value) (l0_1 : List Int) (a0_2 : Int) (a1_0 : Int) (a1_1 : Int) (a1_2 : Int) (a1_3 : Int) (r1 : List Int) (r2 : List Int) (r3 : Int) (r4 : Int) (r5 : Bool) (w0 w : World) (hB : Below w0.heap.size w0 w) (ho0_0 : Kd.R (Kd.int .i64) 3 w w0.heap.size P0_0_ u9000_ l0_0) (hp0_0_0_1 : ∀ k_, P0_0_ k_ → ¬ P0_1_ k_) (ho0_1 : Kd.R (Kd.int .i64) 3 w w0.heap.size P0_1_ u9001_ l0_1) (hp0_1_0_0 : ∀ k_, P0_1_ k_ → ¬ P0_0_ k_) (h : gangplankref14_Do.f k l0_0 l0_1 a0_2 a1_0 a1_1 a1_2 a1_3 = some (r1, r2, r3, r4, r5)) :
    Calls Try.prog 27 #[.agg #[u9000_, u9001_, .int .i64 a0_2], .agg #[.int .i64 a1_0, .int .i64 a1_1, .int .i64 a1_2, .int .i64 a1_3]] w fun e w' => ∃ v0_ v1_ : Value, e = .returned (.tuple #[.agg #[v0_, v1_, .int .i64 r3], .agg #[.int .i64 r4, .bool r5]]) ∧ Kd.R (Kd.int .i64) 3 w' w0.heap.size (fun k_ => ((P0_0_ k_ ∨ P0_1_ k_) ∨ w.heap.size ≤ k_) ∧ some k_ ≠ (v1_ : Value).ownBlock) v0_ r1 ∧ Kd.R (Kd.int .i64) 3 w' w0.heap.size (fun k_ => ((P0_0_ k_ ∨ P0_1_ k_) ∨ w.heap.size ≤ k_) ∧ some k_ ≠ (v0_ : Value).ownBlock) v1_ r2 ∧ Below w0.heap.size w0 w' ∧ Kept w w' (fun k_ => P0_0_ k_ ∨ P0_1_ k_) := by
  have hu41 := Try.underlying41
  have hu47 := Try.underlying47
  have hu44 := Try.underlying44
  have HO0_0 := Aside0.mk (show Kd.R (Kd.int .i64) 3 w w0.heap.size (fun k_ => ((P0_0_ k_ ∨ P0_1_ k_) ∨ w.heap.size ≤ k_) ∧ some k_ ≠ (u9001_ : Value).ownBlock) u9000_ l0_0 from Kd.R_mono ho0_0 (fun k_ hk => ⟨(.inl (.inl hk)), fun e_ => hp0_0_0_1 k_ hk (ho0_1.1 k_ e_.symm)⟩))
  have HO0_1 := Aside0.mk (show Kd.R (Kd.int .i64) 3 w w0.heap.size (fun k_ => ((P0_0_ k_ ∨ P0_1_ k_) ∨ w.heap.size ≤ k_) ∧ some k_ ≠ (u9000_ : Value).ownBlock) u9001_ l0_1 from Kd.R_mono ho0_1 (fun k_ hk => ⟨(.inl (.inr hk)), fun e_ => hp0_1_0_0 k_ hk (ho0_0.1 k_ e_.symm)⟩))
  have HK := Aside0.mk (Kept.refl w (fun k_ => P0_0_ k_ ∨ P0_1_ k_))
  have HW0 := Aside0.mk hB.size
  have HB := Aside0.mk hB
  clear hB
  have H : (if a1_0 ≥ 0 then (gangplankref14_Do.j0 k (decide (a1_0 ≤ 3)) l0_0 l0_1 a0_2 a1_0 a1_1 a1_2 a1_3) else (gangplankref14_Do.j0 k false l0_0 l0_1 a0_2 a1_0 a1_1 a1_2 a1_3)) = some (r1, r2, r3, r4, r5) := h
  clear h
  have HC3 := Aside0.mk H
  clear H
  obtain ⟨Ao4, co4, eo4⟩ := Kd.R_slice HO0_0.out
  subst eo4
  obtain ⟨Ao5, co5, eo5⟩ := Kd.R_slice HO0_1.out
  subst eo5
  go_enter Try.func27, Try.ntmps27
  go_upto_region 1 with (first | ((with_reducible refine gate_dst (N := 2) rfl ?_); (try (refine gate_guard (by rfl) ?_; dsimp only)); refine box_event ?hg (N := 2) ?hd (cs := #[.slice Ao4 l0_0.length co4, .slice Ao5 l0_1.length co5, .int .i64 a0_2]) (t := 41) ?hr ?_; (case hd => rfl); (case hg => rfl); (case hr => first | (go_simp; done) | (go_simp; rfl)); intro gb143 hg w6 hbox hb; have n0_ := Aside0.mk (Kd.R_below (by (with_reducible repeat (first | apply Kd.R_alloc | apply Kd.R_drewN | apply Kd.R_drew)); exact HO0_0.out) hb); have n1_ := Aside0.mk (Kd.R_below (by (with_reducible repeat (first | apply Kd.R_alloc | apply Kd.R_drewN | apply Kd.R_drew)); exact HO0_1.out) hb); have n2_ := Aside0.mk (Kept.below (S := (fun k_ => P0_0_ k_ ∨ P0_1_ k_)) (by repeat (first | (with_reducible first | exact HK.out | apply Kept.alloc | apply Kept.drewN | apply Kept.drew) | exact HK.out)) hb); have n3_ := Aside0.mk (below_step (by repeat (first | (with_reducible first | exact HB.out | apply below_alloc | apply pw_below_drewN | apply below_drew1) | exact HB.out)) hb); have n4_ := Aside0.mk (hbox); have n5_ := Aside0.mk ((by rw [hg]; exact (by first | exact HK.out.1 | exact (show Kept w _ (fun k_ => P0_0_ k_ ∨ P0_1_ k_) from by repeat (first | (with_reducible first | exact HK.out | apply Kept.alloc | apply Kept.drewN | apply Kept.drew) | exact HK.out)).1) : w.heap.size ≤ gb143)); have n6_ := Aside0.mk ((by rw [hg]; exact (below_size (by repeat (first | (with_reducible first | exact HB.out | apply below_alloc | apply pw_below_drewN | apply below_drew1) | exact HB.out))) : w0.heap.size ≤ gb143)); clear HO0_0; clear HO0_1; clear HK; clear HB; have HO0_0 := n0_; have HO0_1 := n1_; have HK := n2_; have HB := n3_; have BK143 := n4_; have GW143 := n5_; have GE143 := n6_; clear n0_ n1_ n2_ n3_ n4_ n5_ n6_; clear hb hbox hg) | ((with_reducible refine gate_dst (N := 3) rfl ?_); (try (refine gate_guard (by rfl) ?_; dsimp only)); refine box_event ?hg (N := 3) ?hd (cs := #[.int .i64 a1_0, .int .i64 a1_1, .int .i64 a1_2, .int .i64 a1_3]) (t := 47) ?hr ?_; (case hd => rfl); (case hg => rfl); (case hr => first | (go_simp; done) | (go_simp; rfl)); intro gb144 hg w7 hbox hb; have n0_ := Aside0.mk (Kd.R_below (by (with_reducible repeat (first | apply Kd.R_alloc | apply Kd.R_drewN | apply Kd.R_drew)); exact HO0_0.out) hb); have n1_ := Aside0.mk (Kd.R_below (by (with_reducible repeat (first | apply Kd.R_alloc | apply Kd.R_drewN | apply Kd.R_drew)); exact HO0_1.out) hb); have n2_ := Aside0.mk (blk_below (g := gb143) (o := .cells #[.slice Ao4 l0_0.length co4, .slice Ao5 l0_1.length co5, .int .i64 a0_2] 41 (0, 0)) (by (with_reducible repeat (first | refine blk_drewN ?_ _ | refine blk_drew ?_ | refine blk_alloc ?_ _)); exact BK143.out) hb); have n3_ := Aside0.mk (Kept.below (S := (fun k_ => P0_0_ k_ ∨ P0_1_ k_)) (by repeat (first | (with_reducible first | exact HK.out | apply Kept.alloc | apply Kept.drewN | apply Kept.drew | refine Kept.setCell ?_ (.inr GW143.out) _) | exact HK.out)) hb); have n4_ := Aside0.mk (below_step (by repeat (first | (with_reducible first | exact HB.out | apply below_alloc | apply pw_below_drewN | apply below_drew1 | refine below_set ?_ GE143.out) | exact HB.out)) hb); have n5_ := Aside0.mk (hbox); have n6_ := Aside0.mk ((by rw [hg]; exact (by first | exact HK.out.1 | exact (show Kept w _ (fun k_ => P0_0_ k_ ∨ P0_1_ k_) from by repeat (first | (with_reducible first | exact HK.out | apply Kept.alloc | apply Kept.drewN | apply Kept.drew | refine Kept.setCell ?_ (.inr GW143.out) _) | exact HK.out)).1) : w.heap.size ≤ gb144)); have n7_ := Aside0.mk ((by rw [hg]; exact (below_size (by repeat (first | (with_reducible first | exact HB.out | apply below_alloc | apply pw_below_drewN | apply below_drew1 | refine below_set ?_ GE143.out) | exact HB.out))) : w0.heap.size ≤ gb144)); have n8_ := Aside0.mk ((by rw [hg]; exact Nat.ne_of_lt (blk_lt (g := gb143) (o := .cells #[.slice Ao4 l0_0.length co4, .slice Ao5 l0_1.length co5, .int .i64 a0_2] 41 (0, 0)) (by (with_reducible repeat (first | refine blk_drewN ?_ _ | refine blk_drew ?_ | refine blk_alloc ?_ _)); exact BK143.out)) : gb143 ≠ gb144)); have n9_ := Aside0.mk ((by rw [hg]; exact Nat.ne_of_gt (blk_lt (g := gb143) (o := .cells #[.slice Ao4 l0_0.length co4, .slice Ao5 l0_1.length co5, .int .i64 a0_2] 41 (0, 0)) (by (with_reducible repeat (first | refine blk_drewN ?_ _ | refine blk_drew ?_ | refine blk_alloc ?_ _)); exact BK143.out)) : gb144 ≠ gb143)); clear HO0_0; clear HO0_1; clear BK143; clear HK; clear HB; have HO0_0 := n0_; have HO0_1 := n1_; have BK143 := n2_; have HK := n3_; have HB := n4_; have BK144 := n5_; have GW144 := n6_; have GE144 := n7_; have NB143_144 := n8_; have NB144_143 := n9_; clear n0_ n1_ n2_ n3_ n4_ n5_ n6_ n7_ n8_ n9_; clear hb hbox hg) | ((with_reducible refine gate_dst (N := 4) rfl ?_); (try (refine gate_guard (by rfl) ?_; dsimp only)); refine box_event ?hg (N := 4) ?hd (cs := #[.slice none 0 0, .slice none 0 0, .int .i64 0]) (t := 41) ?hr ?_; (case hd => rfl); (case hg => rfl); (case hr => first | (go_simp; done) | (go_simp; rfl)); intro gb145 hg w8 hbox hb; have n0_ := Aside0.mk (Kd.R_below (by (with_reducible repeat (first | apply Kd.R_alloc | apply Kd.R_drewN | apply Kd.R_drew)); exact HO0_0.out) hb); have n1_ := Aside0.mk (Kd.R_below (by (with_reducible repeat (first | apply Kd.R_alloc | apply Kd.R_drewN | apply Kd.R_drew)); exact HO0_1.out) hb); have n2_ := Aside0.mk (blk_below (g := gb143) (o := .cells #[.slice Ao4 l0_0.length co4, .slice Ao5 l0_1.length co5, .int .i64 a0_2] 41 (0, 0)) (by (with_reducible repeat (first | refine blk_drewN ?_ _ | refine blk_drew ?_ | refine blk_alloc ?_ _)); exact BK143.out) hb); have n3_ := Aside0.mk (blk_below (g := gb144) (o := .cells #[.int .i64 a1_0, .int .i64 a1_1, .int .i64 a1_2, .int .i64 a1_3] 47 (0, 0)) (by (with_reducible repeat (first | refine blk_drewN ?_ _ | refine blk_drew ?_ | refine blk_alloc ?_ _)); exact BK144.out) hb); have n4_ := Aside0.mk (Kept.below (S := (fun k_ => P0_0_ k_ ∨ P0_1_ k_)) (by repeat (first | (with_reducible first | exact HK.out | apply Kept.alloc | apply Kept.drewN | apply Kept.drew | refine Kept.setCell ?_ (.inr GW143.out) _ | refine Kept.setCell ?_ (.inr GW144.out) _) | exact HK.out)) hb); have n5_ := Aside0.mk (below_step (by repeat (first | (with_reducible first | exact HB.out | apply below_alloc | apply pw_below_drewN | apply below_drew1 | refine below_set ?_ GE143.out | refine below_set ?_ GE144.out) | exact HB.out)) hb); have n6_ := Aside0.mk (hbox); have n7_ := Aside0.mk ((by rw [hg]; exact (by first | exact HK.out.1 | exact (show Kept w _ (fun k_ => P0_0_ k_ ∨ P0_1_ k_) from by repeat (first | (with_reducible first | exact HK.out | apply Kept.alloc | apply Kept.drewN | apply Kept.drew | refine Kept.setCell ?_ (.inr GW143.out) _ | refine Kept.setCell ?_ (.inr GW144.out) _) | exact HK.out)).1) : w.heap.size ≤ gb145)); have n8_ := Aside0.mk ((by rw [hg]; exact (below_size (by repeat (first | (with_reducible first | exact HB.out | apply below_alloc | apply pw_below_drewN | apply below_drew1 | refine below_set ?_ GE143.out | refine below_set ?_ GE144.out) | exact HB.out))) : w0.heap.size ≤ gb145)); have n9_ := Aside0.mk ((by rw [hg]; exact Nat.ne_of_lt (blk_lt (g := gb143) (o := .cells #[.slice Ao4 l0_0.length co4, .slice Ao5 l0_1.length co5, .int .i64 a0_2] 41 (0, 0)) (by (with_reducible repeat (first | refine blk_drewN ?_ _ | refine blk_drew ?_ | refine blk_alloc ?_ _)); exact BK143.out)) : gb143 ≠ gb145)); have n10_ := Aside0.mk ((by rw [hg]; exact Nat.ne_of_gt (blk_lt (g := gb143) (o := .cells #[.slice Ao4 l0_0.length co4, .slice Ao5 l0_1.length co5, .int .i64 a0_2] 41 (0, 0)) (by (with_reducible repeat (first | refine blk_drewN ?_ _ | refine blk_drew ?_ | refine blk_alloc ?_ _)); exact BK143.out)) : gb145 ≠ gb143)); have n11_ := Aside0.mk ((by rw [hg]; exact Nat.ne_of_lt (blk_lt (g := gb144) (o := .cells #[.int .i64 a1_0, .int .i64 a1_1, .int .i64 a1_2, .int .i64 a1_3] 47 (0, 0)) (by (with_reducible repeat (first | refine blk_drewN ?_ _ | refine blk_drew ?_ | refine blk_alloc ?_ _)); exact BK144.out)) : gb144 ≠ gb145)); have n12_ := Aside0.mk ((by rw [hg]; exact Nat.ne_of_gt (blk_lt (g := gb144) (o := .cells #[.int .i64 a1_0, .int .i64 a1_1, .int .i64 a1_2, .int .i64 a1_3] 47 (0, 0)) (by (with_reducible repeat (first | refine blk_drewN ?_ _ | refine blk_drew ?_ | refine blk_alloc ?_ _)); exact BK144.out)) : gb145 ≠ gb144)); clear HO0_0; clear HO0_1; clear BK143; clear BK144; clear HK; clear HB; have HO0_0 := n0_; have HO0_1 := n1_; have BK143 := n2_; have BK144 := n3_; have HK := n4_; have HB := n5_; have BK145 := n6_; have GW145 := n7_; have GE145 := n8_; have NB143_145 := n9_; have NB145_143 := n10_; have NB144_145 := n11_; have NB145_144 := n12_; clear n0_ n1_ n2_ n3_ n4_ n5_ n6_ n7_ n8_ n9_ n10_ n11_ n12_; clear hb hbox hg) | ((with_reducible refine gate_dst (N := 5) rfl ?_); (try (refine gate_guard (by rfl) ?_; dsimp only)); refine box_event ?hg (N := 5) ?hd (cs := #[.int .i64 0, .bool false]) (t := 44) ?hr ?_; (case hd => rfl); (case hg => rfl); (case hr => first | (go_simp; done) | (go_simp; rfl)); intro gb146 hg w9 hbox hb; have n0_ := Aside0.mk (Kd.R_below (by (with_reducible repeat (first | apply Kd.R_alloc | apply Kd.R_drewN | apply Kd.R_drew)); exact HO0_0.out) hb); have n1_ := Aside0.mk (Kd.R_below (by (with_reducible repeat (first | apply Kd.R_alloc | apply Kd.R_drewN | apply Kd.R_drew)); exact HO0_1.out) hb); have n2_ := Aside0.mk (blk_below (g := gb143) (o := .cells #[.slice Ao4 l0_0.length co4, .slice Ao5 l0_1.length co5, .int .i64 a0_2] 41 (0, 0)) (by (with_reducible repeat (first | refine blk_drewN ?_ _ | refine blk_drew ?_ | refine blk_alloc ?_ _)); exact BK143.out) hb); have n3_ := Aside0.mk (blk_below (g := gb144) (o := .cells #[.int .i64 a1_0, .int .i64 a1_1, .int .i64 a1_2, .int .i64 a1_3] 47 (0, 0)) (by (with_reducible repeat (first | refine blk_drewN ?_ _ | refine blk_drew ?_ | refine blk_alloc ?_ _)); exact BK144.out) hb); have n4_ := Aside0.mk (blk_below (g := gb145) (o := .cells #[.slice none 0 0, .slice none 0 0, .int .i64 0] 41 (0, 0)) (by (with_reducible repeat (first | refine blk_drewN ?_ _ | refine blk_drew ?_ | refine blk_alloc ?_ _)); exact BK145.out) hb); have n5_ := Aside0.mk (Kept.below (S := (fun k_ => P0_0_ k_ ∨ P0_1_ k_)) (by repeat (first | (with_reducible first | exact HK.out | apply Kept.alloc | apply Kept.drewN | apply Kept.drew | refine Kept.setCell ?_ (.inr GW143.out) _ | refine Kept.setCell ?_ (.inr GW144.out) _ | refine Kept.setCell ?_ (.inr GW145.out) _) | exact HK.out)) hb); have n6_ := Aside0.mk (below_step (by repeat (first | (with_reducible first | exact HB.out | apply below_alloc | apply pw_below_drewN | apply below_drew1 | refine below_set ?_ GE143.out | refine below_set ?_ GE144.out | refine below_set ?_ GE145.out) | exact HB.out)) hb); have n7_ := Aside0.mk (hbox); have n8_ := Aside0.mk ((by rw [hg]; exact (by first | exact HK.out.1 | exact (show Kept w _ (fun k_ => P0_0_ k_ ∨ P0_1_ k_) from by repeat (first | (with_reducible first | exact HK.out | apply Kept.alloc | apply Kept.drewN | apply Kept.drew | refine Kept.setCell ?_ (.inr GW143.out) _ | refine Kept.setCell ?_ (.inr GW144.out) _ | refine Kept.setCell ?_ (.inr GW145.out) _) | exact HK.out)).1) : w.heap.size ≤ gb146)); have n9_ := Aside0.mk ((by rw [hg]; exact (below_size (by repeat (first | (with_reducible first | exact HB.out | apply below_alloc | apply pw_below_drewN | apply below_drew1 | refine below_set ?_ GE143.out | refine below_set ?_ GE144.out | refine below_set ?_ GE145.out) | exact HB.out))) : w0.heap.size ≤ gb146)); have n10_ := Aside0.mk ((by rw [hg]; exact Nat.ne_of_lt (blk_lt (g := gb143) (o := .cells #[.slice Ao4 l0_0.length co4, .slice Ao5 l0_1.length co5, .int .i64 a0_2] 41 (0, 0)) (by (with_reducible repeat (first | refine blk_drewN ?_ _ | refine blk_drew ?_ | refine blk_alloc ?_ _)); exact BK143.out)) : gb143 ≠ gb146)); have n11_ := Aside0.mk ((by rw [hg]; exact Nat.ne_of_gt (blk_lt (g := gb143) (o := .cells #[.slice Ao4 l0_0.length co4, .slice Ao5 l0_1.length co5, .int .i64 a0_2] 41 (0, 0)) (by (with_reducible repeat (first | refine blk_drewN ?_ _ | refine blk_drew ?_ | refine blk_alloc ?_ _)); exact BK143.out)) : gb146 ≠ gb143)); have n12_ := Aside0.mk ((by rw [hg]; exact Nat.ne_of_lt (blk_lt (g := gb144) (o := .cells #[.int .i64 a1_0, .int .i64 a1_1, .int .i64 a1_2, .int .i64 a1_3] 47 (0, 0)) (by (with_reducible repeat (first | refine blk_drewN ?_ _ | refine blk_drew ?_ | refine blk_alloc ?_ _)); exact BK144.out)) : gb144 ≠ gb146)); have n13_ := Aside0.mk ((by rw [hg]; exact Nat.ne_of_gt (blk_lt (g := gb144) (o := .cells #[.int .i64 a1_0, .int .i64 a1_1, .int .i64 a1_2, .int .i64 a1_3] 47 (0, 0)) (by (with_reducible repeat (first | refine blk_drewN ?_ _ | refine blk_drew ?_ | refine blk_alloc ?_ _)); exact BK144.out)) : gb146 ≠ gb144)); have n14_ := Aside0.mk ((by rw [hg]; exact Nat.ne_of_lt (blk_lt (g := gb145) (o := .cells #[.slice none 0 0, .slice none 0 0, .int .i64 0] 41 (0, 0)) (by (with_reducible repeat (first | refine blk_drewN ?_ _ | refine blk_drew ?_ | refine blk_alloc ?_ _)); exact BK145.out)) : gb145 ≠ gb146)); have n15_ := Aside0.mk ((by rw [hg]; exact Nat.ne_of_gt (blk_lt (g := gb145) (o := .cells #[.slice none 0 0, .slice none 0 0, .int .i64 0] 41 (0, 0)) (by (with_reducible repeat (first | refine blk_drewN ?_ _ | refine blk_drew ?_ | refine blk_alloc ?_ _)); exact BK145.out)) : gb146 ≠ gb145)); clear HO0_0; clear HO0_1; clear BK143; clear BK144; clear BK145; clear HK; clear HB; have HO0_0 := n0_; have HO0_1 := n1_; have BK143 := n2_; have BK144 := n3_; have BK145 := n4_; have HK := n5_; have HB := n6_; have BK146 := n7_; have GW146 := n8_; have GE146 := n9_; have NB143_146 := n10_; have NB146_143 := n11_; have NB144_146 := n12_; have NB146_144 := n13_; have NB145_146 := n14_; have NB146_145 := n15_; clear n0_ n1_ n2_ n3_ n4_ n5_ n6_ n7_ n8_ n9_ n10_ n11_ n12_ n13_ n14_ n15_; clear hb hbox hg))
  (try simp only [Act.put, List.setIfInBounds_toArray, List.set_cons_zero, List.set_cons_succ])
  go_cut [13] (fun v13 wc => ∃ (kq : Nat) (x13_2 : Bool), v13 = .bool x13_2 ∧ Aside0 (gangplankref14_Do.j0 kq x13_2 l0_0 l0_1 a0_2 a1_0 a1_1 a1_2 a1_3 = some (r1, r2, r3, r4, r5)) ∧ Aside0 (kq ≤ k) ∧ Aside0 (Kd.R (Kd.int .i64) 3 wc w0.heap.size (fun k_ => ((P0_0_ k_ ∨ P0_1_ k_) ∨ w.heap.size ≤ k_) ∧ some k_ ≠ ((.slice Ao5 l0_1.length co5) : Value).ownBlock) (.slice Ao4 l0_0.length co4) l0_0) ∧ Aside0 (Kd.R (Kd.int .i64) 3 wc w0.heap.size (fun k_ => ((P0_0_ k_ ∨ P0_1_ k_) ∨ w.heap.size ≤ k_) ∧ some k_ ≠ ((.slice Ao4 l0_0.length co4) : Value).ownBlock) (.slice Ao5 l0_1.length co5) l0_1) ∧ Aside0 (wc.heap[gb143]? = some (.cells #[(.slice Ao4 l0_0.length co4), (.slice Ao5 l0_1.length co5), .int .i64 a0_2] 41 (0, 0))) ∧ Aside0 (wc.heap[gb144]? = some (.cells #[.int .i64 a1_0, .int .i64 a1_1, .int .i64 a1_2, .int .i64 a1_3] 47 (0, 0))) ∧ Aside0 (wc.heap[gb145]? = some (.cells #[(.slice none 0 0), (.slice none 0 0), .int .i64 0] 41 (0, 0))) ∧ Aside0 (wc.heap[gb146]? = some (.cells #[.int .i64 0, .bool false] 44 (0, 0))) ∧ Aside0 (Kept w wc (fun k_ => P0_0_ k_ ∨ P0_1_ k_)) ∧ Aside0 (Below w0.heap.size w0 wc))
  case first =>
    have H := HC3.out
    clear HC3
    by_cases c10 : a1_0 ≥ 0
    · rw [if_pos c10] at H
      have c10b0 : decide (0 ≤ a1_0) = true := decide_eq_true c10
      clear c10
      (first | rw [c10b0] | (simp only [i64_w, i32_w]; rw [c10b0]) | skip)
      have H' := Aside0.mk H
      clear H
      have hnb11 := NB144_143.out
      have hnc11 := NB143_144.out
      have hnb12 := NB144_145.out
      have hnc12 := NB145_144.out
      have hnb13 := NB144_146.out
      have hnc13 := NB146_144.out
      have hcz14_0 : w9.cell? ⟨gb144, 0, none⟩ = some (.int .i64 a1_0) := (blk_cell BK144.out 0).trans rfl
      have hcz14_1 : w9.cell? ⟨gb144, 1, none⟩ = some (.int .i64 a1_1) := (blk_cell BK144.out 1).trans rfl
      have hcz14_2 : w9.cell? ⟨gb144, 2, none⟩ = some (.int .i64 a1_2) := (blk_cell BK144.out 2).trans rfl
      have hcz14_3 : w9.cell? ⟨gb144, 3, none⟩ = some (.int .i64 a1_3) := (blk_cell BK144.out 3).trans rfl
      have hfz14_0 := blk_frozen BK144.out 0
      have hfz14_1 := blk_frozen BK144.out 1
      have hfz14_2 := blk_frozen BK144.out 2
      have hfz14_3 := blk_frozen BK144.out 3
      go_wp2
      go_meet
      case rel => exact ⟨_, (decide (a1_0 ≤ 3)), (by first | rfl | (simp; done) | (simp [*]; done)), H', ⟨by first | omega | exact Nat.le_refl _⟩, ⟨by (with_reducible repeat (first | apply Kd.R_alloc | apply Kd.R_drewN | apply Kd.R_drew)); exact HO0_0.out⟩, ⟨by (with_reducible repeat (first | apply Kd.R_alloc | apply Kd.R_drewN | apply Kd.R_drew)); exact HO0_1.out⟩, ⟨by (with_reducible repeat (first | refine blk_drewN ?_ _ | refine blk_drew ?_ | refine blk_alloc ?_ _)); exact BK143.out⟩, ⟨by (with_reducible repeat (first | refine blk_drewN ?_ _ | refine blk_drew ?_ | refine blk_alloc ?_ _)); exact BK144.out⟩, ⟨by (with_reducible repeat (first | refine blk_drewN ?_ _ | refine blk_drew ?_ | refine blk_alloc ?_ _)); exact BK145.out⟩, ⟨by (with_reducible repeat (first | refine blk_drewN ?_ _ | refine blk_drew ?_ | refine blk_alloc ?_ _)); exact BK146.out⟩, ⟨by repeat (first | (with_reducible first | exact HK.out | apply Kept.alloc | apply Kept.drewN | apply Kept.drew | refine Kept.setCell ?_ (.inr GW143.out) _ | refine Kept.setCell ?_ (.inr GW144.out) _ | refine Kept.setCell ?_ (.inr GW145.out) _ | refine Kept.setCell ?_ (.inr GW146.out) _) | exact HK.out)⟩, ⟨by repeat (first | (with_reducible first | exact HB.out | apply below_alloc | apply pw_below_drewN | apply below_drew1 | refine below_set ?_ GE143.out | refine below_set ?_ GE144.out | refine below_set ?_ GE145.out | refine below_set ?_ GE146.out) | exact HB.out)⟩⟩
    · rw [if_neg c10] at H
      have c10b0 : decide (0 ≤ a1_0) = false := decide_eq_false c10
      clear c10
      (first | rw [c10b0] | (simp only [i64_w, i32_w]; rw [c10b0]) | skip)
      have H' := Aside0.mk H
      clear H
      have hnb15 := NB144_143.out
      have hnc15 := NB143_144.out
      have hnb16 := NB144_145.out
      have hnc16 := NB145_144.out
      have hnb17 := NB144_146.out
      have hnc17 := NB146_144.out
      have hcz18_0 : w9.cell? ⟨gb144, 0, none⟩ = some (.int .i64 a1_0) := (blk_cell BK144.out 0).trans rfl
      have hcz18_1 : w9.cell? ⟨gb144, 1, none⟩ = some (.int .i64 a1_1) := (blk_cell BK144.out 1).trans rfl
      have hcz18_2 : w9.cell? ⟨gb144, 2, none⟩ = some (.int .i64 a1_2) := (blk_cell BK144.out 2).trans rfl
      have hcz18_3 : w9.cell? ⟨gb144, 3, none⟩ = some (.int .i64 a1_3) := (blk_cell BK144.out 3).trans rfl
      have hfz18_0 := blk_frozen BK144.out 0
      have hfz18_1 := blk_frozen BK144.out 1
      have hfz18_2 := blk_frozen BK144.out 2
      have hfz18_3 := blk_frozen BK144.out 3
      go_wp2
      go_meet
      case rel => exact ⟨_, (false), (by first | rfl | (simp; done) | (simp [*]; done)), H', ⟨by first | omega | exact Nat.le_refl _⟩, ⟨by (with_reducible repeat (first | apply Kd.R_alloc | apply Kd.R_drewN | apply Kd.R_drew)); exact HO0_0.out⟩, ⟨by (with_reducible repeat (first | apply Kd.R_alloc | apply Kd.R_drewN | apply Kd.R_drew)); exact HO0_1.out⟩, ⟨by (with_reducible repeat (first | refine blk_drewN ?_ _ | refine blk_drew ?_ | refine blk_alloc ?_ _)); exact BK143.out⟩, ⟨by (with_reducible repeat (first | refine blk_drewN ?_ _ | refine blk_drew ?_ | refine blk_alloc ?_ _)); exact BK144.out⟩, ⟨by (with_reducible repeat (first | refine blk_drewN ?_ _ | refine blk_drew ?_ | refine blk_alloc ?_ _)); exact BK145.out⟩, ⟨by (with_reducible repeat (first | refine blk_drewN ?_ _ | refine blk_drew ?_ | refine blk_alloc ?_ _)); exact BK146.out⟩, ⟨by repeat (first | (with_reducible first | exact HK.out | apply Kept.alloc | apply Kept.drewN | apply Kept.drew | refine Kept.setCell ?_ (.inr GW143.out) _ | refine Kept.setCell ?_ (.inr GW144.out) _ | refine Kept.setCell ?_ (.inr GW145.out) _ | refine Kept.setCell ?_ (.inr GW146.out) _) | exact HK.out)⟩, ⟨by repeat (first | (with_reducible first | exact HB.out | apply below_alloc | apply pw_below_drewN | apply below_drew1 | refine below_set ?_ GE143.out | refine below_set ?_ GE144.out | refine below_set ?_ GE145.out | refine below_set ?_ GE146.out) | exact HB.out)⟩⟩
  case rest =>
    clear HC3
    try clear c1
    try clear c2
    try clear p2
    try clear c10
    try clear c10b0
    try clear c11
    try clear c12
    try clear c13
    try clear c15
    try clear c16
    try clear c17
    try clear hcz14_0
    try clear hcz14_1
    try clear hcz14_2
    try clear hcz14_3
    try clear hcz18_0
    try clear hcz18_1
    try clear hcz18_2
    try clear hcz18_3
    try clear hfz14_0
    try clear hfz14_1
    try clear hfz14_2
    try clear hfz14_3
    try clear hfz18_0
    try clear hfz18_1
    try clear hfz18_2
    try clear hfz18_3
    obtain ⟨kq, x13_2, rfl, HA, HJ2, HO_144000, HO_144001, BK143, BK144, BK145, BK146, HK, HB⟩ := hcut
    cases kq with
    | zero => exact absurd HA.out (by simp [gangplankref14_Do.j0])
    | succ kj2 =>
      have H := HA.out
      clear HA
      simp only [gangplankref14_Do.j0] at H
      by_cases c19 : x13_2 = true
      · subst c19
        have H1 : (if a1_1 < 0 then (some (l0_0, l0_1, a0_2, 0, false)) else (if a1_1 ≥ (l0_0.length : Int) then (some (l0_0, l0_1, a0_2, 0, false)) else ((gangplankref14_cell.f l0_0 l0_1 a0_2 a1_0 a1_1 a1_2 a1_3).bind fun bt147 => (some (bt147.1, bt147.2.1, bt147.2.2.1, bt147.2.2.2.1, bt147.2.2.2.2))))) = some (r1, r2, r3, r4, r5) := by first | (rw [if_pos rfl] at H; exact H) | (rw [if_pos trivial] at H; exact H)
        clear H
        have H := H1
        clear H1
        by_cases c20 : a1_1 < 0
        · rw [if_pos c20] at H
          have c20b0 : decide (a1_1 < 0) = true := decide_eq_true c20
          clear c20
          simp only [Option.some.injEq, Prod.mk.injEq] at H
          obtain ⟨rfl, rfl, rfl, rfl, rfl⟩ := H
          have hnb21 := NB144_143.out
          have hnc21 := NB143_144.out
          have hnb22 := NB144_145.out
          have hnc22 := NB145_144.out
          have hnb23 := NB144_146.out
          have hnc23 := NB146_144.out
          have hcz24_0 : wc.cell? ⟨gb144, 0, none⟩ = some (.int .i64 a1_0) := (blk_cell BK144.out 0).trans rfl
          have hcz24_1 : wc.cell? ⟨gb144, 1, none⟩ = some (.int .i64 a1_1) := (blk_cell BK144.out 1).trans rfl
          have hcz24_2 : wc.cell? ⟨gb144, 2, none⟩ = some (.int .i64 a1_2) := (blk_cell BK144.out 2).trans rfl
          have hcz24_3 : wc.cell? ⟨gb144, 3, none⟩ = some (.int .i64 a1_3) := (blk_cell BK144.out 3).trans rfl
          have hfz24_0 := blk_frozen BK144.out 0
          have hfz24_1 := blk_frozen BK144.out 1
          have hfz24_2 := blk_frozen BK144.out 2
          have hfz24_3 := blk_frozen BK144.out 3
          have hnb25 := NB143_145.out
          have hnc25 := NB145_143.out
          have hnb26 := NB143_146.out
          have hnc26 := NB146_143.out
          have hcz27_0 : wc.cell? ⟨gb143, 0, none⟩ = some (.slice Ao4 l0_0.length co4) := (blk_cell BK143.out 0).trans rfl
          have hcz27_1 : wc.cell? ⟨gb143, 1, none⟩ = some (.slice Ao5 l0_1.length co5) := (blk_cell BK143.out 1).trans rfl
          have hcz27_2 : wc.cell? ⟨gb143, 2, none⟩ = some (.int .i64 a0_2) := (blk_cell BK143.out 2).trans rfl
          have hfz27_0 := blk_frozen BK143.out 0
          have hfz27_1 := blk_frozen BK143.out 1
          have hfz27_2 := blk_frozen BK143.out 2
          have hnb28 := NB145_146.out
          have hnc28 := NB146_145.out
          have hcz29_0 : wc.cell? ⟨gb145, 0, none⟩ = some (.slice none 0 0) := (blk_cell BK145.out 0).trans rfl
          have hcz29_1 : wc.cell? ⟨gb145, 1, none⟩ = some (.slice none 0 0) := (blk_cell BK145.out 1).trans rfl
          have hcz29_2 : wc.cell? ⟨gb145, 2, none⟩ = some (.int .i64 0) := (blk_cell BK145.out 2).trans rfl
          have hfz29_0 := blk_frozen BK145.out 0
          have hfz29_1 := blk_frozen BK145.out 1
          have hfz29_2 := blk_frozen BK145.out 2
          have hcz30_0 : wc.cell? ⟨gb146, 0, none⟩ = some (.int .i64 0) := (blk_cell BK146.out 0).trans rfl
          have hcz30_1 : wc.cell? ⟨gb146, 1, none⟩ = some (.bool false) := (blk_cell BK146.out 1).trans rfl
          have hfz30_0 := blk_frozen BK146.out 0
          have hfz30_1 := blk_frozen BK146.out 1
          go_wp2
          refine bodyPost_ret (results_cc rfl _ _ gb145 gb146 41 44 #[.slice Ao4 l0_0.length co4, .slice Ao5 l0_1.length co5, .int .i64 a0_2] #[.int .i64 0, .bool false] (0, 0) (0, 0) _ _ rfl (by (with_reducible repeat (first | refine blk_drewN ?_ _ | refine blk_drew ?_ | refine blk_alloc ?_ _)); refine blk_far ?_ NB145_146.out _; (with_reducible repeat (first | refine blk_drewN ?_ _ | refine blk_drew ?_ | refine blk_alloc ?_ _)); refine blk_far ?_ NB145_146.out _; (with_reducible repeat (first | refine blk_drewN ?_ _ | refine blk_drew ?_ | refine blk_alloc ?_ _)); refine blk_put (cs := #[.slice Ao4 l0_0.length co4, .slice Ao5 l0_1.length co5, .int .i64 0]) ?_ 2 _ rfl; (with_reducible repeat (first | refine blk_drewN ?_ _ | refine blk_drew ?_ | refine blk_alloc ?_ _)); refine blk_put (cs := #[.slice Ao4 l0_0.length co4, .slice none 0 0, .int .i64 0]) ?_ 1 _ rfl; (with_reducible repeat (first | refine blk_drewN ?_ _ | refine blk_drew ?_ | refine blk_alloc ?_ _)); refine blk_put (cs := #[.slice none 0 0, .slice none 0 0, .int .i64 0]) ?_ 0 _ rfl; (with_reducible repeat (first | refine blk_drewN ?_ _ | refine blk_drew ?_ | refine blk_alloc ?_ _)); exact BK145.out) Try.underlying41 rfl (by kernel_rfl) rfl (by (with_reducible repeat (first | refine blk_drewN ?_ _ | refine blk_drew ?_ | refine blk_alloc ?_ _)); refine blk_put (cs := #[.int .i64 0, .bool false]) ?_ 1 _ rfl; (with_reducible repeat (first | refine blk_drewN ?_ _ | refine blk_drew ?_ | refine blk_alloc ?_ _)); refine blk_put (cs := #[.int .i64 0, .bool false]) ?_ 0 _ rfl; (with_reducible repeat (first | refine blk_drewN ?_ _ | refine blk_drew ?_ | refine blk_alloc ?_ _)); refine blk_far ?_ NB146_145.out _; (with_reducible repeat (first | refine blk_drewN ?_ _ | refine blk_drew ?_ | refine blk_alloc ?_ _)); refine blk_far ?_ NB146_145.out _; (with_reducible repeat (first | refine blk_drewN ?_ _ | refine blk_drew ?_ | refine blk_alloc ?_ _)); refine blk_far ?_ NB146_145.out _; (with_reducible repeat (first | refine blk_drewN ?_ _ | refine blk_drew ?_ | refine blk_alloc ?_ _)); exact BK146.out) Try.underlying44 rfl (by kernel_rfl)) rfl ?_
          exact ⟨_, _, by first | rfl | (simp [errW_none, errW_some] <;> rfl) | (simp [*, errW_none, errW_some] <;> rfl), by (with_reducible repeat (first | apply Kd.R_alloc | apply Kd.R_drewN | apply Kd.R_drew)); exact Kd.R_mono (Kd.R_far (p := ⟨gb146, 1, none⟩) (Kd.R_far (p := ⟨gb146, 0, none⟩) (Kd.R_far (p := ⟨gb145, 2, none⟩) (Kd.R_far (p := ⟨gb145, 1, none⟩) (Kd.R_far (p := ⟨gb145, 0, none⟩) (Kd.R_types (Kd.R_types HO_144000.out BK145.out (by decide)) BK146.out (by decide)) (fun _ hk => hk.1.2) (.slice Ao4 l0_0.length co4)) (fun _ hk => hk.1.2) (.slice Ao5 l0_1.length co5)) (fun _ hk => hk.1.2) (.int .i64 a0_2)) (fun _ hk => hk.2) (.int .i64 0)) (fun _ hk => hk.2) (.bool false)) (fun _ hk => ⟨hk.1.1.1, hk.1.1.2⟩), by (with_reducible repeat (first | apply Kd.R_alloc | apply Kd.R_drewN | apply Kd.R_drew)); exact Kd.R_mono (Kd.R_far (p := ⟨gb146, 1, none⟩) (Kd.R_far (p := ⟨gb146, 0, none⟩) (Kd.R_far (p := ⟨gb145, 2, none⟩) (Kd.R_far (p := ⟨gb145, 1, none⟩) (Kd.R_far (p := ⟨gb145, 0, none⟩) (Kd.R_types (Kd.R_types HO_144001.out BK145.out (by decide)) BK146.out (by decide)) (fun _ hk => hk.1.2) (.slice Ao4 l0_0.length co4)) (fun _ hk => hk.1.2) (.slice Ao5 l0_1.length co5)) (fun _ hk => hk.1.2) (.int .i64 a0_2)) (fun _ hk => hk.2) (.int .i64 0)) (fun _ hk => hk.2) (.bool false)) (fun _ hk => ⟨hk.1.1.1, hk.1.1.2⟩), by repeat (first | (with_reducible first | exact HB.out | apply below_alloc | apply pw_below_drewN | apply below_drew1 | refine below_set ?_ GE143.out | refine below_set ?_ GE144.out | refine below_set ?_ GE145.out | refine below_set ?_ GE146.out) | exact HB.out), by repeat (first | (with_reducible first | exact HK.out | apply Kept.alloc | apply Kept.drewN | apply Kept.drew | refine Kept.setCell ?_ (.inr GW143.out) _ | refine Kept.setCell ?_ (.inr GW144.out) _ | refine Kept.setCell ?_ (.inr GW145.out) _ | refine Kept.setCell ?_ (.inr GW146.out) _) | exact HK.out)⟩
        · rw [if_neg c20] at H
          have c20b0 : decide (a1_1 < 0) = false := decide_eq_false c20
          clear c20
          by_cases c31 : a1_1 ≥ (l0_0.length : Int)
          · rw [if_pos c31] at H
            have c31b0 : decide ((l0_0.length : Int) ≤ a1_1) = true := decide_eq_true c31
            clear c31
            simp only [Option.some.injEq, Prod.mk.injEq] at H
            obtain ⟨rfl, rfl, rfl, rfl, rfl⟩ := H
            have hnb32 := NB144_143.out
            have hnc32 := NB143_144.out
            have hnb33 := NB144_145.out
            have hnc33 := NB145_144.out
            have hnb34 := NB144_146.out
            have hnc34 := NB146_144.out
            have hcz35_0 : wc.cell? ⟨gb144, 0, none⟩ = some (.int .i64 a1_0) := (blk_cell BK144.out 0).trans rfl
            have hcz35_1 : wc.cell? ⟨gb144, 1, none⟩ = some (.int .i64 a1_1) := (blk_cell BK144.out 1).trans rfl
            have hcz35_2 : wc.cell? ⟨gb144, 2, none⟩ = some (.int .i64 a1_2) := (blk_cell BK144.out 2).trans rfl
            have hcz35_3 : wc.cell? ⟨gb144, 3, none⟩ = some (.int .i64 a1_3) := (blk_cell BK144.out 3).trans rfl
            have hfz35_0 := blk_frozen BK144.out 0
            have hfz35_1 := blk_frozen BK144.out 1
            have hfz35_2 := blk_frozen BK144.out 2
            have hfz35_3 := blk_frozen BK144.out 3
            have hnb36 := NB143_145.out
            have hnc36 := NB145_143.out
            have hnb37 := NB143_146.out
            have hnc37 := NB146_143.out
            have hcz38_0 : wc.cell? ⟨gb143, 0, none⟩ = some (.slice Ao4 l0_0.length co4) := (blk_cell BK143.out 0).trans rfl
            have hcz38_1 : wc.cell? ⟨gb143, 1, none⟩ = some (.slice Ao5 l0_1.length co5) := (blk_cell BK143.out 1).trans rfl
            have hcz38_2 : wc.cell? ⟨gb143, 2, none⟩ = some (.int .i64 a0_2) := (blk_cell BK143.out 2).trans rfl
            have hfz38_0 := blk_frozen BK143.out 0
            have hfz38_1 := blk_frozen BK143.out 1
            have hfz38_2 := blk_frozen BK143.out 2
            have hnb39 := NB145_146.out
            have hnc39 := NB146_145.out
            have hcz40_0 : wc.cell? ⟨gb145, 0, none⟩ = some (.slice none 0 0) := (blk_cell BK145.out 0).trans rfl
            have hcz40_1 : wc.cell? ⟨gb145, 1, none⟩ = some (.slice none 0 0) := (blk_cell BK145.out 1).trans rfl
            have hcz40_2 : wc.cell? ⟨gb145, 2, none⟩ = some (.int .i64 0) := (blk_cell BK145.out 2).trans rfl
            have hfz40_0 := blk_frozen BK145.out 0
            have hfz40_1 := blk_frozen BK145.out 1
            have hfz40_2 := blk_frozen BK145.out 2
            have hcz41_0 : wc.cell? ⟨gb146, 0, none⟩ = some (.int .i64 0) := (blk_cell BK146.out 0).trans rfl
            have hcz41_1 : wc.cell? ⟨gb146, 1, none⟩ = some (.bool false) := (blk_cell BK146.out 1).trans rfl
            have hfz41_0 := blk_frozen BK146.out 0
            have hfz41_1 := blk_frozen BK146.out 1
            go_wp2
            refine bodyPost_ret (results_cc rfl _ _ gb145 gb146 41 44 #[.slice Ao4 l0_0.length co4, .slice Ao5 l0_1.length co5, .int .i64 a0_2] #[.int .i64 0, .bool false] (0, 0) (0, 0) _ _ rfl (by (with_reducible repeat (first | refine blk_drewN ?_ _ | refine blk_drew ?_ | refine blk_alloc ?_ _)); refine blk_far ?_ NB145_146.out _; (with_reducible repeat (first | refine blk_drewN ?_ _ | refine blk_drew ?_ | refine blk_alloc ?_ _)); refine blk_far ?_ NB145_146.out _; (with_reducible repeat (first | refine blk_drewN ?_ _ | refine blk_drew ?_ | refine blk_alloc ?_ _)); refine blk_put (cs := #[.slice Ao4 l0_0.length co4, .slice Ao5 l0_1.length co5, .int .i64 0]) ?_ 2 _ rfl; (with_reducible repeat (first | refine blk_drewN ?_ _ | refine blk_drew ?_ | refine blk_alloc ?_ _)); refine blk_put (cs := #[.slice Ao4 l0_0.length co4, .slice none 0 0, .int .i64 0]) ?_ 1 _ rfl; (with_reducible repeat (first | refine blk_drewN ?_ _ | refine blk_drew ?_ | refine blk_alloc ?_ _)); refine blk_put (cs := #[.slice none 0 0, .slice none 0 0, .int .i64 0]) ?_ 0 _ rfl; (with_reducible repeat (first | refine blk_drewN ?_ _ | refine blk_drew ?_ | refine blk_alloc ?_ _)); exact BK145.out) Try.underlying41 rfl (by kernel_rfl) rfl (by (with_reducible repeat (first | refine blk_drewN ?_ _ | refine blk_drew ?_ | refine blk_alloc ?_ _)); refine blk_put (cs := #[.int .i64 0, .bool false]) ?_ 1 _ rfl; (with_reducible repeat (first | refine blk_drewN ?_ _ | refine blk_drew ?_ | refine blk_alloc ?_ _)); refine blk_put (cs := #[.int .i64 0, .bool false]) ?_ 0 _ rfl; (with_reducible repeat (first | refine blk_drewN ?_ _ | refine blk_drew ?_ | refine blk_alloc ?_ _)); refine blk_far ?_ NB146_145.out _; (with_reducible repeat (first | refine blk_drewN ?_ _ | refine blk_drew ?_ | refine blk_alloc ?_ _)); refine blk_far ?_ NB146_145.out _; (with_reducible repeat (first | refine blk_drewN ?_ _ | refine blk_drew ?_ | refine blk_alloc ?_ _)); refine blk_far ?_ NB146_145.out _; (with_reducible repeat (first | refine blk_drewN ?_ _ | refine blk_drew ?_ | refine blk_alloc ?_ _)); exact BK146.out) Try.underlying44 rfl (by kernel_rfl)) rfl ?_
            exact ⟨_, _, by first | rfl | (simp [errW_none, errW_some] <;> rfl) | (simp [*, errW_none, errW_some] <;> rfl), by (with_reducible repeat (first | apply Kd.R_alloc | apply Kd.R_drewN | apply Kd.R_drew)); exact Kd.R_mono (Kd.R_far (p := ⟨gb146, 1, none⟩) (Kd.R_far (p := ⟨gb146, 0, none⟩) (Kd.R_far (p := ⟨gb145, 2, none⟩) (Kd.R_far (p := ⟨gb145, 1, none⟩) (Kd.R_far (p := ⟨gb145, 0, none⟩) (Kd.R_types (Kd.R_types HO_144000.out BK145.out (by decide)) BK146.out (by decide)) (fun _ hk => hk.1.2) (.slice Ao4 l0_0.length co4)) (fun _ hk => hk.1.2) (.slice Ao5 l0_1.length co5)) (fun _ hk => hk.1.2) (.int .i64 a0_2)) (fun _ hk => hk.2) (.int .i64 0)) (fun _ hk => hk.2) (.bool false)) (fun _ hk => ⟨hk.1.1.1, hk.1.1.2⟩), by (with_reducible repeat (first | apply Kd.R_alloc | apply Kd.R_drewN | apply Kd.R_drew)); exact Kd.R_mono (Kd.R_far (p := ⟨gb146, 1, none⟩) (Kd.R_far (p := ⟨gb146, 0, none⟩) (Kd.R_far (p := ⟨gb145, 2, none⟩) (Kd.R_far (p := ⟨gb145, 1, none⟩) (Kd.R_far (p := ⟨gb145, 0, none⟩) (Kd.R_types (Kd.R_types HO_144001.out BK145.out (by decide)) BK146.out (by decide)) (fun _ hk => hk.1.2) (.slice Ao4 l0_0.length co4)) (fun _ hk => hk.1.2) (.slice Ao5 l0_1.length co5)) (fun _ hk => hk.1.2) (.int .i64 a0_2)) (fun _ hk => hk.2) (.int .i64 0)) (fun _ hk => hk.2) (.bool false)) (fun _ hk => ⟨hk.1.1.1, hk.1.1.2⟩), by repeat (first | (with_reducible first | exact HB.out | apply below_alloc | apply pw_below_drewN | apply below_drew1 | refine below_set ?_ GE143.out | refine below_set ?_ GE144.out | refine below_set ?_ GE145.out | refine below_set ?_ GE146.out) | exact HB.out), by repeat (first | (with_reducible first | exact HK.out | apply Kept.alloc | apply Kept.drewN | apply Kept.drew | refine Kept.setCell ?_ (.inr GW143.out) _ | refine Kept.setCell ?_ (.inr GW144.out) _ | refine Kept.setCell ?_ (.inr GW145.out) _ | refine Kept.setCell ?_ (.inr GW146.out) _) | exact HK.out)⟩
          · rw [if_neg c31] at H
            have c31b0 : decide ((l0_0.length : Int) ≤ a1_1) = false := decide_eq_false c31
            clear c31
            replace H := Option.bind_eq_some_iff.mp H
            obtain ⟨⟨t147, t150, t153, t154, t155⟩, A420, H⟩ := H
            replace H : (some (t147, t150, t153, t154, t155)) = some (r1, r2, r3, r4, r5) := H
            have A42 := Aside0.mk A420
            clear A420
            simp only [Option.some.injEq, Prod.mk.injEq] at H
            obtain ⟨rfl, rfl, rfl, rfl, rfl⟩ := H
            have hnb43 := NB144_143.out
            have hnc43 := NB143_144.out
            have hnb44 := NB144_145.out
            have hnc44 := NB145_144.out
            have hnb45 := NB144_146.out
            have hnc45 := NB146_144.out
            have hcz46_0 : wc.cell? ⟨gb144, 0, none⟩ = some (.int .i64 a1_0) := (blk_cell BK144.out 0).trans rfl
            have hcz46_1 : wc.cell? ⟨gb144, 1, none⟩ = some (.int .i64 a1_1) := (blk_cell BK144.out 1).trans rfl
            have hcz46_2 : wc.cell? ⟨gb144, 2, none⟩ = some (.int .i64 a1_2) := (blk_cell BK144.out 2).trans rfl
            have hcz46_3 : wc.cell? ⟨gb144, 3, none⟩ = some (.int .i64 a1_3) := (blk_cell BK144.out 3).trans rfl
            have hfz46_0 := blk_frozen BK144.out 0
            have hfz46_1 := blk_frozen BK144.out 1
            have hfz46_2 := blk_frozen BK144.out 2
            have hfz46_3 := blk_frozen BK144.out 3
            have hnb47 := NB143_145.out
            have hnc47 := NB145_143.out
            have hnb48 := NB143_146.out
            have hnc48 := NB146_143.out
            have hcz49_0 : wc.cell? ⟨gb143, 0, none⟩ = some (.slice Ao4 l0_0.length co4) := (blk_cell BK143.out 0).trans rfl
            have hcz49_1 : wc.cell? ⟨gb143, 1, none⟩ = some (.slice Ao5 l0_1.length co5) := (blk_cell BK143.out 1).trans rfl
            have hcz49_2 : wc.cell? ⟨gb143, 2, none⟩ = some (.int .i64 a0_2) := (blk_cell BK143.out 2).trans rfl
            have hfz49_0 := blk_frozen BK143.out 0
            have hfz49_1 := blk_frozen BK143.out 1
            have hfz49_2 := blk_frozen BK143.out 2
            go_wp2_with (first | ((with_reducible refine gate_callee (f := 39) rfl ?_); refine goesL_ (some 29) rfl rfl Try.func39 (by kernel_rfl) rfl #[.agg #[.slice Ao4 l0_0.length co4, .slice Ao5 l0_1.length co5, .int .i64 a0_2], .agg #[.int .i64 a1_0, .int .i64 a1_1, .int .i64 a1_2, .int .i64 a1_3]] rfl (by (try simp only [List.map_toArray, List.map_cons, List.map_nil]); first | done | rfl | (simp only [List.length_drop, List.length_take]; rfl)) ?_; (with_reducible refine (gangplankref14_cell.calls (fun k_ => some k_ = (.slice Ao4 l0_0.length co4 : Value).ownBlock) (.slice Ao4 l0_0.length co4) l0_0 (fun k_ => some k_ = (.slice Ao5 l0_1.length co5 : Value).ownBlock) (.slice Ao5 l0_1.length co5) l0_1 a0_2 a1_0 a1_1 a1_2 a1_3 t147 t150 t153 t154 t155 w0 _ ?side1 ?side2 ?side3 ?side4 ?side5 A42.out).mono ?_); (case side1 => repeat (first | (with_reducible first | exact HB.out | apply below_alloc | apply pw_below_drewN | apply below_drew1 | refine below_set ?_ GE143.out | refine below_set ?_ GE144.out | refine below_set ?_ GE145.out | refine below_set ?_ GE146.out) | exact HB.out)); (case side2 => exact Kd.R_tight rfl HO_144000.out); (case side3 => exact fun k_ e_ => (HO_144000.out.1 k_ e_.symm).2); (case side4 => exact Kd.R_tight rfl HO_144001.out); (case side5 => exact fun k_ e_ => (HO_144001.out.1 k_ e_.symm).2); (try clear A42); rintro e w50 ⟨v148, v151, rfl, ho0, ho1, hb, hkp⟩; refine ⟨_, rfl, ?_⟩; have n0_ := Aside0.mk (blk_kept (by (with_reducible repeat (first | refine blk_drewN ?_ _ | refine blk_drew ?_ | refine blk_alloc ?_ _)); exact BK143.out) hkp (fun hs_ => Or.elim hs_ (fun e_ => (fun e_ => (Kd.R_ne HO_144000.out BK143.out (by decide)) e_) e_) (fun e_ => (fun e_ => (Kd.R_ne HO_144001.out BK143.out (by decide)) e_) e_))); have n1_ := Aside0.mk (blk_kept (by (with_reducible repeat (first | refine blk_drewN ?_ _ | refine blk_drew ?_ | refine blk_alloc ?_ _)); exact BK144.out) hkp (fun hs_ => Or.elim hs_ (fun e_ => (fun e_ => (Kd.R_ne HO_144000.out BK144.out (by decide)) e_) e_) (fun e_ => (fun e_ => (Kd.R_ne HO_144001.out BK144.out (by decide)) e_) e_))); have n2_ := Aside0.mk (blk_kept (by (with_reducible repeat (first | refine blk_drewN ?_ _ | refine blk_drew ?_ | refine blk_alloc ?_ _)); exact BK145.out) hkp (fun hs_ => Or.elim hs_ (fun e_ => (fun e_ => (Kd.R_ne HO_144000.out BK145.out (by decide)) e_) e_) (fun e_ => (fun e_ => (Kd.R_ne HO_144001.out BK145.out (by decide)) e_) e_))); have n3_ := Aside0.mk (blk_kept (by (with_reducible repeat (first | refine blk_drewN ?_ _ | refine blk_drew ?_ | refine blk_alloc ?_ _)); exact BK146.out) hkp (fun hs_ => Or.elim hs_ (fun e_ => (fun e_ => (Kd.R_ne HO_144000.out BK146.out (by decide)) e_) e_) (fun e_ => (fun e_ => (Kd.R_ne HO_144001.out BK146.out (by decide)) e_) e_))); have n4_ := Aside0.mk (Kd.R_mono (ok' := fun k_ => ((P0_0_ k_ ∨ P0_1_ k_) ∨ w.heap.size ≤ k_) ∧ some k_ ≠ (v151 : Value).ownBlock) ho0 (fun k_ hk_ => ⟨Or.elim hk_.1 (fun hs_ => Or.elim hs_ (fun hs_ => (HO_144000.out.1 k_ (hs_).symm).1) (fun hs_ => (HO_144001.out.1 k_ (hs_).symm).1)) (fun hn_ => (.inr (Nat.le_trans (by first | exact HK.out.1 | exact (show Kept w _ (fun k_ => P0_0_ k_ ∨ P0_1_ k_) from by repeat (first | (with_reducible first | exact HK.out | apply Kept.alloc | apply Kept.drewN | apply Kept.drew | refine Kept.setCell ?_ (.inr GW143.out) _ | refine Kept.setCell ?_ (.inr GW144.out) _ | refine Kept.setCell ?_ (.inr GW145.out) _ | refine Kept.setCell ?_ (.inr GW146.out) _) | exact HK.out)).1) hn_))), hk_.2⟩)); have n5_ := Aside0.mk (Kd.R_mono (ok' := fun k_ => ((P0_0_ k_ ∨ P0_1_ k_) ∨ w.heap.size ≤ k_) ∧ some k_ ≠ (v148 : Value).ownBlock) ho1 (fun k_ hk_ => ⟨Or.elim hk_.1 (fun hs_ => Or.elim hs_ (fun hs_ => (HO_144000.out.1 k_ (hs_).symm).1) (fun hs_ => (HO_144001.out.1 k_ (hs_).symm).1)) (fun hn_ => (.inr (Nat.le_trans (by first | exact HK.out.1 | exact (show Kept w _ (fun k_ => P0_0_ k_ ∨ P0_1_ k_) from by repeat (first | (with_reducible first | exact HK.out | apply Kept.alloc | apply Kept.drewN | apply Kept.drew | refine Kept.setCell ?_ (.inr GW143.out) _ | refine Kept.setCell ?_ (.inr GW144.out) _ | refine Kept.setCell ?_ (.inr GW145.out) _ | refine Kept.setCell ?_ (.inr GW146.out) _) | exact HK.out)).1) hn_))), hk_.2⟩)); have n6_ := Aside0.mk (Kept.then_ (S := (fun k_ => P0_0_ k_ ∨ P0_1_ k_)) (by repeat (first | (with_reducible first | exact HK.out | apply Kept.alloc | apply Kept.drewN | apply Kept.drew | refine Kept.setCell ?_ (.inr GW143.out) _ | refine Kept.setCell ?_ (.inr GW144.out) _ | refine Kept.setCell ?_ (.inr GW145.out) _ | refine Kept.setCell ?_ (.inr GW146.out) _) | exact HK.out)) hkp (fun k_ hs_ => Or.elim hs_ (fun e_ => (fun e_ => (HO_144000.out.1 k_ e_.symm).1) e_) (fun e_ => (fun e_ => (HO_144001.out.1 k_ e_.symm).1) e_))); have n7_ := Aside0.mk (hb); clear BK143; clear BK144; clear BK145; clear BK146; clear HK; clear HB; clear HO_144000; clear HO_144001; have BK143 := n0_; have BK144 := n1_; have BK145 := n2_; have BK146 := n3_; have HO149 := n4_; have HO152 := n5_; have HK := n6_; have HB := n7_; clear n0_ n1_ n2_ n3_ n4_ n5_ n6_ n7_; (try clear hb); (try clear hkp); (try clear ho0); (try clear ho1); obtain ⟨Ao51, co51, eo51⟩ := Kd.R_slice HO149.out; subst eo51; have hnb52 := NB145_146.out; have hnc52 := NB146_145.out; have hcz53_0 : w50.cell? ⟨gb145, 0, none⟩ = some (.slice none 0 0) := (blk_cell BK145.out 0).trans rfl; have hcz53_1 : w50.cell? ⟨gb145, 1, none⟩ = some (.slice none 0 0) := (blk_cell BK145.out 1).trans rfl; have hcz53_2 : w50.cell? ⟨gb145, 2, none⟩ = some (.int .i64 0) := (blk_cell BK145.out 2).trans rfl; have hfz53_0 := blk_frozen BK145.out 0; have hfz53_1 := blk_frozen BK145.out 1; have hfz53_2 := blk_frozen BK145.out 2; obtain ⟨Ao54, co54, eo54⟩ := Kd.R_slice HO152.out; subst eo54; have hcz55_0 : w50.cell? ⟨gb146, 0, none⟩ = some (.int .i64 0) := (blk_cell BK146.out 0).trans rfl; have hcz55_1 : w50.cell? ⟨gb146, 1, none⟩ = some (.bool false) := (blk_cell BK146.out 1).trans rfl; have hfz55_0 := blk_frozen BK146.out 0; have hfz55_1 := blk_frozen BK146.out 1))
            refine bodyPost_ret (results_cc rfl _ _ gb145 gb146 41 44 #[.slice Ao51 t147.length co51, .slice Ao54 t150.length co54, .int .i64 t153] #[.int .i64 t154, .bool t155] (0, 0) (0, 0) _ _ rfl (by (with_reducible repeat (first | refine blk_drewN ?_ _ | refine blk_drew ?_ | refine blk_alloc ?_ _)); refine blk_far ?_ NB145_146.out _; (with_reducible repeat (first | refine blk_drewN ?_ _ | refine blk_drew ?_ | refine blk_alloc ?_ _)); refine blk_far ?_ NB145_146.out _; (with_reducible repeat (first | refine blk_drewN ?_ _ | refine blk_drew ?_ | refine blk_alloc ?_ _)); refine blk_put (cs := #[.slice Ao51 t147.length co51, .slice Ao54 t150.length co54, .int .i64 0]) ?_ 2 _ rfl; (with_reducible repeat (first | refine blk_drewN ?_ _ | refine blk_drew ?_ | refine blk_alloc ?_ _)); refine blk_put (cs := #[.slice Ao51 t147.length co51, .slice none 0 0, .int .i64 0]) ?_ 1 _ rfl; (with_reducible repeat (first | refine blk_drewN ?_ _ | refine blk_drew ?_ | refine blk_alloc ?_ _)); refine blk_put (cs := #[.slice none 0 0, .slice none 0 0, .int .i64 0]) ?_ 0 _ rfl; (with_reducible repeat (first | refine blk_drewN ?_ _ | refine blk_drew ?_ | refine blk_alloc ?_ _)); exact BK145.out) Try.underlying41 rfl (by kernel_rfl) rfl (by (with_reducible repeat (first | refine blk_drewN ?_ _ | refine blk_drew ?_ | refine blk_alloc ?_ _)); refine blk_put (cs := #[.int .i64 t154, .bool false]) ?_ 1 _ rfl; (with_reducible repeat (first | refine blk_drewN ?_ _ | refine blk_drew ?_ | refine blk_alloc ?_ _)); refine blk_put (cs := #[.int .i64 0, .bool false]) ?_ 0 _ rfl; (with_reducible repeat (first | refine blk_drewN ?_ _ | refine blk_drew ?_ | refine blk_alloc ?_ _)); refine blk_far ?_ NB146_145.out _; (with_reducible repeat (first | refine blk_drewN ?_ _ | refine blk_drew ?_ | refine blk_alloc ?_ _)); refine blk_far ?_ NB146_145.out _; (with_reducible repeat (first | refine blk_drewN ?_ _ | refine blk_drew ?_ | refine blk_alloc ?_ _)); refine blk_far ?_ NB146_145.out _; (with_reducible repeat (first | refine blk_drewN ?_ _ | refine blk_drew ?_ | refine blk_alloc ?_ _)); exact BK146.out) Try.underlying44 rfl (by kernel_rfl)) rfl ?_
            exact ⟨_, _, by first | rfl | (simp [errW_none, errW_some] <;> rfl) | (simp [*, errW_none, errW_some] <;> rfl), by (with_reducible repeat (first | apply Kd.R_alloc | apply Kd.R_drewN | apply Kd.R_drew)); exact Kd.R_mono (Kd.R_far (p := ⟨gb146, 1, none⟩) (Kd.R_far (p := ⟨gb146, 0, none⟩) (Kd.R_far (p := ⟨gb145, 2, none⟩) (Kd.R_far (p := ⟨gb145, 1, none⟩) (Kd.R_far (p := ⟨gb145, 0, none⟩) (Kd.R_types (Kd.R_types HO149.out BK145.out (by decide)) BK146.out (by decide)) (fun _ hk => hk.1.2) (.slice Ao51 t147.length co51)) (fun _ hk => hk.1.2) (.slice Ao54 t150.length co54)) (fun _ hk => hk.1.2) (.int .i64 t153)) (fun _ hk => hk.2) (.int .i64 t154)) (fun _ hk => hk.2) (.bool t155)) (fun _ hk => ⟨hk.1.1.1, hk.1.1.2⟩), by (with_reducible repeat (first | apply Kd.R_alloc | apply Kd.R_drewN | apply Kd.R_drew)); exact Kd.R_mono (Kd.R_far (p := ⟨gb146, 1, none⟩) (Kd.R_far (p := ⟨gb146, 0, none⟩) (Kd.R_far (p := ⟨gb145, 2, none⟩) (Kd.R_far (p := ⟨gb145, 1, none⟩) (Kd.R_far (p := ⟨gb145, 0, none⟩) (Kd.R_types (Kd.R_types HO152.out BK145.out (by decide)) BK146.out (by decide)) (fun _ hk => hk.1.2) (.slice Ao51 t147.length co51)) (fun _ hk => hk.1.2) (.slice Ao54 t150.length co54)) (fun _ hk => hk.1.2) (.int .i64 t153)) (fun _ hk => hk.2) (.int .i64 t154)) (fun _ hk => hk.2) (.bool t155)) (fun _ hk => ⟨hk.1.1.1, hk.1.1.2⟩), by repeat (first | (with_reducible first | exact HB.out | apply below_alloc | apply pw_below_drewN | apply below_drew1 | refine below_set ?_ GE143.out | refine below_set ?_ GE144.out | refine below_set ?_ GE145.out | refine below_set ?_ GE146.out) | exact HB.out), by repeat (first | (with_reducible first | exact HK.out | apply Kept.alloc | apply Kept.drewN | apply Kept.drew | refine Kept.setCell ?_ (.inr GW143.out) _ | refine Kept.setCell ?_ (.inr GW144.out) _ | refine Kept.setCell ?_ (.inr GW145.out) _ | refine Kept.setCell ?_ (.inr GW146.out) _) | exact HK.out)⟩
      · replace c19 := Bool.eq_false_iff.mpr c19
        subst c19
        have H1 : (if a1_1 < 0 then (gangplankref14_Do.j1 kj2 true l0_0 l0_1 a0_2 a1_0 a1_1 a1_2 a1_3) else (gangplankref14_Do.j1 kj2 (decide (a1_1 ≥ (l0_1.length : Int))) l0_0 l0_1 a0_2 a1_0 a1_1 a1_2 a1_3)) = some (r1, r2, r3, r4, r5) := by rw [if_neg (show ¬ (false = true) by decide)] at H; exact H
        clear H
        have H := H1
        clear H1
        have HC56 := Aside0.mk H
        clear H
        go_upto_region 5 with (fail)
        go_cut [42] (fun v42 wc => ∃ (kq : Nat) (x42_55 : Bool), v42 = .bool x42_55 ∧ Aside0 (gangplankref14_Do.j1 kq x42_55 l0_0 l0_1 a0_2 a1_0 a1_1 a1_2 a1_3 = some (r1, r2, r3, r4, r5)) ∧ Aside0 (kq ≤ kj2) ∧ Aside0 (Kd.R (Kd.int .i64) 3 wc w0.heap.size (fun k_ => ((P0_0_ k_ ∨ P0_1_ k_) ∨ w.heap.size ≤ k_) ∧ some k_ ≠ ((.slice Ao5 l0_1.length co5) : Value).ownBlock) (.slice Ao4 l0_0.length co4) l0_0) ∧ Aside0 (Kd.R (Kd.int .i64) 3 wc w0.heap.size (fun k_ => ((P0_0_ k_ ∨ P0_1_ k_) ∨ w.heap.size ≤ k_) ∧ some k_ ≠ ((.slice Ao4 l0_0.length co4) : Value).ownBlock) (.slice Ao5 l0_1.length co5) l0_1) ∧ Aside0 (wc.heap[gb143]? = some (.cells #[(.slice Ao4 l0_0.length co4), (.slice Ao5 l0_1.length co5), .int .i64 a0_2] 41 (0, 0))) ∧ Aside0 (wc.heap[gb144]? = some (.cells #[.int .i64 a1_0, .int .i64 a1_1, .int .i64 a1_2, .int .i64 a1_3] 47 (0, 0))) ∧ Aside0 (wc.heap[gb145]? = some (.cells #[(.slice none 0 0), (.slice none 0 0), .int .i64 0] 41 (0, 0))) ∧ Aside0 (wc.heap[gb146]? = some (.cells #[.int .i64 0, .bool false] 44 (0, 0))) ∧ Aside0 (Kept w wc (fun k_ => P0_0_ k_ ∨ P0_1_ k_)) ∧ Aside0 (Below w0.heap.size w0 wc))
        case first =>
          have H := HC56.out
          clear HC56
          by_cases c57 : a1_1 < 0
          · rw [if_pos c57] at H
            have c57b0 : decide (a1_1 < 0) = true := decide_eq_true c57
            clear c57
            (first | rw [c57b0] | (simp only [i64_w, i32_w]; rw [c57b0]) | skip)
            have H' := Aside0.mk H
            clear H
            have hnb58 := NB144_143.out
            have hnc58 := NB143_144.out
            have hnb59 := NB144_145.out
            have hnc59 := NB145_144.out
            have hnb60 := NB144_146.out
            have hnc60 := NB146_144.out
            have hcz61_0 : wc.cell? ⟨gb144, 0, none⟩ = some (.int .i64 a1_0) := (blk_cell BK144.out 0).trans rfl
            have hcz61_1 : wc.cell? ⟨gb144, 1, none⟩ = some (.int .i64 a1_1) := (blk_cell BK144.out 1).trans rfl
            have hcz61_2 : wc.cell? ⟨gb144, 2, none⟩ = some (.int .i64 a1_2) := (blk_cell BK144.out 2).trans rfl
            have hcz61_3 : wc.cell? ⟨gb144, 3, none⟩ = some (.int .i64 a1_3) := (blk_cell BK144.out 3).trans rfl
            have hfz61_0 := blk_frozen BK144.out 0
            have hfz61_1 := blk_frozen BK144.out 1
            have hfz61_2 := blk_frozen BK144.out 2
            have hfz61_3 := blk_frozen BK144.out 3
            go_wp2
            go_meet
            case rel => exact ⟨_, (true), (by first | rfl | (simp; done) | (simp [*]; done)), H', ⟨by have := HJ2.out; first | omega | exact Nat.le_refl _⟩, ⟨by (with_reducible repeat (first | apply Kd.R_alloc | apply Kd.R_drewN | apply Kd.R_drew)); exact HO_144000.out⟩, ⟨by (with_reducible repeat (first | apply Kd.R_alloc | apply Kd.R_drewN | apply Kd.R_drew)); exact HO_144001.out⟩, ⟨by (with_reducible repeat (first | refine blk_drewN ?_ _ | refine blk_drew ?_ | refine blk_alloc ?_ _)); exact BK143.out⟩, ⟨by (with_reducible repeat (first | refine blk_drewN ?_ _ | refine blk_drew ?_ | refine blk_alloc ?_ _)); exact BK144.out⟩, ⟨by (with_reducible repeat (first | refine blk_drewN ?_ _ | refine blk_drew ?_ | refine blk_alloc ?_ _)); exact BK145.out⟩, ⟨by (with_reducible repeat (first | refine blk_drewN ?_ _ | refine blk_drew ?_ | refine blk_alloc ?_ _)); exact BK146.out⟩, ⟨by repeat (first | (with_reducible first | exact HK.out | apply Kept.alloc | apply Kept.drewN | apply Kept.drew | refine Kept.setCell ?_ (.inr GW143.out) _ | refine Kept.setCell ?_ (.inr GW144.out) _ | refine Kept.setCell ?_ (.inr GW145.out) _ | refine Kept.setCell ?_ (.inr GW146.out) _) | exact HK.out)⟩, ⟨by repeat (first | (with_reducible first | exact HB.out | apply below_alloc | apply pw_below_drewN | apply below_drew1 | refine below_set ?_ GE143.out | refine below_set ?_ GE144.out | refine below_set ?_ GE145.out | refine below_set ?_ GE146.out) | exact HB.out)⟩⟩
          · rw [if_neg c57] at H
            have c57b0 : decide (a1_1 < 0) = false := decide_eq_false c57
            clear c57
            (first | rw [c57b0] | (simp only [i64_w, i32_w]; rw [c57b0]) | skip)
            have H' := Aside0.mk H
            clear H
            have hnb62 := NB144_143.out
            have hnc62 := NB143_144.out
            have hnb63 := NB144_145.out
            have hnc63 := NB145_144.out
            have hnb64 := NB144_146.out
            have hnc64 := NB146_144.out
            have hcz65_0 : wc.cell? ⟨gb144, 0, none⟩ = some (.int .i64 a1_0) := (blk_cell BK144.out 0).trans rfl
            have hcz65_1 : wc.cell? ⟨gb144, 1, none⟩ = some (.int .i64 a1_1) := (blk_cell BK144.out 1).trans rfl
            have hcz65_2 : wc.cell? ⟨gb144, 2, none⟩ = some (.int .i64 a1_2) := (blk_cell BK144.out 2).trans rfl
            have hcz65_3 : wc.cell? ⟨gb144, 3, none⟩ = some (.int .i64 a1_3) := (blk_cell BK144.out 3).trans rfl
            have hfz65_0 := blk_frozen BK144.out 0
            have hfz65_1 := blk_frozen BK144.out 1
            have hfz65_2 := blk_frozen BK144.out 2
            have hfz65_3 := blk_frozen BK144.out 3
            have hnb66 := NB143_145.out
            have hnc66 := NB145_143.out
            have hnb67 := NB143_146.out
            have hnc67 := NB146_143.out
            have hcz68_0 : wc.cell? ⟨gb143, 0, none⟩ = some (.slice Ao4 l0_0.length co4) := (blk_cell BK143.out 0).trans rfl
            have hcz68_1 : wc.cell? ⟨gb143, 1, none⟩ = some (.slice Ao5 l0_1.length co5) := (blk_cell BK143.out 1).trans rfl
            have hcz68_2 : wc.cell? ⟨gb143, 2, none⟩ = some (.int .i64 a0_2) := (blk_cell BK143.out 2).trans rfl
            have hfz68_0 := blk_frozen BK143.out 0
            have hfz68_1 := blk_frozen BK143.out 1
            have hfz68_2 := blk_frozen BK143.out 2
            go_wp2
            go_meet
            case rel => exact ⟨_, (decide (a1_1 ≥ (l0_1.length : Int))), (by first | rfl | (simp; done) | (simp [*]; done)), H', ⟨by have := HJ2.out; first | omega | exact Nat.le_refl _⟩, ⟨by (with_reducible repeat (first | apply Kd.R_alloc | apply Kd.R_drewN | apply Kd.R_drew)); exact HO_144000.out⟩, ⟨by (with_reducible repeat (first | apply Kd.R_alloc | apply Kd.R_drewN | apply Kd.R_drew)); exact HO_144001.out⟩, ⟨by (with_reducible repeat (first | refine blk_drewN ?_ _ | refine blk_drew ?_ | refine blk_alloc ?_ _)); exact BK143.out⟩, ⟨by (with_reducible repeat (first | refine blk_drewN ?_ _ | refine blk_drew ?_ | refine blk_alloc ?_ _)); exact BK144.out⟩, ⟨by (with_reducible repeat (first | refine blk_drewN ?_ _ | refine blk_drew ?_ | refine blk_alloc ?_ _)); exact BK145.out⟩, ⟨by (with_reducible repeat (first | refine blk_drewN ?_ _ | refine blk_drew ?_ | refine blk_alloc ?_ _)); exact BK146.out⟩, ⟨by repeat (first | (with_reducible first | exact HK.out | apply Kept.alloc | apply Kept.drewN | apply Kept.drew | refine Kept.setCell ?_ (.inr GW143.out) _ | refine Kept.setCell ?_ (.inr GW144.out) _ | refine Kept.setCell ?_ (.inr GW145.out) _ | refine Kept.setCell ?_ (.inr GW146.out) _) | exact HK.out)⟩, ⟨by repeat (first | (with_reducible first | exact HB.out | apply below_alloc | apply pw_below_drewN | apply below_drew1 | refine below_set ?_ GE143.out | refine below_set ?_ GE144.out | refine below_set ?_ GE145.out | refine below_set ?_ GE146.out) | exact HB.out)⟩⟩
        case rest =>
          clear HC56
          try clear c1
          try clear c2
          try clear p2
          try clear c3
          try clear c4
          try clear c5
          try clear c6
          try clear c10
          try clear c10b0
          try clear c11
          try clear c12
          try clear c13
          try clear c15
          try clear c16
          try clear c17
          try clear c19
          try clear c20
          try clear c20b0
          try clear c21
          try clear c22
          try clear c23
          try clear c25
          try clear c26
          try clear c27
          try clear c28
          try clear c31
          try clear c31b0
          try clear c32
          try clear c33
          try clear c34
          try clear c36
          try clear c37
          try clear c39
          try clear c43
          try clear c44
          try clear c45
          try clear c47
          try clear c48
          try clear c52
          try clear c57
          try clear c57b0
          try clear c58
          try clear c59
          try clear c60
          try clear c62
          try clear c63
          try clear c64
          try clear c66
          try clear c67
          try clear hcz14_0
          try clear hcz14_1
          try clear hcz14_2
          try clear hcz14_3
          try clear hcz18_0
          try clear hcz18_1
          try clear hcz18_2
          try clear hcz18_3
          try clear hcz24_0
          try clear hcz24_1
          try clear hcz24_2
          try clear hcz24_3
          try clear hcz27_0
          try clear hcz27_1
          try clear hcz27_2
          try clear hcz29_0
          try clear hcz29_1
          try clear hcz29_2
          try clear hcz30_0
          try clear hcz30_1
          try clear hcz35_0
          try clear hcz35_1
          try clear hcz35_2
          try clear hcz35_3
          try clear hcz38_0
          try clear hcz38_1
          try clear hcz38_2
          try clear hcz40_0
          try clear hcz40_1
          try clear hcz40_2
          try clear hcz41_0
          try clear hcz41_1
          try clear hcz46_0
          try clear hcz46_1
          try clear hcz46_2
          try clear hcz46_3
          try clear hcz49_0
          try clear hcz49_1
          try clear hcz49_2
          try clear hcz53_0
          try clear hcz53_1
          try clear hcz53_2
          try clear hcz55_0
          try clear hcz55_1
          try clear hcz61_0
          try clear hcz61_1
          try clear hcz61_2
          try clear hcz61_3
          try clear hcz65_0
          try clear hcz65_1
          try clear hcz65_2
          try clear hcz65_3
          try clear hcz68_0
          try clear hcz68_1
          try clear hcz68_2
          try clear hfz14_0
          try clear hfz14_1
          try clear hfz14_2
          try clear hfz14_3
          try clear hfz18_0
          try clear hfz18_1
          try clear hfz18_2
          try clear hfz18_3
          try clear hfz24_0
          try clear hfz24_1
          try clear hfz24_2
          try clear hfz24_3
          try clear hfz27_0
          try clear hfz27_1
          try clear hfz27_2
          try clear hfz29_0
          try clear hfz29_1
          try clear hfz29_2
          try clear hfz30_0
          try clear hfz30_1
          try clear hfz35_0
          try clear hfz35_1
          try clear hfz35_2
          try clear hfz35_3
          try clear hfz38_0
          try clear hfz38_1
          try clear hfz38_2
          try clear hfz40_0
          try clear hfz40_1
          try clear hfz40_2
          try clear hfz41_0
          try clear hfz41_1
          try clear hfz46_0
          try clear hfz46_1
          try clear hfz46_2
          try clear hfz46_3
          try clear hfz49_0
          try clear hfz49_1
          try clear hfz49_2
          try clear hfz53_0
          try clear hfz53_1
          try clear hfz53_2
          try clear hfz55_0
          try clear hfz55_1
          try clear hfz61_0
          try clear hfz61_1
          try clear hfz61_2
          try clear hfz61_3
          try clear hfz65_0
          try clear hfz65_1
          try clear hfz65_2
          try clear hfz65_3
          try clear hfz68_0
          try clear hfz68_1
          try clear hfz68_2
          try clear p2
          obtain ⟨kq, x42_55, rfl, HA, HJ55, HO_144000, HO_144001, BK143, BK144, BK145, BK146, HK, HB⟩ := hcut
          cases kq with
          | zero => exact absurd HA.out (by simp [gangplankref14_Do.j1])
          | succ kj55 =>
            have H := HA.out
            clear HA
            simp only [gangplankref14_Do.j1] at H
            by_cases c69 : x42_55 = true
            · subst c69
              have H1 : (if a1_0 = 4 then (gangplankref14_Do.j2 kj55 true l0_0 l0_1 a0_2) else (gangplankref14_Do.j2 kj55 (a1_0 == 5) l0_0 l0_1 a0_2)) = some (r1, r2, r3, r4, r5) := by first | (rw [if_pos rfl] at H; exact H) | (rw [if_pos trivial] at H; exact H)
              clear H
              have H := H1
              clear H1
              have HC70 := Aside0.mk H
              clear H
              go_upto_region 6 with (fail)
              go_cut [50] (fun v50 wc => ∃ (kq : Nat) (x50_69 : Bool), v50 = .bool x50_69 ∧ Aside0 (gangplankref14_Do.j2 kq x50_69 l0_0 l0_1 a0_2 = some (r1, r2, r3, r4, r5)) ∧ Aside0 (kq ≤ kj55) ∧ Aside0 (Kd.R (Kd.int .i64) 3 wc w0.heap.size (fun k_ => ((P0_0_ k_ ∨ P0_1_ k_) ∨ w.heap.size ≤ k_) ∧ some k_ ≠ ((.slice Ao5 l0_1.length co5) : Value).ownBlock) (.slice Ao4 l0_0.length co4) l0_0) ∧ Aside0 (Kd.R (Kd.int .i64) 3 wc w0.heap.size (fun k_ => ((P0_0_ k_ ∨ P0_1_ k_) ∨ w.heap.size ≤ k_) ∧ some k_ ≠ ((.slice Ao4 l0_0.length co4) : Value).ownBlock) (.slice Ao5 l0_1.length co5) l0_1) ∧ Aside0 (wc.heap[gb143]? = some (.cells #[(.slice Ao4 l0_0.length co4), (.slice Ao5 l0_1.length co5), .int .i64 a0_2] 41 (0, 0))) ∧ Aside0 (wc.heap[gb144]? = some (.cells #[.int .i64 a1_0, .int .i64 a1_1, .int .i64 a1_2, .int .i64 a1_3] 47 (0, 0))) ∧ Aside0 (wc.heap[gb145]? = some (.cells #[(.slice none 0 0), (.slice none 0 0), .int .i64 0] 41 (0, 0))) ∧ Aside0 (wc.heap[gb146]? = some (.cells #[.int .i64 0, .bool false] 44 (0, 0))) ∧ Aside0 (Kept w wc (fun k_ => P0_0_ k_ ∨ P0_1_ k_)) ∧ Aside0 (Below w0.heap.size w0 wc))
              case first =>
                have H := HC70.out
                clear HC70
                by_cases c71 : a1_0 = 4
                · rw [if_pos c71] at H
                  have c71b0 : (a1_0 == 4) = true := beq_iff_eq.mpr c71
                  have c71b1 : (a1_0 != 4) = false := bne_eq_false_iff_eq.mpr c71
                  clear c71
                  (first | rw [c71b0] | (simp only [i64_w, i32_w]; rw [c71b0]) | skip)
                  have H' := Aside0.mk H
                  clear H
                  have hnb72 := NB144_143.out
                  have hnc72 := NB143_144.out
                  have hnb73 := NB144_145.out
                  have hnc73 := NB145_144.out
                  have hnb74 := NB144_146.out
                  have hnc74 := NB146_144.out
                  have hcz75_0 : wc.cell? ⟨gb144, 0, none⟩ = some (.int .i64 a1_0) := (blk_cell BK144.out 0).trans rfl
                  have hcz75_1 : wc.cell? ⟨gb144, 1, none⟩ = some (.int .i64 a1_1) := (blk_cell BK144.out 1).trans rfl
                  have hcz75_2 : wc.cell? ⟨gb144, 2, none⟩ = some (.int .i64 a1_2) := (blk_cell BK144.out 2).trans rfl
                  have hcz75_3 : wc.cell? ⟨gb144, 3, none⟩ = some (.int .i64 a1_3) := (blk_cell BK144.out 3).trans rfl
                  have hfz75_0 := blk_frozen BK144.out 0
                  have hfz75_1 := blk_frozen BK144.out 1
                  have hfz75_2 := blk_frozen BK144.out 2
                  have hfz75_3 := blk_frozen BK144.out 3
                  go_wp2
                  go_meet
                  case rel => exact ⟨_, (true), (by first | rfl | (simp; done) | (simp [*]; done)), H', ⟨by have := HJ2.out; have := HJ55.out; first | omega | exact Nat.le_refl _⟩, ⟨by (with_reducible repeat (first | apply Kd.R_alloc | apply Kd.R_drewN | apply Kd.R_drew)); exact HO_144000.out⟩, ⟨by (with_reducible repeat (first | apply Kd.R_alloc | apply Kd.R_drewN | apply Kd.R_drew)); exact HO_144001.out⟩, ⟨by (with_reducible repeat (first | refine blk_drewN ?_ _ | refine blk_drew ?_ | refine blk_alloc ?_ _)); exact BK143.out⟩, ⟨by (with_reducible repeat (first | refine blk_drewN ?_ _ | refine blk_drew ?_ | refine blk_alloc ?_ _)); exact BK144.out⟩, ⟨by (with_reducible repeat (first | refine blk_drewN ?_ _ | refine blk_drew ?_ | refine blk_alloc ?_ _)); exact BK145.out⟩, ⟨by (with_reducible repeat (first | refine blk_drewN ?_ _ | refine blk_drew ?_ | refine blk_alloc ?_ _)); exact BK146.out⟩, ⟨by repeat (first | (with_reducible first | exact HK.out | apply Kept.alloc | apply Kept.drewN | apply Kept.drew | refine Kept.setCell ?_ (.inr GW143.out) _ | refine Kept.setCell ?_ (.inr GW144.out) _ | refine Kept.setCell ?_ (.inr GW145.out) _ | refine Kept.setCell ?_ (.inr GW146.out) _) | exact HK.out)⟩, ⟨by repeat (first | (with_reducible first | exact HB.out | apply below_alloc | apply pw_below_drewN | apply below_drew1 | refine below_set ?_ GE143.out | refine below_set ?_ GE144.out | refine below_set ?_ GE145.out | refine below_set ?_ GE146.out) | exact HB.out)⟩⟩
                · rw [if_neg c71] at H
                  have c71b0 : (a1_0 == 4) = false := beq_eq_false_iff_ne.mpr c71
                  have c71b1 : (a1_0 != 4) = true := bne_iff_ne.mpr c71
                  (first | rw [c71b0] | (simp only [i64_w, i32_w]; rw [c71b0]) | skip)
                  have H' := Aside0.mk H
                  clear H
                  have hnb76 := NB144_143.out
                  have hnc76 := NB143_144.out
                  have hnb77 := NB144_145.out
                  have hnc77 := NB145_144.out
                  have hnb78 := NB144_146.out
                  have hnc78 := NB146_144.out
                  have hcz79_0 : wc.cell? ⟨gb144, 0, none⟩ = some (.int .i64 a1_0) := (blk_cell BK144.out 0).trans rfl
                  have hcz79_1 : wc.cell? ⟨gb144, 1, none⟩ = some (.int .i64 a1_1) := (blk_cell BK144.out 1).trans rfl
                  have hcz79_2 : wc.cell? ⟨gb144, 2, none⟩ = some (.int .i64 a1_2) := (blk_cell BK144.out 2).trans rfl
                  have hcz79_3 : wc.cell? ⟨gb144, 3, none⟩ = some (.int .i64 a1_3) := (blk_cell BK144.out 3).trans rfl
                  have hfz79_0 := blk_frozen BK144.out 0
                  have hfz79_1 := blk_frozen BK144.out 1
                  have hfz79_2 := blk_frozen BK144.out 2
                  have hfz79_3 := blk_frozen BK144.out 3
                  go_wp2
                  go_meet
                  case rel => exact ⟨_, ((a1_0 == 5)), (by first | rfl | (simp; done) | (simp [*]; done)), H', ⟨by have := HJ2.out; have := HJ55.out; first | omega | exact Nat.le_refl _⟩, ⟨by (with_reducible repeat (first | apply Kd.R_alloc | apply Kd.R_drewN | apply Kd.R_drew)); exact HO_144000.out⟩, ⟨by (with_reducible repeat (first | apply Kd.R_alloc | apply Kd.R_drewN | apply Kd.R_drew)); exact HO_144001.out⟩, ⟨by (with_reducible repeat (first | refine blk_drewN ?_ _ | refine blk_drew ?_ | refine blk_alloc ?_ _)); exact BK143.out⟩, ⟨by (with_reducible repeat (first | refine blk_drewN ?_ _ | refine blk_drew ?_ | refine blk_alloc ?_ _)); exact BK144.out⟩, ⟨by (with_reducible repeat (first | refine blk_drewN ?_ _ | refine blk_drew ?_ | refine blk_alloc ?_ _)); exact BK145.out⟩, ⟨by (with_reducible repeat (first | refine blk_drewN ?_ _ | refine blk_drew ?_ | refine blk_alloc ?_ _)); exact BK146.out⟩, ⟨by repeat (first | (with_reducible first | exact HK.out | apply Kept.alloc | apply Kept.drewN | apply Kept.drew | refine Kept.setCell ?_ (.inr GW143.out) _ | refine Kept.setCell ?_ (.inr GW144.out) _ | refine Kept.setCell ?_ (.inr GW145.out) _ | refine Kept.setCell ?_ (.inr GW146.out) _) | exact HK.out)⟩, ⟨by repeat (first | (with_reducible first | exact HB.out | apply below_alloc | apply pw_below_drewN | apply below_drew1 | refine below_set ?_ GE143.out | refine below_set ?_ GE144.out | refine below_set ?_ GE145.out | refine below_set ?_ GE146.out) | exact HB.out)⟩⟩
              case rest =>
                clear HC70
                try clear c1
                try clear c2
                try clear p2
                try clear c3
                try clear c4
                try clear c5
                try clear c6
                try clear c7
                try clear c10
                try clear c10b0
                try clear c11
                try clear c12
                try clear c13
                try clear c15
                try clear c16
                try clear c17
                try clear c19
                try clear c20
                try clear c20b0
                try clear c21
                try clear c22
                try clear c23
                try clear c25
                try clear c26
                try clear c27
                try clear c28
                try clear c31
                try clear c31b0
                try clear c32
                try clear c33
                try clear c34
                try clear c36
                try clear c37
                try clear c39
                try clear c43
                try clear c44
                try clear c45
                try clear c47
                try clear c48
                try clear c52
                try clear c57
                try clear c57b0
                try clear c58
                try clear c59
                try clear c60
                try clear c62
                try clear c63
                try clear c64
                try clear c66
                try clear c67
                try clear c69
                try clear c71
                try clear c71b0
                try clear c71b1
                try clear c72
                try clear c73
                try clear c74
                try clear c76
                try clear c77
                try clear c78
                try clear hcz14_0
                try clear hcz14_1
                try clear hcz14_2
                try clear hcz14_3
                try clear hcz18_0
                try clear hcz18_1
                try clear hcz18_2
                try clear hcz18_3
                try clear hcz24_0
                try clear hcz24_1
                try clear hcz24_2
                try clear hcz24_3
                try clear hcz27_0
                try clear hcz27_1
                try clear hcz27_2
                try clear hcz29_0
                try clear hcz29_1
                try clear hcz29_2
                try clear hcz30_0
                try clear hcz30_1
                try clear hcz35_0
                try clear hcz35_1
                try clear hcz35_2
                try clear hcz35_3
                try clear hcz38_0
                try clear hcz38_1
                try clear hcz38_2
                try clear hcz40_0
                try clear hcz40_1
                try clear hcz40_2
                try clear hcz41_0
                try clear hcz41_1
                try clear hcz46_0
                try clear hcz46_1
                try clear hcz46_2
                try clear hcz46_3
                try clear hcz49_0
                try clear hcz49_1
                try clear hcz49_2
                try clear hcz53_0
                try clear hcz53_1
                try clear hcz53_2
                try clear hcz55_0
                try clear hcz55_1
                try clear hcz61_0
                try clear hcz61_1
                try clear hcz61_2
                try clear hcz61_3
                try clear hcz65_0
                try clear hcz65_1
                try clear hcz65_2
                try clear hcz65_3
                try clear hcz68_0
                try clear hcz68_1
                try clear hcz68_2
                try clear hcz75_0
                try clear hcz75_1
                try clear hcz75_2
                try clear hcz75_3
                try clear hcz79_0
                try clear hcz79_1
                try clear hcz79_2
                try clear hcz79_3
                try clear hfz14_0
                try clear hfz14_1
                try clear hfz14_2
                try clear hfz14_3
                try clear hfz18_0
                try clear hfz18_1
                try clear hfz18_2
                try clear hfz18_3
                try clear hfz24_0
                try clear hfz24_1
                try clear hfz24_2
                try clear hfz24_3
                try clear hfz27_0
                try clear hfz27_1
                try clear hfz27_2
                try clear hfz29_0
                try clear hfz29_1
                try clear hfz29_2
                try clear hfz30_0
                try clear hfz30_1
                try clear hfz35_0
                try clear hfz35_1
                try clear hfz35_2
                try clear hfz35_3
                try clear hfz38_0
                try clear hfz38_1
                try clear hfz38_2
                try clear hfz40_0
                try clear hfz40_1
                try clear hfz40_2
                try clear hfz41_0
                try clear hfz41_1
                try clear hfz46_0
                try clear hfz46_1
                try clear hfz46_2
                try clear hfz46_3
                try clear hfz49_0
                try clear hfz49_1
                try clear hfz49_2
                try clear hfz53_0
                try clear hfz53_1
                try clear hfz53_2
                try clear hfz55_0
                try clear hfz55_1
                try clear hfz61_0
                try clear hfz61_1
                try clear hfz61_2
                try clear hfz61_3
                try clear hfz65_0
                try clear hfz65_1
                try clear hfz65_2
                try clear hfz65_3
                try clear hfz68_0
                try clear hfz68_1
                try clear hfz68_2
                try clear hfz75_0
                try clear hfz75_1
                try clear hfz75_2
                try clear hfz75_3
                try clear hfz79_0
                try clear hfz79_1
                try clear hfz79_2
                try clear hfz79_3
                try clear p2
                obtain ⟨kq, x50_69, rfl, HA, HJ69, HO_144000, HO_144001, BK143, BK144, BK145, BK146, HK, HB⟩ := hcut
                cases kq with
                | zero => exact absurd HA.out (by simp [gangplankref14_Do.j2])
                | succ kj69 =>
                  have H := HA.out
                  clear HA
                  simp only [gangplankref14_Do.j2] at H
                  by_cases c80 : x50_69 = true
                  · subst c80
                    have H1 : (some (l0_0, l0_1, a0_2, 0, false)) = some (r1, r2, r3, r4, r5) := by first | (rw [if_pos rfl] at H; exact H) | (rw [if_pos trivial] at H; exact H)
                    clear H
                    have H := H1
                    clear H1
                    simp only [Option.some.injEq, Prod.mk.injEq] at H
                    obtain ⟨rfl, rfl, rfl, rfl, rfl⟩ := H
                    have hnb81 := NB143_144.out
                    have hnc81 := NB144_143.out
                    have hnb82 := NB143_145.out
                    have hnc82 := NB145_143.out
                    have hnb83 := NB143_146.out
                    have hnc83 := NB146_143.out
                    have hcz84_0 : wc.cell? ⟨gb143, 0, none⟩ = some (.slice Ao4 l0_0.length co4) := (blk_cell BK143.out 0).trans rfl
                    have hcz84_1 : wc.cell? ⟨gb143, 1, none⟩ = some (.slice Ao5 l0_1.length co5) := (blk_cell BK143.out 1).trans rfl
                    have hcz84_2 : wc.cell? ⟨gb143, 2, none⟩ = some (.int .i64 a0_2) := (blk_cell BK143.out 2).trans rfl
                    have hfz84_0 := blk_frozen BK143.out 0
                    have hfz84_1 := blk_frozen BK143.out 1
                    have hfz84_2 := blk_frozen BK143.out 2
                    have hnb85 := NB145_144.out
                    have hnc85 := NB144_145.out
                    have hnb86 := NB145_146.out
                    have hnc86 := NB146_145.out
                    have hcz87_0 : wc.cell? ⟨gb145, 0, none⟩ = some (.slice none 0 0) := (blk_cell BK145.out 0).trans rfl
                    have hcz87_1 : wc.cell? ⟨gb145, 1, none⟩ = some (.slice none 0 0) := (blk_cell BK145.out 1).trans rfl
                    have hcz87_2 : wc.cell? ⟨gb145, 2, none⟩ = some (.int .i64 0) := (blk_cell BK145.out 2).trans rfl
                    have hfz87_0 := blk_frozen BK145.out 0
                    have hfz87_1 := blk_frozen BK145.out 1
                    have hfz87_2 := blk_frozen BK145.out 2
                    have hnb88 := NB146_144.out
                    have hnc88 := NB144_146.out
                    have hcz89_0 : wc.cell? ⟨gb146, 0, none⟩ = some (.int .i64 0) := (blk_cell BK146.out 0).trans rfl
                    have hcz89_1 : wc.cell? ⟨gb146, 1, none⟩ = some (.bool false) := (blk_cell BK146.out 1).trans rfl
                    have hfz89_0 := blk_frozen BK146.out 0
                    have hfz89_1 := blk_frozen BK146.out 1
                    go_wp2
                    refine bodyPost_ret (results_cc rfl _ _ gb145 gb146 41 44 #[.slice Ao4 l0_0.length co4, .slice Ao5 l0_1.length co5, .int .i64 a0_2] #[.int .i64 0, .bool false] (0, 0) (0, 0) _ _ rfl (by (with_reducible repeat (first | refine blk_drewN ?_ _ | refine blk_drew ?_ | refine blk_alloc ?_ _)); refine blk_far ?_ NB145_146.out _; (with_reducible repeat (first | refine blk_drewN ?_ _ | refine blk_drew ?_ | refine blk_alloc ?_ _)); refine blk_far ?_ NB145_146.out _; (with_reducible repeat (first | refine blk_drewN ?_ _ | refine blk_drew ?_ | refine blk_alloc ?_ _)); refine blk_put (cs := #[.slice Ao4 l0_0.length co4, .slice Ao5 l0_1.length co5, .int .i64 0]) ?_ 2 _ rfl; (with_reducible repeat (first | refine blk_drewN ?_ _ | refine blk_drew ?_ | refine blk_alloc ?_ _)); refine blk_put (cs := #[.slice Ao4 l0_0.length co4, .slice none 0 0, .int .i64 0]) ?_ 1 _ rfl; (with_reducible repeat (first | refine blk_drewN ?_ _ | refine blk_drew ?_ | refine blk_alloc ?_ _)); refine blk_put (cs := #[.slice none 0 0, .slice none 0 0, .int .i64 0]) ?_ 0 _ rfl; (with_reducible repeat (first | refine blk_drewN ?_ _ | refine blk_drew ?_ | refine blk_alloc ?_ _)); exact BK145.out) Try.underlying41 rfl (by kernel_rfl) rfl (by (with_reducible repeat (first | refine blk_drewN ?_ _ | refine blk_drew ?_ | refine blk_alloc ?_ _)); refine blk_put (cs := #[.int .i64 0, .bool false]) ?_ 1 _ rfl; (with_reducible repeat (first | refine blk_drewN ?_ _ | refine blk_drew ?_ | refine blk_alloc ?_ _)); refine blk_put (cs := #[.int .i64 0, .bool false]) ?_ 0 _ rfl; (with_reducible repeat (first | refine blk_drewN ?_ _ | refine blk_drew ?_ | refine blk_alloc ?_ _)); refine blk_far ?_ NB146_145.out _; (with_reducible repeat (first | refine blk_drewN ?_ _ | refine blk_drew ?_ | refine blk_alloc ?_ _)); refine blk_far ?_ NB146_145.out _; (with_reducible repeat (first | refine blk_drewN ?_ _ | refine blk_drew ?_ | refine blk_alloc ?_ _)); refine blk_far ?_ NB146_145.out _; (with_reducible repeat (first | refine blk_drewN ?_ _ | refine blk_drew ?_ | refine blk_alloc ?_ _)); exact BK146.out) Try.underlying44 rfl (by kernel_rfl)) rfl ?_
                    exact ⟨_, _, by first | rfl | (simp [errW_none, errW_some] <;> rfl) | (simp [*, errW_none, errW_some] <;> rfl), by (with_reducible repeat (first | apply Kd.R_alloc | apply Kd.R_drewN | apply Kd.R_drew)); exact Kd.R_mono (Kd.R_far (p := ⟨gb146, 1, none⟩) (Kd.R_far (p := ⟨gb146, 0, none⟩) (Kd.R_far (p := ⟨gb145, 2, none⟩) (Kd.R_far (p := ⟨gb145, 1, none⟩) (Kd.R_far (p := ⟨gb145, 0, none⟩) (Kd.R_types (Kd.R_types HO_144000.out BK145.out (by decide)) BK146.out (by decide)) (fun _ hk => hk.1.2) (.slice Ao4 l0_0.length co4)) (fun _ hk => hk.1.2) (.slice Ao5 l0_1.length co5)) (fun _ hk => hk.1.2) (.int .i64 a0_2)) (fun _ hk => hk.2) (.int .i64 0)) (fun _ hk => hk.2) (.bool false)) (fun _ hk => ⟨hk.1.1.1, hk.1.1.2⟩), by (with_reducible repeat (first | apply Kd.R_alloc | apply Kd.R_drewN | apply Kd.R_drew)); exact Kd.R_mono (Kd.R_far (p := ⟨gb146, 1, none⟩) (Kd.R_far (p := ⟨gb146, 0, none⟩) (Kd.R_far (p := ⟨gb145, 2, none⟩) (Kd.R_far (p := ⟨gb145, 1, none⟩) (Kd.R_far (p := ⟨gb145, 0, none⟩) (Kd.R_types (Kd.R_types HO_144001.out BK145.out (by decide)) BK146.out (by decide)) (fun _ hk => hk.1.2) (.slice Ao4 l0_0.length co4)) (fun _ hk => hk.1.2) (.slice Ao5 l0_1.length co5)) (fun _ hk => hk.1.2) (.int .i64 a0_2)) (fun _ hk => hk.2) (.int .i64 0)) (fun _ hk => hk.2) (.bool false)) (fun _ hk => ⟨hk.1.1.1, hk.1.1.2⟩), by repeat (first | (with_reducible first | exact HB.out | apply below_alloc | apply pw_below_drewN | apply below_drew1 | refine below_set ?_ GE143.out | refine below_set ?_ GE144.out | refine below_set ?_ GE145.out | refine below_set ?_ GE146.out) | exact HB.out), by repeat (first | (with_reducible first | exact HK.out | apply Kept.alloc | apply Kept.drewN | apply Kept.drew | refine Kept.setCell ?_ (.inr GW143.out) _ | refine Kept.setCell ?_ (.inr GW144.out) _ | refine Kept.setCell ?_ (.inr GW145.out) _ | refine Kept.setCell ?_ (.inr GW146.out) _) | exact HK.out)⟩
                  · replace c80 := Bool.eq_false_iff.mpr c80
                    subst c80
                    have H1 : (some (l0_0, l0_1, a0_2, (-1), false)) = some (r1, r2, r3, r4, r5) := by rw [if_neg (show ¬ (false = true) by decide)] at H; exact H
                    clear H
                    have H := H1
                    clear H1
                    simp only [Option.some.injEq, Prod.mk.injEq] at H
                    obtain ⟨rfl, rfl, rfl, rfl, rfl⟩ := H
                    have hnb90 := NB143_144.out
                    have hnc90 := NB144_143.out
                    have hnb91 := NB143_145.out
                    have hnc91 := NB145_143.out
                    have hnb92 := NB143_146.out
                    have hnc92 := NB146_143.out
                    have hcz93_0 : wc.cell? ⟨gb143, 0, none⟩ = some (.slice Ao4 l0_0.length co4) := (blk_cell BK143.out 0).trans rfl
                    have hcz93_1 : wc.cell? ⟨gb143, 1, none⟩ = some (.slice Ao5 l0_1.length co5) := (blk_cell BK143.out 1).trans rfl
                    have hcz93_2 : wc.cell? ⟨gb143, 2, none⟩ = some (.int .i64 a0_2) := (blk_cell BK143.out 2).trans rfl
                    have hfz93_0 := blk_frozen BK143.out 0
                    have hfz93_1 := blk_frozen BK143.out 1
                    have hfz93_2 := blk_frozen BK143.out 2
                    have hnb94 := NB145_144.out
                    have hnc94 := NB144_145.out
                    have hnb95 := NB145_146.out
                    have hnc95 := NB146_145.out
                    have hcz96_0 : wc.cell? ⟨gb145, 0, none⟩ = some (.slice none 0 0) := (blk_cell BK145.out 0).trans rfl
                    have hcz96_1 : wc.cell? ⟨gb145, 1, none⟩ = some (.slice none 0 0) := (blk_cell BK145.out 1).trans rfl
                    have hcz96_2 : wc.cell? ⟨gb145, 2, none⟩ = some (.int .i64 0) := (blk_cell BK145.out 2).trans rfl
                    have hfz96_0 := blk_frozen BK145.out 0
                    have hfz96_1 := blk_frozen BK145.out 1
                    have hfz96_2 := blk_frozen BK145.out 2
                    have hnb97 := NB146_144.out
                    have hnc97 := NB144_146.out
                    have hcz98_0 : wc.cell? ⟨gb146, 0, none⟩ = some (.int .i64 0) := (blk_cell BK146.out 0).trans rfl
                    have hcz98_1 : wc.cell? ⟨gb146, 1, none⟩ = some (.bool false) := (blk_cell BK146.out 1).trans rfl
                    have hfz98_0 := blk_frozen BK146.out 0
                    have hfz98_1 := blk_frozen BK146.out 1
                    go_wp2
                    refine bodyPost_ret (results_cc rfl _ _ gb145 gb146 41 44 #[.slice Ao4 l0_0.length co4, .slice Ao5 l0_1.length co5, .int .i64 a0_2] #[.int .i64 (-1), .bool false] (0, 0) (0, 0) _ _ rfl (by (with_reducible repeat (first | refine blk_drewN ?_ _ | refine blk_drew ?_ | refine blk_alloc ?_ _)); refine blk_far ?_ NB145_146.out _; (with_reducible repeat (first | refine blk_drewN ?_ _ | refine blk_drew ?_ | refine blk_alloc ?_ _)); refine blk_far ?_ NB145_146.out _; (with_reducible repeat (first | refine blk_drewN ?_ _ | refine blk_drew ?_ | refine blk_alloc ?_ _)); refine blk_put (cs := #[.slice Ao4 l0_0.length co4, .slice Ao5 l0_1.length co5, .int .i64 0]) ?_ 2 _ rfl; (with_reducible repeat (first | refine blk_drewN ?_ _ | refine blk_drew ?_ | refine blk_alloc ?_ _)); refine blk_put (cs := #[.slice Ao4 l0_0.length co4, .slice none 0 0, .int .i64 0]) ?_ 1 _ rfl; (with_reducible repeat (first | refine blk_drewN ?_ _ | refine blk_drew ?_ | refine blk_alloc ?_ _)); refine blk_put (cs := #[.slice none 0 0, .slice none 0 0, .int .i64 0]) ?_ 0 _ rfl; (with_reducible repeat (first | refine blk_drewN ?_ _ | refine blk_drew ?_ | refine blk_alloc ?_ _)); exact BK145.out) Try.underlying41 rfl (by kernel_rfl) rfl (by (with_reducible repeat (first | refine blk_drewN ?_ _ | refine blk_drew ?_ | refine blk_alloc ?_ _)); refine blk_put (cs := #[.int .i64 (-1), .bool false]) ?_ 1 _ rfl; (with_reducible repeat (first | refine blk_drewN ?_ _ | refine blk_drew ?_ | refine blk_alloc ?_ _)); refine blk_put (cs := #[.int .i64 0, .bool false]) ?_ 0 _ rfl; (with_reducible repeat (first | refine blk_drewN ?_ _ | refine blk_drew ?_ | refine blk_alloc ?_ _)); refine blk_far ?_ NB146_145.out _; (with_reducible repeat (first | refine blk_drewN ?_ _ | refine blk_drew ?_ | refine blk_alloc ?_ _)); refine blk_far ?_ NB146_145.out _; (with_reducible repeat (first | refine blk_drewN ?_ _ | refine blk_drew ?_ | refine blk_alloc ?_ _)); refine blk_far ?_ NB146_145.out _; (with_reducible repeat (first | refine blk_drewN ?_ _ | refine blk_drew ?_ | refine blk_alloc ?_ _)); exact BK146.out) Try.underlying44 rfl (by kernel_rfl)) rfl ?_
                    exact ⟨_, _, by first | rfl | (simp [errW_none, errW_some] <;> rfl) | (simp [*, errW_none, errW_some] <;> rfl), by (with_reducible repeat (first | apply Kd.R_alloc | apply Kd.R_drewN | apply Kd.R_drew)); exact Kd.R_mono (Kd.R_far (p := ⟨gb146, 1, none⟩) (Kd.R_far (p := ⟨gb146, 0, none⟩) (Kd.R_far (p := ⟨gb145, 2, none⟩) (Kd.R_far (p := ⟨gb145, 1, none⟩) (Kd.R_far (p := ⟨gb145, 0, none⟩) (Kd.R_types (Kd.R_types HO_144000.out BK145.out (by decide)) BK146.out (by decide)) (fun _ hk => hk.1.2) (.slice Ao4 l0_0.length co4)) (fun _ hk => hk.1.2) (.slice Ao5 l0_1.length co5)) (fun _ hk => hk.1.2) (.int .i64 a0_2)) (fun _ hk => hk.2) (.int .i64 (-1))) (fun _ hk => hk.2) (.bool false)) (fun _ hk => ⟨hk.1.1.1, hk.1.1.2⟩), by (with_reducible repeat (first | apply Kd.R_alloc | apply Kd.R_drewN | apply Kd.R_drew)); exact Kd.R_mono (Kd.R_far (p := ⟨gb146, 1, none⟩) (Kd.R_far (p := ⟨gb146, 0, none⟩) (Kd.R_far (p := ⟨gb145, 2, none⟩) (Kd.R_far (p := ⟨gb145, 1, none⟩) (Kd.R_far (p := ⟨gb145, 0, none⟩) (Kd.R_types (Kd.R_types HO_144001.out BK145.out (by decide)) BK146.out (by decide)) (fun _ hk => hk.1.2) (.slice Ao4 l0_0.length co4)) (fun _ hk => hk.1.2) (.slice Ao5 l0_1.length co5)) (fun _ hk => hk.1.2) (.int .i64 a0_2)) (fun _ hk => hk.2) (.int .i64 (-1))) (fun _ hk => hk.2) (.bool false)) (fun _ hk => ⟨hk.1.1.1, hk.1.1.2⟩), by repeat (first | (with_reducible first | exact HB.out | apply below_alloc | apply pw_below_drewN | apply below_drew1 | refine below_set ?_ GE143.out | refine below_set ?_ GE144.out | refine below_set ?_ GE145.out | refine below_set ?_ GE146.out) | exact HB.out), by repeat (first | (with_reducible first | exact HK.out | apply Kept.alloc | apply Kept.drewN | apply Kept.drew | refine Kept.setCell ?_ (.inr GW143.out) _ | refine Kept.setCell ?_ (.inr GW144.out) _ | refine Kept.setCell ?_ (.inr GW145.out) _ | refine Kept.setCell ?_ (.inr GW146.out) _) | exact HK.out)⟩
            · replace c69 := Bool.eq_false_iff.mpr c69
              subst c69
              have H1 : (if a1_0 = 4 then ((gangplankref14_lock.f kj55 l0_0 l0_1 a0_2 a1_0 a1_1 a1_2 a1_3).bind fun bt156 => (some (bt156.1, bt156.2.1, bt156.2.2.1, bt156.2.2.2.1, bt156.2.2.2.2))) else (if a1_0 = 5 then ((gangplankref14_lock.f kj55 l0_0 l0_1 a0_2 a1_0 a1_1 a1_2 a1_3).bind fun bt165 => (some (bt165.1, bt165.2.1, bt165.2.2.1, bt165.2.2.2.1, bt165.2.2.2.2))) else (if 0 ≤ a1_1 then (if a1_1 < (l0_1.length : Int) then (some (l0_0, l0_1, a0_2, rd l0_1 a1_1, false)) else (none)) else (none)))) = some (r1, r2, r3, r4, r5) := by rw [if_neg (show ¬ (false = true) by decide)] at H; exact H
              clear H
              have H := H1
              clear H1
              by_cases c99 : a1_0 = 4
              · rw [if_pos c99] at H
                have c99b0 : (a1_0 == 4) = true := beq_iff_eq.mpr c99
                have c99b1 : (a1_0 != 4) = false := bne_eq_false_iff_eq.mpr c99
                clear c99
                replace H := Option.bind_eq_some_iff.mp H
                obtain ⟨⟨t156, t159, t162, t163, t164⟩, A1000, H⟩ := H
                replace H : (some (t156, t159, t162, t163, t164)) = some (r1, r2, r3, r4, r5) := H
                have A100 := Aside0.mk A1000
                clear A1000
                simp only [Option.some.injEq, Prod.mk.injEq] at H
                obtain ⟨rfl, rfl, rfl, rfl, rfl⟩ := H
                have hnb101 := NB144_143.out
                have hnc101 := NB143_144.out
                have hnb102 := NB144_145.out
                have hnc102 := NB145_144.out
                have hnb103 := NB144_146.out
                have hnc103 := NB146_144.out
                have hcz104_0 : wc.cell? ⟨gb144, 0, none⟩ = some (.int .i64 a1_0) := (blk_cell BK144.out 0).trans rfl
                have hcz104_1 : wc.cell? ⟨gb144, 1, none⟩ = some (.int .i64 a1_1) := (blk_cell BK144.out 1).trans rfl
                have hcz104_2 : wc.cell? ⟨gb144, 2, none⟩ = some (.int .i64 a1_2) := (blk_cell BK144.out 2).trans rfl
                have hcz104_3 : wc.cell? ⟨gb144, 3, none⟩ = some (.int .i64 a1_3) := (blk_cell BK144.out 3).trans rfl
                have hfz104_0 := blk_frozen BK144.out 0
                have hfz104_1 := blk_frozen BK144.out 1
                have hfz104_2 := blk_frozen BK144.out 2
                have hfz104_3 := blk_frozen BK144.out 3
                have hnb105 := NB143_145.out
                have hnc105 := NB145_143.out
                have hnb106 := NB143_146.out
                have hnc106 := NB146_143.out
                have hcz107_0 : wc.cell? ⟨gb143, 0, none⟩ = some (.slice Ao4 l0_0.length co4) := (blk_cell BK143.out 0).trans rfl
                have hcz107_1 : wc.cell? ⟨gb143, 1, none⟩ = some (.slice Ao5 l0_1.length co5) := (blk_cell BK143.out 1).trans rfl
                have hcz107_2 : wc.cell? ⟨gb143, 2, none⟩ = some (.int .i64 a0_2) := (blk_cell BK143.out 2).trans rfl
                have hfz107_0 := blk_frozen BK143.out 0
                have hfz107_1 := blk_frozen BK143.out 1
                have hfz107_2 := blk_frozen BK143.out 2
                go_wp2_with (first | ((with_reducible refine gate_callee (f := 40) rfl ?_); refine goesL_ (some 65) rfl rfl Try.func40 (by kernel_rfl) rfl #[.agg #[.slice Ao4 l0_0.length co4, .slice Ao5 l0_1.length co5, .int .i64 a0_2], .agg #[.int .i64 a1_0, .int .i64 a1_1, .int .i64 a1_2, .int .i64 a1_3]] rfl (by (try simp only [List.map_toArray, List.map_cons, List.map_nil]); first | done | rfl | (simp only [List.length_drop, List.length_take]; rfl)) ?_; (with_reducible refine (gangplankref14_lock.calls kj55 (fun k_ => some k_ = (.slice Ao4 l0_0.length co4 : Value).ownBlock) (.slice Ao4 l0_0.length co4) l0_0 (fun k_ => some k_ = (.slice Ao5 l0_1.length co5 : Value).ownBlock) (.slice Ao5 l0_1.length co5) l0_1 a0_2 a1_0 a1_1 a1_2 a1_3 t156 t159 t162 t163 t164 w0 _ ?side1 ?side2 ?side3 ?side4 ?side5 A100.out).mono ?_); (case side1 => repeat (first | (with_reducible first | exact HB.out | apply below_alloc | apply pw_below_drewN | apply below_drew1 | refine below_set ?_ GE143.out | refine below_set ?_ GE144.out | refine below_set ?_ GE145.out | refine below_set ?_ GE146.out) | exact HB.out)); (case side2 => exact Kd.R_tight rfl HO_144000.out); (case side3 => exact fun k_ e_ => (HO_144000.out.1 k_ e_.symm).2); (case side4 => exact Kd.R_tight rfl HO_144001.out); (case side5 => exact fun k_ e_ => (HO_144001.out.1 k_ e_.symm).2); (try clear A100); rintro e w108 ⟨v157, v160, rfl, ho0, ho1, hb, hkp⟩; refine ⟨_, rfl, ?_⟩; have n0_ := Aside0.mk (blk_kept (by (with_reducible repeat (first | refine blk_drewN ?_ _ | refine blk_drew ?_ | refine blk_alloc ?_ _)); exact BK143.out) hkp (fun hs_ => Or.elim hs_ (fun e_ => (fun e_ => (Kd.R_ne HO_144000.out BK143.out (by decide)) e_) e_) (fun e_ => (fun e_ => (Kd.R_ne HO_144001.out BK143.out (by decide)) e_) e_))); have n1_ := Aside0.mk (blk_kept (by (with_reducible repeat (first | refine blk_drewN ?_ _ | refine blk_drew ?_ | refine blk_alloc ?_ _)); exact BK144.out) hkp (fun hs_ => Or.elim hs_ (fun e_ => (fun e_ => (Kd.R_ne HO_144000.out BK144.out (by decide)) e_) e_) (fun e_ => (fun e_ => (Kd.R_ne HO_144001.out BK144.out (by decide)) e_) e_))); have n2_ := Aside0.mk (blk_kept (by (with_reducible repeat (first | refine blk_drewN ?_ _ | refine blk_drew ?_ | refine blk_alloc ?_ _)); exact BK145.out) hkp (fun hs_ => Or.elim hs_ (fun e_ => (fun e_ => (Kd.R_ne HO_144000.out BK145.out (by decide)) e_) e_) (fun e_ => (fun e_ => (Kd.R_ne HO_144001.out BK145.out (by decide)) e_) e_))); have n3_ := Aside0.mk (blk_kept (by (with_reducible repeat (first | refine blk_drewN ?_ _ | refine blk_drew ?_ | refine blk_alloc ?_ _)); exact BK146.out) hkp (fun hs_ => Or.elim hs_ (fun e_ => (fun e_ => (Kd.R_ne HO_144000.out BK146.out (by decide)) e_) e_) (fun e_ => (fun e_ => (Kd.R_ne HO_144001.out BK146.out (by decide)) e_) e_))); have n4_ := Aside0.mk (Kd.R_mono (ok' := fun k_ => ((P0_0_ k_ ∨ P0_1_ k_) ∨ w.heap.size ≤ k_) ∧ some k_ ≠ (v160 : Value).ownBlock) ho0 (fun k_ hk_ => ⟨Or.elim hk_.1 (fun hs_ => Or.elim hs_ (fun hs_ => (HO_144000.out.1 k_ (hs_).symm).1) (fun hs_ => (HO_144001.out.1 k_ (hs_).symm).1)) (fun hn_ => (.inr (Nat.le_trans (by first | exact HK.out.1 | exact (show Kept w _ (fun k_ => P0_0_ k_ ∨ P0_1_ k_) from by repeat (first | (with_reducible first | exact HK.out | apply Kept.alloc | apply Kept.drewN | apply Kept.drew | refine Kept.setCell ?_ (.inr GW143.out) _ | refine Kept.setCell ?_ (.inr GW144.out) _ | refine Kept.setCell ?_ (.inr GW145.out) _ | refine Kept.setCell ?_ (.inr GW146.out) _) | exact HK.out)).1) hn_))), hk_.2⟩)); have n5_ := Aside0.mk (Kd.R_mono (ok' := fun k_ => ((P0_0_ k_ ∨ P0_1_ k_) ∨ w.heap.size ≤ k_) ∧ some k_ ≠ (v157 : Value).ownBlock) ho1 (fun k_ hk_ => ⟨Or.elim hk_.1 (fun hs_ => Or.elim hs_ (fun hs_ => (HO_144000.out.1 k_ (hs_).symm).1) (fun hs_ => (HO_144001.out.1 k_ (hs_).symm).1)) (fun hn_ => (.inr (Nat.le_trans (by first | exact HK.out.1 | exact (show Kept w _ (fun k_ => P0_0_ k_ ∨ P0_1_ k_) from by repeat (first | (with_reducible first | exact HK.out | apply Kept.alloc | apply Kept.drewN | apply Kept.drew | refine Kept.setCell ?_ (.inr GW143.out) _ | refine Kept.setCell ?_ (.inr GW144.out) _ | refine Kept.setCell ?_ (.inr GW145.out) _ | refine Kept.setCell ?_ (.inr GW146.out) _) | exact HK.out)).1) hn_))), hk_.2⟩)); have n6_ := Aside0.mk (Kept.then_ (S := (fun k_ => P0_0_ k_ ∨ P0_1_ k_)) (by repeat (first | (with_reducible first | exact HK.out | apply Kept.alloc | apply Kept.drewN | apply Kept.drew | refine Kept.setCell ?_ (.inr GW143.out) _ | refine Kept.setCell ?_ (.inr GW144.out) _ | refine Kept.setCell ?_ (.inr GW145.out) _ | refine Kept.setCell ?_ (.inr GW146.out) _) | exact HK.out)) hkp (fun k_ hs_ => Or.elim hs_ (fun e_ => (fun e_ => (HO_144000.out.1 k_ e_.symm).1) e_) (fun e_ => (fun e_ => (HO_144001.out.1 k_ e_.symm).1) e_))); have n7_ := Aside0.mk (hb); clear BK143; clear BK144; clear BK145; clear BK146; clear HK; clear HB; clear HO_144000; clear HO_144001; have BK143 := n0_; have BK144 := n1_; have BK145 := n2_; have BK146 := n3_; have HO158 := n4_; have HO161 := n5_; have HK := n6_; have HB := n7_; clear n0_ n1_ n2_ n3_ n4_ n5_ n6_ n7_; (try clear hb); (try clear hkp); (try clear ho0); (try clear ho1); obtain ⟨Ao109, co109, eo109⟩ := Kd.R_slice HO158.out; subst eo109; have hnb110 := NB145_146.out; have hnc110 := NB146_145.out; have hcz111_0 : w108.cell? ⟨gb145, 0, none⟩ = some (.slice none 0 0) := (blk_cell BK145.out 0).trans rfl; have hcz111_1 : w108.cell? ⟨gb145, 1, none⟩ = some (.slice none 0 0) := (blk_cell BK145.out 1).trans rfl; have hcz111_2 : w108.cell? ⟨gb145, 2, none⟩ = some (.int .i64 0) := (blk_cell BK145.out 2).trans rfl; have hfz111_0 := blk_frozen BK145.out 0; have hfz111_1 := blk_frozen BK145.out 1; have hfz111_2 := blk_frozen BK145.out 2; obtain ⟨Ao112, co112, eo112⟩ := Kd.R_slice HO161.out; subst eo112; have hcz113_0 : w108.cell? ⟨gb146, 0, none⟩ = some (.int .i64 0) := (blk_cell BK146.out 0).trans rfl; have hcz113_1 : w108.cell? ⟨gb146, 1, none⟩ = some (.bool false) := (blk_cell BK146.out 1).trans rfl; have hfz113_0 := blk_frozen BK146.out 0; have hfz113_1 := blk_frozen BK146.out 1))
                refine bodyPost_ret (results_cc rfl _ _ gb145 gb146 41 44 #[.slice Ao109 t156.length co109, .slice Ao112 t159.length co112, .int .i64 t162] #[.int .i64 t163, .bool t164] (0, 0) (0, 0) _ _ rfl (by (with_reducible repeat (first | refine blk_drewN ?_ _ | refine blk_drew ?_ | refine blk_alloc ?_ _)); refine blk_far ?_ NB145_146.out _; (with_reducible repeat (first | refine blk_drewN ?_ _ | refine blk_drew ?_ | refine blk_alloc ?_ _)); refine blk_far ?_ NB145_146.out _; (with_reducible repeat (first | refine blk_drewN ?_ _ | refine blk_drew ?_ | refine blk_alloc ?_ _)); refine blk_put (cs := #[.slice Ao109 t156.length co109, .slice Ao112 t159.length co112, .int .i64 0]) ?_ 2 _ rfl; (with_reducible repeat (first | refine blk_drewN ?_ _ | refine blk_drew ?_ | refine blk_alloc ?_ _)); refine blk_put (cs := #[.slice Ao109 t156.length co109, .slice none 0 0, .int .i64 0]) ?_ 1 _ rfl; (with_reducible repeat (first | refine blk_drewN ?_ _ | refine blk_drew ?_ | refine blk_alloc ?_ _)); refine blk_put (cs := #[.slice none 0 0, .slice none 0 0, .int .i64 0]) ?_ 0 _ rfl; (with_reducible repeat (first | refine blk_drewN ?_ _ | refine blk_drew ?_ | refine blk_alloc ?_ _)); exact BK145.out) Try.underlying41 rfl (by kernel_rfl) rfl (by (with_reducible repeat (first | refine blk_drewN ?_ _ | refine blk_drew ?_ | refine blk_alloc ?_ _)); refine blk_put (cs := #[.int .i64 t163, .bool false]) ?_ 1 _ rfl; (with_reducible repeat (first | refine blk_drewN ?_ _ | refine blk_drew ?_ | refine blk_alloc ?_ _)); refine blk_put (cs := #[.int .i64 0, .bool false]) ?_ 0 _ rfl; (with_reducible repeat (first | refine blk_drewN ?_ _ | refine blk_drew ?_ | refine blk_alloc ?_ _)); refine blk_far ?_ NB146_145.out _; (with_reducible repeat (first | refine blk_drewN ?_ _ | refine blk_drew ?_ | refine blk_alloc ?_ _)); refine blk_far ?_ NB146_145.out _; (with_reducible repeat (first | refine blk_drewN ?_ _ | refine blk_drew ?_ | refine blk_alloc ?_ _)); refine blk_far ?_ NB146_145.out _; (with_reducible repeat (first | refine blk_drewN ?_ _ | refine blk_drew ?_ | refine blk_alloc ?_ _)); exact BK146.out) Try.underlying44 rfl (by kernel_rfl)) rfl ?_
                exact ⟨_, _, by first | rfl | (simp [errW_none, errW_some] <;> rfl) | (simp [*, errW_none, errW_some] <;> rfl), by (with_reducible repeat (first | apply Kd.R_alloc | apply Kd.R_drewN | apply Kd.R_drew)); exact Kd.R_mono (Kd.R_far (p := ⟨gb146, 1, none⟩) (Kd.R_far (p := ⟨gb146, 0, none⟩) (Kd.R_far (p := ⟨gb145, 2, none⟩) (Kd.R_far (p := ⟨gb145, 1, none⟩) (Kd.R_far (p := ⟨gb145, 0, none⟩) (Kd.R_types (Kd.R_types HO158.out BK145.out (by decide)) BK146.out (by decide)) (fun _ hk => hk.1.2) (.slice Ao109 t156.length co109)) (fun _ hk => hk.1.2) (.slice Ao112 t159.length co112)) (fun _ hk => hk.1.2) (.int .i64 t162)) (fun _ hk => hk.2) (.int .i64 t163)) (fun _ hk => hk.2) (.bool t164)) (fun _ hk => ⟨hk.1.1.1, hk.1.1.2⟩), by (with_reducible repeat (first | apply Kd.R_alloc | apply Kd.R_drewN | apply Kd.R_drew)); exact Kd.R_mono (Kd.R_far (p := ⟨gb146, 1, none⟩) (Kd.R_far (p := ⟨gb146, 0, none⟩) (Kd.R_far (p := ⟨gb145, 2, none⟩) (Kd.R_far (p := ⟨gb145, 1, none⟩) (Kd.R_far (p := ⟨gb145, 0, none⟩) (Kd.R_types (Kd.R_types HO161.out BK145.out (by decide)) BK146.out (by decide)) (fun _ hk => hk.1.2) (.slice Ao109 t156.length co109)) (fun _ hk => hk.1.2) (.slice Ao112 t159.length co112)) (fun _ hk => hk.1.2) (.int .i64 t162)) (fun _ hk => hk.2) (.int .i64 t163)) (fun _ hk => hk.2) (.bool t164)) (fun _ hk => ⟨hk.1.1.1, hk.1.1.2⟩), by repeat (first | (with_reducible first | exact HB.out | apply below_alloc | apply pw_below_drewN | apply below_drew1 | refine below_set ?_ GE143.out | refine below_set ?_ GE144.out | refine below_set ?_ GE145.out | refine below_set ?_ GE146.out) | exact HB.out), by repeat (first | (with_reducible first | exact HK.out | apply Kept.alloc | apply Kept.drewN | apply Kept.drew | refine Kept.setCell ?_ (.inr GW143.out) _ | refine Kept.setCell ?_ (.inr GW144.out) _ | refine Kept.setCell ?_ (.inr GW145.out) _ | refine Kept.setCell ?_ (.inr GW146.out) _) | exact HK.out)⟩
              · rw [if_neg c99] at H
                have c99b0 : (a1_0 == 4) = false := beq_eq_false_iff_ne.mpr c99
                have c99b1 : (a1_0 != 4) = true := bne_iff_ne.mpr c99
                by_cases c114 : a1_0 = 5
                · rw [if_pos c114] at H
                  have c114b0 : (a1_0 == 5) = true := beq_iff_eq.mpr c114
                  have c114b1 : (a1_0 != 5) = false := bne_eq_false_iff_eq.mpr c114
                  clear c114
                  replace H := Option.bind_eq_some_iff.mp H
                  obtain ⟨⟨t165, t168, t171, t172, t173⟩, A1150, H⟩ := H
                  replace H : (some (t165, t168, t171, t172, t173)) = some (r1, r2, r3, r4, r5) := H
                  have A115 := Aside0.mk A1150
                  clear A1150
                  simp only [Option.some.injEq, Prod.mk.injEq] at H
                  obtain ⟨rfl, rfl, rfl, rfl, rfl⟩ := H
                  have hnb116 := NB144_143.out
                  have hnc116 := NB143_144.out
                  have hnb117 := NB144_145.out
                  have hnc117 := NB145_144.out
                  have hnb118 := NB144_146.out
                  have hnc118 := NB146_144.out
                  have hcz119_0 : wc.cell? ⟨gb144, 0, none⟩ = some (.int .i64 a1_0) := (blk_cell BK144.out 0).trans rfl
                  have hcz119_1 : wc.cell? ⟨gb144, 1, none⟩ = some (.int .i64 a1_1) := (blk_cell BK144.out 1).trans rfl
                  have hcz119_2 : wc.cell? ⟨gb144, 2, none⟩ = some (.int .i64 a1_2) := (blk_cell BK144.out 2).trans rfl
                  have hcz119_3 : wc.cell? ⟨gb144, 3, none⟩ = some (.int .i64 a1_3) := (blk_cell BK144.out 3).trans rfl
                  have hfz119_0 := blk_frozen BK144.out 0
                  have hfz119_1 := blk_frozen BK144.out 1
                  have hfz119_2 := blk_frozen BK144.out 2
                  have hfz119_3 := blk_frozen BK144.out 3
                  have hnb120 := NB143_145.out
                  have hnc120 := NB145_143.out
                  have hnb121 := NB143_146.out
                  have hnc121 := NB146_143.out
                  have hcz122_0 : wc.cell? ⟨gb143, 0, none⟩ = some (.slice Ao4 l0_0.length co4) := (blk_cell BK143.out 0).trans rfl
                  have hcz122_1 : wc.cell? ⟨gb143, 1, none⟩ = some (.slice Ao5 l0_1.length co5) := (blk_cell BK143.out 1).trans rfl
                  have hcz122_2 : wc.cell? ⟨gb143, 2, none⟩ = some (.int .i64 a0_2) := (blk_cell BK143.out 2).trans rfl
                  have hfz122_0 := blk_frozen BK143.out 0
                  have hfz122_1 := blk_frozen BK143.out 1
                  have hfz122_2 := blk_frozen BK143.out 2
                  go_wp2_with (first | ((with_reducible refine gate_callee (f := 40) rfl ?_); refine goesL_ (some 65) rfl rfl Try.func40 (by kernel_rfl) rfl #[.agg #[.slice Ao4 l0_0.length co4, .slice Ao5 l0_1.length co5, .int .i64 a0_2], .agg #[.int .i64 a1_0, .int .i64 a1_1, .int .i64 a1_2, .int .i64 a1_3]] rfl (by (try simp only [List.map_toArray, List.map_cons, List.map_nil]); first | done | rfl | (simp only [List.length_drop, List.length_take]; rfl)) ?_; (with_reducible refine (gangplankref14_lock.calls kj55 (fun k_ => some k_ = (.slice Ao4 l0_0.length co4 : Value).ownBlock) (.slice Ao4 l0_0.length co4) l0_0 (fun k_ => some k_ = (.slice Ao5 l0_1.length co5 : Value).ownBlock) (.slice Ao5 l0_1.length co5) l0_1 a0_2 a1_0 a1_1 a1_2 a1_3 t165 t168 t171 t172 t173 w0 _ ?side1 ?side2 ?side3 ?side4 ?side5 A115.out).mono ?_); (case side1 => repeat (first | (with_reducible first | exact HB.out | apply below_alloc | apply pw_below_drewN | apply below_drew1 | refine below_set ?_ GE143.out | refine below_set ?_ GE144.out | refine below_set ?_ GE145.out | refine below_set ?_ GE146.out) | exact HB.out)); (case side2 => exact Kd.R_tight rfl HO_144000.out); (case side3 => exact fun k_ e_ => (HO_144000.out.1 k_ e_.symm).2); (case side4 => exact Kd.R_tight rfl HO_144001.out); (case side5 => exact fun k_ e_ => (HO_144001.out.1 k_ e_.symm).2); (try clear A115); rintro e w123 ⟨v166, v169, rfl, ho0, ho1, hb, hkp⟩; refine ⟨_, rfl, ?_⟩; have n0_ := Aside0.mk (blk_kept (by (with_reducible repeat (first | refine blk_drewN ?_ _ | refine blk_drew ?_ | refine blk_alloc ?_ _)); exact BK143.out) hkp (fun hs_ => Or.elim hs_ (fun e_ => (fun e_ => (Kd.R_ne HO_144000.out BK143.out (by decide)) e_) e_) (fun e_ => (fun e_ => (Kd.R_ne HO_144001.out BK143.out (by decide)) e_) e_))); have n1_ := Aside0.mk (blk_kept (by (with_reducible repeat (first | refine blk_drewN ?_ _ | refine blk_drew ?_ | refine blk_alloc ?_ _)); exact BK144.out) hkp (fun hs_ => Or.elim hs_ (fun e_ => (fun e_ => (Kd.R_ne HO_144000.out BK144.out (by decide)) e_) e_) (fun e_ => (fun e_ => (Kd.R_ne HO_144001.out BK144.out (by decide)) e_) e_))); have n2_ := Aside0.mk (blk_kept (by (with_reducible repeat (first | refine blk_drewN ?_ _ | refine blk_drew ?_ | refine blk_alloc ?_ _)); exact BK145.out) hkp (fun hs_ => Or.elim hs_ (fun e_ => (fun e_ => (Kd.R_ne HO_144000.out BK145.out (by decide)) e_) e_) (fun e_ => (fun e_ => (Kd.R_ne HO_144001.out BK145.out (by decide)) e_) e_))); have n3_ := Aside0.mk (blk_kept (by (with_reducible repeat (first | refine blk_drewN ?_ _ | refine blk_drew ?_ | refine blk_alloc ?_ _)); exact BK146.out) hkp (fun hs_ => Or.elim hs_ (fun e_ => (fun e_ => (Kd.R_ne HO_144000.out BK146.out (by decide)) e_) e_) (fun e_ => (fun e_ => (Kd.R_ne HO_144001.out BK146.out (by decide)) e_) e_))); have n4_ := Aside0.mk (Kd.R_mono (ok' := fun k_ => ((P0_0_ k_ ∨ P0_1_ k_) ∨ w.heap.size ≤ k_) ∧ some k_ ≠ (v169 : Value).ownBlock) ho0 (fun k_ hk_ => ⟨Or.elim hk_.1 (fun hs_ => Or.elim hs_ (fun hs_ => (HO_144000.out.1 k_ (hs_).symm).1) (fun hs_ => (HO_144001.out.1 k_ (hs_).symm).1)) (fun hn_ => (.inr (Nat.le_trans (by first | exact HK.out.1 | exact (show Kept w _ (fun k_ => P0_0_ k_ ∨ P0_1_ k_) from by repeat (first | (with_reducible first | exact HK.out | apply Kept.alloc | apply Kept.drewN | apply Kept.drew | refine Kept.setCell ?_ (.inr GW143.out) _ | refine Kept.setCell ?_ (.inr GW144.out) _ | refine Kept.setCell ?_ (.inr GW145.out) _ | refine Kept.setCell ?_ (.inr GW146.out) _) | exact HK.out)).1) hn_))), hk_.2⟩)); have n5_ := Aside0.mk (Kd.R_mono (ok' := fun k_ => ((P0_0_ k_ ∨ P0_1_ k_) ∨ w.heap.size ≤ k_) ∧ some k_ ≠ (v166 : Value).ownBlock) ho1 (fun k_ hk_ => ⟨Or.elim hk_.1 (fun hs_ => Or.elim hs_ (fun hs_ => (HO_144000.out.1 k_ (hs_).symm).1) (fun hs_ => (HO_144001.out.1 k_ (hs_).symm).1)) (fun hn_ => (.inr (Nat.le_trans (by first | exact HK.out.1 | exact (show Kept w _ (fun k_ => P0_0_ k_ ∨ P0_1_ k_) from by repeat (first | (with_reducible first | exact HK.out | apply Kept.alloc | apply Kept.drewN | apply Kept.drew | refine Kept.setCell ?_ (.inr GW143.out) _ | refine Kept.setCell ?_ (.inr GW144.out) _ | refine Kept.setCell ?_ (.inr GW145.out) _ | refine Kept.setCell ?_ (.inr GW146.out) _) | exact HK.out)).1) hn_))), hk_.2⟩)); have n6_ := Aside0.mk (Kept.then_ (S := (fun k_ => P0_0_ k_ ∨ P0_1_ k_)) (by repeat (first | (with_reducible first | exact HK.out | apply Kept.alloc | apply Kept.drewN | apply Kept.drew | refine Kept.setCell ?_ (.inr GW143.out) _ | refine Kept.setCell ?_ (.inr GW144.out) _ | refine Kept.setCell ?_ (.inr GW145.out) _ | refine Kept.setCell ?_ (.inr GW146.out) _) | exact HK.out)) hkp (fun k_ hs_ => Or.elim hs_ (fun e_ => (fun e_ => (HO_144000.out.1 k_ e_.symm).1) e_) (fun e_ => (fun e_ => (HO_144001.out.1 k_ e_.symm).1) e_))); have n7_ := Aside0.mk (hb); clear BK143; clear BK144; clear BK145; clear BK146; clear HK; clear HB; clear HO_144000; clear HO_144001; have BK143 := n0_; have BK144 := n1_; have BK145 := n2_; have BK146 := n3_; have HO167 := n4_; have HO170 := n5_; have HK := n6_; have HB := n7_; clear n0_ n1_ n2_ n3_ n4_ n5_ n6_ n7_; (try clear hb); (try clear hkp); (try clear ho0); (try clear ho1); obtain ⟨Ao124, co124, eo124⟩ := Kd.R_slice HO167.out; subst eo124; have hnb125 := NB145_146.out; have hnc125 := NB146_145.out; have hcz126_0 : w123.cell? ⟨gb145, 0, none⟩ = some (.slice none 0 0) := (blk_cell BK145.out 0).trans rfl; have hcz126_1 : w123.cell? ⟨gb145, 1, none⟩ = some (.slice none 0 0) := (blk_cell BK145.out 1).trans rfl; have hcz126_2 : w123.cell? ⟨gb145, 2, none⟩ = some (.int .i64 0) := (blk_cell BK145.out 2).trans rfl; have hfz126_0 := blk_frozen BK145.out 0; have hfz126_1 := blk_frozen BK145.out 1; have hfz126_2 := blk_frozen BK145.out 2; obtain ⟨Ao127, co127, eo127⟩ := Kd.R_slice HO170.out; subst eo127; have hcz128_0 : w123.cell? ⟨gb146, 0, none⟩ = some (.int .i64 0) := (blk_cell BK146.out 0).trans rfl; have hcz128_1 : w123.cell? ⟨gb146, 1, none⟩ = some (.bool false) := (blk_cell BK146.out 1).trans rfl; have hfz128_0 := blk_frozen BK146.out 0; have hfz128_1 := blk_frozen BK146.out 1))
                  refine bodyPost_ret (results_cc rfl _ _ gb145 gb146 41 44 #[.slice Ao124 t165.length co124, .slice Ao127 t168.length co127, .int .i64 t171] #[.int .i64 t172, .bool t173] (0, 0) (0, 0) _ _ rfl (by (with_reducible repeat (first | refine blk_drewN ?_ _ | refine blk_drew ?_ | refine blk_alloc ?_ _)); refine blk_far ?_ NB145_146.out _; (with_reducible repeat (first | refine blk_drewN ?_ _ | refine blk_drew ?_ | refine blk_alloc ?_ _)); refine blk_far ?_ NB145_146.out _; (with_reducible repeat (first | refine blk_drewN ?_ _ | refine blk_drew ?_ | refine blk_alloc ?_ _)); refine blk_put (cs := #[.slice Ao124 t165.length co124, .slice Ao127 t168.length co127, .int .i64 0]) ?_ 2 _ rfl; (with_reducible repeat (first | refine blk_drewN ?_ _ | refine blk_drew ?_ | refine blk_alloc ?_ _)); refine blk_put (cs := #[.slice Ao124 t165.length co124, .slice none 0 0, .int .i64 0]) ?_ 1 _ rfl; (with_reducible repeat (first | refine blk_drewN ?_ _ | refine blk_drew ?_ | refine blk_alloc ?_ _)); refine blk_put (cs := #[.slice none 0 0, .slice none 0 0, .int .i64 0]) ?_ 0 _ rfl; (with_reducible repeat (first | refine blk_drewN ?_ _ | refine blk_drew ?_ | refine blk_alloc ?_ _)); exact BK145.out) Try.underlying41 rfl (by kernel_rfl) rfl (by (with_reducible repeat (first | refine blk_drewN ?_ _ | refine blk_drew ?_ | refine blk_alloc ?_ _)); refine blk_put (cs := #[.int .i64 t172, .bool false]) ?_ 1 _ rfl; (with_reducible repeat (first | refine blk_drewN ?_ _ | refine blk_drew ?_ | refine blk_alloc ?_ _)); refine blk_put (cs := #[.int .i64 0, .bool false]) ?_ 0 _ rfl; (with_reducible repeat (first | refine blk_drewN ?_ _ | refine blk_drew ?_ | refine blk_alloc ?_ _)); refine blk_far ?_ NB146_145.out _; (with_reducible repeat (first | refine blk_drewN ?_ _ | refine blk_drew ?_ | refine blk_alloc ?_ _)); refine blk_far ?_ NB146_145.out _; (with_reducible repeat (first | refine blk_drewN ?_ _ | refine blk_drew ?_ | refine blk_alloc ?_ _)); refine blk_far ?_ NB146_145.out _; (with_reducible repeat (first | refine blk_drewN ?_ _ | refine blk_drew ?_ | refine blk_alloc ?_ _)); exact BK146.out) Try.underlying44 rfl (by kernel_rfl)) rfl ?_
                  exact ⟨_, _, by first | rfl | (simp [errW_none, errW_some] <;> rfl) | (simp [*, errW_none, errW_some] <;> rfl), by (with_reducible repeat (first | apply Kd.R_alloc | apply Kd.R_drewN | apply Kd.R_drew)); exact Kd.R_mono (Kd.R_far (p := ⟨gb146, 1, none⟩) (Kd.R_far (p := ⟨gb146, 0, none⟩) (Kd.R_far (p := ⟨gb145, 2, none⟩) (Kd.R_far (p := ⟨gb145, 1, none⟩) (Kd.R_far (p := ⟨gb145, 0, none⟩) (Kd.R_types (Kd.R_types HO167.out BK145.out (by decide)) BK146.out (by decide)) (fun _ hk => hk.1.2) (.slice Ao124 t165.length co124)) (fun _ hk => hk.1.2) (.slice Ao127 t168.length co127)) (fun _ hk => hk.1.2) (.int .i64 t171)) (fun _ hk => hk.2) (.int .i64 t172)) (fun _ hk => hk.2) (.bool t173)) (fun _ hk => ⟨hk.1.1.1, hk.1.1.2⟩), by (with_reducible repeat (first | apply Kd.R_alloc | apply Kd.R_drewN | apply Kd.R_drew)); exact Kd.R_mono (Kd.R_far (p := ⟨gb146, 1, none⟩) (Kd.R_far (p := ⟨gb146, 0, none⟩) (Kd.R_far (p := ⟨gb145, 2, none⟩) (Kd.R_far (p := ⟨gb145, 1, none⟩) (Kd.R_far (p := ⟨gb145, 0, none⟩) (Kd.R_types (Kd.R_types HO170.out BK145.out (by decide)) BK146.out (by decide)) (fun _ hk => hk.1.2) (.slice Ao124 t165.length co124)) (fun _ hk => hk.1.2) (.slice Ao127 t168.length co127)) (fun _ hk => hk.1.2) (.int .i64 t171)) (fun _ hk => hk.2) (.int .i64 t172)) (fun _ hk => hk.2) (.bool t173)) (fun _ hk => ⟨hk.1.1.1, hk.1.1.2⟩), by repeat (first | (with_reducible first | exact HB.out | apply below_alloc | apply pw_below_drewN | apply below_drew1 | refine below_set ?_ GE143.out | refine below_set ?_ GE144.out | refine below_set ?_ GE145.out | refine below_set ?_ GE146.out) | exact HB.out), by repeat (first | (with_reducible first | exact HK.out | apply Kept.alloc | apply Kept.drewN | apply Kept.drew | refine Kept.setCell ?_ (.inr GW143.out) _ | refine Kept.setCell ?_ (.inr GW144.out) _ | refine Kept.setCell ?_ (.inr GW145.out) _ | refine Kept.setCell ?_ (.inr GW146.out) _) | exact HK.out)⟩
                · rw [if_neg c114] at H
                  have c114b0 : (a1_0 == 5) = false := beq_eq_false_iff_ne.mpr c114
                  have c114b1 : (a1_0 != 5) = true := bne_iff_ne.mpr c114
                  by_cases c129 : 0 ≤ a1_1
                  · rw [if_pos c129] at H
                    have c129b0 : decide (0 ≤ a1_1) = true := decide_eq_true c129
                    clear c129
                    by_cases c130 : a1_1 < (l0_1.length : Int)
                    · rw [if_pos c130] at H
                      have c130b0 : decide (a1_1 < (l0_1.length : Int)) = true := decide_eq_true c130
                      clear c130
                      simp only [Option.some.injEq, Prod.mk.injEq] at H
                      obtain ⟨rfl, rfl, rfl, rfl, rfl⟩ := H
                      have hnb131 := NB144_143.out
                      have hnc131 := NB143_144.out
                      have hnb132 := NB144_145.out
                      have hnc132 := NB145_144.out
                      have hnb133 := NB144_146.out
                      have hnc133 := NB146_144.out
                      have hcz134_0 : wc.cell? ⟨gb144, 0, none⟩ = some (.int .i64 a1_0) := (blk_cell BK144.out 0).trans rfl
                      have hcz134_1 : wc.cell? ⟨gb144, 1, none⟩ = some (.int .i64 a1_1) := (blk_cell BK144.out 1).trans rfl
                      have hcz134_2 : wc.cell? ⟨gb144, 2, none⟩ = some (.int .i64 a1_2) := (blk_cell BK144.out 2).trans rfl
                      have hcz134_3 : wc.cell? ⟨gb144, 3, none⟩ = some (.int .i64 a1_3) := (blk_cell BK144.out 3).trans rfl
                      have hfz134_0 := blk_frozen BK144.out 0
                      have hfz134_1 := blk_frozen BK144.out 1
                      have hfz134_2 := blk_frozen BK144.out 2
                      have hfz134_3 := blk_frozen BK144.out 3
                      try go_wp2
                      have n0_ := Aside0.mk (Kd.R_drew HO_144000.out)
                      have n1_ := Aside0.mk (Kd.R_drew HO_144001.out)
                      have n2_ := Aside0.mk (blk_drew BK143.out)
                      have n3_ := Aside0.mk (blk_drew BK144.out)
                      have n4_ := Aside0.mk (blk_drew BK145.out)
                      have n5_ := Aside0.mk (blk_drew BK146.out)
                      have n6_ := Aside0.mk (Kept.drew HK.out)
                      have n7_ := Aside0.mk (below_drew1 HB.out)
                      clear HO_144000
                      clear HO_144001
                      clear BK143
                      clear BK144
                      clear BK145
                      clear BK146
                      clear HK
                      clear HB
                      have HO_144000 := n0_
                      have HO_144001 := n1_
                      have BK143 := n2_
                      have BK144 := n3_
                      have BK145 := n4_
                      have BK146 := n5_
                      have HK := n6_
                      have HB := n7_
                      clear n0_ n1_ n2_ n3_ n4_ n5_ n6_ n7_
                      have p174 : 0 ≤ (a1_1 : Int) := of_decide_eq_true (by first | (with_reducible assumption) | assumption)
                      have q174 : a1_1 < (l0_1.length : Int) := of_decide_eq_true (by first | (with_reducible assumption) | assumption)
                      obtain ⟨ad174, e174, hx174_0⟩ := Kd.at_int (Kd.R_reads' HO_144001.out).2.2 a1_1 p174 q174
                      cases e174
                      replace p174 := eq_true p174
                      replace q174 := eq_true q174
                      refine start_ (n := 10) (S := fun w' => w'.cell? ⟨gb143, 0, none⟩ = some (.slice Ao4 l0_0.length co4) ∧ w'.cell? ⟨gb143, 1, none⟩ = some (.slice (some ad174) l0_1.length co5) ∧ w'.cell? ⟨gb143, 2, none⟩ = some (.int .i64 a0_2) ∧ w'.cell? ⟨gb144, 0, none⟩ = some (.int .i64 a1_0) ∧ w'.cell? ⟨gb144, 1, none⟩ = some (.int .i64 a1_1) ∧ w'.cell? ⟨gb144, 2, none⟩ = some (.int .i64 a1_2) ∧ w'.cell? ⟨gb144, 3, none⟩ = some (.int .i64 a1_3) ∧ w'.cell? (ad174.add (a1_1).toNat) = some (.int .i64 (rd l0_1 a1_1))) (ds := []) #[false, false, false, false, false, false, false, false, false, false] (by kernel_rfl) rfl rfl ⟨(blk_cell BK143.out 0).trans rfl, (blk_cell BK143.out 1).trans rfl, (blk_cell BK143.out 2).trans rfl, (blk_cell BK144.out 0).trans rfl, (blk_cell BK144.out 1).trans rfl, (blk_cell BK144.out 2).trans rfl, (blk_cell BK144.out 3).trans rfl, hx174_0⟩ (fun hHeld => ?_); refine with_tabW gangplankref14_Do.tab11 gangplankref14_Do.bits11 (fun HT_ HW_ => ?_)
                      generalize wc.drew = w135 at HO_144000 HO_144001 BK143 BK144 BK145 BK146 HK HB hx174_0 hHeld ⊢
                      refine pure_ (i := 1) (N := some 69) (v := ?_) (a' := ?_) #[false, true, false, false, false, false, false, false, false, false] rfl rfl (any_of HT_.out (by kernel_rfl)) (fun _ _ _ h => h) (Or.inl ⟨by rfl, ?_⟩) ?_ ?_
                      rotate_left
                      · intro w'
                        go_simp
                        with_reducible rfl
                      rotate_left
                      · simp only [Act.put, List.setIfInBounds_toArray, List.set_cons_zero, List.set_cons_succ, i64_w, i32_w]
                        rfl
                      refine pure_ (i := 3) (N := some 71) (v := ?_) (a' := ?_) #[false, true, false, true, false, false, false, false, false, false] rfl rfl (any_of HT_.out (by kernel_rfl)) (fun _ _ _ h => h) (Or.inl ⟨by rfl, ?_⟩) ?_ ?_
                      rotate_left
                      · intro w'
                        go_simp
                        with_reducible rfl
                      rotate_left
                      · simp only [Act.put, List.setIfInBounds_toArray, List.set_cons_zero, List.set_cons_succ, i64_w, i32_w]
                        rfl
                      refine take_ (i := 0) (N := some 68) (v := ?_) (a' := ?_) #[true, true, false, true, false, false, false, false, false, false] rfl rfl (take_ofW HT_.out HW_.out (by kernel_rfl)) (fun _ _ _ h => h) (Or.inl ⟨by rfl, ?_⟩) hHeld ?_ ?_
                      rotate_left
                      · rintro w' ⟨s0, s1, s2, s3, s4, s5, s6, s7⟩
                        go_simp
                        with_reducible rfl
                      rotate_left
                      · simp only [Act.put, List.setIfInBounds_toArray, List.set_cons_zero, List.set_cons_succ, i64_w, i32_w]
                        rfl
                      refine take_ (i := 2) (N := some 70) (v := ?_) (a' := ?_) #[true, true, true, true, false, false, false, false, false, false] rfl rfl (take_ofW HT_.out HW_.out (by kernel_rfl)) (fun _ _ _ h => h) (Or.inl ⟨by rfl, ?_⟩) hHeld ?_ ?_
                      rotate_left
                      · rintro w' ⟨s0, s1, s2, s3, s4, s5, s6, s7⟩
                        go_simp
                        with_reducible rfl
                      rotate_left
                      · simp only [Act.put, List.setIfInBounds_toArray, List.set_cons_zero, List.set_cons_succ, i64_w, i32_w]
                        rfl
                      refine take_ (i := 4) (N := some 72) (v := ?_) (a' := ?_) #[true, true, true, true, true, false, false, false, false, false] rfl rfl (take_ofW HT_.out HW_.out (by kernel_rfl)) (fun _ _ _ h => h) (Or.inl ⟨by rfl, ?_⟩) hHeld ?_ ?_
                      rotate_left
                      · rintro w' ⟨s0, s1, s2, s3, s4, s5, s6, s7⟩
                        go_simp
                        with_reducible rfl
                      rotate_left
                      · simp only [Act.put, List.setIfInBounds_toArray, List.set_cons_zero, List.set_cons_succ, i64_w, i32_w]
                        rfl
                      refine pure_ (i := 5) (N := some 73) (v := ?_) (a' := ?_) #[true, true, true, true, true, true, false, false, false, false] rfl rfl (any_of HT_.out (by kernel_rfl)) (fun _ _ _ h => h) (Or.inl ⟨by rfl, ?_⟩) ?_ ?_
                      rotate_left
                      · intro w'
                        go_simp
                        with_reducible rfl
                      rotate_left
                      · simp only [Act.put, List.setIfInBounds_toArray, List.set_cons_zero, List.set_cons_succ, i64_w, i32_w]
                        rfl
                      refine take_ (i := 6) (N := some 74) (v := ?_) (a' := ?_) #[true, true, true, true, true, true, true, false, false, false] rfl rfl (take_ofW HT_.out HW_.out (by kernel_rfl)) (fun _ _ _ h => h) (Or.inl ⟨by rfl, ?_⟩) hHeld ?_ ?_
                      rotate_left
                      · rintro w' ⟨s0, s1, s2, s3, s4, s5, s6, s7⟩
                        go_simp
                        with_reducible rfl
                      rotate_left
                      · simp only [Act.put, List.setIfInBounds_toArray, List.set_cons_zero, List.set_cons_succ, i64_w, i32_w]
                        rfl
                      refine pure_ (i := 7) (N := some 75) (v := ?_) (a' := ?_) #[true, true, true, true, true, true, true, true, false, false] rfl rfl (any_of HT_.out (by kernel_rfl)) (fun _ _ _ h => h) (Or.inl ⟨by rfl, ?_⟩) ?_ ?_
                      rotate_left
                      · intro w'
                        go_simp
                        with_reducible rfl
                      rotate_left
                      · simp only [Act.put, List.setIfInBounds_toArray, List.set_cons_zero, List.set_cons_succ, i64_w, i32_w]
                        rfl
                      refine one_ (i := 8) (N := none) #[true, true, true, true, true, true, true, true, true, false] rfl rfl (one_of HT_.out (by kernel_rfl)) (by decide) (fun K hK => ?_)
                      have hs136 : w135.cell? ⟨gb145, 0, none⟩ = some (.slice none 0 0) := (blk_cell BK145.out 0).trans rfl
                      have hfs136 := blk_frozen BK145.out 0
                      have hns136_0 := NB143_145.out
                      have hns136_1 := NB144_145.out
                      have hns136_3 := NB146_145.out
                      have hms136_0 := NB145_143.out
                      have hms136_1 := NB145_144.out
                      have hms136_3 := NB145_146.out
                      have hs137 : w135.cell? ⟨gb145, 1, none⟩ = some (.slice none 0 0) := (blk_cell BK145.out 1).trans rfl
                      have hfs137 := blk_frozen BK145.out 1
                      have hns137_0 := NB143_145.out
                      have hns137_1 := NB144_145.out
                      have hns137_3 := NB146_145.out
                      have hms137_0 := NB145_143.out
                      have hms137_1 := NB145_144.out
                      have hms137_3 := NB145_146.out
                      have hs138 : w135.cell? ⟨gb145, 2, none⟩ = some (.int .i64 0) := (blk_cell BK145.out 2).trans rfl
                      have hfs138 := blk_frozen BK145.out 2
                      have hns138_0 := NB143_145.out
                      have hns138_1 := NB144_145.out
                      have hns138_3 := NB146_145.out
                      have hms138_0 := NB145_143.out
                      have hms138_1 := NB145_144.out
                      have hms138_3 := NB145_146.out
                      refine skip_ (w1 := ?_) (by rfl) rfl ?_ ?_
                      rotate_left
                      · go_simp
                        rfl
                      refine hK.out _ _ ⟨((cell_far (p := ⟨gb145, _, none⟩) NB143_145.out _).trans (((cell_far (p := ⟨gb145, _, none⟩) NB143_145.out _).trans (((cell_far (p := ⟨gb145, _, none⟩) NB143_145.out _).trans (hHeld.1)))))), ((cell_far (p := ⟨gb145, _, none⟩) NB143_145.out _).trans (((cell_far (p := ⟨gb145, _, none⟩) NB143_145.out _).trans (((cell_far (p := ⟨gb145, _, none⟩) NB143_145.out _).trans (hHeld.2.1)))))), ((cell_far (p := ⟨gb145, _, none⟩) NB143_145.out _).trans (((cell_far (p := ⟨gb145, _, none⟩) NB143_145.out _).trans (((cell_far (p := ⟨gb145, _, none⟩) NB143_145.out _).trans (hHeld.2.2.1)))))), ((cell_far (p := ⟨gb145, _, none⟩) NB144_145.out _).trans (((cell_far (p := ⟨gb145, _, none⟩) NB144_145.out _).trans (((cell_far (p := ⟨gb145, _, none⟩) NB144_145.out _).trans (hHeld.2.2.2.1)))))), ((cell_far (p := ⟨gb145, _, none⟩) NB144_145.out _).trans (((cell_far (p := ⟨gb145, _, none⟩) NB144_145.out _).trans (((cell_far (p := ⟨gb145, _, none⟩) NB144_145.out _).trans (hHeld.2.2.2.2.1)))))), ((cell_far (p := ⟨gb145, _, none⟩) NB144_145.out _).trans (((cell_far (p := ⟨gb145, _, none⟩) NB144_145.out _).trans (((cell_far (p := ⟨gb145, _, none⟩) NB144_145.out _).trans (hHeld.2.2.2.2.2.1)))))), ((cell_far (p := ⟨gb145, _, none⟩) NB144_145.out _).trans (((cell_far (p := ⟨gb145, _, none⟩) NB144_145.out _).trans (((cell_far (p := ⟨gb145, _, none⟩) NB144_145.out _).trans (hHeld.2.2.2.2.2.2.1)))))), ((cell_far (p := ⟨gb145, _, none⟩) (by first | exact Kd.own_blk (Kd.R_ne HO_144001.out BK145.out (by decide)) | (rw [add_block]; exact Kd.own_blk (Kd.R_ne HO_144001.out BK145.out (by decide))) | (show (Addr.add _ _).block ≠ _; rw [add_block]; exact Kd.own_blk (Kd.R_ne HO_144001.out BK145.out (by decide))) | (dsimp only; exact Kd.own_blk (Kd.R_ne HO_144001.out BK145.out (by decide)))) _).trans (((cell_far (p := ⟨gb145, _, none⟩) (by first | exact Kd.own_blk (Kd.R_ne HO_144001.out BK145.out (by decide)) | (rw [add_block]; exact Kd.own_blk (Kd.R_ne HO_144001.out BK145.out (by decide))) | (show (Addr.add _ _).block ≠ _; rw [add_block]; exact Kd.own_blk (Kd.R_ne HO_144001.out BK145.out (by decide))) | (dsimp only; exact Kd.own_blk (Kd.R_ne HO_144001.out BK145.out (by decide)))) _).trans (((cell_far (p := ⟨gb145, _, none⟩) (by first | exact Kd.own_blk (Kd.R_ne HO_144001.out BK145.out (by decide)) | (rw [add_block]; exact Kd.own_blk (Kd.R_ne HO_144001.out BK145.out (by decide))) | (show (Addr.add _ _).block ≠ _; rw [add_block]; exact Kd.own_blk (Kd.R_ne HO_144001.out BK145.out (by decide))) | (dsimp only; exact Kd.own_blk (Kd.R_ne HO_144001.out BK145.out (by decide)))) _).trans (hHeld.2.2.2.2.2.2.2))))))⟩ (fun hHeld => ?_)
                      clear hK K
                      refine one_ (i := 9) (N := none) #[true, true, true, true, true, true, true, true, true, true] rfl rfl (one_of HT_.out (by kernel_rfl)) (by decide) (fun K hK => ?_)
                      have hs139 : w135.cell? ⟨gb146, 0, none⟩ = some (.int .i64 0) := (blk_cell BK146.out 0).trans rfl
                      have hfs139 := blk_frozen BK146.out 0
                      have hns139_0 := NB143_146.out
                      have hns139_1 := NB144_146.out
                      have hns139_2 := NB145_146.out
                      have hms139_0 := NB146_143.out
                      have hms139_1 := NB146_144.out
                      have hms139_2 := NB146_145.out
                      have hs140 : w135.cell? ⟨gb146, 1, none⟩ = some (.bool false) := (blk_cell BK146.out 1).trans rfl
                      have hfs140 := blk_frozen BK146.out 1
                      have hns140_0 := NB143_146.out
                      have hns140_1 := NB144_146.out
                      have hns140_2 := NB145_146.out
                      have hms140_0 := NB146_143.out
                      have hms140_1 := NB146_144.out
                      have hms140_2 := NB146_145.out
                      refine skip_ (w1 := ?_) (by rfl) rfl ?_ ?_
                      rotate_left
                      · go_simp
                        rfl
                      refine hK.out _ _ ⟨((cell_far (p := ⟨gb146, _, none⟩) NB143_146.out _).trans (((cell_far (p := ⟨gb146, _, none⟩) NB143_146.out _).trans (hHeld.1)))), ((cell_far (p := ⟨gb146, _, none⟩) NB143_146.out _).trans (((cell_far (p := ⟨gb146, _, none⟩) NB143_146.out _).trans (hHeld.2.1)))), ((cell_far (p := ⟨gb146, _, none⟩) NB143_146.out _).trans (((cell_far (p := ⟨gb146, _, none⟩) NB143_146.out _).trans (hHeld.2.2.1)))), ((cell_far (p := ⟨gb146, _, none⟩) NB144_146.out _).trans (((cell_far (p := ⟨gb146, _, none⟩) NB144_146.out _).trans (hHeld.2.2.2.1)))), ((cell_far (p := ⟨gb146, _, none⟩) NB144_146.out _).trans (((cell_far (p := ⟨gb146, _, none⟩) NB144_146.out _).trans (hHeld.2.2.2.2.1)))), ((cell_far (p := ⟨gb146, _, none⟩) NB144_146.out _).trans (((cell_far (p := ⟨gb146, _, none⟩) NB144_146.out _).trans (hHeld.2.2.2.2.2.1)))), ((cell_far (p := ⟨gb146, _, none⟩) NB144_146.out _).trans (((cell_far (p := ⟨gb146, _, none⟩) NB144_146.out _).trans (hHeld.2.2.2.2.2.2.1)))), ((cell_far (p := ⟨gb146, _, none⟩) (by first | exact Kd.own_blk (Kd.R_ne HO_144001.out BK146.out (by decide)) | (rw [add_block]; exact Kd.own_blk (Kd.R_ne HO_144001.out BK146.out (by decide))) | (show (Addr.add _ _).block ≠ _; rw [add_block]; exact Kd.own_blk (Kd.R_ne HO_144001.out BK146.out (by decide))) | (dsimp only; exact Kd.own_blk (Kd.R_ne HO_144001.out BK146.out (by decide)))) _).trans (((cell_far (p := ⟨gb146, _, none⟩) (by first | exact Kd.own_blk (Kd.R_ne HO_144001.out BK146.out (by decide)) | (rw [add_block]; exact Kd.own_blk (Kd.R_ne HO_144001.out BK146.out (by decide))) | (show (Addr.add _ _).block ≠ _; rw [add_block]; exact Kd.own_blk (Kd.R_ne HO_144001.out BK146.out (by decide))) | (dsimp only; exact Kd.own_blk (Kd.R_ne HO_144001.out BK146.out (by decide)))) _).trans (hHeld.2.2.2.2.2.2.2))))⟩ (fun hHeld => ?_)
                      clear hK K
                      refine done_ (done_of HT_.out (by kernel_rfl)) ?_
                      try go_wp2
                      refine bodyPost_ret (results_cc rfl _ _ gb145 gb146 41 44 #[.slice Ao4 l0_0.length co4, .slice (some ad174) l0_1.length co5, .int .i64 a0_2] #[.int .i64 (rd l0_1 a1_1), .bool false] (0, 0) (0, 0) _ _ rfl (by (with_reducible repeat (first | refine blk_drewN ?_ _ | refine blk_drew ?_ | refine blk_alloc ?_ _)); refine blk_far ?_ NB145_146.out _; (with_reducible repeat (first | refine blk_drewN ?_ _ | refine blk_drew ?_ | refine blk_alloc ?_ _)); refine blk_far ?_ NB145_146.out _; (with_reducible repeat (first | refine blk_drewN ?_ _ | refine blk_drew ?_ | refine blk_alloc ?_ _)); refine blk_put (cs := #[.slice Ao4 l0_0.length co4, .slice (some ad174) l0_1.length co5, .int .i64 0]) ?_ 2 _ rfl; (with_reducible repeat (first | refine blk_drewN ?_ _ | refine blk_drew ?_ | refine blk_alloc ?_ _)); refine blk_put (cs := #[.slice Ao4 l0_0.length co4, .slice none 0 0, .int .i64 0]) ?_ 1 _ rfl; (with_reducible repeat (first | refine blk_drewN ?_ _ | refine blk_drew ?_ | refine blk_alloc ?_ _)); refine blk_put (cs := #[.slice none 0 0, .slice none 0 0, .int .i64 0]) ?_ 0 _ rfl; (with_reducible repeat (first | refine blk_drewN ?_ _ | refine blk_drew ?_ | refine blk_alloc ?_ _)); exact BK145.out) Try.underlying41 rfl (by kernel_rfl) rfl (by (with_reducible repeat (first | refine blk_drewN ?_ _ | refine blk_drew ?_ | refine blk_alloc ?_ _)); refine blk_put (cs := #[.int .i64 (rd l0_1 a1_1), .bool false]) ?_ 1 _ rfl; (with_reducible repeat (first | refine blk_drewN ?_ _ | refine blk_drew ?_ | refine blk_alloc ?_ _)); refine blk_put (cs := #[.int .i64 0, .bool false]) ?_ 0 _ rfl; (with_reducible repeat (first | refine blk_drewN ?_ _ | refine blk_drew ?_ | refine blk_alloc ?_ _)); refine blk_far ?_ NB146_145.out _; (with_reducible repeat (first | refine blk_drewN ?_ _ | refine blk_drew ?_ | refine blk_alloc ?_ _)); refine blk_far ?_ NB146_145.out _; (with_reducible repeat (first | refine blk_drewN ?_ _ | refine blk_drew ?_ | refine blk_alloc ?_ _)); refine blk_far ?_ NB146_145.out _; (with_reducible repeat (first | refine blk_drewN ?_ _ | refine blk_drew ?_ | refine blk_alloc ?_ _)); exact BK146.out) Try.underlying44 rfl (by kernel_rfl)) rfl ?_
                      exact ⟨_, _, by first | rfl | (simp [errW_none, errW_some] <;> rfl) | (simp [*, errW_none, errW_some] <;> rfl), by (with_reducible repeat (first | apply Kd.R_alloc | apply Kd.R_drewN | apply Kd.R_drew)); exact Kd.R_mono (Kd.R_far (p := ⟨gb146, 1, none⟩) (Kd.R_far (p := ⟨gb146, 0, none⟩) (Kd.R_far (p := ⟨gb145, 2, none⟩) (Kd.R_far (p := ⟨gb145, 1, none⟩) (Kd.R_far (p := ⟨gb145, 0, none⟩) (Kd.R_types (Kd.R_types HO_144000.out BK145.out (by decide)) BK146.out (by decide)) (fun _ hk => hk.1.2) (.slice Ao4 l0_0.length co4)) (fun _ hk => hk.1.2) (.slice (some ad174) l0_1.length co5)) (fun _ hk => hk.1.2) (.int .i64 a0_2)) (fun _ hk => hk.2) (.int .i64 (rd l0_1 a1_1))) (fun _ hk => hk.2) (.bool false)) (fun _ hk => ⟨hk.1.1.1, hk.1.1.2⟩), by (with_reducible repeat (first | apply Kd.R_alloc | apply Kd.R_drewN | apply Kd.R_drew)); exact Kd.R_mono (Kd.R_far (p := ⟨gb146, 1, none⟩) (Kd.R_far (p := ⟨gb146, 0, none⟩) (Kd.R_far (p := ⟨gb145, 2, none⟩) (Kd.R_far (p := ⟨gb145, 1, none⟩) (Kd.R_far (p := ⟨gb145, 0, none⟩) (Kd.R_types (Kd.R_types HO_144001.out BK145.out (by decide)) BK146.out (by decide)) (fun _ hk => hk.1.2) (.slice Ao4 l0_0.length co4)) (fun _ hk => hk.1.2) (.slice (some ad174) l0_1.length co5)) (fun _ hk => hk.1.2) (.int .i64 a0_2)) (fun _ hk => hk.2) (.int .i64 (rd l0_1 a1_1))) (fun _ hk => hk.2) (.bool false)) (fun _ hk => ⟨hk.1.1.1, hk.1.1.2⟩), by repeat (first | (with_reducible first | exact HB.out | apply below_alloc | apply pw_below_drewN | apply below_drew1 | refine below_set ?_ GE143.out | refine below_set ?_ GE144.out | refine below_set ?_ GE145.out | refine below_set ?_ GE146.out) | exact HB.out), by repeat (first | (with_reducible first | exact HK.out | apply Kept.alloc | apply Kept.drewN | apply Kept.drew | refine Kept.setCell ?_ (.inr GW143.out) _ | refine Kept.setCell ?_ (.inr GW144.out) _ | refine Kept.setCell ?_ (.inr GW145.out) _ | refine Kept.setCell ?_ (.inr GW146.out) _) | exact HK.out)⟩
                    · rw [if_neg c130] at H
                      exact absurd H (by simp)
                  · rw [if_neg c129] at H
                    exact absurd H (by simp)

end Go.Proofs.Ythecbaeemmejpaa.P
