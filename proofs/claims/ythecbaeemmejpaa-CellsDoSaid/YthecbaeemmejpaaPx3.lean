/- Each Go function that the laws reach, as a plain function, with the proof that the machine's call comes to what it says; of a law: its row. Made by a program of this seat (wip/hp.py, over the print). -/
import Derived.Test.YthecbaeemmejpaaPx0
import Derived.Test.YthecbaeemmejpaaPx2
namespace Go.Proofs.Ythecbaeemmejpaa.P
open Go.RowKit Go.Proofs.YthecbaeemmejpaaW.PrintWords Go.Proofs.YthecbaeemmejpaaW.PrintLast Go.Proofs.YthecbaeemmejpaaW.PrintMore
attribute [local go_sem] max2_int min2_int max_two min_two max_three min_three max_four min_four   -- for this text's walks alone
set_option linter.unusedVariables false
set_option linter.unusedSimpArgs false

/-! ### gangplankref14_lock: function 40 -/
def gangplankref14_lock.j0 : Nat → Int → Bool → List Int → List Int → Int → Int → Int → Int → Int → Option (List Int × List Int × Int × Int × Bool)
  | 0, _, _, _, _, _, _, _, _, _ => none
  | k + 1, x6, x28, x133000, x133001, x133002, x134000, x134001, x134002, x134003 => if x28 = true then ((gangplankref14_with.f x133001 x134001 x134002).bind fun t137 => (some (x133000, t137, x133002, 0, true))) else (if x134000 = 5 then (if x6 ≥ 0 then (if x6 = x134002 then ((gangplankref14_with.f x133001 x134001 (-1)).bind fun t140 => (some (x133000, t140, x133002, 0, true))) else (some (x133000, x133001, x133002, 0, false))) else (some (x133000, x133001, x133002, 0, false))) else (some (x133000, x133001, x133002, 0, false)))
def gangplankref14_lock.f (k : Nat) (l0_0 : List Int) (l0_1 : List Int) (a0_2 : Int) (a1_0 : Int) (a1_1 : Int) (a1_2 : Int) (a1_3 : Int) : Option (List Int × List Int × Int × Int × Bool) := if 0 ≤ a1_1 then (if a1_1 < (l0_1.length : Int) then (if a1_0 = 4 then (if (rd l0_1 a1_1) < 0 then (gangplankref14_lock.j0 k (rd l0_1 a1_1) (decide (a1_2 ≥ 0)) l0_0 l0_1 (wrap64 (a0_2 + 1)) a1_0 a1_1 a1_2 a1_3) else (gangplankref14_lock.j0 k (rd l0_1 a1_1) false l0_0 l0_1 (wrap64 (a0_2 + 1)) a1_0 a1_1 a1_2 a1_3)) else (gangplankref14_lock.j0 k (rd l0_1 a1_1) false l0_0 l0_1 (wrap64 (a0_2 + 1)) a1_0 a1_1 a1_2 a1_3)) else (none)) else (none)
theorem gangplankref14_lock.mono_l : ∀ k, (∀ y0 y1 y2 y3 y4 y5 y6 y7 y8, LeO (gangplankref14_lock.j0 k y0 y1 y2 y3 y4 y5 y6 y7 y8) (gangplankref14_lock.j0 (k + 1) y0 y1 y2 y3 y4 y5 y6 y7 y8))
  | 0 => fun _ _ _ _ _ _ _ _ _ r h => by simp [gangplankref14_lock.j0] at h
  | k + 1 => by
    have ih0 := gangplankref14_lock.mono_l k
    · intro y0 y1 y2 y3 y4 y5 y6 y7 y8
      unfold gangplankref14_lock.j0
      repeat' first
      | (with_reducible exact ih0 _ _ _ _ _ _ _ _ _)
      | (with_reducible exact LeO.refl _)
      | (with_reducible exact LeO.none _)
      | (with_reducible refine LeO.ite ?_ ?_)
      | (with_reducible refine LeO.bind ?_ (fun _ => ?_))
      | exact ih0 _ _ _ _ _ _ _ _ _
      | exact LeO.none _
      | refine LeO.ite ?_ ?_
      | refine LeO.bind ?_ (fun _ => ?_)
theorem gangplankref14_lock.mono : ∀ a0 a1 a2 a3 a4 a5 a6 k, LeO (gangplankref14_lock.f k a0 a1 a2 a3 a4 a5 a6) (gangplankref14_lock.f (k + 1) a0 a1 a2 a3 a4 a5 a6) := by
  intro a0 a1 a2 a3 a4 a5 a6 k
  have ih0 := gangplankref14_lock.mono_l k
  unfold gangplankref14_lock.f
  repeat' first
      | (with_reducible exact ih0 _ _ _ _ _ _ _ _ _)
      | (with_reducible exact LeO.refl _)
      | (with_reducible exact LeO.none _)
      | (with_reducible refine LeO.ite ?_ ?_)
      | (with_reducible refine LeO.bind ?_ (fun _ => ?_))
      | exact ih0 _ _ _ _ _ _ _ _ _
      | exact LeO.none _
      | refine LeO.ite ?_ ?_
      | refine LeO.bind ?_ (fun _ => ?_)
set_option maxHeartbeats 8000000 in
set_option maxRecDepth 100000 in
theorem gangplankref14_lock.calls (k : Nat) (P0_0_ : Nat → Prop) (u9000_ : Value) (l0_0 : List Int) (P0_1_ : Nat → Prop) (u9001_ : Value) (l0_1 : List Int) (a0_2 : Int) (a1_0 : Int) (a1_1 : Int) (a1_2 : Int) (a1_3 : Int) (r1 : List Int) (r2 : List Int) (r3 : Int) (r4 : Int) (r5 : Bool) (w0 w : World) (hB : Below w0.heap.size w0 w) (ho0_0 : Kd.R (Kd.int .i64) 3 w w0.heap.size P0_0_ u9000_ l0_0) (hp0_0_0_1 : ∀ k_, P0_0_ k_ → ¬ P0_1_ k_) (ho0_1 : Kd.R (Kd.int .i64) 3 w w0.heap.size P0_1_ u9001_ l0_1) (hp0_1_0_0 : ∀ k_, P0_1_ k_ → ¬ P0_0_ k_) (h : gangplankref14_lock.f k l0_0 l0_1 a0_2 a1_0 a1_1 a1_2 a1_3 = some (r1, r2, r3, r4, r5)) :
    Calls Try.prog 40 #[.agg #[u9000_, u9001_, .int .i64 a0_2], .agg #[.int .i64 a1_0, .int .i64 a1_1, .int .i64 a1_2, .int .i64 a1_3]] w fun e w' => ∃ v0_ v1_ : Value, e = .returned (.tuple #[.agg #[v0_, v1_, .int .i64 r3], .agg #[.int .i64 r4, .bool r5]]) ∧ Kd.R (Kd.int .i64) 3 w' w0.heap.size (fun k_ => ((P0_0_ k_ ∨ P0_1_ k_) ∨ w.heap.size ≤ k_) ∧ some k_ ≠ (v1_ : Value).ownBlock) v0_ r1 ∧ Kd.R (Kd.int .i64) 3 w' w0.heap.size (fun k_ => ((P0_0_ k_ ∨ P0_1_ k_) ∨ w.heap.size ≤ k_) ∧ some k_ ≠ (v0_ : Value).ownBlock) v1_ r2 ∧ Below w0.heap.size w0 w' ∧ Kept w w' (fun k_ => P0_0_ k_ ∨ P0_1_ k_) := by
  have hu41 := Try.underlying41
  have hu47 := Try.underlying47
  have hu44 := Try.underlying44
  have HO0_0 := Aside0.mk (show Kd.R (Kd.int .i64) 3 w w0.heap.size (fun k_ => ((P0_0_ k_ ∨ P0_1_ k_) ∨ w.heap.size ≤ k_) ∧ some k_ ≠ (u9001_ : Value).ownBlock) u9000_ l0_0 from Kd.R_mono ho0_0 (fun k_ hk => ⟨(.inl (.inl hk)), fun e_ => hp0_0_0_1 k_ hk (ho0_1.1 k_ e_.symm)⟩))
  have HO0_1 := Aside0.mk (show Kd.R (Kd.int .i64) 3 w w0.heap.size (fun k_ => ((P0_0_ k_ ∨ P0_1_ k_) ∨ w.heap.size ≤ k_) ∧ some k_ ≠ (u9000_ : Value).ownBlock) u9001_ l0_1 from Kd.R_mono ho0_1 (fun k_ hk => ⟨(.inl (.inr hk)), fun e_ => hp0_1_0_0 k_ hk (ho0_0.1 k_ e_.symm)⟩))
  have HK := Aside0.mk (Kept.refl w (fun k_ => P0_0_ k_ ∨ P0_1_ k_))
  have HW0 := Aside0.mk hB.size
  have HB := Aside0.mk hB
  clear hB
  have H : (if 0 ≤ a1_1 then (if a1_1 < (l0_1.length : Int) then (if a1_0 = 4 then (if (rd l0_1 a1_1) < 0 then (gangplankref14_lock.j0 k (rd l0_1 a1_1) (decide (a1_2 ≥ 0)) l0_0 l0_1 (wrap64 (a0_2 + 1)) a1_0 a1_1 a1_2 a1_3) else (gangplankref14_lock.j0 k (rd l0_1 a1_1) false l0_0 l0_1 (wrap64 (a0_2 + 1)) a1_0 a1_1 a1_2 a1_3)) else (gangplankref14_lock.j0 k (rd l0_1 a1_1) false l0_0 l0_1 (wrap64 (a0_2 + 1)) a1_0 a1_1 a1_2 a1_3)) else (none)) else (none)) = some (r1, r2, r3, r4, r5) := h
  clear h
  by_cases c3 : 0 ≤ a1_1
  · rw [if_pos c3] at H
    have c3b0 : decide (0 ≤ a1_1) = true := decide_eq_true c3
    clear c3
    by_cases c4 : a1_1 < (l0_1.length : Int)
    · rw [if_pos c4] at H
      have c4b0 : decide (a1_1 < (l0_1.length : Int)) = true := decide_eq_true c4
      clear c4
      have HC5 := Aside0.mk H
      clear H
      obtain ⟨Ao6, co6, eo6⟩ := Kd.R_slice HO0_0.out
      subst eo6
      obtain ⟨Ao7, co7, eo7⟩ := Kd.R_slice HO0_1.out
      subst eo7
      go_enter Try.func40, Try.ntmps40
      go_upto_region 3 with (first | ((with_reducible refine gate_dst (N := 2) rfl ?_); refine box_event ?hg (N := 2) ?hd (cs := #[.slice Ao6 l0_0.length co6, .slice Ao7 l0_1.length co7, .int .i64 a0_2]) (t := 41) ?hr ?_; (case hd => rfl); (case hg => rfl); (case hr => first | (go_simp; done) | (go_simp; rfl)); intro gb132 hg w8 hbox hb; have n0_ := Aside0.mk (Kd.R_below (by (with_reducible repeat (first | apply Kd.R_alloc | apply Kd.R_drewN | apply Kd.R_drew)); exact HO0_0.out) hb); have n1_ := Aside0.mk (Kd.R_below (by (with_reducible repeat (first | apply Kd.R_alloc | apply Kd.R_drewN | apply Kd.R_drew)); exact HO0_1.out) hb); have n2_ := Aside0.mk (Kept.below (S := (fun k_ => P0_0_ k_ ∨ P0_1_ k_)) (by repeat (first | (with_reducible first | exact HK.out | apply Kept.alloc | apply Kept.drewN | apply Kept.drew) | exact HK.out)) hb); have n3_ := Aside0.mk (below_step (by repeat (first | (with_reducible first | exact HB.out | apply below_alloc | apply pw_below_drewN | apply below_drew1) | exact HB.out)) hb); have n4_ := Aside0.mk (hbox); have n5_ := Aside0.mk ((by rw [hg]; exact (by first | exact HK.out.1 | exact (show Kept w _ (fun k_ => P0_0_ k_ ∨ P0_1_ k_) from by repeat (first | (with_reducible first | exact HK.out | apply Kept.alloc | apply Kept.drewN | apply Kept.drew) | exact HK.out)).1) : w.heap.size ≤ gb132)); have n6_ := Aside0.mk ((by rw [hg]; exact (below_size (by repeat (first | (with_reducible first | exact HB.out | apply below_alloc | apply pw_below_drewN | apply below_drew1) | exact HB.out))) : w0.heap.size ≤ gb132)); clear HO0_0; clear HO0_1; clear HK; clear HB; have HO0_0 := n0_; have HO0_1 := n1_; have HK := n2_; have HB := n3_; have BK132 := n4_; have GW132 := n5_; have GE132 := n6_; clear n0_ n1_ n2_ n3_ n4_ n5_ n6_; clear hb hbox hg) | ((with_reducible refine gate_dst (N := 3) rfl ?_); refine box_event ?hg (N := 3) ?hd (cs := #[.int .i64 a1_0, .int .i64 a1_1, .int .i64 a1_2, .int .i64 a1_3]) (t := 47) ?hr ?_; (case hd => rfl); (case hg => rfl); (case hr => first | (go_simp; done) | (go_simp; rfl)); intro gb133 hg w9 hbox hb; have n0_ := Aside0.mk (Kd.R_below (by (with_reducible repeat (first | apply Kd.R_alloc | apply Kd.R_drewN | apply Kd.R_drew)); exact HO0_0.out) hb); have n1_ := Aside0.mk (Kd.R_below (by (with_reducible repeat (first | apply Kd.R_alloc | apply Kd.R_drewN | apply Kd.R_drew)); exact HO0_1.out) hb); have n2_ := Aside0.mk (blk_below (g := gb132) (o := .cells #[.slice Ao6 l0_0.length co6, .slice Ao7 l0_1.length co7, .int .i64 a0_2] 41 (0, 0)) (by (with_reducible repeat (first | refine blk_drewN ?_ _ | refine blk_drew ?_ | refine blk_alloc ?_ _)); exact BK132.out) hb); have n3_ := Aside0.mk (Kept.below (S := (fun k_ => P0_0_ k_ ∨ P0_1_ k_)) (by repeat (first | (with_reducible first | exact HK.out | apply Kept.alloc | apply Kept.drewN | apply Kept.drew | refine Kept.setCell ?_ (.inr GW132.out) _) | exact HK.out)) hb); have n4_ := Aside0.mk (below_step (by repeat (first | (with_reducible first | exact HB.out | apply below_alloc | apply pw_below_drewN | apply below_drew1 | refine below_set ?_ GE132.out) | exact HB.out)) hb); have n5_ := Aside0.mk (hbox); have n6_ := Aside0.mk ((by rw [hg]; exact (by first | exact HK.out.1 | exact (show Kept w _ (fun k_ => P0_0_ k_ ∨ P0_1_ k_) from by repeat (first | (with_reducible first | exact HK.out | apply Kept.alloc | apply Kept.drewN | apply Kept.drew | refine Kept.setCell ?_ (.inr GW132.out) _) | exact HK.out)).1) : w.heap.size ≤ gb133)); have n7_ := Aside0.mk ((by rw [hg]; exact (below_size (by repeat (first | (with_reducible first | exact HB.out | apply below_alloc | apply pw_below_drewN | apply below_drew1 | refine below_set ?_ GE132.out) | exact HB.out))) : w0.heap.size ≤ gb133)); have n8_ := Aside0.mk ((by rw [hg]; exact Nat.ne_of_lt (blk_lt (g := gb132) (o := .cells #[.slice Ao6 l0_0.length co6, .slice Ao7 l0_1.length co7, .int .i64 a0_2] 41 (0, 0)) (by (with_reducible repeat (first | refine blk_drewN ?_ _ | refine blk_drew ?_ | refine blk_alloc ?_ _)); exact BK132.out)) : gb132 ≠ gb133)); have n9_ := Aside0.mk ((by rw [hg]; exact Nat.ne_of_gt (blk_lt (g := gb132) (o := .cells #[.slice Ao6 l0_0.length co6, .slice Ao7 l0_1.length co7, .int .i64 a0_2] 41 (0, 0)) (by (with_reducible repeat (first | refine blk_drewN ?_ _ | refine blk_drew ?_ | refine blk_alloc ?_ _)); exact BK132.out)) : gb133 ≠ gb132)); clear HO0_0; clear HO0_1; clear BK132; clear HK; clear HB; have HO0_0 := n0_; have HO0_1 := n1_; have BK132 := n2_; have HK := n3_; have HB := n4_; have BK133 := n5_; have GW133 := n6_; have GE133 := n7_; have NB132_133 := n8_; have NB133_132 := n9_; clear n0_ n1_ n2_ n3_ n4_ n5_ n6_ n7_ n8_ n9_; clear hb hbox hg) | ((with_reducible refine gate_dst (N := 4) rfl ?_); refine box_event ?hg (N := 4) ?hd (cs := #[.slice none 0 0, .slice none 0 0, .int .i64 0]) (t := 41) ?hr ?_; (case hd => rfl); (case hg => rfl); (case hr => first | (go_simp; done) | (go_simp; rfl)); intro gb134 hg w10 hbox hb; have n0_ := Aside0.mk (Kd.R_below (by (with_reducible repeat (first | apply Kd.R_alloc | apply Kd.R_drewN | apply Kd.R_drew)); exact HO0_0.out) hb); have n1_ := Aside0.mk (Kd.R_below (by (with_reducible repeat (first | apply Kd.R_alloc | apply Kd.R_drewN | apply Kd.R_drew)); exact HO0_1.out) hb); have n2_ := Aside0.mk (blk_below (g := gb132) (o := .cells #[.slice Ao6 l0_0.length co6, .slice Ao7 l0_1.length co7, .int .i64 a0_2] 41 (0, 0)) (by (with_reducible repeat (first | refine blk_drewN ?_ _ | refine blk_drew ?_ | refine blk_alloc ?_ _)); exact BK132.out) hb); have n3_ := Aside0.mk (blk_below (g := gb133) (o := .cells #[.int .i64 a1_0, .int .i64 a1_1, .int .i64 a1_2, .int .i64 a1_3] 47 (0, 0)) (by (with_reducible repeat (first | refine blk_drewN ?_ _ | refine blk_drew ?_ | refine blk_alloc ?_ _)); exact BK133.out) hb); have n4_ := Aside0.mk (Kept.below (S := (fun k_ => P0_0_ k_ ∨ P0_1_ k_)) (by repeat (first | (with_reducible first | exact HK.out | apply Kept.alloc | apply Kept.drewN | apply Kept.drew | refine Kept.setCell ?_ (.inr GW132.out) _ | refine Kept.setCell ?_ (.inr GW133.out) _) | exact HK.out)) hb); have n5_ := Aside0.mk (below_step (by repeat (first | (with_reducible first | exact HB.out | apply below_alloc | apply pw_below_drewN | apply below_drew1 | refine below_set ?_ GE132.out | refine below_set ?_ GE133.out) | exact HB.out)) hb); have n6_ := Aside0.mk (hbox); have n7_ := Aside0.mk ((by rw [hg]; exact (by first | exact HK.out.1 | exact (show Kept w _ (fun k_ => P0_0_ k_ ∨ P0_1_ k_) from by repeat (first | (with_reducible first | exact HK.out | apply Kept.alloc | apply Kept.drewN | apply Kept.drew | refine Kept.setCell ?_ (.inr GW132.out) _ | refine Kept.setCell ?_ (.inr GW133.out) _) | exact HK.out)).1) : w.heap.size ≤ gb134)); have n8_ := Aside0.mk ((by rw [hg]; exact (below_size (by repeat (first | (with_reducible first | exact HB.out | apply below_alloc | apply pw_below_drewN | apply below_drew1 | refine below_set ?_ GE132.out | refine below_set ?_ GE133.out) | exact HB.out))) : w0.heap.size ≤ gb134)); have n9_ := Aside0.mk ((by rw [hg]; exact Nat.ne_of_lt (blk_lt (g := gb132) (o := .cells #[.slice Ao6 l0_0.length co6, .slice Ao7 l0_1.length co7, .int .i64 a0_2] 41 (0, 0)) (by (with_reducible repeat (first | refine blk_drewN ?_ _ | refine blk_drew ?_ | refine blk_alloc ?_ _)); exact BK132.out)) : gb132 ≠ gb134)); have n10_ := Aside0.mk ((by rw [hg]; exact Nat.ne_of_gt (blk_lt (g := gb132) (o := .cells #[.slice Ao6 l0_0.length co6, .slice Ao7 l0_1.length co7, .int .i64 a0_2] 41 (0, 0)) (by (with_reducible repeat (first | refine blk_drewN ?_ _ | refine blk_drew ?_ | refine blk_alloc ?_ _)); exact BK132.out)) : gb134 ≠ gb132)); have n11_ := Aside0.mk ((by rw [hg]; exact Nat.ne_of_lt (blk_lt (g := gb133) (o := .cells #[.int .i64 a1_0, .int .i64 a1_1, .int .i64 a1_2, .int .i64 a1_3] 47 (0, 0)) (by (with_reducible repeat (first | refine blk_drewN ?_ _ | refine blk_drew ?_ | refine blk_alloc ?_ _)); exact BK133.out)) : gb133 ≠ gb134)); have n12_ := Aside0.mk ((by rw [hg]; exact Nat.ne_of_gt (blk_lt (g := gb133) (o := .cells #[.int .i64 a1_0, .int .i64 a1_1, .int .i64 a1_2, .int .i64 a1_3] 47 (0, 0)) (by (with_reducible repeat (first | refine blk_drewN ?_ _ | refine blk_drew ?_ | refine blk_alloc ?_ _)); exact BK133.out)) : gb134 ≠ gb133)); clear HO0_0; clear HO0_1; clear BK132; clear BK133; clear HK; clear HB; have HO0_0 := n0_; have HO0_1 := n1_; have BK132 := n2_; have BK133 := n3_; have HK := n4_; have HB := n5_; have BK134 := n6_; have GW134 := n7_; have GE134 := n8_; have NB132_134 := n9_; have NB134_132 := n10_; have NB133_134 := n11_; have NB134_133 := n12_; clear n0_ n1_ n2_ n3_ n4_ n5_ n6_ n7_ n8_ n9_ n10_ n11_ n12_; clear hb hbox hg) | ((with_reducible refine gate_dst (N := 5) rfl ?_); refine box_event ?hg (N := 5) ?hd (cs := #[.int .i64 0, .bool false]) (t := 44) ?hr ?_; (case hd => rfl); (case hg => rfl); (case hr => first | (go_simp; done) | (go_simp; rfl)); intro gb135 hg w11 hbox hb; have n0_ := Aside0.mk (Kd.R_below (by (with_reducible repeat (first | apply Kd.R_alloc | apply Kd.R_drewN | apply Kd.R_drew)); exact HO0_0.out) hb); have n1_ := Aside0.mk (Kd.R_below (by (with_reducible repeat (first | apply Kd.R_alloc | apply Kd.R_drewN | apply Kd.R_drew)); exact HO0_1.out) hb); have n2_ := Aside0.mk (blk_below (g := gb132) (o := .cells #[.slice Ao6 l0_0.length co6, .slice Ao7 l0_1.length co7, .int .i64 a0_2] 41 (0, 0)) (by (with_reducible repeat (first | refine blk_drewN ?_ _ | refine blk_drew ?_ | refine blk_alloc ?_ _)); exact BK132.out) hb); have n3_ := Aside0.mk (blk_below (g := gb133) (o := .cells #[.int .i64 a1_0, .int .i64 a1_1, .int .i64 a1_2, .int .i64 a1_3] 47 (0, 0)) (by (with_reducible repeat (first | refine blk_drewN ?_ _ | refine blk_drew ?_ | refine blk_alloc ?_ _)); exact BK133.out) hb); have n4_ := Aside0.mk (blk_below (g := gb134) (o := .cells #[.slice none 0 0, .slice none 0 0, .int .i64 0] 41 (0, 0)) (by (with_reducible repeat (first | refine blk_drewN ?_ _ | refine blk_drew ?_ | refine blk_alloc ?_ _)); exact BK134.out) hb); have n5_ := Aside0.mk (Kept.below (S := (fun k_ => P0_0_ k_ ∨ P0_1_ k_)) (by repeat (first | (with_reducible first | exact HK.out | apply Kept.alloc | apply Kept.drewN | apply Kept.drew | refine Kept.setCell ?_ (.inr GW132.out) _ | refine Kept.setCell ?_ (.inr GW133.out) _ | refine Kept.setCell ?_ (.inr GW134.out) _) | exact HK.out)) hb); have n6_ := Aside0.mk (below_step (by repeat (first | (with_reducible first | exact HB.out | apply below_alloc | apply pw_below_drewN | apply below_drew1 | refine below_set ?_ GE132.out | refine below_set ?_ GE133.out | refine below_set ?_ GE134.out) | exact HB.out)) hb); have n7_ := Aside0.mk (hbox); have n8_ := Aside0.mk ((by rw [hg]; exact (by first | exact HK.out.1 | exact (show Kept w _ (fun k_ => P0_0_ k_ ∨ P0_1_ k_) from by repeat (first | (with_reducible first | exact HK.out | apply Kept.alloc | apply Kept.drewN | apply Kept.drew | refine Kept.setCell ?_ (.inr GW132.out) _ | refine Kept.setCell ?_ (.inr GW133.out) _ | refine Kept.setCell ?_ (.inr GW134.out) _) | exact HK.out)).1) : w.heap.size ≤ gb135)); have n9_ := Aside0.mk ((by rw [hg]; exact (below_size (by repeat (first | (with_reducible first | exact HB.out | apply below_alloc | apply pw_below_drewN | apply below_drew1 | refine below_set ?_ GE132.out | refine below_set ?_ GE133.out | refine below_set ?_ GE134.out) | exact HB.out))) : w0.heap.size ≤ gb135)); have n10_ := Aside0.mk ((by rw [hg]; exact Nat.ne_of_lt (blk_lt (g := gb132) (o := .cells #[.slice Ao6 l0_0.length co6, .slice Ao7 l0_1.length co7, .int .i64 a0_2] 41 (0, 0)) (by (with_reducible repeat (first | refine blk_drewN ?_ _ | refine blk_drew ?_ | refine blk_alloc ?_ _)); exact BK132.out)) : gb132 ≠ gb135)); have n11_ := Aside0.mk ((by rw [hg]; exact Nat.ne_of_gt (blk_lt (g := gb132) (o := .cells #[.slice Ao6 l0_0.length co6, .slice Ao7 l0_1.length co7, .int .i64 a0_2] 41 (0, 0)) (by (with_reducible repeat (first | refine blk_drewN ?_ _ | refine blk_drew ?_ | refine blk_alloc ?_ _)); exact BK132.out)) : gb135 ≠ gb132)); have n12_ := Aside0.mk ((by rw [hg]; exact Nat.ne_of_lt (blk_lt (g := gb133) (o := .cells #[.int .i64 a1_0, .int .i64 a1_1, .int .i64 a1_2, .int .i64 a1_3] 47 (0, 0)) (by (with_reducible repeat (first | refine blk_drewN ?_ _ | refine blk_drew ?_ | refine blk_alloc ?_ _)); exact BK133.out)) : gb133 ≠ gb135)); have n13_ := Aside0.mk ((by rw [hg]; exact Nat.ne_of_gt (blk_lt (g := gb133) (o := .cells #[.int .i64 a1_0, .int .i64 a1_1, .int .i64 a1_2, .int .i64 a1_3] 47 (0, 0)) (by (with_reducible repeat (first | refine blk_drewN ?_ _ | refine blk_drew ?_ | refine blk_alloc ?_ _)); exact BK133.out)) : gb135 ≠ gb133)); have n14_ := Aside0.mk ((by rw [hg]; exact Nat.ne_of_lt (blk_lt (g := gb134) (o := .cells #[.slice none 0 0, .slice none 0 0, .int .i64 0] 41 (0, 0)) (by (with_reducible repeat (first | refine blk_drewN ?_ _ | refine blk_drew ?_ | refine blk_alloc ?_ _)); exact BK134.out)) : gb134 ≠ gb135)); have n15_ := Aside0.mk ((by rw [hg]; exact Nat.ne_of_gt (blk_lt (g := gb134) (o := .cells #[.slice none 0 0, .slice none 0 0, .int .i64 0] 41 (0, 0)) (by (with_reducible repeat (first | refine blk_drewN ?_ _ | refine blk_drew ?_ | refine blk_alloc ?_ _)); exact BK134.out)) : gb135 ≠ gb134)); clear HO0_0; clear HO0_1; clear BK132; clear BK133; clear BK134; clear HK; clear HB; have HO0_0 := n0_; have HO0_1 := n1_; have BK132 := n2_; have BK133 := n3_; have BK134 := n4_; have HK := n5_; have HB := n6_; have BK135 := n7_; have GW135 := n8_; have GE135 := n9_; have NB132_135 := n10_; have NB135_132 := n11_; have NB133_135 := n12_; have NB135_133 := n13_; have NB134_135 := n14_; have NB135_134 := n15_; clear n0_ n1_ n2_ n3_ n4_ n5_ n6_ n7_ n8_ n9_ n10_ n11_ n12_ n13_ n14_ n15_; clear hb hbox hg; have hnb12 := NB132_133.out; have hnc12 := NB133_132.out; have hnb13 := NB132_134.out; have hnc13 := NB134_132.out; have hnb14 := NB132_135.out; have hnc14 := NB135_132.out; have hcz15_0 : w11.cell? ⟨gb132, 0, none⟩ = some (.slice Ao6 l0_0.length co6) := (blk_cell BK132.out 0).trans rfl; have hcz15_1 : w11.cell? ⟨gb132, 1, none⟩ = some (.slice Ao7 l0_1.length co7) := (blk_cell BK132.out 1).trans rfl; have hcz15_2 : w11.cell? ⟨gb132, 2, none⟩ = some (.int .i64 a0_2) := (blk_cell BK132.out 2).trans rfl; have hfz15_0 := blk_frozen BK132.out 0; have hfz15_1 := blk_frozen BK132.out 1; have hfz15_2 := blk_frozen BK132.out 2; have hnb16 := NB133_134.out; have hnc16 := NB134_133.out; have hnb17 := NB133_135.out; have hnc17 := NB135_133.out; have hcz18_0 : w11.cell? ⟨gb133, 0, none⟩ = some (.int .i64 a1_0) := (blk_cell BK133.out 0).trans rfl; have hcz18_1 : w11.cell? ⟨gb133, 1, none⟩ = some (.int .i64 a1_1) := (blk_cell BK133.out 1).trans rfl; have hcz18_2 : w11.cell? ⟨gb133, 2, none⟩ = some (.int .i64 a1_2) := (blk_cell BK133.out 2).trans rfl; have hcz18_3 : w11.cell? ⟨gb133, 3, none⟩ = some (.int .i64 a1_3) := (blk_cell BK133.out 3).trans rfl; have hfz18_0 := blk_frozen BK133.out 0; have hfz18_1 := blk_frozen BK133.out 1; have hfz18_2 := blk_frozen BK133.out 2; have hfz18_3 := blk_frozen BK133.out 3; have p136 : 0 ≤ (a1_1 : Int) := of_decide_eq_true (by first | (with_reducible assumption) | assumption); have q136 : a1_1 < (l0_1.length : Int) := of_decide_eq_true (by first | (with_reducible assumption) | assumption); obtain ⟨ad136, e136, hx136_0⟩ := Kd.at_int (Kd.R_reads' HO0_1.out).2.2 a1_1 p136 q136; cases e136; have hn136_0 : ad136.block ≠ gb132 := Kd.own_blk (Kd.R_ne HO0_1.out BK132.out (by decide)); replace hx136_0 := (cell_far (p := ⟨gb132, 2, none⟩) (by first | (rw [add_block]; exact hn136_0) | (show (Addr.add _ _).block ≠ _; rw [add_block]; exact hn136_0) | exact hn136_0) (.int .i64 (wrap64 (a0_2 + 1)))).trans hx136_0; clear hn136_0; replace p136 := eq_true p136; replace q136 := eq_true q136))
      (try simp only [Act.put, List.setIfInBounds_toArray, List.set_cons_zero, List.set_cons_succ])
      go_cut [28] (fun v28 wc => ∃ (kq : Nat) (x28_4 : Bool), v28 = .bool x28_4 ∧ Aside0 (gangplankref14_lock.j0 kq (rd l0_1 a1_1) x28_4 l0_0 l0_1 (wrap64 (a0_2 + 1)) a1_0 a1_1 a1_2 a1_3 = some (r1, r2, r3, r4, r5)) ∧ Aside0 (kq ≤ k) ∧ Aside0 (Kd.R (Kd.int .i64) 3 wc w0.heap.size (fun k_ => ((P0_0_ k_ ∨ P0_1_ k_) ∨ w.heap.size ≤ k_) ∧ some k_ ≠ ((.slice (some ad136) l0_1.length co7) : Value).ownBlock) (.slice Ao6 l0_0.length co6) l0_0) ∧ Aside0 (Kd.R (Kd.int .i64) 3 wc w0.heap.size (fun k_ => ((P0_0_ k_ ∨ P0_1_ k_) ∨ w.heap.size ≤ k_) ∧ some k_ ≠ ((.slice Ao6 l0_0.length co6) : Value).ownBlock) (.slice (some ad136) l0_1.length co7) l0_1) ∧ Aside0 (wc.heap[gb132]? = some (.cells #[(.slice Ao6 l0_0.length co6), (.slice (some ad136) l0_1.length co7), .int .i64 (wrap64 (a0_2 + 1))] 41 (0, 0))) ∧ Aside0 (wc.heap[gb133]? = some (.cells #[.int .i64 a1_0, .int .i64 a1_1, .int .i64 a1_2, .int .i64 a1_3] 47 (0, 0))) ∧ Aside0 (wc.heap[gb134]? = some (.cells #[(.slice none 0 0), (.slice none 0 0), .int .i64 0] 41 (0, 0))) ∧ Aside0 (wc.heap[gb135]? = some (.cells #[.int .i64 0, .bool false] 44 (0, 0))) ∧ Aside0 (Kept w wc (fun k_ => P0_0_ k_ ∨ P0_1_ k_)) ∧ Aside0 (Below w0.heap.size w0 wc))
      case first =>
        have H := HC5.out
        clear HC5
        by_cases c19 : a1_0 = 4
        · rw [if_pos c19] at H
          have c19b0 : (a1_0 == 4) = true := beq_iff_eq.mpr c19
          have c19b1 : (a1_0 != 4) = false := bne_eq_false_iff_eq.mpr c19
          clear c19
          (first | rw [c19b0] | (simp only [i64_w, i32_w]; rw [c19b0]) | skip)
          by_cases c20 : (rd l0_1 a1_1) < 0
          · rw [if_pos c20] at H
            have c20b0 : decide ((rd l0_1 a1_1) < 0) = true := decide_eq_true c20
            clear c20
            have H' := Aside0.mk H
            clear H
            have hnb21 := NB133_132.out
            have hnc21 := NB132_133.out
            have hnb22 := NB133_134.out
            have hnc22 := NB134_133.out
            have hnb23 := NB133_135.out
            have hnc23 := NB135_133.out
            have hcz24_0 : w11.cell? ⟨gb133, 0, none⟩ = some (.int .i64 a1_0) := (blk_cell BK133.out 0).trans rfl
            have hcz24_1 : w11.cell? ⟨gb133, 1, none⟩ = some (.int .i64 a1_1) := (blk_cell BK133.out 1).trans rfl
            have hcz24_2 : w11.cell? ⟨gb133, 2, none⟩ = some (.int .i64 a1_2) := (blk_cell BK133.out 2).trans rfl
            have hcz24_3 : w11.cell? ⟨gb133, 3, none⟩ = some (.int .i64 a1_3) := (blk_cell BK133.out 3).trans rfl
            have hfz24_0 := blk_frozen BK133.out 0
            have hfz24_1 := blk_frozen BK133.out 1
            have hfz24_2 := blk_frozen BK133.out 2
            have hfz24_3 := blk_frozen BK133.out 3
            go_wp2
            go_meet
            case rel => exact ⟨_, (decide (a1_2 ≥ 0)), (by first | rfl | (simp; done) | (simp [*]; done)), H', ⟨by first | omega | exact Nat.le_refl _⟩, ⟨by (with_reducible repeat (first | apply Kd.R_alloc | apply Kd.R_drewN | apply Kd.R_drew)); exact Kd.R_mono (Kd.R_far (p := ⟨gb132, 2, none⟩) (Kd.R_types HO0_0.out BK132.out (by decide)) (fun _ hk => hk.2) (.int .i64 (wrap64 (a0_2 + 1)))) (fun _ hk => ⟨hk.1.1, hk.1.2⟩)⟩, ⟨by (with_reducible repeat (first | apply Kd.R_alloc | apply Kd.R_drewN | apply Kd.R_drew)); exact Kd.R_mono (Kd.R_far (p := ⟨gb132, 2, none⟩) (Kd.R_types HO0_1.out BK132.out (by decide)) (fun _ hk => hk.2) (.int .i64 (wrap64 (a0_2 + 1)))) (fun _ hk => ⟨hk.1.1, hk.1.2⟩)⟩, ⟨by (with_reducible repeat (first | refine blk_drewN ?_ _ | refine blk_drew ?_ | refine blk_alloc ?_ _)); refine blk_put (cs := #[.slice Ao6 l0_0.length co6, .slice (some ad136) l0_1.length co7, .int .i64 a0_2]) ?_ 2 _ rfl; (with_reducible repeat (first | refine blk_drewN ?_ _ | refine blk_drew ?_ | refine blk_alloc ?_ _)); exact BK132.out⟩, ⟨by (with_reducible repeat (first | refine blk_drewN ?_ _ | refine blk_drew ?_ | refine blk_alloc ?_ _)); refine blk_far ?_ NB133_132.out _; (with_reducible repeat (first | refine blk_drewN ?_ _ | refine blk_drew ?_ | refine blk_alloc ?_ _)); exact BK133.out⟩, ⟨by (with_reducible repeat (first | refine blk_drewN ?_ _ | refine blk_drew ?_ | refine blk_alloc ?_ _)); refine blk_far ?_ NB134_132.out _; (with_reducible repeat (first | refine blk_drewN ?_ _ | refine blk_drew ?_ | refine blk_alloc ?_ _)); exact BK134.out⟩, ⟨by (with_reducible repeat (first | refine blk_drewN ?_ _ | refine blk_drew ?_ | refine blk_alloc ?_ _)); refine blk_far ?_ NB135_132.out _; (with_reducible repeat (first | refine blk_drewN ?_ _ | refine blk_drew ?_ | refine blk_alloc ?_ _)); exact BK135.out⟩, ⟨by repeat (first | (with_reducible first | exact HK.out | apply Kept.alloc | apply Kept.drewN | apply Kept.drew | refine Kept.setCell ?_ (.inr GW132.out) _ | refine Kept.setCell ?_ (.inr GW133.out) _ | refine Kept.setCell ?_ (.inr GW134.out) _ | refine Kept.setCell ?_ (.inr GW135.out) _) | exact HK.out)⟩, ⟨by repeat (first | (with_reducible first | exact HB.out | apply below_alloc | apply pw_below_drewN | apply below_drew1 | refine below_set ?_ GE132.out | refine below_set ?_ GE133.out | refine below_set ?_ GE134.out | refine below_set ?_ GE135.out) | exact HB.out)⟩⟩
          · rw [if_neg c20] at H
            have c20b0 : decide ((rd l0_1 a1_1) < 0) = false := decide_eq_false c20
            clear c20
            have H' := Aside0.mk H
            clear H
            have hnb25 := NB133_132.out
            have hnc25 := NB132_133.out
            have hnb26 := NB133_134.out
            have hnc26 := NB134_133.out
            have hnb27 := NB133_135.out
            have hnc27 := NB135_133.out
            have hcz28_0 : w11.cell? ⟨gb133, 0, none⟩ = some (.int .i64 a1_0) := (blk_cell BK133.out 0).trans rfl
            have hcz28_1 : w11.cell? ⟨gb133, 1, none⟩ = some (.int .i64 a1_1) := (blk_cell BK133.out 1).trans rfl
            have hcz28_2 : w11.cell? ⟨gb133, 2, none⟩ = some (.int .i64 a1_2) := (blk_cell BK133.out 2).trans rfl
            have hcz28_3 : w11.cell? ⟨gb133, 3, none⟩ = some (.int .i64 a1_3) := (blk_cell BK133.out 3).trans rfl
            have hfz28_0 := blk_frozen BK133.out 0
            have hfz28_1 := blk_frozen BK133.out 1
            have hfz28_2 := blk_frozen BK133.out 2
            have hfz28_3 := blk_frozen BK133.out 3
            go_wp2
            go_meet
            case rel => exact ⟨_, (false), (by first | rfl | (simp; done) | (simp [*]; done)), H', ⟨by first | omega | exact Nat.le_refl _⟩, ⟨by (with_reducible repeat (first | apply Kd.R_alloc | apply Kd.R_drewN | apply Kd.R_drew)); exact Kd.R_mono (Kd.R_far (p := ⟨gb132, 2, none⟩) (Kd.R_types HO0_0.out BK132.out (by decide)) (fun _ hk => hk.2) (.int .i64 (wrap64 (a0_2 + 1)))) (fun _ hk => ⟨hk.1.1, hk.1.2⟩)⟩, ⟨by (with_reducible repeat (first | apply Kd.R_alloc | apply Kd.R_drewN | apply Kd.R_drew)); exact Kd.R_mono (Kd.R_far (p := ⟨gb132, 2, none⟩) (Kd.R_types HO0_1.out BK132.out (by decide)) (fun _ hk => hk.2) (.int .i64 (wrap64 (a0_2 + 1)))) (fun _ hk => ⟨hk.1.1, hk.1.2⟩)⟩, ⟨by (with_reducible repeat (first | refine blk_drewN ?_ _ | refine blk_drew ?_ | refine blk_alloc ?_ _)); refine blk_put (cs := #[.slice Ao6 l0_0.length co6, .slice (some ad136) l0_1.length co7, .int .i64 a0_2]) ?_ 2 _ rfl; (with_reducible repeat (first | refine blk_drewN ?_ _ | refine blk_drew ?_ | refine blk_alloc ?_ _)); exact BK132.out⟩, ⟨by (with_reducible repeat (first | refine blk_drewN ?_ _ | refine blk_drew ?_ | refine blk_alloc ?_ _)); refine blk_far ?_ NB133_132.out _; (with_reducible repeat (first | refine blk_drewN ?_ _ | refine blk_drew ?_ | refine blk_alloc ?_ _)); exact BK133.out⟩, ⟨by (with_reducible repeat (first | refine blk_drewN ?_ _ | refine blk_drew ?_ | refine blk_alloc ?_ _)); refine blk_far ?_ NB134_132.out _; (with_reducible repeat (first | refine blk_drewN ?_ _ | refine blk_drew ?_ | refine blk_alloc ?_ _)); exact BK134.out⟩, ⟨by (with_reducible repeat (first | refine blk_drewN ?_ _ | refine blk_drew ?_ | refine blk_alloc ?_ _)); refine blk_far ?_ NB135_132.out _; (with_reducible repeat (first | refine blk_drewN ?_ _ | refine blk_drew ?_ | refine blk_alloc ?_ _)); exact BK135.out⟩, ⟨by repeat (first | (with_reducible first | exact HK.out | apply Kept.alloc | apply Kept.drewN | apply Kept.drew | refine Kept.setCell ?_ (.inr GW132.out) _ | refine Kept.setCell ?_ (.inr GW133.out) _ | refine Kept.setCell ?_ (.inr GW134.out) _ | refine Kept.setCell ?_ (.inr GW135.out) _) | exact HK.out)⟩, ⟨by repeat (first | (with_reducible first | exact HB.out | apply below_alloc | apply pw_below_drewN | apply below_drew1 | refine below_set ?_ GE132.out | refine below_set ?_ GE133.out | refine below_set ?_ GE134.out | refine below_set ?_ GE135.out) | exact HB.out)⟩⟩
        · rw [if_neg c19] at H
          have c19b0 : (a1_0 == 4) = false := beq_eq_false_iff_ne.mpr c19
          have c19b1 : (a1_0 != 4) = true := bne_iff_ne.mpr c19
          (first | rw [c19b0] | (simp only [i64_w, i32_w]; rw [c19b0]) | skip)
          have H' := Aside0.mk H
          clear H
          have hnb29 := NB133_132.out
          have hnc29 := NB132_133.out
          have hnb30 := NB133_134.out
          have hnc30 := NB134_133.out
          have hnb31 := NB133_135.out
          have hnc31 := NB135_133.out
          have hcz32_0 : w11.cell? ⟨gb133, 0, none⟩ = some (.int .i64 a1_0) := (blk_cell BK133.out 0).trans rfl
          have hcz32_1 : w11.cell? ⟨gb133, 1, none⟩ = some (.int .i64 a1_1) := (blk_cell BK133.out 1).trans rfl
          have hcz32_2 : w11.cell? ⟨gb133, 2, none⟩ = some (.int .i64 a1_2) := (blk_cell BK133.out 2).trans rfl
          have hcz32_3 : w11.cell? ⟨gb133, 3, none⟩ = some (.int .i64 a1_3) := (blk_cell BK133.out 3).trans rfl
          have hfz32_0 := blk_frozen BK133.out 0
          have hfz32_1 := blk_frozen BK133.out 1
          have hfz32_2 := blk_frozen BK133.out 2
          have hfz32_3 := blk_frozen BK133.out 3
          go_wp2
          go_meet
          case rel => exact ⟨_, (false), (by first | rfl | (simp; done) | (simp [*]; done)), H', ⟨by first | omega | exact Nat.le_refl _⟩, ⟨by (with_reducible repeat (first | apply Kd.R_alloc | apply Kd.R_drewN | apply Kd.R_drew)); exact Kd.R_mono (Kd.R_far (p := ⟨gb132, 2, none⟩) (Kd.R_types HO0_0.out BK132.out (by decide)) (fun _ hk => hk.2) (.int .i64 (wrap64 (a0_2 + 1)))) (fun _ hk => ⟨hk.1.1, hk.1.2⟩)⟩, ⟨by (with_reducible repeat (first | apply Kd.R_alloc | apply Kd.R_drewN | apply Kd.R_drew)); exact Kd.R_mono (Kd.R_far (p := ⟨gb132, 2, none⟩) (Kd.R_types HO0_1.out BK132.out (by decide)) (fun _ hk => hk.2) (.int .i64 (wrap64 (a0_2 + 1)))) (fun _ hk => ⟨hk.1.1, hk.1.2⟩)⟩, ⟨by (with_reducible repeat (first | refine blk_drewN ?_ _ | refine blk_drew ?_ | refine blk_alloc ?_ _)); refine blk_put (cs := #[.slice Ao6 l0_0.length co6, .slice (some ad136) l0_1.length co7, .int .i64 a0_2]) ?_ 2 _ rfl; (with_reducible repeat (first | refine blk_drewN ?_ _ | refine blk_drew ?_ | refine blk_alloc ?_ _)); exact BK132.out⟩, ⟨by (with_reducible repeat (first | refine blk_drewN ?_ _ | refine blk_drew ?_ | refine blk_alloc ?_ _)); refine blk_far ?_ NB133_132.out _; (with_reducible repeat (first | refine blk_drewN ?_ _ | refine blk_drew ?_ | refine blk_alloc ?_ _)); exact BK133.out⟩, ⟨by (with_reducible repeat (first | refine blk_drewN ?_ _ | refine blk_drew ?_ | refine blk_alloc ?_ _)); refine blk_far ?_ NB134_132.out _; (with_reducible repeat (first | refine blk_drewN ?_ _ | refine blk_drew ?_ | refine blk_alloc ?_ _)); exact BK134.out⟩, ⟨by (with_reducible repeat (first | refine blk_drewN ?_ _ | refine blk_drew ?_ | refine blk_alloc ?_ _)); refine blk_far ?_ NB135_132.out _; (with_reducible repeat (first | refine blk_drewN ?_ _ | refine blk_drew ?_ | refine blk_alloc ?_ _)); exact BK135.out⟩, ⟨by repeat (first | (with_reducible first | exact HK.out | apply Kept.alloc | apply Kept.drewN | apply Kept.drew | refine Kept.setCell ?_ (.inr GW132.out) _ | refine Kept.setCell ?_ (.inr GW133.out) _ | refine Kept.setCell ?_ (.inr GW134.out) _ | refine Kept.setCell ?_ (.inr GW135.out) _) | exact HK.out)⟩, ⟨by repeat (first | (with_reducible first | exact HB.out | apply below_alloc | apply pw_below_drewN | apply below_drew1 | refine below_set ?_ GE132.out | refine below_set ?_ GE133.out | refine below_set ?_ GE134.out | refine below_set ?_ GE135.out) | exact HB.out)⟩⟩
      case rest =>
        clear HC5
        try clear c1
        try clear p1
        try clear q1
        try clear hx1
        try clear c2
        try clear p2
        try clear c3
        try clear c3b0
        try clear c4
        try clear c4b0
        try clear p6
        try clear c12
        try clear c13
        try clear p13
        try clear q13
        try clear hx13
        try clear c14
        try clear c16
        try clear c17
        try clear c19
        try clear c19b0
        try clear c19b1
        try clear c20
        try clear c20b0
        try clear c21
        try clear c22
        try clear c23
        try clear c25
        try clear c26
        try clear c27
        try clear c29
        try clear c30
        try clear c31
        try clear hcz15_0
        try clear hcz15_1
        try clear hcz15_2
        try clear hcz18_0
        try clear hcz18_1
        try clear hcz18_2
        try clear hcz18_3
        try clear hcz24_0
        try clear hcz24_1
        try clear hcz24_2
        try clear hcz24_3
        try clear hcz28_0
        try clear hcz28_1
        try clear hcz28_2
        try clear hcz28_3
        try clear hcz32_0
        try clear hcz32_1
        try clear hcz32_2
        try clear hcz32_3
        try clear hfz15_0
        try clear hfz15_1
        try clear hfz15_2
        try clear hfz18_0
        try clear hfz18_1
        try clear hfz18_2
        try clear hfz18_3
        try clear hfz24_0
        try clear hfz24_1
        try clear hfz24_2
        try clear hfz24_3
        try clear hfz28_0
        try clear hfz28_1
        try clear hfz28_2
        try clear hfz28_3
        try clear hfz32_0
        try clear hfz32_1
        try clear hfz32_2
        try clear hfz32_3
        try clear hx136_0
        try clear p136
        try clear q136
        obtain ⟨kq, x28_4, rfl, HA, HJ4, HO_133000, HO_133001, BK132, BK133, BK134, BK135, HK, HB⟩ := hcut
        cases kq with
        | zero => exact absurd HA.out (by simp [gangplankref14_lock.j0])
        | succ kj4 =>
          have H := HA.out
          clear HA
          simp only [gangplankref14_lock.j0] at H
          by_cases c33 : x28_4 = true
          · subst c33
            have H1 : ((gangplankref14_with.f l0_1 a1_1 a1_2).bind fun t137 => (some (l0_0, t137, (wrap64 (a0_2 + 1)), 0, true))) = some (r1, r2, r3, r4, r5) := by first | (rw [if_pos rfl] at H; exact H) | (rw [if_pos trivial] at H; exact H)
            clear H
            have H := H1
            clear H1
            replace H := Option.bind_eq_some_iff.mp H
            obtain ⟨t137, A340, H⟩ := H
            replace H : (some (l0_0, t137, (wrap64 (a0_2 + 1)), 0, true)) = some (r1, r2, r3, r4, r5) := H
            have A34 := Aside0.mk A340
            clear A340
            simp only [Option.some.injEq, Prod.mk.injEq] at H
            obtain ⟨rfl, rfl, rfl, rfl, rfl⟩ := H
            have hnb35 := NB132_133.out
            have hnc35 := NB133_132.out
            have hnb36 := NB132_134.out
            have hnc36 := NB134_132.out
            have hnb37 := NB132_135.out
            have hnc37 := NB135_132.out
            have hcz38_0 : wc.cell? ⟨gb132, 0, none⟩ = some (.slice Ao6 l0_0.length co6) := (blk_cell BK132.out 0).trans rfl
            have hcz38_1 : wc.cell? ⟨gb132, 1, none⟩ = some (.slice (some ad136) l0_1.length co7) := (blk_cell BK132.out 1).trans rfl
            have hcz38_2 : wc.cell? ⟨gb132, 2, none⟩ = some (.int .i64 (wrap64 (a0_2 + 1))) := (blk_cell BK132.out 2).trans rfl
            have hfz38_0 := blk_frozen BK132.out 0
            have hfz38_1 := blk_frozen BK132.out 1
            have hfz38_2 := blk_frozen BK132.out 2
            have hnb39 := NB133_134.out
            have hnc39 := NB134_133.out
            have hnb40 := NB133_135.out
            have hnc40 := NB135_133.out
            have hcz41_0 : wc.cell? ⟨gb133, 0, none⟩ = some (.int .i64 a1_0) := (blk_cell BK133.out 0).trans rfl
            have hcz41_1 : wc.cell? ⟨gb133, 1, none⟩ = some (.int .i64 a1_1) := (blk_cell BK133.out 1).trans rfl
            have hcz41_2 : wc.cell? ⟨gb133, 2, none⟩ = some (.int .i64 a1_2) := (blk_cell BK133.out 2).trans rfl
            have hcz41_3 : wc.cell? ⟨gb133, 3, none⟩ = some (.int .i64 a1_3) := (blk_cell BK133.out 3).trans rfl
            have hfz41_0 := blk_frozen BK133.out 0
            have hfz41_1 := blk_frozen BK133.out 1
            have hfz41_2 := blk_frozen BK133.out 2
            have hfz41_3 := blk_frozen BK133.out 3
            go_wp2_with (first | ((with_reducible refine gate_callee (f := 45) rfl ?_); refine goesL_ (some 35) rfl rfl Try.func45 (by kernel_rfl) rfl #[.slice (some ad136) l0_1.length co7, .int .i64 a1_1, .int .i64 a1_2] rfl (by (try simp only [List.map_toArray, List.map_cons, List.map_nil]); first | done | rfl | (simp only [List.length_drop, List.length_take]; rfl)) ?_; (with_reducible refine (gangplankref14_with.calls _ _ l0_1 a1_1 a1_2 t137 _ ?side1 ?side2 A34.out).mono ?_); (case side1 => repeat (first | exact (Kd.R_reads' HO_133001.out).2.2 | (with_reducible refine Kd.C_alloc ?_ _) | (with_reducible refine Kd.C_drewN ?_ _) | (with_reducible refine Kd.C_drew ?_))); (case side2 => exact (Kd.R_reads' HO_133001.out).2.1); (try clear A34); rintro e w42 ⟨v138, rfl, ho0, hb⟩; refine ⟨_, rfl, ?_⟩; have n0_ := Aside0.mk (Kd.R_elder' (by (with_reducible repeat (first | apply Kd.R_alloc | apply Kd.R_drewN | apply Kd.R_drew)); exact HO_133000.out) (Kd.R_base ho0) hb); have n1_ := Aside0.mk (Kd.R_elder' (by (with_reducible repeat (first | apply Kd.R_alloc | apply Kd.R_drewN | apply Kd.R_drew)); exact HO_133001.out) (Kd.R_base ho0) hb); have n2_ := Aside0.mk (Kd.R_lower (Kd.R_new' (Kd.R_new' (Kd.R_newM (M := fun k_ => ((P0_0_ k_ ∨ P0_1_ k_) ∨ w.heap.size ≤ k_)) ho0 (by first | exact HK.out.1 | exact (show Kept w _ (fun k_ => P0_0_ k_ ∨ P0_1_ k_) from by repeat (first | (with_reducible first | exact HK.out | apply Kept.alloc | apply Kept.drewN | apply Kept.drew | refine Kept.setCell ?_ (.inr GW132.out) _ | refine Kept.setCell ?_ (.inr GW133.out) _ | refine Kept.setCell ?_ (.inr GW134.out) _ | refine Kept.setCell ?_ (.inr GW135.out) _) | exact HK.out)).1) (fun k_ h_ => .inr h_)) (Kd.R_lt (by (with_reducible repeat (first | apply Kd.R_alloc | apply Kd.R_drewN | apply Kd.R_drew)); exact HO_133000.out))) (Kd.R_lt (by (with_reducible repeat (first | apply Kd.R_alloc | apply Kd.R_drewN | apply Kd.R_drew)); exact HO_133001.out))) (below_size (by repeat (first | (with_reducible first | exact HB.out | apply below_alloc | apply pw_below_drewN | apply below_drew1 | refine below_set ?_ GE132.out | refine below_set ?_ GE133.out | refine below_set ?_ GE134.out | refine below_set ?_ GE135.out) | exact HB.out)))); have n3_ := Aside0.mk (blk_below (g := gb132) (o := .cells #[.slice Ao6 l0_0.length co6, .slice (some ad136) l0_1.length co7, .int .i64 (wrap64 (a0_2 + 1))] 41 (0, 0)) (by (with_reducible repeat (first | refine blk_drewN ?_ _ | refine blk_drew ?_ | refine blk_alloc ?_ _)); exact BK132.out) hb); have n4_ := Aside0.mk (blk_below (g := gb133) (o := .cells #[.int .i64 a1_0, .int .i64 a1_1, .int .i64 a1_2, .int .i64 a1_3] 47 (0, 0)) (by (with_reducible repeat (first | refine blk_drewN ?_ _ | refine blk_drew ?_ | refine blk_alloc ?_ _)); exact BK133.out) hb); have n5_ := Aside0.mk (blk_below (g := gb134) (o := .cells #[.slice none 0 0, .slice none 0 0, .int .i64 0] 41 (0, 0)) (by (with_reducible repeat (first | refine blk_drewN ?_ _ | refine blk_drew ?_ | refine blk_alloc ?_ _)); exact BK134.out) hb); have n6_ := Aside0.mk (blk_below (g := gb135) (o := .cells #[.int .i64 0, .bool false] 44 (0, 0)) (by (with_reducible repeat (first | refine blk_drewN ?_ _ | refine blk_drew ?_ | refine blk_alloc ?_ _)); exact BK135.out) hb); have n7_ := Aside0.mk (Kept.below (S := (fun k_ => P0_0_ k_ ∨ P0_1_ k_)) (by repeat (first | (with_reducible first | exact HK.out | apply Kept.alloc | apply Kept.drewN | apply Kept.drew | refine Kept.setCell ?_ (.inr GW132.out) _ | refine Kept.setCell ?_ (.inr GW133.out) _ | refine Kept.setCell ?_ (.inr GW134.out) _ | refine Kept.setCell ?_ (.inr GW135.out) _) | exact HK.out)) hb); have n8_ := Aside0.mk (below_step (by repeat (first | (with_reducible first | exact HB.out | apply below_alloc | apply pw_below_drewN | apply below_drew1 | refine below_set ?_ GE132.out | refine below_set ?_ GE133.out | refine below_set ?_ GE134.out | refine below_set ?_ GE135.out) | exact HB.out)) hb); clear HO_133000; clear HO_133001; clear BK132; clear BK133; clear BK134; clear BK135; clear HK; clear HB; have HO_133000 := n0_; have HO_133001 := n1_; have HO139 := n2_; have BK132 := n3_; have BK133 := n4_; have BK134 := n5_; have BK135 := n6_; have HK := n7_; have HB := n8_; clear n0_ n1_ n2_ n3_ n4_ n5_ n6_ n7_ n8_; (try clear hb); (try clear hb2); (try clear hk); (try clear hi); (try clear ho0); obtain ⟨Ao43, co43, eo43⟩ := Kd.R_slice HO139.out; subst eo43; have hcz44_0 : w42.cell? ⟨gb132, 0, none⟩ = some (.slice Ao6 l0_0.length co6) := (blk_cell BK132.out 0).trans rfl; have hcz44_1 : w42.cell? ⟨gb132, 1, none⟩ = some (.slice (some ad136) l0_1.length co7) := (blk_cell BK132.out 1).trans rfl; have hcz44_2 : w42.cell? ⟨gb132, 2, none⟩ = some (.int .i64 (wrap64 (a0_2 + 1))) := (blk_cell BK132.out 2).trans rfl; have hfz44_0 := blk_frozen BK132.out 0; have hfz44_1 := blk_frozen BK132.out 1; have hfz44_2 := blk_frozen BK132.out 2; have hnb45 := NB134_135.out; have hnc45 := NB135_134.out; have hcz46_0 : w42.cell? ⟨gb134, 0, none⟩ = some (.slice none 0 0) := (blk_cell BK134.out 0).trans rfl; have hcz46_1 : w42.cell? ⟨gb134, 1, none⟩ = some (.slice none 0 0) := (blk_cell BK134.out 1).trans rfl; have hcz46_2 : w42.cell? ⟨gb134, 2, none⟩ = some (.int .i64 0) := (blk_cell BK134.out 2).trans rfl; have hfz46_0 := blk_frozen BK134.out 0; have hfz46_1 := blk_frozen BK134.out 1; have hfz46_2 := blk_frozen BK134.out 2; have hcz47_0 : w42.cell? ⟨gb135, 0, none⟩ = some (.int .i64 0) := (blk_cell BK135.out 0).trans rfl; have hcz47_1 : w42.cell? ⟨gb135, 1, none⟩ = some (.bool false) := (blk_cell BK135.out 1).trans rfl; have hfz47_0 := blk_frozen BK135.out 0; have hfz47_1 := blk_frozen BK135.out 1))
            refine bodyPost_ret (results_cc rfl _ _ gb134 gb135 41 44 #[.slice Ao6 l0_0.length co6, .slice Ao43 t137.length co43, .int .i64 (wrap64 (a0_2 + 1))] #[.int .i64 0, .bool true] (0, 0) (0, 0) _ _ rfl (by (with_reducible repeat (first | refine blk_drewN ?_ _ | refine blk_drew ?_ | refine blk_alloc ?_ _)); refine blk_far ?_ NB134_135.out _; (with_reducible repeat (first | refine blk_drewN ?_ _ | refine blk_drew ?_ | refine blk_alloc ?_ _)); refine blk_far ?_ NB134_135.out _; (with_reducible repeat (first | refine blk_drewN ?_ _ | refine blk_drew ?_ | refine blk_alloc ?_ _)); refine blk_put (cs := #[.slice Ao6 l0_0.length co6, .slice Ao43 t137.length co43, .int .i64 0]) ?_ 2 _ rfl; (with_reducible repeat (first | refine blk_drewN ?_ _ | refine blk_drew ?_ | refine blk_alloc ?_ _)); refine blk_put (cs := #[.slice Ao6 l0_0.length co6, .slice none 0 0, .int .i64 0]) ?_ 1 _ rfl; (with_reducible repeat (first | refine blk_drewN ?_ _ | refine blk_drew ?_ | refine blk_alloc ?_ _)); refine blk_put (cs := #[.slice none 0 0, .slice none 0 0, .int .i64 0]) ?_ 0 _ rfl; (with_reducible repeat (first | refine blk_drewN ?_ _ | refine blk_drew ?_ | refine blk_alloc ?_ _)); refine blk_far ?_ NB134_132.out _; (with_reducible repeat (first | refine blk_drewN ?_ _ | refine blk_drew ?_ | refine blk_alloc ?_ _)); exact BK134.out) Try.underlying41 rfl (by kernel_rfl) rfl (by (with_reducible repeat (first | refine blk_drewN ?_ _ | refine blk_drew ?_ | refine blk_alloc ?_ _)); refine blk_put (cs := #[.int .i64 0, .bool false]) ?_ 1 _ rfl; (with_reducible repeat (first | refine blk_drewN ?_ _ | refine blk_drew ?_ | refine blk_alloc ?_ _)); refine blk_put (cs := #[.int .i64 0, .bool false]) ?_ 0 _ rfl; (with_reducible repeat (first | refine blk_drewN ?_ _ | refine blk_drew ?_ | refine blk_alloc ?_ _)); refine blk_far ?_ NB135_134.out _; (with_reducible repeat (first | refine blk_drewN ?_ _ | refine blk_drew ?_ | refine blk_alloc ?_ _)); refine blk_far ?_ NB135_134.out _; (with_reducible repeat (first | refine blk_drewN ?_ _ | refine blk_drew ?_ | refine blk_alloc ?_ _)); refine blk_far ?_ NB135_134.out _; (with_reducible repeat (first | refine blk_drewN ?_ _ | refine blk_drew ?_ | refine blk_alloc ?_ _)); refine blk_far ?_ NB135_132.out _; (with_reducible repeat (first | refine blk_drewN ?_ _ | refine blk_drew ?_ | refine blk_alloc ?_ _)); exact BK135.out) Try.underlying44 rfl (by kernel_rfl)) rfl ?_
            exact ⟨_, _, by first | rfl | (simp [errW_none, errW_some] <;> rfl) | (simp [*, errW_none, errW_some] <;> rfl), by (with_reducible repeat (first | apply Kd.R_alloc | apply Kd.R_drewN | apply Kd.R_drew)); exact Kd.R_mono (Kd.R_far (p := ⟨gb135, 1, none⟩) (Kd.R_far (p := ⟨gb135, 0, none⟩) (Kd.R_far (p := ⟨gb134, 2, none⟩) (Kd.R_far (p := ⟨gb134, 1, none⟩) (Kd.R_far (p := ⟨gb134, 0, none⟩) (Kd.R_far (p := ⟨gb132, 1, none⟩) (Kd.R_types (Kd.R_types (Kd.R_types HO_133000.out BK132.out (by decide)) BK134.out (by decide)) BK135.out (by decide)) (fun _ hk => hk.1.1.2) (.slice Ao43 t137.length co43)) (fun _ hk => hk.1.2) (.slice Ao6 l0_0.length co6)) (fun _ hk => hk.1.2) (.slice Ao43 t137.length co43)) (fun _ hk => hk.1.2) (.int .i64 (wrap64 (a0_2 + 1)))) (fun _ hk => hk.2) (.int .i64 0)) (fun _ hk => hk.2) (.bool true)) (fun _ hk => ⟨hk.1.1.1.1.1, hk.1.1.1.2⟩), by (with_reducible repeat (first | apply Kd.R_alloc | apply Kd.R_drewN | apply Kd.R_drew)); exact Kd.R_mono (Kd.R_far (p := ⟨gb135, 1, none⟩) (Kd.R_far (p := ⟨gb135, 0, none⟩) (Kd.R_far (p := ⟨gb134, 2, none⟩) (Kd.R_far (p := ⟨gb134, 1, none⟩) (Kd.R_far (p := ⟨gb134, 0, none⟩) (Kd.R_far (p := ⟨gb132, 1, none⟩) (Kd.R_types (Kd.R_types (Kd.R_types HO139.out BK132.out (by decide)) BK134.out (by decide)) BK135.out (by decide)) (fun _ hk => hk.1.1.2) (.slice Ao43 t137.length co43)) (fun _ hk => hk.1.2) (.slice Ao6 l0_0.length co6)) (fun _ hk => hk.1.2) (.slice Ao43 t137.length co43)) (fun _ hk => hk.1.2) (.int .i64 (wrap64 (a0_2 + 1)))) (fun _ hk => hk.2) (.int .i64 0)) (fun _ hk => hk.2) (.bool true)) (fun _ hk => ⟨hk.1.1.1.1.1.1, hk.1.1.1.1.2⟩), by repeat (first | (with_reducible first | exact HB.out | apply below_alloc | apply pw_below_drewN | apply below_drew1 | refine below_set ?_ GE132.out | refine below_set ?_ GE133.out | refine below_set ?_ GE134.out | refine below_set ?_ GE135.out) | exact HB.out), by repeat (first | (with_reducible first | exact HK.out | apply Kept.alloc | apply Kept.drewN | apply Kept.drew | refine Kept.setCell ?_ (.inr GW132.out) _ | refine Kept.setCell ?_ (.inr GW133.out) _ | refine Kept.setCell ?_ (.inr GW134.out) _ | refine Kept.setCell ?_ (.inr GW135.out) _) | exact HK.out)⟩
          · replace c33 := Bool.eq_false_iff.mpr c33
            subst c33
            have H1 : (if a1_0 = 5 then (if (rd l0_1 a1_1) ≥ 0 then (if (rd l0_1 a1_1) = a1_2 then ((gangplankref14_with.f l0_1 a1_1 (-1)).bind fun t140 => (some (l0_0, t140, (wrap64 (a0_2 + 1)), 0, true))) else (some (l0_0, l0_1, (wrap64 (a0_2 + 1)), 0, false))) else (some (l0_0, l0_1, (wrap64 (a0_2 + 1)), 0, false))) else (some (l0_0, l0_1, (wrap64 (a0_2 + 1)), 0, false))) = some (r1, r2, r3, r4, r5) := by rw [if_neg (show ¬ (false = true) by decide)] at H; exact H
            clear H
            have H := H1
            clear H1
            by_cases c48 : a1_0 = 5
            · rw [if_pos c48] at H
              have c48b0 : (a1_0 == 5) = true := beq_iff_eq.mpr c48
              have c48b1 : (a1_0 != 5) = false := bne_eq_false_iff_eq.mpr c48
              clear c48
              by_cases c49 : (rd l0_1 a1_1) ≥ 0
              · rw [if_pos c49] at H
                have c49b0 : decide (0 ≤ (rd l0_1 a1_1)) = true := decide_eq_true c49
                clear c49
                by_cases c50 : (rd l0_1 a1_1) = a1_2
                · rw [if_pos c50] at H
                  have c50b0 : ((rd l0_1 a1_1) == a1_2) = true := beq_iff_eq.mpr c50
                  have c50b1 : ((rd l0_1 a1_1) != a1_2) = false := bne_eq_false_iff_eq.mpr c50
                  clear c50
                  replace H := Option.bind_eq_some_iff.mp H
                  obtain ⟨t140, A510, H⟩ := H
                  replace H : (some (l0_0, t140, (wrap64 (a0_2 + 1)), 0, true)) = some (r1, r2, r3, r4, r5) := H
                  have A51 := Aside0.mk A510
                  clear A510
                  simp only [Option.some.injEq, Prod.mk.injEq] at H
                  obtain ⟨rfl, rfl, rfl, rfl, rfl⟩ := H
                  have hnb52 := NB133_132.out
                  have hnc52 := NB132_133.out
                  have hnb53 := NB133_134.out
                  have hnc53 := NB134_133.out
                  have hnb54 := NB133_135.out
                  have hnc54 := NB135_133.out
                  have hcz55_0 : wc.cell? ⟨gb133, 0, none⟩ = some (.int .i64 a1_0) := (blk_cell BK133.out 0).trans rfl
                  have hcz55_1 : wc.cell? ⟨gb133, 1, none⟩ = some (.int .i64 a1_1) := (blk_cell BK133.out 1).trans rfl
                  have hcz55_2 : wc.cell? ⟨gb133, 2, none⟩ = some (.int .i64 a1_2) := (blk_cell BK133.out 2).trans rfl
                  have hcz55_3 : wc.cell? ⟨gb133, 3, none⟩ = some (.int .i64 a1_3) := (blk_cell BK133.out 3).trans rfl
                  have hfz55_0 := blk_frozen BK133.out 0
                  have hfz55_1 := blk_frozen BK133.out 1
                  have hfz55_2 := blk_frozen BK133.out 2
                  have hfz55_3 := blk_frozen BK133.out 3
                  have hnb56 := NB132_134.out
                  have hnc56 := NB134_132.out
                  have hnb57 := NB132_135.out
                  have hnc57 := NB135_132.out
                  have hcz58_0 : wc.cell? ⟨gb132, 0, none⟩ = some (.slice Ao6 l0_0.length co6) := (blk_cell BK132.out 0).trans rfl
                  have hcz58_1 : wc.cell? ⟨gb132, 1, none⟩ = some (.slice (some ad136) l0_1.length co7) := (blk_cell BK132.out 1).trans rfl
                  have hcz58_2 : wc.cell? ⟨gb132, 2, none⟩ = some (.int .i64 (wrap64 (a0_2 + 1))) := (blk_cell BK132.out 2).trans rfl
                  have hfz58_0 := blk_frozen BK132.out 0
                  have hfz58_1 := blk_frozen BK132.out 1
                  have hfz58_2 := blk_frozen BK132.out 2
                  go_wp2_with (first | ((with_reducible refine gate_callee (f := 45) rfl ?_); refine goesL_ (some 56) rfl rfl Try.func45 (by kernel_rfl) rfl #[.slice (some ad136) l0_1.length co7, .int .i64 a1_1, .int .i64 (-1)] rfl (by (try simp only [List.map_toArray, List.map_cons, List.map_nil]); first | done | rfl | (simp only [List.length_drop, List.length_take]; rfl)) ?_; (with_reducible refine (gangplankref14_with.calls _ _ l0_1 a1_1 (-1) t140 _ ?side1 ?side2 A51.out).mono ?_); (case side1 => repeat (first | exact (Kd.R_reads' HO_133001.out).2.2 | (with_reducible refine Kd.C_alloc ?_ _) | (with_reducible refine Kd.C_drewN ?_ _) | (with_reducible refine Kd.C_drew ?_))); (case side2 => exact (Kd.R_reads' HO_133001.out).2.1); (try clear A51); rintro e w59 ⟨v141, rfl, ho0, hb⟩; refine ⟨_, rfl, ?_⟩; have n0_ := Aside0.mk (Kd.R_elder' (by (with_reducible repeat (first | apply Kd.R_alloc | apply Kd.R_drewN | apply Kd.R_drew)); exact HO_133000.out) (Kd.R_base ho0) hb); have n1_ := Aside0.mk (Kd.R_elder' (by (with_reducible repeat (first | apply Kd.R_alloc | apply Kd.R_drewN | apply Kd.R_drew)); exact HO_133001.out) (Kd.R_base ho0) hb); have n2_ := Aside0.mk (Kd.R_lower (Kd.R_new' (Kd.R_new' (Kd.R_newM (M := fun k_ => ((P0_0_ k_ ∨ P0_1_ k_) ∨ w.heap.size ≤ k_)) ho0 (by first | exact HK.out.1 | exact (show Kept w _ (fun k_ => P0_0_ k_ ∨ P0_1_ k_) from by repeat (first | (with_reducible first | exact HK.out | apply Kept.alloc | apply Kept.drewN | apply Kept.drew | refine Kept.setCell ?_ (.inr GW132.out) _ | refine Kept.setCell ?_ (.inr GW133.out) _ | refine Kept.setCell ?_ (.inr GW134.out) _ | refine Kept.setCell ?_ (.inr GW135.out) _) | exact HK.out)).1) (fun k_ h_ => .inr h_)) (Kd.R_lt (by (with_reducible repeat (first | apply Kd.R_alloc | apply Kd.R_drewN | apply Kd.R_drew)); exact HO_133000.out))) (Kd.R_lt (by (with_reducible repeat (first | apply Kd.R_alloc | apply Kd.R_drewN | apply Kd.R_drew)); exact HO_133001.out))) (below_size (by repeat (first | (with_reducible first | exact HB.out | apply below_alloc | apply pw_below_drewN | apply below_drew1 | refine below_set ?_ GE132.out | refine below_set ?_ GE133.out | refine below_set ?_ GE134.out | refine below_set ?_ GE135.out) | exact HB.out)))); have n3_ := Aside0.mk (blk_below (g := gb132) (o := .cells #[.slice Ao6 l0_0.length co6, .slice (some ad136) l0_1.length co7, .int .i64 (wrap64 (a0_2 + 1))] 41 (0, 0)) (by (with_reducible repeat (first | refine blk_drewN ?_ _ | refine blk_drew ?_ | refine blk_alloc ?_ _)); exact BK132.out) hb); have n4_ := Aside0.mk (blk_below (g := gb133) (o := .cells #[.int .i64 a1_0, .int .i64 a1_1, .int .i64 a1_2, .int .i64 a1_3] 47 (0, 0)) (by (with_reducible repeat (first | refine blk_drewN ?_ _ | refine blk_drew ?_ | refine blk_alloc ?_ _)); exact BK133.out) hb); have n5_ := Aside0.mk (blk_below (g := gb134) (o := .cells #[.slice none 0 0, .slice none 0 0, .int .i64 0] 41 (0, 0)) (by (with_reducible repeat (first | refine blk_drewN ?_ _ | refine blk_drew ?_ | refine blk_alloc ?_ _)); exact BK134.out) hb); have n6_ := Aside0.mk (blk_below (g := gb135) (o := .cells #[.int .i64 0, .bool false] 44 (0, 0)) (by (with_reducible repeat (first | refine blk_drewN ?_ _ | refine blk_drew ?_ | refine blk_alloc ?_ _)); exact BK135.out) hb); have n7_ := Aside0.mk (Kept.below (S := (fun k_ => P0_0_ k_ ∨ P0_1_ k_)) (by repeat (first | (with_reducible first | exact HK.out | apply Kept.alloc | apply Kept.drewN | apply Kept.drew | refine Kept.setCell ?_ (.inr GW132.out) _ | refine Kept.setCell ?_ (.inr GW133.out) _ | refine Kept.setCell ?_ (.inr GW134.out) _ | refine Kept.setCell ?_ (.inr GW135.out) _) | exact HK.out)) hb); have n8_ := Aside0.mk (below_step (by repeat (first | (with_reducible first | exact HB.out | apply below_alloc | apply pw_below_drewN | apply below_drew1 | refine below_set ?_ GE132.out | refine below_set ?_ GE133.out | refine below_set ?_ GE134.out | refine below_set ?_ GE135.out) | exact HB.out)) hb); clear HO_133000; clear HO_133001; clear BK132; clear BK133; clear BK134; clear BK135; clear HK; clear HB; have HO_133000 := n0_; have HO_133001 := n1_; have HO142 := n2_; have BK132 := n3_; have BK133 := n4_; have BK134 := n5_; have BK135 := n6_; have HK := n7_; have HB := n8_; clear n0_ n1_ n2_ n3_ n4_ n5_ n6_ n7_ n8_; (try clear hb); (try clear hb2); (try clear hk); (try clear hi); (try clear ho0); obtain ⟨Ao60, co60, eo60⟩ := Kd.R_slice HO142.out; subst eo60; have hcz61_0 : w59.cell? ⟨gb132, 0, none⟩ = some (.slice Ao6 l0_0.length co6) := (blk_cell BK132.out 0).trans rfl; have hcz61_1 : w59.cell? ⟨gb132, 1, none⟩ = some (.slice (some ad136) l0_1.length co7) := (blk_cell BK132.out 1).trans rfl; have hcz61_2 : w59.cell? ⟨gb132, 2, none⟩ = some (.int .i64 (wrap64 (a0_2 + 1))) := (blk_cell BK132.out 2).trans rfl; have hfz61_0 := blk_frozen BK132.out 0; have hfz61_1 := blk_frozen BK132.out 1; have hfz61_2 := blk_frozen BK132.out 2; have hnb62 := NB134_135.out; have hnc62 := NB135_134.out; have hcz63_0 : w59.cell? ⟨gb134, 0, none⟩ = some (.slice none 0 0) := (blk_cell BK134.out 0).trans rfl; have hcz63_1 : w59.cell? ⟨gb134, 1, none⟩ = some (.slice none 0 0) := (blk_cell BK134.out 1).trans rfl; have hcz63_2 : w59.cell? ⟨gb134, 2, none⟩ = some (.int .i64 0) := (blk_cell BK134.out 2).trans rfl; have hfz63_0 := blk_frozen BK134.out 0; have hfz63_1 := blk_frozen BK134.out 1; have hfz63_2 := blk_frozen BK134.out 2; have hcz64_0 : w59.cell? ⟨gb135, 0, none⟩ = some (.int .i64 0) := (blk_cell BK135.out 0).trans rfl; have hcz64_1 : w59.cell? ⟨gb135, 1, none⟩ = some (.bool false) := (blk_cell BK135.out 1).trans rfl; have hfz64_0 := blk_frozen BK135.out 0; have hfz64_1 := blk_frozen BK135.out 1))
                  refine bodyPost_ret (results_cc rfl _ _ gb134 gb135 41 44 #[.slice Ao6 l0_0.length co6, .slice Ao60 t140.length co60, .int .i64 (wrap64 (a0_2 + 1))] #[.int .i64 0, .bool true] (0, 0) (0, 0) _ _ rfl (by (with_reducible repeat (first | refine blk_drewN ?_ _ | refine blk_drew ?_ | refine blk_alloc ?_ _)); refine blk_far ?_ NB134_135.out _; (with_reducible repeat (first | refine blk_drewN ?_ _ | refine blk_drew ?_ | refine blk_alloc ?_ _)); refine blk_far ?_ NB134_135.out _; (with_reducible repeat (first | refine blk_drewN ?_ _ | refine blk_drew ?_ | refine blk_alloc ?_ _)); refine blk_put (cs := #[.slice Ao6 l0_0.length co6, .slice Ao60 t140.length co60, .int .i64 0]) ?_ 2 _ rfl; (with_reducible repeat (first | refine blk_drewN ?_ _ | refine blk_drew ?_ | refine blk_alloc ?_ _)); refine blk_put (cs := #[.slice Ao6 l0_0.length co6, .slice none 0 0, .int .i64 0]) ?_ 1 _ rfl; (with_reducible repeat (first | refine blk_drewN ?_ _ | refine blk_drew ?_ | refine blk_alloc ?_ _)); refine blk_put (cs := #[.slice none 0 0, .slice none 0 0, .int .i64 0]) ?_ 0 _ rfl; (with_reducible repeat (first | refine blk_drewN ?_ _ | refine blk_drew ?_ | refine blk_alloc ?_ _)); refine blk_far ?_ NB134_132.out _; (with_reducible repeat (first | refine blk_drewN ?_ _ | refine blk_drew ?_ | refine blk_alloc ?_ _)); exact BK134.out) Try.underlying41 rfl (by kernel_rfl) rfl (by (with_reducible repeat (first | refine blk_drewN ?_ _ | refine blk_drew ?_ | refine blk_alloc ?_ _)); refine blk_put (cs := #[.int .i64 0, .bool false]) ?_ 1 _ rfl; (with_reducible repeat (first | refine blk_drewN ?_ _ | refine blk_drew ?_ | refine blk_alloc ?_ _)); refine blk_put (cs := #[.int .i64 0, .bool false]) ?_ 0 _ rfl; (with_reducible repeat (first | refine blk_drewN ?_ _ | refine blk_drew ?_ | refine blk_alloc ?_ _)); refine blk_far ?_ NB135_134.out _; (with_reducible repeat (first | refine blk_drewN ?_ _ | refine blk_drew ?_ | refine blk_alloc ?_ _)); refine blk_far ?_ NB135_134.out _; (with_reducible repeat (first | refine blk_drewN ?_ _ | refine blk_drew ?_ | refine blk_alloc ?_ _)); refine blk_far ?_ NB135_134.out _; (with_reducible repeat (first | refine blk_drewN ?_ _ | refine blk_drew ?_ | refine blk_alloc ?_ _)); refine blk_far ?_ NB135_132.out _; (with_reducible repeat (first | refine blk_drewN ?_ _ | refine blk_drew ?_ | refine blk_alloc ?_ _)); exact BK135.out) Try.underlying44 rfl (by kernel_rfl)) rfl ?_
                  exact ⟨_, _, by first | rfl | (simp [errW_none, errW_some] <;> rfl) | (simp [*, errW_none, errW_some] <;> rfl), by (with_reducible repeat (first | apply Kd.R_alloc | apply Kd.R_drewN | apply Kd.R_drew)); exact Kd.R_mono (Kd.R_far (p := ⟨gb135, 1, none⟩) (Kd.R_far (p := ⟨gb135, 0, none⟩) (Kd.R_far (p := ⟨gb134, 2, none⟩) (Kd.R_far (p := ⟨gb134, 1, none⟩) (Kd.R_far (p := ⟨gb134, 0, none⟩) (Kd.R_far (p := ⟨gb132, 1, none⟩) (Kd.R_types (Kd.R_types (Kd.R_types HO_133000.out BK132.out (by decide)) BK134.out (by decide)) BK135.out (by decide)) (fun _ hk => hk.1.1.2) (.slice Ao60 t140.length co60)) (fun _ hk => hk.1.2) (.slice Ao6 l0_0.length co6)) (fun _ hk => hk.1.2) (.slice Ao60 t140.length co60)) (fun _ hk => hk.1.2) (.int .i64 (wrap64 (a0_2 + 1)))) (fun _ hk => hk.2) (.int .i64 0)) (fun _ hk => hk.2) (.bool true)) (fun _ hk => ⟨hk.1.1.1.1.1, hk.1.1.1.2⟩), by (with_reducible repeat (first | apply Kd.R_alloc | apply Kd.R_drewN | apply Kd.R_drew)); exact Kd.R_mono (Kd.R_far (p := ⟨gb135, 1, none⟩) (Kd.R_far (p := ⟨gb135, 0, none⟩) (Kd.R_far (p := ⟨gb134, 2, none⟩) (Kd.R_far (p := ⟨gb134, 1, none⟩) (Kd.R_far (p := ⟨gb134, 0, none⟩) (Kd.R_far (p := ⟨gb132, 1, none⟩) (Kd.R_types (Kd.R_types (Kd.R_types HO142.out BK132.out (by decide)) BK134.out (by decide)) BK135.out (by decide)) (fun _ hk => hk.1.1.2) (.slice Ao60 t140.length co60)) (fun _ hk => hk.1.2) (.slice Ao6 l0_0.length co6)) (fun _ hk => hk.1.2) (.slice Ao60 t140.length co60)) (fun _ hk => hk.1.2) (.int .i64 (wrap64 (a0_2 + 1)))) (fun _ hk => hk.2) (.int .i64 0)) (fun _ hk => hk.2) (.bool true)) (fun _ hk => ⟨hk.1.1.1.1.1.1, hk.1.1.1.1.2⟩), by repeat (first | (with_reducible first | exact HB.out | apply below_alloc | apply pw_below_drewN | apply below_drew1 | refine below_set ?_ GE132.out | refine below_set ?_ GE133.out | refine below_set ?_ GE134.out | refine below_set ?_ GE135.out) | exact HB.out), by repeat (first | (with_reducible first | exact HK.out | apply Kept.alloc | apply Kept.drewN | apply Kept.drew | refine Kept.setCell ?_ (.inr GW132.out) _ | refine Kept.setCell ?_ (.inr GW133.out) _ | refine Kept.setCell ?_ (.inr GW134.out) _ | refine Kept.setCell ?_ (.inr GW135.out) _) | exact HK.out)⟩
                · rw [if_neg c50] at H
                  have c50b0 : ((rd l0_1 a1_1) == a1_2) = false := beq_eq_false_iff_ne.mpr c50
                  have c50b1 : ((rd l0_1 a1_1) != a1_2) = true := bne_iff_ne.mpr c50
                  simp only [Option.some.injEq, Prod.mk.injEq] at H
                  obtain ⟨rfl, rfl, rfl, rfl, rfl⟩ := H
                  have hnb65 := NB133_132.out
                  have hnc65 := NB132_133.out
                  have hnb66 := NB133_134.out
                  have hnc66 := NB134_133.out
                  have hnb67 := NB133_135.out
                  have hnc67 := NB135_133.out
                  have hcz68_0 : wc.cell? ⟨gb133, 0, none⟩ = some (.int .i64 a1_0) := (blk_cell BK133.out 0).trans rfl
                  have hcz68_1 : wc.cell? ⟨gb133, 1, none⟩ = some (.int .i64 a1_1) := (blk_cell BK133.out 1).trans rfl
                  have hcz68_2 : wc.cell? ⟨gb133, 2, none⟩ = some (.int .i64 a1_2) := (blk_cell BK133.out 2).trans rfl
                  have hcz68_3 : wc.cell? ⟨gb133, 3, none⟩ = some (.int .i64 a1_3) := (blk_cell BK133.out 3).trans rfl
                  have hfz68_0 := blk_frozen BK133.out 0
                  have hfz68_1 := blk_frozen BK133.out 1
                  have hfz68_2 := blk_frozen BK133.out 2
                  have hfz68_3 := blk_frozen BK133.out 3
                  have hnb69 := NB132_134.out
                  have hnc69 := NB134_132.out
                  have hnb70 := NB132_135.out
                  have hnc70 := NB135_132.out
                  have hcz71_0 : wc.cell? ⟨gb132, 0, none⟩ = some (.slice Ao6 l0_0.length co6) := (blk_cell BK132.out 0).trans rfl
                  have hcz71_1 : wc.cell? ⟨gb132, 1, none⟩ = some (.slice (some ad136) l0_1.length co7) := (blk_cell BK132.out 1).trans rfl
                  have hcz71_2 : wc.cell? ⟨gb132, 2, none⟩ = some (.int .i64 (wrap64 (a0_2 + 1))) := (blk_cell BK132.out 2).trans rfl
                  have hfz71_0 := blk_frozen BK132.out 0
                  have hfz71_1 := blk_frozen BK132.out 1
                  have hfz71_2 := blk_frozen BK132.out 2
                  have hnb72 := NB134_135.out
                  have hnc72 := NB135_134.out
                  have hcz73_0 : wc.cell? ⟨gb134, 0, none⟩ = some (.slice none 0 0) := (blk_cell BK134.out 0).trans rfl
                  have hcz73_1 : wc.cell? ⟨gb134, 1, none⟩ = some (.slice none 0 0) := (blk_cell BK134.out 1).trans rfl
                  have hcz73_2 : wc.cell? ⟨gb134, 2, none⟩ = some (.int .i64 0) := (blk_cell BK134.out 2).trans rfl
                  have hfz73_0 := blk_frozen BK134.out 0
                  have hfz73_1 := blk_frozen BK134.out 1
                  have hfz73_2 := blk_frozen BK134.out 2
                  have hcz74_0 : wc.cell? ⟨gb135, 0, none⟩ = some (.int .i64 0) := (blk_cell BK135.out 0).trans rfl
                  have hcz74_1 : wc.cell? ⟨gb135, 1, none⟩ = some (.bool false) := (blk_cell BK135.out 1).trans rfl
                  have hfz74_0 := blk_frozen BK135.out 0
                  have hfz74_1 := blk_frozen BK135.out 1
                  go_wp2
                  refine bodyPost_ret (results_cc rfl _ _ gb134 gb135 41 44 #[.slice Ao6 l0_0.length co6, .slice (some ad136) l0_1.length co7, .int .i64 (wrap64 (a0_2 + 1))] #[.int .i64 0, .bool false] (0, 0) (0, 0) _ _ rfl (by (with_reducible repeat (first | refine blk_drewN ?_ _ | refine blk_drew ?_ | refine blk_alloc ?_ _)); refine blk_far ?_ NB134_135.out _; (with_reducible repeat (first | refine blk_drewN ?_ _ | refine blk_drew ?_ | refine blk_alloc ?_ _)); refine blk_far ?_ NB134_135.out _; (with_reducible repeat (first | refine blk_drewN ?_ _ | refine blk_drew ?_ | refine blk_alloc ?_ _)); refine blk_put (cs := #[.slice Ao6 l0_0.length co6, .slice (some ad136) l0_1.length co7, .int .i64 0]) ?_ 2 _ rfl; (with_reducible repeat (first | refine blk_drewN ?_ _ | refine blk_drew ?_ | refine blk_alloc ?_ _)); refine blk_put (cs := #[.slice Ao6 l0_0.length co6, .slice none 0 0, .int .i64 0]) ?_ 1 _ rfl; (with_reducible repeat (first | refine blk_drewN ?_ _ | refine blk_drew ?_ | refine blk_alloc ?_ _)); refine blk_put (cs := #[.slice none 0 0, .slice none 0 0, .int .i64 0]) ?_ 0 _ rfl; (with_reducible repeat (first | refine blk_drewN ?_ _ | refine blk_drew ?_ | refine blk_alloc ?_ _)); exact BK134.out) Try.underlying41 rfl (by kernel_rfl) rfl (by (with_reducible repeat (first | refine blk_drewN ?_ _ | refine blk_drew ?_ | refine blk_alloc ?_ _)); refine blk_put (cs := #[.int .i64 0, .bool false]) ?_ 1 _ rfl; (with_reducible repeat (first | refine blk_drewN ?_ _ | refine blk_drew ?_ | refine blk_alloc ?_ _)); refine blk_put (cs := #[.int .i64 0, .bool false]) ?_ 0 _ rfl; (with_reducible repeat (first | refine blk_drewN ?_ _ | refine blk_drew ?_ | refine blk_alloc ?_ _)); refine blk_far ?_ NB135_134.out _; (with_reducible repeat (first | refine blk_drewN ?_ _ | refine blk_drew ?_ | refine blk_alloc ?_ _)); refine blk_far ?_ NB135_134.out _; (with_reducible repeat (first | refine blk_drewN ?_ _ | refine blk_drew ?_ | refine blk_alloc ?_ _)); refine blk_far ?_ NB135_134.out _; (with_reducible repeat (first | refine blk_drewN ?_ _ | refine blk_drew ?_ | refine blk_alloc ?_ _)); exact BK135.out) Try.underlying44 rfl (by kernel_rfl)) rfl ?_
                  exact ⟨_, _, by first | rfl | (simp [errW_none, errW_some] <;> rfl) | (simp [*, errW_none, errW_some] <;> rfl), by (with_reducible repeat (first | apply Kd.R_alloc | apply Kd.R_drewN | apply Kd.R_drew)); exact Kd.R_mono (Kd.R_far (p := ⟨gb135, 1, none⟩) (Kd.R_far (p := ⟨gb135, 0, none⟩) (Kd.R_far (p := ⟨gb134, 2, none⟩) (Kd.R_far (p := ⟨gb134, 1, none⟩) (Kd.R_far (p := ⟨gb134, 0, none⟩) (Kd.R_types (Kd.R_types HO_133000.out BK134.out (by decide)) BK135.out (by decide)) (fun _ hk => hk.1.2) (.slice Ao6 l0_0.length co6)) (fun _ hk => hk.1.2) (.slice (some ad136) l0_1.length co7)) (fun _ hk => hk.1.2) (.int .i64 (wrap64 (a0_2 + 1)))) (fun _ hk => hk.2) (.int .i64 0)) (fun _ hk => hk.2) (.bool false)) (fun _ hk => ⟨hk.1.1.1, hk.1.1.2⟩), by (with_reducible repeat (first | apply Kd.R_alloc | apply Kd.R_drewN | apply Kd.R_drew)); exact Kd.R_mono (Kd.R_far (p := ⟨gb135, 1, none⟩) (Kd.R_far (p := ⟨gb135, 0, none⟩) (Kd.R_far (p := ⟨gb134, 2, none⟩) (Kd.R_far (p := ⟨gb134, 1, none⟩) (Kd.R_far (p := ⟨gb134, 0, none⟩) (Kd.R_types (Kd.R_types HO_133001.out BK134.out (by decide)) BK135.out (by decide)) (fun _ hk => hk.1.2) (.slice Ao6 l0_0.length co6)) (fun _ hk => hk.1.2) (.slice (some ad136) l0_1.length co7)) (fun _ hk => hk.1.2) (.int .i64 (wrap64 (a0_2 + 1)))) (fun _ hk => hk.2) (.int .i64 0)) (fun _ hk => hk.2) (.bool false)) (fun _ hk => ⟨hk.1.1.1, hk.1.1.2⟩), by repeat (first | (with_reducible first | exact HB.out | apply below_alloc | apply pw_below_drewN | apply below_drew1 | refine below_set ?_ GE132.out | refine below_set ?_ GE133.out | refine below_set ?_ GE134.out | refine below_set ?_ GE135.out) | exact HB.out), by repeat (first | (with_reducible first | exact HK.out | apply Kept.alloc | apply Kept.drewN | apply Kept.drew | refine Kept.setCell ?_ (.inr GW132.out) _ | refine Kept.setCell ?_ (.inr GW133.out) _ | refine Kept.setCell ?_ (.inr GW134.out) _ | refine Kept.setCell ?_ (.inr GW135.out) _) | exact HK.out)⟩
              · rw [if_neg c49] at H
                have c49b0 : decide (0 ≤ (rd l0_1 a1_1)) = false := decide_eq_false c49
                clear c49
                simp only [Option.some.injEq, Prod.mk.injEq] at H
                obtain ⟨rfl, rfl, rfl, rfl, rfl⟩ := H
                have hnb75 := NB133_132.out
                have hnc75 := NB132_133.out
                have hnb76 := NB133_134.out
                have hnc76 := NB134_133.out
                have hnb77 := NB133_135.out
                have hnc77 := NB135_133.out
                have hcz78_0 : wc.cell? ⟨gb133, 0, none⟩ = some (.int .i64 a1_0) := (blk_cell BK133.out 0).trans rfl
                have hcz78_1 : wc.cell? ⟨gb133, 1, none⟩ = some (.int .i64 a1_1) := (blk_cell BK133.out 1).trans rfl
                have hcz78_2 : wc.cell? ⟨gb133, 2, none⟩ = some (.int .i64 a1_2) := (blk_cell BK133.out 2).trans rfl
                have hcz78_3 : wc.cell? ⟨gb133, 3, none⟩ = some (.int .i64 a1_3) := (blk_cell BK133.out 3).trans rfl
                have hfz78_0 := blk_frozen BK133.out 0
                have hfz78_1 := blk_frozen BK133.out 1
                have hfz78_2 := blk_frozen BK133.out 2
                have hfz78_3 := blk_frozen BK133.out 3
                have hnb79 := NB132_134.out
                have hnc79 := NB134_132.out
                have hnb80 := NB132_135.out
                have hnc80 := NB135_132.out
                have hcz81_0 : wc.cell? ⟨gb132, 0, none⟩ = some (.slice Ao6 l0_0.length co6) := (blk_cell BK132.out 0).trans rfl
                have hcz81_1 : wc.cell? ⟨gb132, 1, none⟩ = some (.slice (some ad136) l0_1.length co7) := (blk_cell BK132.out 1).trans rfl
                have hcz81_2 : wc.cell? ⟨gb132, 2, none⟩ = some (.int .i64 (wrap64 (a0_2 + 1))) := (blk_cell BK132.out 2).trans rfl
                have hfz81_0 := blk_frozen BK132.out 0
                have hfz81_1 := blk_frozen BK132.out 1
                have hfz81_2 := blk_frozen BK132.out 2
                have hnb82 := NB134_135.out
                have hnc82 := NB135_134.out
                have hcz83_0 : wc.cell? ⟨gb134, 0, none⟩ = some (.slice none 0 0) := (blk_cell BK134.out 0).trans rfl
                have hcz83_1 : wc.cell? ⟨gb134, 1, none⟩ = some (.slice none 0 0) := (blk_cell BK134.out 1).trans rfl
                have hcz83_2 : wc.cell? ⟨gb134, 2, none⟩ = some (.int .i64 0) := (blk_cell BK134.out 2).trans rfl
                have hfz83_0 := blk_frozen BK134.out 0
                have hfz83_1 := blk_frozen BK134.out 1
                have hfz83_2 := blk_frozen BK134.out 2
                have hcz84_0 : wc.cell? ⟨gb135, 0, none⟩ = some (.int .i64 0) := (blk_cell BK135.out 0).trans rfl
                have hcz84_1 : wc.cell? ⟨gb135, 1, none⟩ = some (.bool false) := (blk_cell BK135.out 1).trans rfl
                have hfz84_0 := blk_frozen BK135.out 0
                have hfz84_1 := blk_frozen BK135.out 1
                go_wp2
                refine bodyPost_ret (results_cc rfl _ _ gb134 gb135 41 44 #[.slice Ao6 l0_0.length co6, .slice (some ad136) l0_1.length co7, .int .i64 (wrap64 (a0_2 + 1))] #[.int .i64 0, .bool false] (0, 0) (0, 0) _ _ rfl (by (with_reducible repeat (first | refine blk_drewN ?_ _ | refine blk_drew ?_ | refine blk_alloc ?_ _)); refine blk_far ?_ NB134_135.out _; (with_reducible repeat (first | refine blk_drewN ?_ _ | refine blk_drew ?_ | refine blk_alloc ?_ _)); refine blk_far ?_ NB134_135.out _; (with_reducible repeat (first | refine blk_drewN ?_ _ | refine blk_drew ?_ | refine blk_alloc ?_ _)); refine blk_put (cs := #[.slice Ao6 l0_0.length co6, .slice (some ad136) l0_1.length co7, .int .i64 0]) ?_ 2 _ rfl; (with_reducible repeat (first | refine blk_drewN ?_ _ | refine blk_drew ?_ | refine blk_alloc ?_ _)); refine blk_put (cs := #[.slice Ao6 l0_0.length co6, .slice none 0 0, .int .i64 0]) ?_ 1 _ rfl; (with_reducible repeat (first | refine blk_drewN ?_ _ | refine blk_drew ?_ | refine blk_alloc ?_ _)); refine blk_put (cs := #[.slice none 0 0, .slice none 0 0, .int .i64 0]) ?_ 0 _ rfl; (with_reducible repeat (first | refine blk_drewN ?_ _ | refine blk_drew ?_ | refine blk_alloc ?_ _)); exact BK134.out) Try.underlying41 rfl (by kernel_rfl) rfl (by (with_reducible repeat (first | refine blk_drewN ?_ _ | refine blk_drew ?_ | refine blk_alloc ?_ _)); refine blk_put (cs := #[.int .i64 0, .bool false]) ?_ 1 _ rfl; (with_reducible repeat (first | refine blk_drewN ?_ _ | refine blk_drew ?_ | refine blk_alloc ?_ _)); refine blk_put (cs := #[.int .i64 0, .bool false]) ?_ 0 _ rfl; (with_reducible repeat (first | refine blk_drewN ?_ _ | refine blk_drew ?_ | refine blk_alloc ?_ _)); refine blk_far ?_ NB135_134.out _; (with_reducible repeat (first | refine blk_drewN ?_ _ | refine blk_drew ?_ | refine blk_alloc ?_ _)); refine blk_far ?_ NB135_134.out _; (with_reducible repeat (first | refine blk_drewN ?_ _ | refine blk_drew ?_ | refine blk_alloc ?_ _)); refine blk_far ?_ NB135_134.out _; (with_reducible repeat (first | refine blk_drewN ?_ _ | refine blk_drew ?_ | refine blk_alloc ?_ _)); exact BK135.out) Try.underlying44 rfl (by kernel_rfl)) rfl ?_
                exact ⟨_, _, by first | rfl | (simp [errW_none, errW_some] <;> rfl) | (simp [*, errW_none, errW_some] <;> rfl), by (with_reducible repeat (first | apply Kd.R_alloc | apply Kd.R_drewN | apply Kd.R_drew)); exact Kd.R_mono (Kd.R_far (p := ⟨gb135, 1, none⟩) (Kd.R_far (p := ⟨gb135, 0, none⟩) (Kd.R_far (p := ⟨gb134, 2, none⟩) (Kd.R_far (p := ⟨gb134, 1, none⟩) (Kd.R_far (p := ⟨gb134, 0, none⟩) (Kd.R_types (Kd.R_types HO_133000.out BK134.out (by decide)) BK135.out (by decide)) (fun _ hk => hk.1.2) (.slice Ao6 l0_0.length co6)) (fun _ hk => hk.1.2) (.slice (some ad136) l0_1.length co7)) (fun _ hk => hk.1.2) (.int .i64 (wrap64 (a0_2 + 1)))) (fun _ hk => hk.2) (.int .i64 0)) (fun _ hk => hk.2) (.bool false)) (fun _ hk => ⟨hk.1.1.1, hk.1.1.2⟩), by (with_reducible repeat (first | apply Kd.R_alloc | apply Kd.R_drewN | apply Kd.R_drew)); exact Kd.R_mono (Kd.R_far (p := ⟨gb135, 1, none⟩) (Kd.R_far (p := ⟨gb135, 0, none⟩) (Kd.R_far (p := ⟨gb134, 2, none⟩) (Kd.R_far (p := ⟨gb134, 1, none⟩) (Kd.R_far (p := ⟨gb134, 0, none⟩) (Kd.R_types (Kd.R_types HO_133001.out BK134.out (by decide)) BK135.out (by decide)) (fun _ hk => hk.1.2) (.slice Ao6 l0_0.length co6)) (fun _ hk => hk.1.2) (.slice (some ad136) l0_1.length co7)) (fun _ hk => hk.1.2) (.int .i64 (wrap64 (a0_2 + 1)))) (fun _ hk => hk.2) (.int .i64 0)) (fun _ hk => hk.2) (.bool false)) (fun _ hk => ⟨hk.1.1.1, hk.1.1.2⟩), by repeat (first | (with_reducible first | exact HB.out | apply below_alloc | apply pw_below_drewN | apply below_drew1 | refine below_set ?_ GE132.out | refine below_set ?_ GE133.out | refine below_set ?_ GE134.out | refine below_set ?_ GE135.out) | exact HB.out), by repeat (first | (with_reducible first | exact HK.out | apply Kept.alloc | apply Kept.drewN | apply Kept.drew | refine Kept.setCell ?_ (.inr GW132.out) _ | refine Kept.setCell ?_ (.inr GW133.out) _ | refine Kept.setCell ?_ (.inr GW134.out) _ | refine Kept.setCell ?_ (.inr GW135.out) _) | exact HK.out)⟩
            · rw [if_neg c48] at H
              have c48b0 : (a1_0 == 5) = false := beq_eq_false_iff_ne.mpr c48
              have c48b1 : (a1_0 != 5) = true := bne_iff_ne.mpr c48
              simp only [Option.some.injEq, Prod.mk.injEq] at H
              obtain ⟨rfl, rfl, rfl, rfl, rfl⟩ := H
              have hnb85 := NB133_132.out
              have hnc85 := NB132_133.out
              have hnb86 := NB133_134.out
              have hnc86 := NB134_133.out
              have hnb87 := NB133_135.out
              have hnc87 := NB135_133.out
              have hcz88_0 : wc.cell? ⟨gb133, 0, none⟩ = some (.int .i64 a1_0) := (blk_cell BK133.out 0).trans rfl
              have hcz88_1 : wc.cell? ⟨gb133, 1, none⟩ = some (.int .i64 a1_1) := (blk_cell BK133.out 1).trans rfl
              have hcz88_2 : wc.cell? ⟨gb133, 2, none⟩ = some (.int .i64 a1_2) := (blk_cell BK133.out 2).trans rfl
              have hcz88_3 : wc.cell? ⟨gb133, 3, none⟩ = some (.int .i64 a1_3) := (blk_cell BK133.out 3).trans rfl
              have hfz88_0 := blk_frozen BK133.out 0
              have hfz88_1 := blk_frozen BK133.out 1
              have hfz88_2 := blk_frozen BK133.out 2
              have hfz88_3 := blk_frozen BK133.out 3
              have hnb89 := NB132_134.out
              have hnc89 := NB134_132.out
              have hnb90 := NB132_135.out
              have hnc90 := NB135_132.out
              have hcz91_0 : wc.cell? ⟨gb132, 0, none⟩ = some (.slice Ao6 l0_0.length co6) := (blk_cell BK132.out 0).trans rfl
              have hcz91_1 : wc.cell? ⟨gb132, 1, none⟩ = some (.slice (some ad136) l0_1.length co7) := (blk_cell BK132.out 1).trans rfl
              have hcz91_2 : wc.cell? ⟨gb132, 2, none⟩ = some (.int .i64 (wrap64 (a0_2 + 1))) := (blk_cell BK132.out 2).trans rfl
              have hfz91_0 := blk_frozen BK132.out 0
              have hfz91_1 := blk_frozen BK132.out 1
              have hfz91_2 := blk_frozen BK132.out 2
              have hnb92 := NB134_135.out
              have hnc92 := NB135_134.out
              have hcz93_0 : wc.cell? ⟨gb134, 0, none⟩ = some (.slice none 0 0) := (blk_cell BK134.out 0).trans rfl
              have hcz93_1 : wc.cell? ⟨gb134, 1, none⟩ = some (.slice none 0 0) := (blk_cell BK134.out 1).trans rfl
              have hcz93_2 : wc.cell? ⟨gb134, 2, none⟩ = some (.int .i64 0) := (blk_cell BK134.out 2).trans rfl
              have hfz93_0 := blk_frozen BK134.out 0
              have hfz93_1 := blk_frozen BK134.out 1
              have hfz93_2 := blk_frozen BK134.out 2
              have hcz94_0 : wc.cell? ⟨gb135, 0, none⟩ = some (.int .i64 0) := (blk_cell BK135.out 0).trans rfl
              have hcz94_1 : wc.cell? ⟨gb135, 1, none⟩ = some (.bool false) := (blk_cell BK135.out 1).trans rfl
              have hfz94_0 := blk_frozen BK135.out 0
              have hfz94_1 := blk_frozen BK135.out 1
              go_wp2
              refine bodyPost_ret (results_cc rfl _ _ gb134 gb135 41 44 #[.slice Ao6 l0_0.length co6, .slice (some ad136) l0_1.length co7, .int .i64 (wrap64 (a0_2 + 1))] #[.int .i64 0, .bool false] (0, 0) (0, 0) _ _ rfl (by (with_reducible repeat (first | refine blk_drewN ?_ _ | refine blk_drew ?_ | refine blk_alloc ?_ _)); refine blk_far ?_ NB134_135.out _; (with_reducible repeat (first | refine blk_drewN ?_ _ | refine blk_drew ?_ | refine blk_alloc ?_ _)); refine blk_far ?_ NB134_135.out _; (with_reducible repeat (first | refine blk_drewN ?_ _ | refine blk_drew ?_ | refine blk_alloc ?_ _)); refine blk_put (cs := #[.slice Ao6 l0_0.length co6, .slice (some ad136) l0_1.length co7, .int .i64 0]) ?_ 2 _ rfl; (with_reducible repeat (first | refine blk_drewN ?_ _ | refine blk_drew ?_ | refine blk_alloc ?_ _)); refine blk_put (cs := #[.slice Ao6 l0_0.length co6, .slice none 0 0, .int .i64 0]) ?_ 1 _ rfl; (with_reducible repeat (first | refine blk_drewN ?_ _ | refine blk_drew ?_ | refine blk_alloc ?_ _)); refine blk_put (cs := #[.slice none 0 0, .slice none 0 0, .int .i64 0]) ?_ 0 _ rfl; (with_reducible repeat (first | refine blk_drewN ?_ _ | refine blk_drew ?_ | refine blk_alloc ?_ _)); exact BK134.out) Try.underlying41 rfl (by kernel_rfl) rfl (by (with_reducible repeat (first | refine blk_drewN ?_ _ | refine blk_drew ?_ | refine blk_alloc ?_ _)); refine blk_put (cs := #[.int .i64 0, .bool false]) ?_ 1 _ rfl; (with_reducible repeat (first | refine blk_drewN ?_ _ | refine blk_drew ?_ | refine blk_alloc ?_ _)); refine blk_put (cs := #[.int .i64 0, .bool false]) ?_ 0 _ rfl; (with_reducible repeat (first | refine blk_drewN ?_ _ | refine blk_drew ?_ | refine blk_alloc ?_ _)); refine blk_far ?_ NB135_134.out _; (with_reducible repeat (first | refine blk_drewN ?_ _ | refine blk_drew ?_ | refine blk_alloc ?_ _)); refine blk_far ?_ NB135_134.out _; (with_reducible repeat (first | refine blk_drewN ?_ _ | refine blk_drew ?_ | refine blk_alloc ?_ _)); refine blk_far ?_ NB135_134.out _; (with_reducible repeat (first | refine blk_drewN ?_ _ | refine blk_drew ?_ | refine blk_alloc ?_ _)); exact BK135.out) Try.underlying44 rfl (by kernel_rfl)) rfl ?_
              exact ⟨_, _, by first | rfl | (simp [errW_none, errW_some] <;> rfl) | (simp [*, errW_none, errW_some] <;> rfl), by (with_reducible repeat (first | apply Kd.R_alloc | apply Kd.R_drewN | apply Kd.R_drew)); exact Kd.R_mono (Kd.R_far (p := ⟨gb135, 1, none⟩) (Kd.R_far (p := ⟨gb135, 0, none⟩) (Kd.R_far (p := ⟨gb134, 2, none⟩) (Kd.R_far (p := ⟨gb134, 1, none⟩) (Kd.R_far (p := ⟨gb134, 0, none⟩) (Kd.R_types (Kd.R_types HO_133000.out BK134.out (by decide)) BK135.out (by decide)) (fun _ hk => hk.1.2) (.slice Ao6 l0_0.length co6)) (fun _ hk => hk.1.2) (.slice (some ad136) l0_1.length co7)) (fun _ hk => hk.1.2) (.int .i64 (wrap64 (a0_2 + 1)))) (fun _ hk => hk.2) (.int .i64 0)) (fun _ hk => hk.2) (.bool false)) (fun _ hk => ⟨hk.1.1.1, hk.1.1.2⟩), by (with_reducible repeat (first | apply Kd.R_alloc | apply Kd.R_drewN | apply Kd.R_drew)); exact Kd.R_mono (Kd.R_far (p := ⟨gb135, 1, none⟩) (Kd.R_far (p := ⟨gb135, 0, none⟩) (Kd.R_far (p := ⟨gb134, 2, none⟩) (Kd.R_far (p := ⟨gb134, 1, none⟩) (Kd.R_far (p := ⟨gb134, 0, none⟩) (Kd.R_types (Kd.R_types HO_133001.out BK134.out (by decide)) BK135.out (by decide)) (fun _ hk => hk.1.2) (.slice Ao6 l0_0.length co6)) (fun _ hk => hk.1.2) (.slice (some ad136) l0_1.length co7)) (fun _ hk => hk.1.2) (.int .i64 (wrap64 (a0_2 + 1)))) (fun _ hk => hk.2) (.int .i64 0)) (fun _ hk => hk.2) (.bool false)) (fun _ hk => ⟨hk.1.1.1, hk.1.1.2⟩), by repeat (first | (with_reducible first | exact HB.out | apply below_alloc | apply pw_below_drewN | apply below_drew1 | refine below_set ?_ GE132.out | refine below_set ?_ GE133.out | refine below_set ?_ GE134.out | refine below_set ?_ GE135.out) | exact HB.out), by repeat (first | (with_reducible first | exact HK.out | apply Kept.alloc | apply Kept.drewN | apply Kept.drew | refine Kept.setCell ?_ (.inr GW132.out) _ | refine Kept.setCell ?_ (.inr GW133.out) _ | refine Kept.setCell ?_ (.inr GW134.out) _ | refine Kept.setCell ?_ (.inr GW135.out) _) | exact HK.out)⟩
    · rw [if_neg c4] at H
      exact absurd H (by simp)
  · rw [if_neg c3] at H
    exact absurd H (by simp)

end Go.Proofs.Ythecbaeemmejpaa.P
