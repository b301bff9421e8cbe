/- Each Go function that the laws reach, as a plain function, with the proof that the machine's call comes to what it says; of a law: its row. Made by a program of this seat (wip/hp.py, over the print). -/
import Derived.Test.YthdkkmeiihbafaaPx0
import Derived.Test.YthdkkmeiihbafaaPx1
import Derived.Test.YthdkkmeiihbafaaPx2
import Derived.Test.YthdkkmeiihbafaaPx7
import Derived.Test.YthdkkmeiihbafaaPx10
namespace Go.Proofs.Ythdkkmeiihbafaa.P
open Go.RowKit Go.Proofs.YthdkkmeiihbafaaW.PrintWords Go.Proofs.YthdkkmeiihbafaaW.PrintLast Go.Proofs.YthdkkmeiihbafaaW.PrintMore
attribute [local go_sem] max2_int min2_int max_two min_two max_three min_three max_four min_four   -- for this text's walks alone
set_option linter.unusedVariables false
set_option linter.unusedSimpArgs false

attribute [local go_sem high] eqA31
/-! ### gangplanklaw13_SweepKeeps: function 19 -/
mutual
def gangplanklaw13_SweepKeeps.j0 : Nat → List (S31) → Int → Int → Int → ByteArray → Bool → Bool → Option (Bool)
  | 0, _, _, _, _, _, _, _ => none
  | k + 1, x0, x1, x2, x3, x4, x11, x32 => if x32 = true then (some x11) else ((sweep_Step.f x0 x1 x2 x3).bind fun bt262 => ((probe_Find.f x0 x4).bind fun t267 => ((probe_Find.f bt262.1 x4).bind fun t268 => (if t267 ≥ (x0.length : Int) then (gangplanklaw13_SweepKeeps.j1 k x0 x3 x11 bt262.1 bt262.2.2 t267 t268 true) else (if t268 ≥ (bt262.1.length : Int) then (gangplanklaw13_SweepKeeps.j1 k x0 x3 x11 bt262.1 bt262.2.2 t267 t268 true) else (if (bt262.1.length : Int) = (x0.length : Int) then (if bt262.2.2 < 0 then (gangplanklaw13_SweepKeeps.j1 k x0 x3 x11 bt262.1 bt262.2.2 t267 t268 true) else (if bt262.2.1 < 0 then (gangplanklaw13_SweepKeeps.j1 k x0 x3 x11 bt262.1 bt262.2.2 t267 t268 true) else (if bt262.2.1 > (mx (wrap64 ((x0.length : Int) - 1)) 0) then (gangplanklaw13_SweepKeeps.j1 k x0 x3 x11 bt262.1 bt262.2.2 t267 t268 true) else ((flows_Right.f bt262.1).bind fun t269 => (if t269 = true then ((probe_Count.f bt262.1 1).bind fun t270 => ((probe_Count.f x0 1).bind fun t271 => (gangplanklaw13_SweepKeeps.j1 k x0 x3 x11 bt262.1 bt262.2.2 t267 t268 (t270 != (wrap64 (t271 - bt262.2.2)))))) else (gangplanklaw13_SweepKeeps.j1 k x0 x3 x11 bt262.1 bt262.2.2 t267 t268 true)))))) else (gangplanklaw13_SweepKeeps.j1 k x0 x3 x11 bt262.1 bt262.2.2 t267 t268 true)))))))
def gangplanklaw13_SweepKeeps.j1 : Nat → List (S31) → Int → Bool → List (S31) → Int → Int → Int → Bool → Option (Bool)
  | 0, _, _, _, _, _, _, _, _ => none
  | k + 1, x0, x3, x11, x12, x14, x15, x16, x95 => if x95 = true then (some false) else (if x15 < 0 then (if x11 = true then (some (decide (x16 < 0))) else (some false)) else (if x16 ≥ 0 then (if x11 = true then (if 0 ≤ x16 then (if x16 < (x12.length : Int) then (if 0 ≤ x15 then (if x15 < (x0.length : Int) then (some (((rd_T31 x12 x16).f0) == ((rd_T31 x0 x15).f0) && ((((rd_T31 x12 x16).f1).toList) == (((rd_T31 x0 x15).f1).toList) && (((rd_T31 x12 x16).f2) == ((rd_T31 x0 x15).f2) && (((rd_T31 x12 x16).f3) == ((rd_T31 x0 x15).f3)))))) else (none)) else (none)) else (none)) else (none)) else (some false)) else (if x11 = true then (if 0 ≤ x15 then (if x15 < (x0.length : Int) then ((sweep_Due.f ((rd_T31 x0 x15).f0) ((rd_T31 x0 x15).f1) ((rd_T31 x0 x15).f2) ((rd_T31 x0 x15).f3) x3).bind fun t275 => (if t275 = true then (some (decide (x14 > 0))) else (some false))) else (none)) else (none)) else (some false))))
end
def gangplanklaw13_SweepKeeps.f (k : Nat) (l0 : List (S31)) (a1 : Int) (a2 : Int) (a3 : Int) (a4 : ByteArray) : Option (Bool) := (gangplanklaw13_works.f k).bind fun t259 => (if t259 = true then ((gangplanklaw13_few.f k l0).bind fun t260 => (if t260 = true then (if (a4.size : Int) > 60 then (gangplanklaw13_SweepKeeps.j0 k l0 a1 a2 a3 a4 t259 true) else ((flows_Right.f l0).bind fun t261 => (gangplanklaw13_SweepKeeps.j0 k l0 a1 a2 a3 a4 t259 (!t261)))) else (gangplanklaw13_SweepKeeps.j0 k l0 a1 a2 a3 a4 t259 true))) else (some false))
theorem gangplanklaw13_SweepKeeps.mono_l : ∀ k, (∀ y0 y1 y2 y3 y4 y5 y6, LeO (gangplanklaw13_SweepKeeps.j0 k y0 y1 y2 y3 y4 y5 y6) (gangplanklaw13_SweepKeeps.j0 (k + 1) y0 y1 y2 y3 y4 y5 y6)) ∧ (∀ y0 y1 y2 y3 y4 y5 y6 y7, LeO (gangplanklaw13_SweepKeeps.j1 k y0 y1 y2 y3 y4 y5 y6 y7) (gangplanklaw13_SweepKeeps.j1 (k + 1) y0 y1 y2 y3 y4 y5 y6 y7))
  | 0 => ⟨fun _ _ _ _ _ _ _ r h => by simp [gangplanklaw13_SweepKeeps.j0] at h, fun _ _ _ _ _ _ _ _ r h => by simp [gangplanklaw13_SweepKeeps.j1] at h⟩
  | k + 1 => by
    obtain ⟨ih0, ih1⟩ := gangplanklaw13_SweepKeeps.mono_l k
    refine ⟨?_, ?_⟩
    · intro y0 y1 y2 y3 y4 y5 y6
      unfold gangplanklaw13_SweepKeeps.j0
      repeat' first
      | (with_reducible exact ih0 _ _ _ _ _ _ _)
      | (with_reducible exact ih1 _ _ _ _ _ _ _ _)
      | (with_reducible exact gangplanklaw13_few.mono _ _)
      | (with_reducible exact gangplanklaw13_works.mono _)
      | (with_reducible exact LeO.refl _)
      | (with_reducible exact LeO.none _)
      | (with_reducible refine LeO.ite ?_ ?_)
      | (with_reducible refine LeO.bind ?_ (fun _ => ?_))
      | exact ih0 _ _ _ _ _ _ _
      | exact ih1 _ _ _ _ _ _ _ _
      | exact gangplanklaw13_few.mono _ _
      | exact gangplanklaw13_works.mono _
      | exact LeO.none _
      | refine LeO.ite ?_ ?_
      | refine LeO.bind ?_ (fun _ => ?_)
    · intro y0 y1 y2 y3 y4 y5 y6 y7
      unfold gangplanklaw13_SweepKeeps.j1
      repeat' first
      | (with_reducible exact ih0 _ _ _ _ _ _ _)
      | (with_reducible exact ih1 _ _ _ _ _ _ _ _)
      | (with_reducible exact gangplanklaw13_few.mono _ _)
      | (with_reducible exact gangplanklaw13_works.mono _)
      | (with_reducible exact LeO.refl _)
      | (with_reducible exact LeO.none _)
      | (with_reducible refine LeO.ite ?_ ?_)
      | (with_reducible refine LeO.bind ?_ (fun _ => ?_))
      | exact ih0 _ _ _ _ _ _ _
      | exact ih1 _ _ _ _ _ _ _ _
      | exact gangplanklaw13_few.mono _ _
      | exact gangplanklaw13_works.mono _
      | exact LeO.none _
      | refine LeO.ite ?_ ?_
      | refine LeO.bind ?_ (fun _ => ?_)
theorem gangplanklaw13_SweepKeeps.mono : ∀ a0 a1 a2 a3 a4 k, LeO (gangplanklaw13_SweepKeeps.f k a0 a1 a2 a3 a4) (gangplanklaw13_SweepKeeps.f (k + 1) a0 a1 a2 a3 a4) := by
  intro a0 a1 a2 a3 a4 k
  obtain ⟨ih0, ih1⟩ := gangplanklaw13_SweepKeeps.mono_l k
  unfold gangplanklaw13_SweepKeeps.f
  repeat' first
      | (with_reducible exact ih0 _ _ _ _ _ _ _)
      | (with_reducible exact ih1 _ _ _ _ _ _ _ _)
      | (with_reducible exact gangplanklaw13_few.mono _ _)
      | (with_reducible exact gangplanklaw13_works.mono _)
      | (with_reducible exact LeO.refl _)
      | (with_reducible exact LeO.none _)
      | (with_reducible refine LeO.ite ?_ ?_)
      | (with_reducible refine LeO.bind ?_ (fun _ => ?_))
      | exact ih0 _ _ _ _ _ _ _
      | exact ih1 _ _ _ _ _ _ _ _
      | exact gangplanklaw13_few.mono _ _
      | exact gangplanklaw13_works.mono _
      | exact LeO.none _
      | refine LeO.ite ?_ ?_
      | refine LeO.bind ?_ (fun _ => ?_)
set_option maxHeartbeats 8000000 in
set_option maxRecDepth 100000 in
theorem gangplanklaw13_SweepKeeps.calls (k : Nat) (A0 : Option Addr) (c0 : Nat) (l0 : List (S31)) (a1 : Int) (a2 : Int) (a3 : Int) (a4 : ByteArray) (r : Bool) (w : World) (hr0 : Kd.C k31 w A0 l0.length l0) (hc0 : l0.length ≤ c0) (h : gangplanklaw13_SweepKeeps.f k l0 a1 a2 a3 a4 = some r) :
    Calls Try.prog 19 #[.slice A0 l0.length c0, .int .i64 a1, .int .i64 a2, .int .i64 a3, .string a4] w fun e w' => e = .returned (.bool r) ∧ Below w.heap.size w w' := by
  have hu31 := Try.underlying31
  have HR0 := Aside0.mk hr0
  have HC0 := Aside0.mk hc0
  clear hr0 hc0
  have HB := Aside0.mk (Below.refl w.heap.size w)
  have H : ((gangplanklaw13_works.f k).bind fun t259 => (if t259 = true then ((gangplanklaw13_few.f k l0).bind fun t260 => (if t260 = true then (if (a4.size : Int) > 60 then (gangplanklaw13_SweepKeeps.j0 k l0 a1 a2 a3 a4 t259 true) else ((flows_Right.f l0).bind fun t261 => (gangplanklaw13_SweepKeeps.j0 k l0 a1 a2 a3 a4 t259 (!t261)))) else (gangplanklaw13_SweepKeeps.j0 k l0 a1 a2 a3 a4 t259 true))) else (some false))) = some r := h
  clear h
  replace H := Option.bind_eq_some_iff.mp H
  obtain ⟨t259, A60, H⟩ := H
  replace H : (if t259 = true then ((gangplanklaw13_few.f k l0).bind fun t260 => (if t260 = true then (if (a4.size : Int) > 60 then (gangplanklaw13_SweepKeeps.j0 k l0 a1 a2 a3 a4 t259 true) else ((flows_Right.f l0).bind fun t261 => (gangplanklaw13_SweepKeeps.j0 k l0 a1 a2 a3 a4 t259 (!t261)))) else (gangplanklaw13_SweepKeeps.j0 k l0 a1 a2 a3 a4 t259 true))) else (some false)) = some r := H
  have A6 := Aside0.mk A60
  clear A60
  by_cases c7 : t259 = true
  · subst c7
    have H1 : ((gangplanklaw13_few.f k l0).bind fun t260 => (if t260 = true then (if (a4.size : Int) > 60 then (gangplanklaw13_SweepKeeps.j0 k l0 a1 a2 a3 a4 true true) else ((flows_Right.f l0).bind fun t261 => (gangplanklaw13_SweepKeeps.j0 k l0 a1 a2 a3 a4 true (!t261)))) else (gangplanklaw13_SweepKeeps.j0 k l0 a1 a2 a3 a4 true true))) = some r := by first | (rw [if_pos rfl] at H; exact H) | (rw [if_pos trivial] at H; exact H)
    clear H
    have H := H1
    clear H1
    have HC8 := Aside0.mk H
    clear H
    go_enter Try.func19, Try.ntmps19
    go_upto_region 4 with (first | (go_at_call 50; (with_reducible refine (gangplanklaw13_works.calls k  true _ A6.out).mono ?_); (try clear A6); rintro e w9 ⟨rfl, hb⟩; have n0_ := Aside0.mk (below_step (by repeat (first | (with_reducible first | exact HB.out | apply below_alloc | apply pw_below_drewN | apply below_drew1) | exact HB.out)) hb); clear HB; have HB := n0_; clear n0_; (try clear hb); (try clear hb2); (try clear hk); (try clear hi)))
    repeat (go_quiet (first | (go_at_call 50; (with_reducible refine (gangplanklaw13_works.calls k  true _ A6.out).mono ?_); (try clear A6); rintro e w9 ⟨rfl, hb⟩; have n0_ := Aside0.mk (below_step (by repeat (first | (with_reducible first | exact HB.out | apply below_alloc | apply pw_below_drewN | apply below_drew1) | exact HB.out)) hb); clear HB; have HB := n0_; clear n0_; (try clear hb); (try clear hb2); (try clear hk); (try clear hi))); go_upto_region 4 with (first | (go_at_call 50; (with_reducible refine (gangplanklaw13_works.calls k  true _ A6.out).mono ?_); (try clear A6); rintro e w9 ⟨rfl, hb⟩; have n0_ := Aside0.mk (below_step (by repeat (first | (with_reducible first | exact HB.out | apply below_alloc | apply pw_below_drewN | apply below_drew1) | exact HB.out)) hb); clear HB; have HB := n0_; clear n0_; (try clear hb); (try clear hb2); (try clear hk); (try clear hi))))
    (try simp only [Act.put, List.setIfInBounds_toArray, List.set_cons_zero, List.set_cons_succ])
    go_cut [32] (fun v32 wc => ∃ (kq : Nat) (x32_7 : Bool), v32 = .bool x32_7 ∧ Aside0 (gangplanklaw13_SweepKeeps.j0 kq l0 a1 a2 a3 a4 true x32_7 = some r) ∧ Aside0 (kq ≤ k) ∧ Aside0 (Below w.heap.size w wc))
    case first =>
      have H := HC8.out
      clear HC8
      replace H := Option.bind_eq_some_iff.mp H
      obtain ⟨t260, A100, H⟩ := H
      replace H : (if t260 = true then (if (a4.size : Int) > 60 then (gangplanklaw13_SweepKeeps.j0 k l0 a1 a2 a3 a4 true true) else ((flows_Right.f l0).bind fun t261 => (gangplanklaw13_SweepKeeps.j0 k l0 a1 a2 a3 a4 true (!t261)))) else (gangplanklaw13_SweepKeeps.j0 k l0 a1 a2 a3 a4 true true)) = some r := H
      have A10 := Aside0.mk A100
      clear A100
      by_cases c11 : t260 = true
      · subst c11
        have H1 : (if (a4.size : Int) > 60 then (gangplanklaw13_SweepKeeps.j0 k l0 a1 a2 a3 a4 true true) else ((flows_Right.f l0).bind fun t261 => (gangplanklaw13_SweepKeeps.j0 k l0 a1 a2 a3 a4 true (!t261)))) = some r := by first | (rw [if_pos rfl] at H; exact H) | (rw [if_pos trivial] at H; exact H)
        clear H
        have H := H1
        clear H1
        by_cases c12 : (a4.size : Int) > 60
        · rw [if_pos c12] at H
          have c12b0 : decide (60 < (a4.size : Int)) = true := decide_eq_true c12
          have c12b1 : decide (60 < a4.size) = true := decide_eq_true (by omega)
          clear c12
          (first | rw [c12b0] | (simp only [i64_w, i32_w]; rw [c12b0]) | skip)
          have H' := Aside0.mk H
          clear H
          go_wp2_with (first | (go_at_call 51; (with_reducible refine (gangplanklaw13_few.calls k _ _ l0 true _ ?side1 ?side2 A10.out).mono ?_); (case side1 => repeat (first | exact (Kd.C_below HR0.out HB.out) | (with_reducible refine Kd.C_alloc ?_ _) | (with_reducible refine Kd.C_drewN ?_ _) | (with_reducible refine Kd.C_drew ?_))); (case side2 => exact HC0.out); (try clear A10); rintro e w' ⟨rfl, ⟨nd, rfl⟩⟩; (try first | exact ⟨rfl, _, World.drewN_drewN _ _ _⟩ | exact ⟨rfl, _, Eq.trans (World.drewN_drewN _ _ _) (congrArg (World.drewN _) (Nat.add_assoc _ _ _))⟩)))
          repeat (go_quiet (first | (go_at_call 51; (with_reducible refine (gangplanklaw13_few.calls k _ _ l0 true _ ?side1 ?side2 A10.out).mono ?_); (case side1 => repeat (first | exact (Kd.C_below HR0.out HB.out) | (with_reducible refine Kd.C_alloc ?_ _) | (with_reducible refine Kd.C_drewN ?_ _) | (with_reducible refine Kd.C_drew ?_))); (case side2 => exact HC0.out); (try clear A10); rintro e w' ⟨rfl, ⟨nd, rfl⟩⟩; (try first | exact ⟨rfl, _, World.drewN_drewN _ _ _⟩ | exact ⟨rfl, _, Eq.trans (World.drewN_drewN _ _ _) (congrArg (World.drewN _) (Nat.add_assoc _ _ _))⟩))); try go_wp2_with (first | (go_at_call 51; (with_reducible refine (gangplanklaw13_few.calls k _ _ l0 true _ ?side1 ?side2 A10.out).mono ?_); (case side1 => repeat (first | exact (Kd.C_below HR0.out HB.out) | (with_reducible refine Kd.C_alloc ?_ _) | (with_reducible refine Kd.C_drewN ?_ _) | (with_reducible refine Kd.C_drew ?_))); (case side2 => exact HC0.out); (try clear A10); rintro e w' ⟨rfl, ⟨nd, rfl⟩⟩; (try first | exact ⟨rfl, _, World.drewN_drewN _ _ _⟩ | exact ⟨rfl, _, Eq.trans (World.drewN_drewN _ _ _) (congrArg (World.drewN _) (Nat.add_assoc _ _ _))⟩))))
          go_meet
          case rel => exact ⟨_, (true), (by first | rfl | (simp; done) | (simp [*]; done)), H', ⟨by first | omega | exact Nat.le_refl _⟩, ⟨by repeat (first | (with_reducible first | exact HB.out | apply below_alloc | apply pw_below_drewN | apply below_drew1) | exact HB.out)⟩⟩
        · rw [if_neg c12] at H
          have c12b0 : decide (60 < (a4.size : Int)) = false := decide_eq_false c12
          have c12b1 : decide (60 < a4.size) = false := decide_eq_false (by omega)
          clear c12
          (first | rw [c12b0] | (simp only [i64_w, i32_w]; rw [c12b0]) | skip)
          replace H := Option.bind_eq_some_iff.mp H
          obtain ⟨t261, A130, H⟩ := H
          replace H : (gangplanklaw13_SweepKeeps.j0 k l0 a1 a2 a3 a4 true (!t261)) = some r := H
          have A13 := Aside0.mk A130
          clear A130
          have H' := Aside0.mk H
          clear H
          go_wp2_with (first | (go_at_call 51; (with_reducible refine (gangplanklaw13_few.calls k _ _ l0 true _ ?side1 ?side2 A10.out).mono ?_); (case side1 => repeat (first | exact (Kd.C_below HR0.out HB.out) | (with_reducible refine Kd.C_alloc ?_ _) | (with_reducible refine Kd.C_drewN ?_ _) | (with_reducible refine Kd.C_drew ?_))); (case side2 => exact HC0.out); (try clear A10); rintro e w' ⟨rfl, ⟨nd, rfl⟩⟩; (try first | exact ⟨rfl, _, World.drewN_drewN _ _ _⟩ | exact ⟨rfl, _, Eq.trans (World.drewN_drewN _ _ _) (congrArg (World.drewN _) (Nat.add_assoc _ _ _))⟩)) | (go_at_call 49; (with_reducible refine (flows_Right.calls _ _ l0 t261 _ ?side1 ?side2 A13.out).mono ?_); (case side1 => repeat (first | exact (Kd.C_below HR0.out (by repeat (first | (with_reducible first | exact HB.out | apply below_alloc | apply pw_below_drewN | apply below_drew1) | exact HB.out))) | (with_reducible refine Kd.C_alloc ?_ _) | (with_reducible refine Kd.C_drewN ?_ _) | (with_reducible refine Kd.C_drew ?_))); (case side2 => exact HC0.out); (try clear A13); rintro e w14 ⟨rfl, hb⟩; have n0_ := Aside0.mk (below_step (by repeat (first | (with_reducible first | exact HB.out | apply below_alloc | apply pw_below_drewN | apply below_drew1) | exact HB.out)) hb); clear HB; have HB := n0_; clear n0_; (try clear hb); (try clear hb2); (try clear hk); (try clear hi)))
          repeat (go_quiet (first | (go_at_call 51; (with_reducible refine (gangplanklaw13_few.calls k _ _ l0 true _ ?side1 ?side2 A10.out).mono ?_); (case side1 => repeat (first | exact (Kd.C_below HR0.out HB.out) | (with_reducible refine Kd.C_alloc ?_ _) | (with_reducible refine Kd.C_drewN ?_ _) | (with_reducible refine Kd.C_drew ?_))); (case side2 => exact HC0.out); (try clear A10); rintro e w' ⟨rfl, ⟨nd, rfl⟩⟩; (try first | exact ⟨rfl, _, World.drewN_drewN _ _ _⟩ | exact ⟨rfl, _, Eq.trans (World.drewN_drewN _ _ _) (congrArg (World.drewN _) (Nat.add_assoc _ _ _))⟩)) | (go_at_call 49; (with_reducible refine (flows_Right.calls _ _ l0 t261 _ ?side1 ?side2 A13.out).mono ?_); (case side1 => repeat (first | exact (Kd.C_below HR0.out (by repeat (first | (with_reducible first | exact HB.out | apply below_alloc | apply pw_below_drewN | apply below_drew1) | exact HB.out))) | (with_reducible refine Kd.C_alloc ?_ _) | (with_reducible refine Kd.C_drewN ?_ _) | (with_reducible refine Kd.C_drew ?_))); (case side2 => exact HC0.out); (try clear A13); rintro e w14 ⟨rfl, hb⟩; have n0_ := Aside0.mk (below_step (by repeat (first | (with_reducible first | exact HB.out | apply below_alloc | apply pw_below_drewN | apply below_drew1) | exact HB.out)) hb); clear HB; have HB := n0_; clear n0_; (try clear hb); (try clear hb2); (try clear hk); (try clear hi))); try go_wp2_with (first | (go_at_call 51; (with_reducible refine (gangplanklaw13_few.calls k _ _ l0 true _ ?side1 ?side2 A10.out).mono ?_); (case side1 => repeat (first | exact (Kd.C_below HR0.out HB.out) | (with_reducible refine Kd.C_alloc ?_ _) | (with_reducible refine Kd.C_drewN ?_ _) | (with_reducible refine Kd.C_drew ?_))); (case side2 => exact HC0.out); (try clear A10); rintro e w' ⟨rfl, ⟨nd, rfl⟩⟩; (try first | exact ⟨rfl, _, World.drewN_drewN _ _ _⟩ | exact ⟨rfl, _, Eq.trans (World.drewN_drewN _ _ _) (congrArg (World.drewN _) (Nat.add_assoc _ _ _))⟩)) | (go_at_call 49; (with_reducible refine (flows_Right.calls _ _ l0 t261 _ ?side1 ?side2 A13.out).mono ?_); (case side1 => repeat (first | exact (Kd.C_below HR0.out (by repeat (first | (with_reducible first | exact HB.out | apply below_alloc | apply pw_below_drewN | apply below_drew1) | exact HB.out))) | (with_reducible refine Kd.C_alloc ?_ _) | (with_reducible refine Kd.C_drewN ?_ _) | (with_reducible refine Kd.C_drew ?_))); (case side2 => exact HC0.out); (try clear A13); rintro e w14 ⟨rfl, hb⟩; have n0_ := Aside0.mk (below_step (by repeat (first | (with_reducible first | exact HB.out | apply below_alloc | apply pw_below_drewN | apply below_drew1) | exact HB.out)) hb); clear HB; have HB := n0_; clear n0_; (try clear hb); (try clear hb2); (try clear hk); (try clear hi))))
          go_meet
          case rel => exact ⟨_, (!t261), (by first | rfl | (simp; done) | (simp [*]; done)), H', ⟨by first | omega | exact Nat.le_refl _⟩, ⟨by repeat (first | (with_reducible first | exact HB.out | apply below_alloc | apply pw_below_drewN | apply below_drew1) | exact HB.out)⟩⟩
      · replace c11 := Bool.eq_false_iff.mpr c11
        subst c11
        have H1 : (gangplanklaw13_SweepKeeps.j0 k l0 a1 a2 a3 a4 true true) = some r := by rw [if_neg (show ¬ (false = true) by decide)] at H; exact H
        clear H
        have H := H1
        clear H1
        have H' := Aside0.mk H
        clear H
        go_wp2_with (first | (go_at_call 51; (with_reducible refine (gangplanklaw13_few.calls k _ _ l0 false _ ?side1 ?side2 A10.out).mono ?_); (case side1 => repeat (first | exact (Kd.C_below HR0.out HB.out) | (with_reducible refine Kd.C_alloc ?_ _) | (with_reducible refine Kd.C_drewN ?_ _) | (with_reducible refine Kd.C_drew ?_))); (case side2 => exact HC0.out); (try clear A10); rintro e w' ⟨rfl, ⟨nd, rfl⟩⟩; (try first | exact ⟨rfl, _, World.drewN_drewN _ _ _⟩ | exact ⟨rfl, _, Eq.trans (World.drewN_drewN _ _ _) (congrArg (World.drewN _) (Nat.add_assoc _ _ _))⟩)))
        repeat (go_quiet (first | (go_at_call 51; (with_reducible refine (gangplanklaw13_few.calls k _ _ l0 false _ ?side1 ?side2 A10.out).mono ?_); (case side1 => repeat (first | exact (Kd.C_below HR0.out HB.out) | (with_reducible refine Kd.C_alloc ?_ _) | (with_reducible refine Kd.C_drewN ?_ _) | (with_reducible refine Kd.C_drew ?_))); (case side2 => exact HC0.out); (try clear A10); rintro e w' ⟨rfl, ⟨nd, rfl⟩⟩; (try first | exact ⟨rfl, _, World.drewN_drewN _ _ _⟩ | exact ⟨rfl, _, Eq.trans (World.drewN_drewN _ _ _) (congrArg (World.drewN _) (Nat.add_assoc _ _ _))⟩))); try go_wp2_with (first | (go_at_call 51; (with_reducible refine (gangplanklaw13_few.calls k _ _ l0 false _ ?side1 ?side2 A10.out).mono ?_); (case side1 => repeat (first | exact (Kd.C_below HR0.out HB.out) | (with_reducible refine Kd.C_alloc ?_ _) | (with_reducible refine Kd.C_drewN ?_ _) | (with_reducible refine Kd.C_drew ?_))); (case side2 => exact HC0.out); (try clear A10); rintro e w' ⟨rfl, ⟨nd, rfl⟩⟩; (try first | exact ⟨rfl, _, World.drewN_drewN _ _ _⟩ | exact ⟨rfl, _, Eq.trans (World.drewN_drewN _ _ _) (congrArg (World.drewN _) (Nat.add_assoc _ _ _))⟩))))
        go_meet
        case rel => exact ⟨_, (true), (by first | rfl | (simp; done) | (simp [*]; done)), H', ⟨by first | omega | exact Nat.le_refl _⟩, ⟨by repeat (first | (with_reducible first | exact HB.out | apply below_alloc | apply pw_below_drewN | apply below_drew1) | exact HB.out)⟩⟩
    case rest =>
      clear HC8
      try clear c1
      try clear p2
      try clear c7
      try clear c11
      try clear c12
      try clear c12b0
      try clear c12b1
      obtain ⟨kq, x32_7, rfl, HA, HJ7, HB⟩ := hcut
      cases kq with
      | zero => exact absurd HA.out (by simp [gangplanklaw13_SweepKeeps.j0])
      | succ kj7 =>
        have H := HA.out
        clear HA
        simp only [gangplanklaw13_SweepKeeps.j0] at H
        by_cases c15 : x32_7 = true
        · subst c15
          have H1 : (some true) = some r := by first | (rw [if_pos rfl] at H; exact H) | (rw [if_pos trivial] at H; exact H)
          clear H
          have H := H1
          clear H1
          obtain rfl := Option.some.inj H
          go_wp2
          repeat (go_quiet (fail); try go_wp2)
          go_ret
          exact ⟨by first | rfl | (simp [errW_none, errW_some] <;> rfl) | (simp [*, errW_none, errW_some] <;> rfl), by repeat (first | (with_reducible first | exact HB.out | apply below_alloc | apply pw_below_drewN | apply below_drew1) | exact HB.out)⟩
        · replace c15 := Bool.eq_false_iff.mpr c15
          subst c15
          have H1 : ((sweep_Step.f l0 a1 a2 a3).bind fun bt262 => ((probe_Find.f l0 a4).bind fun t267 => ((probe_Find.f bt262.1 a4).bind fun t268 => (if t267 ≥ (l0.length : Int) then (gangplanklaw13_SweepKeeps.j1 kj7 l0 a3 true bt262.1 bt262.2.2 t267 t268 true) else (if t268 ≥ (bt262.1.length : Int) then (gangplanklaw13_SweepKeeps.j1 kj7 l0 a3 true bt262.1 bt262.2.2 t267 t268 true) else (if (bt262.1.length : Int) = (l0.length : Int) then (if bt262.2.2 < 0 then (gangplanklaw13_SweepKeeps.j1 kj7 l0 a3 true bt262.1 bt262.2.2 t267 t268 true) else (if bt262.2.1 < 0 then (gangplanklaw13_SweepKeeps.j1 kj7 l0 a3 true bt262.1 bt262.2.2 t267 t268 true) else (if bt262.2.1 > (mx (wrap64 ((l0.length : Int) - 1)) 0) then (gangplanklaw13_SweepKeeps.j1 kj7 l0 a3 true bt262.1 bt262.2.2 t267 t268 true) else ((flows_Right.f bt262.1).bind fun t269 => (if t269 = true then ((probe_Count.f bt262.1 1).bind fun t270 => ((probe_Count.f l0 1).bind fun t271 => (gangplanklaw13_SweepKeeps.j1 kj7 l0 a3 true bt262.1 bt262.2.2 t267 t268 (t270 != (wrap64 (t271 - bt262.2.2)))))) else (gangplanklaw13_SweepKeeps.j1 kj7 l0 a3 true bt262.1 bt262.2.2 t267 t268 true)))))) else (gangplanklaw13_SweepKeeps.j1 kj7 l0 a3 true bt262.1 bt262.2.2 t267 t268 true))))))) = some r := by rw [if_neg (show ¬ (false = true) by decide)] at H; exact H
          clear H
          have H := H1
          clear H1
          replace H := Option.bind_eq_some_iff.mp H
          obtain ⟨⟨t262, t263, t264⟩, A160, H⟩ := H
          replace H : ((probe_Find.f l0 a4).bind fun t267 => ((probe_Find.f t262 a4).bind fun t268 => (if t267 ≥ (l0.length : Int) then (gangplanklaw13_SweepKeeps.j1 kj7 l0 a3 true t262 t264 t267 t268 true) else (if t268 ≥ (t262.length : Int) then (gangplanklaw13_SweepKeeps.j1 kj7 l0 a3 true t262 t264 t267 t268 true) else (if (t262.length : Int) = (l0.length : Int) then (if t264 < 0 then (gangplanklaw13_SweepKeeps.j1 kj7 l0 a3 true t262 t264 t267 t268 true) else (if t263 < 0 then (gangplanklaw13_SweepKeeps.j1 kj7 l0 a3 true t262 t264 t267 t268 true) else (if t263 > (mx (wrap64 ((l0.length : Int) - 1)) 0) then (gangplanklaw13_SweepKeeps.j1 kj7 l0 a3 true t262 t264 t267 t268 true) else ((flows_Right.f t262).bind fun t269 => (if t269 = true then ((probe_Count.f t262 1).bind fun t270 => ((probe_Count.f l0 1).bind fun t271 => (gangplanklaw13_SweepKeeps.j1 kj7 l0 a3 true t262 t264 t267 t268 (t270 != (wrap64 (t271 - t264)))))) else (gangplanklaw13_SweepKeeps.j1 kj7 l0 a3 true t262 t264 t267 t268 true)))))) else (gangplanklaw13_SweepKeeps.j1 kj7 l0 a3 true t262 t264 t267 t268 true)))))) = some r := H
          have A16 := Aside0.mk A160
          clear A160
          replace H := Option.bind_eq_some_iff.mp H
          obtain ⟨t267, A170, H⟩ := H
          replace H : ((probe_Find.f t262 a4).bind fun t268 => (if t267 ≥ (l0.length : Int) then (gangplanklaw13_SweepKeeps.j1 kj7 l0 a3 true t262 t264 t267 t268 true) else (if t268 ≥ (t262.length : Int) then (gangplanklaw13_SweepKeeps.j1 kj7 l0 a3 true t262 t264 t267 t268 true) else (if (t262.length : Int) = (l0.length : Int) then (if t264 < 0 then (gangplanklaw13_SweepKeeps.j1 kj7 l0 a3 true t262 t264 t267 t268 true) else (if t263 < 0 then (gangplanklaw13_SweepKeeps.j1 kj7 l0 a3 true t262 t264 t267 t268 true) else (if t263 > (mx (wrap64 ((l0.length : Int) - 1)) 0) then (gangplanklaw13_SweepKeeps.j1 kj7 l0 a3 true t262 t264 t267 t268 true) else ((flows_Right.f t262).bind fun t269 => (if t269 = true then ((probe_Count.f t262 1).bind fun t270 => ((probe_Count.f l0 1).bind fun t271 => (gangplanklaw13_SweepKeeps.j1 kj7 l0 a3 true t262 t264 t267 t268 (t270 != (wrap64 (t271 - t264)))))) else (gangplanklaw13_SweepKeeps.j1 kj7 l0 a3 true t262 t264 t267 t268 true)))))) else (gangplanklaw13_SweepKeeps.j1 kj7 l0 a3 true t262 t264 t267 t268 true))))) = some r := H
          have A17 := Aside0.mk A170
          clear A170
          replace H := Option.bind_eq_some_iff.mp H
          obtain ⟨t268, A180, H⟩ := H
          replace H : (if t267 ≥ (l0.length : Int) then (gangplanklaw13_SweepKeeps.j1 kj7 l0 a3 true t262 t264 t267 t268 true) else (if t268 ≥ (t262.length : Int) then (gangplanklaw13_SweepKeeps.j1 kj7 l0 a3 true t262 t264 t267 t268 true) else (if (t262.length : Int) = (l0.length : Int) then (if t264 < 0 then (gangplanklaw13_SweepKeeps.j1 kj7 l0 a3 true t262 t264 t267 t268 true) else (if t263 < 0 then (gangplanklaw13_SweepKeeps.j1 kj7 l0 a3 true t262 t264 t267 t268 true) else (if t263 > (mx (wrap64 ((l0.length : Int) - 1)) 0) then (gangplanklaw13_SweepKeeps.j1 kj7 l0 a3 true t262 t264 t267 t268 true) else ((flows_Right.f t262).bind fun t269 => (if t269 = true then ((probe_Count.f t262 1).bind fun t270 => ((probe_Count.f l0 1).bind fun t271 => (gangplanklaw13_SweepKeeps.j1 kj7 l0 a3 true t262 t264 t267 t268 (t270 != (wrap64 (t271 - t264)))))) else (gangplanklaw13_SweepKeeps.j1 kj7 l0 a3 true t262 t264 t267 t268 true)))))) else (gangplanklaw13_SweepKeeps.j1 kj7 l0 a3 true t262 t264 t267 t268 true)))) = some r := H
          have A18 := Aside0.mk A180
          clear A180
          have HC19 := Aside0.mk H
          clear H
          go_upto_region 8 with (first | (go_at_call 52; (with_reducible refine (sweep_Step.calls _ _ l0 a1 a2 a3 t262 t263 t264 _ ?side1 ?side2 A16.out).mono ?_); (case side1 => repeat (first | exact (Kd.C_below HR0.out HB.out) | (with_reducible refine Kd.C_alloc ?_ _) | (with_reducible refine Kd.C_drewN ?_ _) | (with_reducible refine Kd.C_drew ?_))); (case side2 => exact HC0.out); (try clear A16); rintro e w20 ⟨v265, rfl, ho0, hb⟩; have n0_ := Aside0.mk (Kd.R_lower ho0 (below_size (by repeat (first | (with_reducible first | exact HB.out | apply below_alloc | apply pw_below_drewN | apply below_drew1) | exact HB.out)))); have n1_ := Aside0.mk (below_step (by repeat (first | (with_reducible first | exact HB.out | apply below_alloc | apply pw_below_drewN | apply below_drew1) | exact HB.out)) hb); clear HB; have HO266 := n0_; have HB := n1_; clear n0_ n1_; (try clear hb); (try clear hb2); (try clear hk); (try clear hi); (try clear ho0)) | (go_at_call 25; (with_reducible refine (probe_Find.calls _ _ l0 a4 t267 _ ?side1 ?side2 A17.out).mono ?_); (case side1 => repeat (first | exact (Kd.C_below HR0.out HB.out) | (with_reducible refine Kd.C_alloc ?_ _) | (with_reducible refine Kd.C_drewN ?_ _) | (with_reducible refine Kd.C_drew ?_))); (case side2 => exact HC0.out); (try clear A17); rintro e w21 ⟨rfl, hb⟩; have n0_ := Aside0.mk (Kd.R_below (by (with_reducible repeat (first | apply Kd.R_alloc | apply Kd.R_drewN | apply Kd.R_drew)); exact HO266.out) hb); have n1_ := Aside0.mk (below_step (by repeat (first | (with_reducible first | exact HB.out | apply below_alloc | apply pw_below_drewN | apply below_drew1) | exact HB.out)) hb); clear HO266; clear HB; have HO266 := n0_; have HB := n1_; clear n0_ n1_; (try clear hb); (try clear hb2); (try clear hk); (try clear hi); obtain ⟨Ao22, co22, eo22⟩ := Kd.R_slice HO266.out; subst eo22) | (go_at_call 25; (with_reducible refine (probe_Find.calls _ _ t262 a4 t268 _ ?side1 ?side2 A18.out).mono ?_); (case side1 => repeat (first | exact (Kd.R_reads' HO266.out).2.2 | (with_reducible refine Kd.C_alloc ?_ _) | (with_reducible refine Kd.C_drewN ?_ _) | (with_reducible refine Kd.C_drew ?_))); (case side2 => exact (Kd.R_reads' HO266.out).2.1); (try clear A18); rintro e w23 ⟨rfl, hb⟩; have n0_ := Aside0.mk (Kd.R_below (by (with_reducible repeat (first | apply Kd.R_alloc | apply Kd.R_drewN | apply Kd.R_drew)); exact HO266.out) hb); have n1_ := Aside0.mk (below_step (by repeat (first | (with_reducible first | exact HB.out | apply below_alloc | apply pw_below_drewN | apply below_drew1) | exact HB.out)) hb); clear HO266; clear HB; have HO266 := n0_; have HB := n1_; clear n0_ n1_; (try clear hb); (try clear hb2); (try clear hk); (try clear hi)))
          repeat (go_quiet (first | (go_at_call 52; (with_reducible refine (sweep_Step.calls _ _ l0 a1 a2 a3 t262 t263 t264 _ ?side1 ?side2 A16.out).mono ?_); (case side1 => repeat (first | exact (Kd.C_below HR0.out HB.out) | (with_reducible refine Kd.C_alloc ?_ _) | (with_reducible refine Kd.C_drewN ?_ _) | (with_reducible refine Kd.C_drew ?_))); (case side2 => exact HC0.out); (try clear A16); rintro e w20 ⟨v265, rfl, ho0, hb⟩; have n0_ := Aside0.mk (Kd.R_lower ho0 (below_size (by repeat (first | (with_reducible first | exact HB.out | apply below_alloc | apply pw_below_drewN | apply below_drew1) | exact HB.out)))); have n1_ := Aside0.mk (below_step (by repeat (first | (with_reducible first | exact HB.out | apply below_alloc | apply pw_below_drewN | apply below_drew1) | exact HB.out)) hb); clear HB; have HO266 := n0_; have HB := n1_; clear n0_ n1_; (try clear hb); (try clear hb2); (try clear hk); (try clear hi); (try clear ho0)) | (go_at_call 25; (with_reducible refine (probe_Find.calls _ _ l0 a4 t267 _ ?side1 ?side2 A17.out).mono ?_); (case side1 => repeat (first | exact (Kd.C_below HR0.out HB.out) | (with_reducible refine Kd.C_alloc ?_ _) | (with_reducible refine Kd.C_drewN ?_ _) | (with_reducible refine Kd.C_drew ?_))); (case side2 => exact HC0.out); (try clear A17); rintro e w21 ⟨rfl, hb⟩; have n0_ := Aside0.mk (Kd.R_below (by (with_reducible repeat (first | apply Kd.R_alloc | apply Kd.R_drewN | apply Kd.R_drew)); exact HO266.out) hb); have n1_ := Aside0.mk (below_step (by repeat (first | (with_reducible first | exact HB.out | apply below_alloc | apply pw_below_drewN | apply below_drew1) | exact HB.out)) hb); clear HO266; clear HB; have HO266 := n0_; have HB := n1_; clear n0_ n1_; (try clear hb); (try clear hb2); (try clear hk); (try clear hi); obtain ⟨Ao22, co22, eo22⟩ := Kd.R_slice HO266.out; subst eo22) | (go_at_call 25; (with_reducible refine (probe_Find.calls _ _ t262 a4 t268 _ ?side1 ?side2 A18.out).mono ?_); (case side1 => repeat (first | exact (Kd.R_reads' HO266.out).2.2 | (with_reducible refine Kd.C_alloc ?_ _) | (with_reducible refine Kd.C_drewN ?_ _) | (with_reducible refine Kd.C_drew ?_))); (case side2 => exact (Kd.R_reads' HO266.out).2.1); (try clear A18); rintro e w23 ⟨rfl, hb⟩; have n0_ := Aside0.mk (Kd.R_below (by (with_reducible repeat (first | apply Kd.R_alloc | apply Kd.R_drewN | apply Kd.R_drew)); exact HO266.out) hb); have n1_ := Aside0.mk (below_step (by repeat (first | (with_reducible first | exact HB.out | apply below_alloc | apply pw_below_drewN | apply below_drew1) | exact HB.out)) hb); clear HO266; clear HB; have HO266 := n0_; have HB := n1_; clear n0_ n1_; (try clear hb); (try clear hb2); (try clear hk); (try clear hi))); go_upto_region 8 with (first | (go_at_call 52; (with_reducible refine (sweep_Step.calls _ _ l0 a1 a2 a3 t262 t263 t264 _ ?side1 ?side2 A16.out).mono ?_); (case side1 => repeat (first | exact (Kd.C_below HR0.out HB.out) | (with_reducible refine Kd.C_alloc ?_ _) | (with_reducible refine Kd.C_drewN ?_ _) | (with_reducible refine Kd.C_drew ?_))); (case side2 => exact HC0.out); (try clear A16); rintro e w20 ⟨v265, rfl, ho0, hb⟩; have n0_ := Aside0.mk (Kd.R_lower ho0 (below_size (by repeat (first | (with_reducible first | exact HB.out | apply below_alloc | apply pw_below_drewN | apply below_drew1) | exact HB.out)))); have n1_ := Aside0.mk (below_step (by repeat (first | (with_reducible first | exact HB.out | apply below_alloc | apply pw_below_drewN | apply below_drew1) | exact HB.out)) hb); clear HB; have HO266 := n0_; have HB := n1_; clear n0_ n1_; (try clear hb); (try clear hb2); (try clear hk); (try clear hi); (try clear ho0)) | (go_at_call 25; (with_reducible refine (probe_Find.calls _ _ l0 a4 t267 _ ?side1 ?side2 A17.out).mono ?_); (case side1 => repeat (first | exact (Kd.C_below HR0.out HB.out) | (with_reducible refine Kd.C_alloc ?_ _) | (with_reducible refine Kd.C_drewN ?_ _) | (with_reducible refine Kd.C_drew ?_))); (case side2 => exact HC0.out); (try clear A17); rintro e w21 ⟨rfl, hb⟩; have n0_ := Aside0.mk (Kd.R_below (by (with_reducible repeat (first | apply Kd.R_alloc | apply Kd.R_drewN | apply Kd.R_drew)); exact HO266.out) hb); have n1_ := Aside0.mk (below_step (by repeat (first | (with_reducible first | exact HB.out | apply below_alloc | apply pw_below_drewN | apply below_drew1) | exact HB.out)) hb); clear HO266; clear HB; have HO266 := n0_; have HB := n1_; clear n0_ n1_; (try clear hb); (try clear hb2); (try clear hk); (try clear hi); obtain ⟨Ao22, co22, eo22⟩ := Kd.R_slice HO266.out; subst eo22) | (go_at_call 25; (with_reducible refine (probe_Find.calls _ _ t262 a4 t268 _ ?side1 ?side2 A18.out).mono ?_); (case side1 => repeat (first | exact (Kd.R_reads' HO266.out).2.2 | (with_reducible refine Kd.C_alloc ?_ _) | (with_reducible refine Kd.C_drewN ?_ _) | (with_reducible refine Kd.C_drew ?_))); (case side2 => exact (Kd.R_reads' HO266.out).2.1); (try clear A18); rintro e w23 ⟨rfl, hb⟩; have n0_ := Aside0.mk (Kd.R_below (by (with_reducible repeat (first | apply Kd.R_alloc | apply Kd.R_drewN | apply Kd.R_drew)); exact HO266.out) hb); have n1_ := Aside0.mk (below_step (by repeat (first | (with_reducible first | exact HB.out | apply below_alloc | apply pw_below_drewN | apply below_drew1) | exact HB.out)) hb); clear HO266; clear HB; have HO266 := n0_; have HB := n1_; clear n0_ n1_; (try clear hb); (try clear hb2); (try clear hk); (try clear hi))))
          (try simp only [Act.put, List.setIfInBounds_toArray, List.set_cons_zero, List.set_cons_succ])
          go_cut [95] (fun v95 wc => ∃ (kq : Nat) (x95_18 : Bool), v95 = .bool x95_18 ∧ Aside0 (gangplanklaw13_SweepKeeps.j1 kq l0 a3 true t262 t264 t267 t268 x95_18 = some r) ∧ Aside0 (kq ≤ kj7) ∧ Aside0 (Kd.R k31 31 wc w.heap.size (fun _ => True) (.slice Ao22 t262.length co22) t262) ∧ Aside0 (Below w.heap.size w wc))
          case first =>
            have H := HC19.out
            clear HC19
            by_cases c24 : t267 ≥ (l0.length : Int)
            · rw [if_pos c24] at H
              have c24b0 : decide ((l0.length : Int) ≤ t267) = true := decide_eq_true c24
              clear c24
              (first | rw [c24b0] | (simp only [i64_w, i32_w]; rw [c24b0]) | skip)
              have H' := Aside0.mk H
              clear H
              go_wp2
              repeat (go_quiet (fail); try go_wp2)
              go_meet
              case rel => exact ⟨_, (true), (by first | rfl | (simp; done) | (simp [*]; done)), H', ⟨by have := HJ7.out; first | omega | exact Nat.le_refl _⟩, ⟨by (with_reducible repeat (first | apply Kd.R_alloc | apply Kd.R_drewN | apply Kd.R_drew)); exact HO266.out⟩, ⟨by repeat (first | (with_reducible first | exact HB.out | apply below_alloc | apply pw_below_drewN | apply below_drew1) | exact HB.out)⟩⟩
            · rw [if_neg c24] at H
              have c24b0 : decide ((l0.length : Int) ≤ t267) = false := decide_eq_false c24
              clear c24
              (first | rw [c24b0] | (simp only [i64_w, i32_w]; rw [c24b0]) | skip)
              by_cases c25 : t268 ≥ (t262.length : Int)
              · rw [if_pos c25] at H
                have c25b0 : decide ((t262.length : Int) ≤ t268) = true := decide_eq_true c25
                clear c25
                have H' := Aside0.mk H
                clear H
                go_wp2
                repeat (go_quiet (fail); try go_wp2)
                go_meet
                case rel => exact ⟨_, (true), (by first | rfl | (simp; done) | (simp [*]; done)), H', ⟨by have := HJ7.out; first | omega | exact Nat.le_refl _⟩, ⟨by (with_reducible repeat (first | apply Kd.R_alloc | apply Kd.R_drewN | apply Kd.R_drew)); exact HO266.out⟩, ⟨by repeat (first | (with_reducible first | exact HB.out | apply below_alloc | apply pw_below_drewN | apply below_drew1) | exact HB.out)⟩⟩
              · rw [if_neg c25] at H
                have c25b0 : decide ((t262.length : Int) ≤ t268) = false := decide_eq_false c25
                clear c25
                by_cases c26 : (t262.length : Int) = (l0.length : Int)
                · rw [if_pos c26] at H
                  have c26b0 : ((t262.length : Int) == (l0.length : Int)) = true := beq_iff_eq.mpr c26
                  have c26b1 : ((t262.length : Int) != (l0.length : Int)) = false := bne_eq_false_iff_eq.mpr c26
                  have c26b2 : (t262.length == l0.length) = true := by first | simpa using c26 | (simp at c26 ⊢; omega)
                  clear c26
                  by_cases c27 : t264 < 0
                  · rw [if_pos c27] at H
                    have c27b0 : decide (t264 < 0) = true := decide_eq_true c27
                    clear c27
                    have H' := Aside0.mk H
                    clear H
                    go_wp2
                    repeat (go_quiet (fail); try go_wp2)
                    go_meet
                    case rel => exact ⟨_, (true), (by first | rfl | (simp; done) | (simp [*]; done)), H', ⟨by have := HJ7.out; first | omega | exact Nat.le_refl _⟩, ⟨by (with_reducible repeat (first | apply Kd.R_alloc | apply Kd.R_drewN | apply Kd.R_drew)); exact HO266.out⟩, ⟨by repeat (first | (with_reducible first | exact HB.out | apply below_alloc | apply pw_below_drewN | apply below_drew1) | exact HB.out)⟩⟩
                  · rw [if_neg c27] at H
                    have c27b0 : decide (t264 < 0) = false := decide_eq_false c27
                    clear c27
                    by_cases c28 : t263 < 0
                    · rw [if_pos c28] at H
                      have c28b0 : decide (t263 < 0) = true := decide_eq_true c28
                      clear c28
                      have H' := Aside0.mk H
                      clear H
                      go_wp2
                      repeat (go_quiet (fail); try go_wp2)
                      go_meet
                      case rel => exact ⟨_, (true), (by first | rfl | (simp; done) | (simp [*]; done)), H', ⟨by have := HJ7.out; first | omega | exact Nat.le_refl _⟩, ⟨by (with_reducible repeat (first | apply Kd.R_alloc | apply Kd.R_drewN | apply Kd.R_drew)); exact HO266.out⟩, ⟨by repeat (first | (with_reducible first | exact HB.out | apply below_alloc | apply pw_below_drewN | apply below_drew1) | exact HB.out)⟩⟩
                    · rw [if_neg c28] at H
                      have c28b0 : decide (t263 < 0) = false := decide_eq_false c28
                      clear c28
                      obtain ⟨ji29, hji29⟩ : ∃ j_ : Int, (mx (wrap64 ((l0.length : Int) - 1)) 0) = j_ := ⟨_, rfl⟩
                      replace H : (if t263 > (ji29) then (gangplanklaw13_SweepKeeps.j1 kj7 l0 a3 true t262 t264 t267 t268 true) else ((flows_Right.f t262).bind fun t269 => (if t269 = true then ((probe_Count.f t262 1).bind fun t270 => ((probe_Count.f l0 1).bind fun t271 => (gangplanklaw13_SweepKeeps.j1 kj7 l0 a3 true t262 t264 t267 t268 (t270 != (wrap64 (t271 - t264)))))) else (gangplanklaw13_SweepKeeps.j1 kj7 l0 a3 true t262 t264 t267 t268 true)))) = some r := by first | (rw [hji29] at H; exact H) | (simp only [hji29] at H ⊢; exact H)
                      have hji29_ : (if (wrap64 ((l0.length : Int) - 1)) < 0 then 0 else (wrap64 ((l0.length : Int) - 1))) = ji29 := hji29
                      by_cases c30 : t263 > (ji29)
                      · rw [if_pos c30] at H
                        have c30b0 : decide ((ji29) < t263) = true := decide_eq_true c30
                        clear c30
                        have H' := Aside0.mk H
                        clear H
                        go_wp2
                        repeat (go_quiet (fail); try go_wp2)
                        go_meet
                        case rel => exact ⟨_, (true), (by first | rfl | (simp; done) | (simp [*]; done)), H', ⟨by have := HJ7.out; first | omega | exact Nat.le_refl _⟩, ⟨by (with_reducible repeat (first | apply Kd.R_alloc | apply Kd.R_drewN | apply Kd.R_drew)); exact HO266.out⟩, ⟨by repeat (first | (with_reducible first | exact HB.out | apply below_alloc | apply pw_below_drewN | apply below_drew1) | exact HB.out)⟩⟩
                      · rw [if_neg c30] at H
                        have c30b0 : decide ((ji29) < t263) = false := decide_eq_false c30
                        clear c30
                        replace H := Option.bind_eq_some_iff.mp H
                        obtain ⟨t269, A310, H⟩ := H
                        replace H : (if t269 = true then ((probe_Count.f t262 1).bind fun t270 => ((probe_Count.f l0 1).bind fun t271 => (gangplanklaw13_SweepKeeps.j1 kj7 l0 a3 true t262 t264 t267 t268 (t270 != (wrap64 (t271 - t264)))))) else (gangplanklaw13_SweepKeeps.j1 kj7 l0 a3 true t262 t264 t267 t268 true)) = some r := H
                        have A31 := Aside0.mk A310
                        clear A310
                        by_cases c32 : t269 = true
                        · subst c32
                          have H1 : ((probe_Count.f t262 1).bind fun t270 => ((probe_Count.f l0 1).bind fun t271 => (gangplanklaw13_SweepKeeps.j1 kj7 l0 a3 true t262 t264 t267 t268 (t270 != (wrap64 (t271 - t264)))))) = some r := by first | (rw [if_pos rfl] at H; exact H) | (rw [if_pos trivial] at H; exact H)
                          clear H
                          have H := H1
                          clear H1
                          replace H := Option.bind_eq_some_iff.mp H
                          obtain ⟨t270, A330, H⟩ := H
                          replace H : ((probe_Count.f l0 1).bind fun t271 => (gangplanklaw13_SweepKeeps.j1 kj7 l0 a3 true t262 t264 t267 t268 (t270 != (wrap64 (t271 - t264))))) = some r := H
                          have A33 := Aside0.mk A330
                          clear A330
                          replace H := Option.bind_eq_some_iff.mp H
                          obtain ⟨t271, A340, H⟩ := H
                          replace H : (gangplanklaw13_SweepKeeps.j1 kj7 l0 a3 true t262 t264 t267 t268 (t270 != (wrap64 (t271 - t264)))) = some r := H
                          have A34 := Aside0.mk A340
                          clear A340
                          have H' := Aside0.mk H
                          clear H
                          go_wp2_with (first | (go_at_call 49; (with_reducible refine (flows_Right.calls _ _ t262 true _ ?side1 ?side2 A31.out).mono ?_); (case side1 => repeat (first | exact (Kd.R_reads' HO266.out).2.2 | (with_reducible refine Kd.C_alloc ?_ _) | (with_reducible refine Kd.C_drewN ?_ _) | (with_reducible refine Kd.C_drew ?_))); (case side2 => exact (Kd.R_reads' HO266.out).2.1); (try clear A31); rintro e w35 ⟨rfl, hb⟩; have n0_ := Aside0.mk (Kd.R_below (by (with_reducible repeat (first | apply Kd.R_alloc | apply Kd.R_drewN | apply Kd.R_drew)); exact HO266.out) hb); have n1_ := Aside0.mk (below_step (by repeat (first | (with_reducible first | exact HB.out | apply below_alloc | apply pw_below_drewN | apply below_drew1) | exact HB.out)) hb); clear HO266; clear HB; have HO266 := n0_; have HB := n1_; clear n0_ n1_; (try clear hb); (try clear hb2); (try clear hk); (try clear hi)) | (go_at_call 31; (with_reducible refine (probe_Count.calls _ _ t262 1 t270 _ ?side1 ?side2 A33.out).mono ?_); (case side1 => repeat (first | exact (Kd.R_reads' HO266.out).2.2 | (with_reducible refine Kd.C_alloc ?_ _) | (with_reducible refine Kd.C_drewN ?_ _) | (with_reducible refine Kd.C_drew ?_))); (case side2 => exact (Kd.R_reads' HO266.out).2.1); (try clear A33); rintro e w36 ⟨rfl, hb⟩; have n0_ := Aside0.mk (Kd.R_below (by (with_reducible repeat (first | apply Kd.R_alloc | apply Kd.R_drewN | apply Kd.R_drew)); exact HO266.out) hb); have n1_ := Aside0.mk (below_step (by repeat (first | (with_reducible first | exact HB.out | apply below_alloc | apply pw_below_drewN | apply below_drew1) | exact HB.out)) hb); clear HO266; clear HB; have HO266 := n0_; have HB := n1_; clear n0_ n1_; (try clear hb); (try clear hb2); (try clear hk); (try clear hi)) | (go_at_call 31; (with_reducible refine (probe_Count.calls _ _ l0 1 t271 _ ?side1 ?side2 A34.out).mono ?_); (case side1 => repeat (first | exact (Kd.C_below HR0.out HB.out) | (with_reducible refine Kd.C_alloc ?_ _) | (with_reducible refine Kd.C_drewN ?_ _) | (with_reducible refine Kd.C_drew ?_))); (case side2 => exact HC0.out); (try clear A34); rintro e w37 ⟨rfl, hb⟩; have n0_ := Aside0.mk (Kd.R_below (by (with_reducible repeat (first | apply Kd.R_alloc | apply Kd.R_drewN | apply Kd.R_drew)); exact HO266.out) hb); have n1_ := Aside0.mk (below_step (by repeat (first | (with_reducible first | exact HB.out | apply below_alloc | apply pw_below_drewN | apply below_drew1) | exact HB.out)) hb); clear HO266; clear HB; have HO266 := n0_; have HB := n1_; clear n0_ n1_; (try clear hb); (try clear hb2); (try clear hk); (try clear hi)))
                          repeat (go_quiet (first | (go_at_call 49; (with_reducible refine (flows_Right.calls _ _ t262 true _ ?side1 ?side2 A31.out).mono ?_); (case side1 => repeat (first | exact (Kd.R_reads' HO266.out).2.2 | (with_reducible refine Kd.C_alloc ?_ _) | (with_reducible refine Kd.C_drewN ?_ _) | (with_reducible refine Kd.C_drew ?_))); (case side2 => exact (Kd.R_reads' HO266.out).2.1); (try clear A31); rintro e w35 ⟨rfl, hb⟩; have n0_ := Aside0.mk (Kd.R_below (by (with_reducible repeat (first | apply Kd.R_alloc | apply Kd.R_drewN | apply Kd.R_drew)); exact HO266.out) hb); have n1_ := Aside0.mk (below_step (by repeat (first | (with_reducible first | exact HB.out | apply below_alloc | apply pw_below_drewN | apply below_drew1) | exact HB.out)) hb); clear HO266; clear HB; have HO266 := n0_; have HB := n1_; clear n0_ n1_; (try clear hb); (try clear hb2); (try clear hk); (try clear hi)) | (go_at_call 31; (with_reducible refine (probe_Count.calls _ _ t262 1 t270 _ ?side1 ?side2 A33.out).mono ?_); (case side1 => repeat (first | exact (Kd.R_reads' HO266.out).2.2 | (with_reducible refine Kd.C_alloc ?_ _) | (with_reducible refine Kd.C_drewN ?_ _) | (with_reducible refine Kd.C_drew ?_))); (case side2 => exact (Kd.R_reads' HO266.out).2.1); (try clear A33); rintro e w36 ⟨rfl, hb⟩; have n0_ := Aside0.mk (Kd.R_below (by (with_reducible repeat (first | apply Kd.R_alloc | apply Kd.R_drewN | apply Kd.R_drew)); exact HO266.out) hb); have n1_ := Aside0.mk (below_step (by repeat (first | (with_reducible first | exact HB.out | apply below_alloc | apply pw_below_drewN | apply below_drew1) | exact HB.out)) hb); clear HO266; clear HB; have HO266 := n0_; have HB := n1_; clear n0_ n1_; (try clear hb); (try clear hb2); (try clear hk); (try clear hi)) | (go_at_call 31; (with_reducible refine (probe_Count.calls _ _ l0 1 t271 _ ?side1 ?side2 A34.out).mono ?_); (case side1 => repeat (first | exact (Kd.C_below HR0.out HB.out) | (with_reducible refine Kd.C_alloc ?_ _) | (with_reducible refine Kd.C_drewN ?_ _) | (with_reducible refine Kd.C_drew ?_))); (case side2 => exact HC0.out); (try clear A34); rintro e w37 ⟨rfl, hb⟩; have n0_ := Aside0.mk (Kd.R_below (by (with_reducible repeat (first | apply Kd.R_alloc | apply Kd.R_drewN | apply Kd.R_drew)); exact HO266.out) hb); have n1_ := Aside0.mk (below_step (by repeat (first | (with_reducible first | exact HB.out | apply below_alloc | apply pw_below_drewN | apply below_drew1) | exact HB.out)) hb); clear HO266; clear HB; have HO266 := n0_; have HB := n1_; clear n0_ n1_; (try clear hb); (try clear hb2); (try clear hk); (try clear hi))); try go_wp2_with (first | (go_at_call 49; (with_reducible refine (flows_Right.calls _ _ t262 true _ ?side1 ?side2 A31.out).mono ?_); (case side1 => repeat (first | exact (Kd.R_reads' HO266.out).2.2 | (with_reducible refine Kd.C_alloc ?_ _) | (with_reducible refine Kd.C_drewN ?_ _) | (with_reducible refine Kd.C_drew ?_))); (case side2 => exact (Kd.R_reads' HO266.out).2.1); (try clear A31); rintro e w35 ⟨rfl, hb⟩; have n0_ := Aside0.mk (Kd.R_below (by (with_reducible repeat (first | apply Kd.R_alloc | apply Kd.R_drewN | apply Kd.R_drew)); exact HO266.out) hb); have n1_ := Aside0.mk (below_step (by repeat (first | (with_reducible first | exact HB.out | apply below_alloc | apply pw_below_drewN | apply below_drew1) | exact HB.out)) hb); clear HO266; clear HB; have HO266 := n0_; have HB := n1_; clear n0_ n1_; (try clear hb); (try clear hb2); (try clear hk); (try clear hi)) | (go_at_call 31; (with_reducible refine (probe_Count.calls _ _ t262 1 t270 _ ?side1 ?side2 A33.out).mono ?_); (case side1 => repeat (first | exact (Kd.R_reads' HO266.out).2.2 | (with_reducible refine Kd.C_alloc ?_ _) | (with_reducible refine Kd.C_drewN ?_ _) | (with_reducible refine Kd.C_drew ?_))); (case side2 => exact (Kd.R_reads' HO266.out).2.1); (try clear A33); rintro e w36 ⟨rfl, hb⟩; have n0_ := Aside0.mk (Kd.R_below (by (with_reducible repeat (first | apply Kd.R_alloc | apply Kd.R_drewN | apply Kd.R_drew)); exact HO266.out) hb); have n1_ := Aside0.mk (below_step (by repeat (first | (with_reducible first | exact HB.out | apply below_alloc | apply pw_below_drewN | apply below_drew1) | exact HB.out)) hb); clear HO266; clear HB; have HO266 := n0_; have HB := n1_; clear n0_ n1_; (try clear hb); (try clear hb2); (try clear hk); (try clear hi)) | (go_at_call 31; (with_reducible refine (probe_Count.calls _ _ l0 1 t271 _ ?side1 ?side2 A34.out).mono ?_); (case side1 => repeat (first | exact (Kd.C_below HR0.out HB.out) | (with_reducible refine Kd.C_alloc ?_ _) | (with_reducible refine Kd.C_drewN ?_ _) | (with_reducible refine Kd.C_drew ?_))); (case side2 => exact HC0.out); (try clear A34); rintro e w37 ⟨rfl, hb⟩; have n0_ := Aside0.mk (Kd.R_below (by (with_reducible repeat (first | apply Kd.R_alloc | apply Kd.R_drewN | apply Kd.R_drew)); exact HO266.out) hb); have n1_ := Aside0.mk (below_step (by repeat (first | (with_reducible first | exact HB.out | apply below_alloc | apply pw_below_drewN | apply below_drew1) | exact HB.out)) hb); clear HO266; clear HB; have HO266 := n0_; have HB := n1_; clear n0_ n1_; (try clear hb); (try clear hb2); (try clear hk); (try clear hi))))
                          go_meet
                          case rel => exact ⟨_, ((t270 != (wrap64 (t271 - t264)))), (by first | rfl | (simp; done) | (simp [*]; done)), H', ⟨by have := HJ7.out; first | omega | exact Nat.le_refl _⟩, ⟨by (with_reducible repeat (first | apply Kd.R_alloc | apply Kd.R_drewN | apply Kd.R_drew)); exact HO266.out⟩, ⟨by repeat (first | (with_reducible first | exact HB.out | apply below_alloc | apply pw_below_drewN | apply below_drew1) | exact HB.out)⟩⟩
                        · replace c32 := Bool.eq_false_iff.mpr c32
                          subst c32
                          have H1 : (gangplanklaw13_SweepKeeps.j1 kj7 l0 a3 true t262 t264 t267 t268 true) = some r := by rw [if_neg (show ¬ (false = true) by decide)] at H; exact H
                          clear H
                          have H := H1
                          clear H1
                          have H' := Aside0.mk H
                          clear H
                          go_wp2_with (first | (go_at_call 49; (with_reducible refine (flows_Right.calls _ _ t262 false _ ?side1 ?side2 A31.out).mono ?_); (case side1 => repeat (first | exact (Kd.R_reads' HO266.out).2.2 | (with_reducible refine Kd.C_alloc ?_ _) | (with_reducible refine Kd.C_drewN ?_ _) | (with_reducible refine Kd.C_drew ?_))); (case side2 => exact (Kd.R_reads' HO266.out).2.1); (try clear A31); rintro e w38 ⟨rfl, hb⟩; have n0_ := Aside0.mk (Kd.R_below (by (with_reducible repeat (first | apply Kd.R_alloc | apply Kd.R_drewN | apply Kd.R_drew)); exact HO266.out) hb); have n1_ := Aside0.mk (below_step (by repeat (first | (with_reducible first | exact HB.out | apply below_alloc | apply pw_below_drewN | apply below_drew1) | exact HB.out)) hb); clear HO266; clear HB; have HO266 := n0_; have HB := n1_; clear n0_ n1_; (try clear hb); (try clear hb2); (try clear hk); (try clear hi)))
                          repeat (go_quiet (first | (go_at_call 49; (with_reducible refine (flows_Right.calls _ _ t262 false _ ?side1 ?side2 A31.out).mono ?_); (case side1 => repeat (first | exact (Kd.R_reads' HO266.out).2.2 | (with_reducible refine Kd.C_alloc ?_ _) | (with_reducible refine Kd.C_drewN ?_ _) | (with_reducible refine Kd.C_drew ?_))); (case side2 => exact (Kd.R_reads' HO266.out).2.1); (try clear A31); rintro e w38 ⟨rfl, hb⟩; have n0_ := Aside0.mk (Kd.R_below (by (with_reducible repeat (first | apply Kd.R_alloc | apply Kd.R_drewN | apply Kd.R_drew)); exact HO266.out) hb); have n1_ := Aside0.mk (below_step (by repeat (first | (with_reducible first | exact HB.out | apply below_alloc | apply pw_below_drewN | apply below_drew1) | exact HB.out)) hb); clear HO266; clear HB; have HO266 := n0_; have HB := n1_; clear n0_ n1_; (try clear hb); (try clear hb2); (try clear hk); (try clear hi))); try go_wp2_with (first | (go_at_call 49; (with_reducible refine (flows_Right.calls _ _ t262 false _ ?side1 ?side2 A31.out).mono ?_); (case side1 => repeat (first | exact (Kd.R_reads' HO266.out).2.2 | (with_reducible refine Kd.C_alloc ?_ _) | (with_reducible refine Kd.C_drewN ?_ _) | (with_reducible refine Kd.C_drew ?_))); (case side2 => exact (Kd.R_reads' HO266.out).2.1); (try clear A31); rintro e w38 ⟨rfl, hb⟩; have n0_ := Aside0.mk (Kd.R_below (by (with_reducible repeat (first | apply Kd.R_alloc | apply Kd.R_drewN | apply Kd.R_drew)); exact HO266.out) hb); have n1_ := Aside0.mk (below_step (by repeat (first | (with_reducible first | exact HB.out | apply below_alloc | apply pw_below_drewN | apply below_drew1) | exact HB.out)) hb); clear HO266; clear HB; have HO266 := n0_; have HB := n1_; clear n0_ n1_; (try clear hb); (try clear hb2); (try clear hk); (try clear hi))))
                          go_meet
                          case rel => exact ⟨_, (true), (by first | rfl | (simp; done) | (simp [*]; done)), H', ⟨by have := HJ7.out; first | omega | exact Nat.le_refl _⟩, ⟨by (with_reducible repeat (first | apply Kd.R_alloc | apply Kd.R_drewN | apply Kd.R_drew)); exact HO266.out⟩, ⟨by repeat (first | (with_reducible first | exact HB.out | apply below_alloc | apply pw_below_drewN | apply below_drew1) | exact HB.out)⟩⟩
                · rw [if_neg c26] at H
                  have c26b0 : ((t262.length : Int) == (l0.length : Int)) = false := beq_eq_false_iff_ne.mpr c26
                  have c26b1 : ((t262.length : Int) != (l0.length : Int)) = true := bne_iff_ne.mpr c26
                  have c26b2 : (t262.length == l0.length) = false := by first | simpa using c26 | (simp at c26 ⊢; omega)
                  have H' := Aside0.mk H
                  clear H
                  go_wp2
                  repeat (go_quiet (fail); try go_wp2)
                  go_meet
                  case rel => exact ⟨_, (true), (by first | rfl | (simp; done) | (simp [*]; done)), H', ⟨by have := HJ7.out; first | omega | exact Nat.le_refl _⟩, ⟨by (with_reducible repeat (first | apply Kd.R_alloc | apply Kd.R_drewN | apply Kd.R_drew)); exact HO266.out⟩, ⟨by repeat (first | (with_reducible first | exact HB.out | apply below_alloc | apply pw_below_drewN | apply below_drew1) | exact HB.out)⟩⟩
          case rest =>
            clear HC19
            try clear c1
            try clear c2
            try clear p2
            try clear c3
            try clear p6
            try clear c7
            try clear c11
            try clear c12
            try clear c12b0
            try clear c12b1
            try clear c15
            try clear c19
            try clear c24
            try clear c24b0
            try clear c25
            try clear c25b0
            try clear c26
            try clear c26b0
            try clear c26b1
            try clear c26b2
            try clear c27
            try clear c27b0
            try clear c28
            try clear c28b0
            try clear c30
            try clear c30b0
            try clear c32
            try clear p2
            obtain ⟨kq, x95_18, rfl, HA, HJ18, HO_12, HB⟩ := hcut
            cases kq with
            | zero => exact absurd HA.out (by simp [gangplanklaw13_SweepKeeps.j1])
            | succ kj18 =>
              have H := HA.out
              clear HA
              simp only [gangplanklaw13_SweepKeeps.j1] at H
              by_cases c39 : x95_18 = true
              · subst c39
                have H1 : (some false) = some r := by first | (rw [if_pos rfl] at H; exact H) | (rw [if_pos trivial] at H; exact H)
                clear H
                have H := H1
                clear H1
                obtain rfl := Option.some.inj H
                go_wp2
                repeat (go_quiet (fail); try go_wp2)
                go_ret
                exact ⟨by first | rfl | (simp [errW_none, errW_some] <;> rfl) | (simp [*, errW_none, errW_some] <;> rfl), by repeat (first | (with_reducible first | exact HB.out | apply below_alloc | apply pw_below_drewN | apply below_drew1) | exact HB.out)⟩
              · replace c39 := Bool.eq_false_iff.mpr c39
                subst c39
                have H1 : (if t267 < 0 then (if true = true then (some (decide (t268 < 0))) else (some false)) else (if t268 ≥ 0 then (if true = true then (if 0 ≤ t268 then (if t268 < (t262.length : Int) then (if 0 ≤ t267 then (if t267 < (l0.length : Int) then (some (((rd_T31 t262 t268).f0) == ((rd_T31 l0 t267).f0) && ((((rd_T31 t262 t268).f1).toList) == (((rd_T31 l0 t267).f1).toList) && (((rd_T31 t262 t268).f2) == ((rd_T31 l0 t267).f2) && (((rd_T31 t262 t268).f3) == ((rd_T31 l0 t267).f3)))))) else (none)) else (none)) else (none)) else (none)) else (some false)) else (if true = true then (if 0 ≤ t267 then (if t267 < (l0.length : Int) then ((sweep_Due.f ((rd_T31 l0 t267).f0) ((rd_T31 l0 t267).f1) ((rd_T31 l0 t267).f2) ((rd_T31 l0 t267).f3) a3).bind fun t275 => (if t275 = true then (some (decide (t264 > 0))) else (some false))) else (none)) else (none)) else (some false)))) = some r := by rw [if_neg (show ¬ (false = true) by decide)] at H; exact H
                clear H
                have H := H1
                clear H1
                by_cases c40 : t267 < 0
                · rw [if_pos c40] at H
                  have c40b0 : decide (t267 < 0) = true := decide_eq_true c40
                  clear c40
                  by_cases c41 : true = true
                  · skip
                    have H1 : (some (decide (t268 < 0))) = some r := by first | (rw [if_pos rfl] at H; exact H) | (rw [if_pos trivial] at H; exact H)
                    clear H
                    have H := H1
                    clear H1
                    obtain rfl := Option.some.inj H
                    go_wp2
                    repeat (go_quiet (fail); try go_wp2)
                    go_ret
                    exact ⟨by first | rfl | (simp [errW_none, errW_some] <;> rfl) | (simp [*, errW_none, errW_some] <;> rfl), by repeat (first | (with_reducible first | exact HB.out | apply below_alloc | apply pw_below_drewN | apply below_drew1) | exact HB.out)⟩
                  · exact absurd rfl c41
                · rw [if_neg c40] at H
                  have c40b0 : decide (t267 < 0) = false := decide_eq_false c40
                  clear c40
                  by_cases c42 : t268 ≥ 0
                  · rw [if_pos c42] at H
                    have c42b0 : decide (0 ≤ t268) = true := decide_eq_true c42
                    clear c42
                    by_cases c43 : true = true
                    · skip
                      have H1 : (if 0 ≤ t268 then (if t268 < (t262.length : Int) then (if 0 ≤ t267 then (if t267 < (l0.length : Int) then (some (((rd_T31 t262 t268).f0) == ((rd_T31 l0 t267).f0) && ((((rd_T31 t262 t268).f1).toList) == (((rd_T31 l0 t267).f1).toList) && (((rd_T31 t262 t268).f2) == ((rd_T31 l0 t267).f2) && (((rd_T31 t262 t268).f3) == ((rd_T31 l0 t267).f3)))))) else (none)) else (none)) else (none)) else (none)) = some r := by first | (rw [if_pos rfl] at H; exact H) | (rw [if_pos trivial] at H; exact H)
                      clear H
                      have H := H1
                      clear H1
                      by_cases c44 : 0 ≤ t268
                      · rw [if_pos c44] at H
                        have c44b0 : decide (0 ≤ t268) = true := decide_eq_true c44
                        clear c44
                        by_cases c45 : t268 < (t262.length : Int)
                        · rw [if_pos c45] at H
                          have c45b0 : decide (t268 < (t262.length : Int)) = true := decide_eq_true c45
                          clear c45
                          by_cases c46 : 0 ≤ t267
                          · rw [if_pos c46] at H
                            have c46b0 : decide (0 ≤ t267) = true := decide_eq_true c46
                            clear c46
                            by_cases c47 : t267 < (l0.length : Int)
                            · rw [if_pos c47] at H
                              have c47b0 : decide (t267 < (l0.length : Int)) = true := decide_eq_true c47
                              clear c47
                              obtain rfl := Option.some.inj H
                              have p272 : 0 ≤ (t268 : Int) := of_decide_eq_true (by first | (with_reducible assumption) | assumption)
                              have q272 : t268 < (t262.length : Int) := of_decide_eq_true (by first | (with_reducible assumption) | assumption)
                              obtain ⟨ad272, e272, hx272_0, hx272_1, hx272_2, hx272_3⟩ := at_T31 (Kd.R_reads' HO_12.out).2.2 t268 p272 q272
                              cases e272
                              replace p272 := eq_true p272
                              replace q272 := eq_true q272
                              have p273 : 0 ≤ (t267 : Int) := of_decide_eq_true (by first | (with_reducible assumption) | assumption)
                              have q273 : t267 < (l0.length : Int) := of_decide_eq_true (by first | (with_reducible assumption) | assumption)
                              obtain ⟨ad273, e273, hx273_0, hx273_1, hx273_2, hx273_3⟩ := at_T31 HR0.out t267 p273 q273
                              cases e273
                              replace hx273_0 := (HB.out.cell (World.block_lt_of_cell? w _ hx273_0)).trans hx273_0
                              replace hx273_1 := (HB.out.cell (World.block_lt_of_cell? w _ hx273_1)).trans hx273_1
                              replace hx273_2 := (HB.out.cell (World.block_lt_of_cell? w _ hx273_2)).trans hx273_2
                              replace hx273_3 := (HB.out.cell (World.block_lt_of_cell? w _ hx273_3)).trans hx273_3
                              replace p273 := eq_true p273
                              replace q273 := eq_true q273
                              go_wp2
                              repeat (go_quiet (fail); try go_wp2)
                              go_ret
                              exact ⟨by first | rfl | (simp [errW_none, errW_some] <;> rfl) | (simp [*, errW_none, errW_some] <;> rfl), by repeat (first | (with_reducible first | exact HB.out | apply below_alloc | apply pw_below_drewN | apply below_drew1) | exact HB.out)⟩
                            · rw [if_neg c47] at H
                              exact absurd H (by simp)
                          · rw [if_neg c46] at H
                            exact absurd H (by simp)
                        · rw [if_neg c45] at H
                          exact absurd H (by simp)
                      · rw [if_neg c44] at H
                        exact absurd H (by simp)
                    · exact absurd rfl c43
                  · rw [if_neg c42] at H
                    have c42b0 : decide (0 ≤ t268) = false := decide_eq_false c42
                    clear c42
                    by_cases c48 : true = true
                    · skip
                      have H1 : (if 0 ≤ t267 then (if t267 < (l0.length : Int) then ((sweep_Due.f ((rd_T31 l0 t267).f0) ((rd_T31 l0 t267).f1) ((rd_T31 l0 t267).f2) ((rd_T31 l0 t267).f3) a3).bind fun t275 => (if t275 = true then (some (decide (t264 > 0))) else (some false))) else (none)) else (none)) = some r := by first | (rw [if_pos rfl] at H; exact H) | (rw [if_pos trivial] at H; exact H)
                      clear H
                      have H := H1
                      clear H1
                      by_cases c49 : 0 ≤ t267
                      · rw [if_pos c49] at H
                        have c49b0 : decide (0 ≤ t267) = true := decide_eq_true c49
                        clear c49
                        by_cases c50 : t267 < (l0.length : Int)
                        · rw [if_pos c50] at H
                          have c50b0 : decide (t267 < (l0.length : Int)) = true := decide_eq_true c50
                          clear c50
                          replace H := Option.bind_eq_some_iff.mp H
                          obtain ⟨t275, A510, H⟩ := H
                          replace H : (if t275 = true then (some (decide (t264 > 0))) else (some false)) = some r := H
                          have A51 := Aside0.mk A510
                          clear A510
                          by_cases c52 : t275 = true
                          · subst c52
                            have H1 : (some (decide (t264 > 0))) = some r := by first | (rw [if_pos rfl] at H; exact H) | (rw [if_pos trivial] at H; exact H)
                            clear H
                            have H := H1
                            clear H1
                            obtain rfl := Option.some.inj H
                            have p274 : 0 ≤ (t267 : Int) := of_decide_eq_true (by first | (with_reducible assumption) | assumption)
                            have q274 : t267 < (l0.length : Int) := of_decide_eq_true (by first | (with_reducible assumption) | assumption)
                            obtain ⟨ad274, e274, hx274_0, hx274_1, hx274_2, hx274_3⟩ := at_T31 HR0.out t267 p274 q274
                            cases e274
                            replace hx274_0 := (HB.out.cell (World.block_lt_of_cell? w _ hx274_0)).trans hx274_0
                            replace hx274_1 := (HB.out.cell (World.block_lt_of_cell? w _ hx274_1)).trans hx274_1
                            replace hx274_2 := (HB.out.cell (World.block_lt_of_cell? w _ hx274_2)).trans hx274_2
                            replace hx274_3 := (HB.out.cell (World.block_lt_of_cell? w _ hx274_3)).trans hx274_3
                            replace p274 := eq_true p274
                            replace q274 := eq_true q274
                            go_wp2_with (first | (go_at_call 56; (with_reducible refine (sweep_Due.calls ((rd_T31 l0 t267).f0) ((rd_T31 l0 t267).f1) ((rd_T31 l0 t267).f2) ((rd_T31 l0 t267).f3) a3 true _ A51.out).mono ?_); (try clear A51); rintro e w53 ⟨rfl, hb⟩; have n0_ := Aside0.mk (Kd.R_below (by (with_reducible repeat (first | apply Kd.R_alloc | apply Kd.R_drewN | apply Kd.R_drew)); exact HO_12.out) hb); have n1_ := Aside0.mk (below_step (by repeat (first | (with_reducible first | exact HB.out | apply below_alloc | apply pw_below_drewN | apply below_drew1) | exact HB.out)) hb); clear HO_12; clear HB; have HO_12 := n0_; have HB := n1_; clear n0_ n1_; (try clear hb); (try clear hb2); (try clear hk); (try clear hi)))
                            repeat (go_quiet (first | (go_at_call 56; (with_reducible refine (sweep_Due.calls ((rd_T31 l0 t267).f0) ((rd_T31 l0 t267).f1) ((rd_T31 l0 t267).f2) ((rd_T31 l0 t267).f3) a3 true _ A51.out).mono ?_); (try clear A51); rintro e w53 ⟨rfl, hb⟩; have n0_ := Aside0.mk (Kd.R_below (by (with_reducible repeat (first | apply Kd.R_alloc | apply Kd.R_drewN | apply Kd.R_drew)); exact HO_12.out) hb); have n1_ := Aside0.mk (below_step (by repeat (first | (with_reducible first | exact HB.out | apply below_alloc | apply pw_below_drewN | apply below_drew1) | exact HB.out)) hb); clear HO_12; clear HB; have HO_12 := n0_; have HB := n1_; clear n0_ n1_; (try clear hb); (try clear hb2); (try clear hk); (try clear hi))); try go_wp2_with (first | (go_at_call 56; (with_reducible refine (sweep_Due.calls ((rd_T31 l0 t267).f0) ((rd_T31 l0 t267).f1) ((rd_T31 l0 t267).f2) ((rd_T31 l0 t267).f3) a3 true _ A51.out).mono ?_); (try clear A51); rintro e w53 ⟨rfl, hb⟩; have n0_ := Aside0.mk (Kd.R_below (by (with_reducible repeat (first | apply Kd.R_alloc | apply Kd.R_drewN | apply Kd.R_drew)); exact HO_12.out) hb); have n1_ := Aside0.mk (below_step (by repeat (first | (with_reducible first | exact HB.out | apply below_alloc | apply pw_below_drewN | apply below_drew1) | exact HB.out)) hb); clear HO_12; clear HB; have HO_12 := n0_; have HB := n1_; clear n0_ n1_; (try clear hb); (try clear hb2); (try clear hk); (try clear hi))))
                            go_ret
                            exact ⟨by first | rfl | (simp [errW_none, errW_some] <;> rfl) | (simp [*, errW_none, errW_some] <;> rfl), by repeat (first | (with_reducible first | exact HB.out | apply below_alloc | apply pw_below_drewN | apply below_drew1) | exact HB.out)⟩
                          · replace c52 := Bool.eq_false_iff.mpr c52
                            subst c52
                            have H1 : (some false) = some r := by rw [if_neg (show ¬ (false = true) by decide)] at H; exact H
                            clear H
                            have H := H1
                            clear H1
                            obtain rfl := Option.some.inj H
                            have p274 : 0 ≤ (t267 : Int) := of_decide_eq_true (by first | (with_reducible assumption) | assumption)
                            have q274 : t267 < (l0.length : Int) := of_decide_eq_true (by first | (with_reducible assumption) | assumption)
                            obtain ⟨ad274, e274, hx274_0, hx274_1, hx274_2, hx274_3⟩ := at_T31 HR0.out t267 p274 q274
                            cases e274
                            replace hx274_0 := (HB.out.cell (World.block_lt_of_cell? w _ hx274_0)).trans hx274_0
                            replace hx274_1 := (HB.out.cell (World.block_lt_of_cell? w _ hx274_1)).trans hx274_1
                            replace hx274_2 := (HB.out.cell (World.block_lt_of_cell? w _ hx274_2)).trans hx274_2
                            replace hx274_3 := (HB.out.cell (World.block_lt_of_cell? w _ hx274_3)).trans hx274_3
                            replace p274 := eq_true p274
                            replace q274 := eq_true q274
                            go_wp2_with (first | (go_at_call 56; (with_reducible refine (sweep_Due.calls ((rd_T31 l0 t267).f0) ((rd_T31 l0 t267).f1) ((rd_T31 l0 t267).f2) ((rd_T31 l0 t267).f3) a3 false _ A51.out).mono ?_); (try clear A51); rintro e w54 ⟨rfl, hb⟩; have n0_ := Aside0.mk (Kd.R_below (by (with_reducible repeat (first | apply Kd.R_alloc | apply Kd.R_drewN | apply Kd.R_drew)); exact HO_12.out) hb); have n1_ := Aside0.mk (below_step (by repeat (first | (with_reducible first | exact HB.out | apply below_alloc | apply pw_below_drewN | apply below_drew1) | exact HB.out)) hb); clear HO_12; clear HB; have HO_12 := n0_; have HB := n1_; clear n0_ n1_; (try clear hb); (try clear hb2); (try clear hk); (try clear hi)))
                            repeat (go_quiet (first | (go_at_call 56; (with_reducible refine (sweep_Due.calls ((rd_T31 l0 t267).f0) ((rd_T31 l0 t267).f1) ((rd_T31 l0 t267).f2) ((rd_T31 l0 t267).f3) a3 false _ A51.out).mono ?_); (try clear A51); rintro e w54 ⟨rfl, hb⟩; have n0_ := Aside0.mk (Kd.R_below (by (with_reducible repeat (first | apply Kd.R_alloc | apply Kd.R_drewN | apply Kd.R_drew)); exact HO_12.out) hb); have n1_ := Aside0.mk (below_step (by repeat (first | (with_reducible first | exact HB.out | apply below_alloc | apply pw_below_drewN | apply below_drew1) | exact HB.out)) hb); clear HO_12; clear HB; have HO_12 := n0_; have HB := n1_; clear n0_ n1_; (try clear hb); (try clear hb2); (try clear hk); (try clear hi))); try go_wp2_with (first | (go_at_call 56; (with_reducible refine (sweep_Due.calls ((rd_T31 l0 t267).f0) ((rd_T31 l0 t267).f1) ((rd_T31 l0 t267).f2) ((rd_T31 l0 t267).f3) a3 false _ A51.out).mono ?_); (try clear A51); rintro e w54 ⟨rfl, hb⟩; have n0_ := Aside0.mk (Kd.R_below (by (with_reducible repeat (first | apply Kd.R_alloc | apply Kd.R_drewN | apply Kd.R_drew)); exact HO_12.out) hb); have n1_ := Aside0.mk (below_step (by repeat (first | (with_reducible first | exact HB.out | apply below_alloc | apply pw_below_drewN | apply below_drew1) | exact HB.out)) hb); clear HO_12; clear HB; have HO_12 := n0_; have HB := n1_; clear n0_ n1_; (try clear hb); (try clear hb2); (try clear hk); (try clear hi))))
                            go_ret
                            exact ⟨by first | rfl | (simp [errW_none, errW_some] <;> rfl) | (simp [*, errW_none, errW_some] <;> rfl), by repeat (first | (with_reducible first | exact HB.out | apply below_alloc | apply pw_below_drewN | apply below_drew1) | exact HB.out)⟩
                        · rw [if_neg c50] at H
                          exact absurd H (by simp)
                      · rw [if_neg c49] at H
                        exact absurd H (by simp)
                    · exact absurd rfl c48
  · replace c7 := Bool.eq_false_iff.mpr c7
    subst c7
    have H1 : (some false) = some r := by rw [if_neg (show ¬ (false = true) by decide)] at H; exact H
    clear H
    have H := H1
    clear H1
    obtain rfl := Option.some.inj H
    go_enter Try.func19, Try.ntmps19
    go_wp2_with (first | (go_at_call 50; (with_reducible refine (gangplanklaw13_works.calls k  false _ A6.out).mono ?_); (try clear A6); rintro e w55 ⟨rfl, hb⟩; have n0_ := Aside0.mk (below_step (by repeat (first | (with_reducible first | exact HB.out | apply below_alloc | apply pw_below_drewN | apply below_drew1) | exact HB.out)) hb); clear HB; have HB := n0_; clear n0_; (try clear hb); (try clear hb2); (try clear hk); (try clear hi)))
    repeat (go_quiet (first | (go_at_call 50; (with_reducible refine (gangplanklaw13_works.calls k  false _ A6.out).mono ?_); (try clear A6); rintro e w55 ⟨rfl, hb⟩; have n0_ := Aside0.mk (below_step (by repeat (first | (with_reducible first | exact HB.out | apply below_alloc | apply pw_below_drewN | apply below_drew1) | exact HB.out)) hb); clear HB; have HB := n0_; clear n0_; (try clear hb); (try clear hb2); (try clear hk); (try clear hi))); try go_wp2_with (first | (go_at_call 50; (with_reducible refine (gangplanklaw13_works.calls k  false _ A6.out).mono ?_); (try clear A6); rintro e w55 ⟨rfl, hb⟩; have n0_ := Aside0.mk (below_step (by repeat (first | (with_reducible first | exact HB.out | apply below_alloc | apply pw_below_drewN | apply below_drew1) | exact HB.out)) hb); clear HB; have HB := n0_; clear n0_; (try clear hb); (try clear hb2); (try clear hk); (try clear hi))))
    go_ret
    exact ⟨by first | rfl | (simp [errW_none, errW_some] <;> rfl) | (simp [*, errW_none, errW_some] <;> rfl), by repeat (first | (with_reducible first | exact HB.out | apply below_alloc | apply pw_below_drewN | apply below_drew1) | exact HB.out)⟩

/-- THE PURE STATEMENT of gangplanklaw13_SweepKeeps. -/
def gangplanklaw13_SweepKeeps.Pure : Prop := ∀ (l0 : List (S31)) (a1 : Int) (a2 : Int) (a3 : Int) (a4 : ByteArray), (l0.length ≤ maxLen) → ((∀ x ∈ l0, okS31 x)) → ((Lit.int .i64 a1).wf = true) → ((Lit.int .i64 a2).wf = true) → ((Lit.int .i64 a3).wf = true) → (a4.size ≤ 140737488351232) → ∃ k, gangplanklaw13_SweepKeeps.f k l0 a1 a2 a3 a4 = some true

end Go.Proofs.Ythdkkmeiihbafaa.P
