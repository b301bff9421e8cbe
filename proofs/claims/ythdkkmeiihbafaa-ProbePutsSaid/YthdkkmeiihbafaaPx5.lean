/- Each Go function that the laws reach, as a plain function, with the proof that the machine's call comes to what it says; of a law: its row. Made by a program of this seat (wip/hp.py, over the print). -/
import Derived.Test.YthdkkmeiihbafaaPx0
import Derived.Test.YthdkkmeiihbafaaPx2
import Derived.Test.YthdkkmeiihbafaaPx3
import Derived.Test.YthdkkmeiihbafaaPx4
namespace Go.Proofs.Ythdkkmeiihbafaa.P
open Go.RowKit Go.Proofs.YthdkkmeiihbafaaW.PrintWords Go.Proofs.YthdkkmeiihbafaaW.PrintLast Go.Proofs.YthdkkmeiihbafaaW.PrintMore
attribute [local go_sem] max2_int min2_int max_two min_two max_three min_three max_four min_four   -- for this text's walks alone
set_option linter.unusedVariables false
set_option linter.unusedSimpArgs false

/-! ### gangplanklaw11_ProbeTells: function 3 -/
mutual
def gangplanklaw11_ProbeTells.j0 : Nat → List (S31) → List (S31) → ByteArray → Int → Int → Bool → Bool → Option (Bool)
  | 0, _, _, _, _, _, _, _ => none
  | k + 1, x0, x1, x2, x3, x4, x11, x12 => if x12 = true then (gangplanklaw11_ProbeTells.j1 k x0 x1 x2 x3 x4 x11 (decide ((x2.size : Int) > 60))) else (gangplanklaw11_ProbeTells.j1 k x0 x1 x2 x3 x4 x11 true)
def gangplanklaw11_ProbeTells.j1 : Nat → List (S31) → List (S31) → ByteArray → Int → Int → Bool → Bool → Option (Bool)
  | 0, _, _, _, _, _, _, _ => none
  | k + 1, x0, x1, x2, x3, x4, x11, x29 => if x29 = true then (some x11) else ((gangplankref11_Same.f k x0 x1).bind fun t138 => (if x11 = true then ((probe_Find.f x0 x2).bind fun t139 => ((gangplankref11_Find.f k x0 x2).bind fun t140 => (if t139 = t140 then ((probe_Room.f x0 x2).bind fun t141 => ((gangplankref11_Room.f k x0 x2).bind fun t142 => (if t141 = t142 then ((probe_Home.f x2 x3).bind fun t143 => ((gangplankref11_Home.f k x2 x3).bind fun t144 => (if t143 = t144 then ((probe_Count.f x0 x4).bind fun t145 => ((gangplankref11_Count.f k x0 x4).bind fun t146 => (if t145 = t146 then ((probe_Same.f k x0 x1).bind fun t147 => (some (t147 == t138))) else (some false)))) else (some false)))) else (some false)))) else (some false)))) else (some false)))
end
def gangplanklaw11_ProbeTells.f (k : Nat) (l0 : List (S31)) (l1 : List (S31)) (a2 : ByteArray) (a3 : Int) (a4 : Int) : Option (Bool) := (gangplanklaw11_works.f k).bind fun t135 => (if t135 = true then ((gangplankref11_Few.f k l0).bind fun t136 => (if t136 = true then ((gangplankref11_Few.f k l1).bind fun t137 => (gangplanklaw11_ProbeTells.j0 k l0 l1 a2 a3 a4 t135 t137)) else (gangplanklaw11_ProbeTells.j0 k l0 l1 a2 a3 a4 t135 false))) else (some false))
theorem gangplanklaw11_ProbeTells.mono_l : ∀ k, (∀ y0 y1 y2 y3 y4 y5 y6, LeO (gangplanklaw11_ProbeTells.j0 k y0 y1 y2 y3 y4 y5 y6) (gangplanklaw11_ProbeTells.j0 (k + 1) y0 y1 y2 y3 y4 y5 y6)) ∧ (∀ y0 y1 y2 y3 y4 y5 y6, LeO (gangplanklaw11_ProbeTells.j1 k y0 y1 y2 y3 y4 y5 y6) (gangplanklaw11_ProbeTells.j1 (k + 1) y0 y1 y2 y3 y4 y5 y6))
  | 0 => ⟨fun _ _ _ _ _ _ _ r h => by simp [gangplanklaw11_ProbeTells.j0] at h, fun _ _ _ _ _ _ _ r h => by simp [gangplanklaw11_ProbeTells.j1] at h⟩
  | k + 1 => by
    obtain ⟨ih0, ih1⟩ := gangplanklaw11_ProbeTells.mono_l k
    refine ⟨?_, ?_⟩
    · intro y0 y1 y2 y3 y4 y5 y6
      unfold gangplanklaw11_ProbeTells.j0
      repeat' first
      | (with_reducible exact ih0 _ _ _ _ _ _ _)
      | (with_reducible exact ih1 _ _ _ _ _ _ _)
      | (with_reducible exact gangplanklaw11_works.mono _)
      | (with_reducible exact gangplankref11_Count.mono _ _ _)
      | (with_reducible exact gangplankref11_Few.mono _ _)
      | (with_reducible exact gangplankref11_Find.mono _ _ _)
      | (with_reducible exact gangplankref11_Home.mono _ _ _)
      | (with_reducible exact gangplankref11_Room.mono _ _ _)
      | (with_reducible exact gangplankref11_Same.mono _ _ _)
      | (with_reducible exact probe_Same.mono _ _ _)
      | (with_reducible exact LeO.refl _)
      | (with_reducible exact LeO.none _)
      | (with_reducible refine LeO.ite ?_ ?_)
      | (with_reducible refine LeO.bind ?_ (fun _ => ?_))
      | exact ih0 _ _ _ _ _ _ _
      | exact ih1 _ _ _ _ _ _ _
      | exact gangplanklaw11_works.mono _
      | exact gangplankref11_Count.mono _ _ _
      | exact gangplankref11_Few.mono _ _
      | exact gangplankref11_Find.mono _ _ _
      | exact gangplankref11_Home.mono _ _ _
      | exact gangplankref11_Room.mono _ _ _
      | exact gangplankref11_Same.mono _ _ _
      | exact probe_Same.mono _ _ _
      | exact LeO.none _
      | refine LeO.ite ?_ ?_
      | refine LeO.bind ?_ (fun _ => ?_)
    · intro y0 y1 y2 y3 y4 y5 y6
      unfold gangplanklaw11_ProbeTells.j1
      repeat' first
      | (with_reducible exact ih0 _ _ _ _ _ _ _)
      | (with_reducible exact ih1 _ _ _ _ _ _ _)
      | (with_reducible exact gangplanklaw11_works.mono _)
      | (with_reducible exact gangplankref11_Count.mono _ _ _)
      | (with_reducible exact gangplankref11_Few.mono _ _)
      | (with_reducible exact gangplankref11_Find.mono _ _ _)
      | (with_reducible exact gangplankref11_Home.mono _ _ _)
      | (with_reducible exact gangplankref11_Room.mono _ _ _)
      | (with_reducible exact gangplankref11_Same.mono _ _ _)
      | (with_reducible exact probe_Same.mono _ _ _)
      | (with_reducible exact LeO.refl _)
      | (with_reducible exact LeO.none _)
      | (with_reducible refine LeO.ite ?_ ?_)
      | (with_reducible refine LeO.bind ?_ (fun _ => ?_))
      | exact ih0 _ _ _ _ _ _ _
      | exact ih1 _ _ _ _ _ _ _
      | exact gangplanklaw11_works.mono _
      | exact gangplankref11_Count.mono _ _ _
      | exact gangplankref11_Few.mono _ _
      | exact gangplankref11_Find.mono _ _ _
      | exact gangplankref11_Home.mono _ _ _
      | exact gangplankref11_Room.mono _ _ _
      | exact gangplankref11_Same.mono _ _ _
      | exact probe_Same.mono _ _ _
      | exact LeO.none _
      | refine LeO.ite ?_ ?_
      | refine LeO.bind ?_ (fun _ => ?_)
theorem gangplanklaw11_ProbeTells.mono : ∀ a0 a1 a2 a3 a4 k, LeO (gangplanklaw11_ProbeTells.f k a0 a1 a2 a3 a4) (gangplanklaw11_ProbeTells.f (k + 1) a0 a1 a2 a3 a4) := by
  intro a0 a1 a2 a3 a4 k
  obtain ⟨ih0, ih1⟩ := gangplanklaw11_ProbeTells.mono_l k
  unfold gangplanklaw11_ProbeTells.f
  repeat' first
      | (with_reducible exact ih0 _ _ _ _ _ _ _)
      | (with_reducible exact ih1 _ _ _ _ _ _ _)
      | (with_reducible exact gangplanklaw11_works.mono _)
      | (with_reducible exact gangplankref11_Count.mono _ _ _)
      | (with_reducible exact gangplankref11_Few.mono _ _)
      | (with_reducible exact gangplankref11_Find.mono _ _ _)
      | (with_reducible exact gangplankref11_Home.mono _ _ _)
      | (with_reducible exact gangplankref11_Room.mono _ _ _)
      | (with_reducible exact gangplankref11_Same.mono _ _ _)
      | (with_reducible exact probe_Same.mono _ _ _)
      | (with_reducible exact LeO.refl _)
      | (with_reducible exact LeO.none _)
      | (with_reducible refine LeO.ite ?_ ?_)
      | (with_reducible refine LeO.bind ?_ (fun _ => ?_))
      | exact ih0 _ _ _ _ _ _ _
      | exact ih1 _ _ _ _ _ _ _
      | exact gangplanklaw11_works.mono _
      | exact gangplankref11_Count.mono _ _ _
      | exact gangplankref11_Few.mono _ _
      | exact gangplankref11_Find.mono _ _ _
      | exact gangplankref11_Home.mono _ _ _
      | exact gangplankref11_Room.mono _ _ _
      | exact gangplankref11_Same.mono _ _ _
      | exact probe_Same.mono _ _ _
      | exact LeO.none _
      | refine LeO.ite ?_ ?_
      | refine LeO.bind ?_ (fun _ => ?_)
set_option maxHeartbeats 8000000 in
set_option maxRecDepth 100000 in
theorem gangplanklaw11_ProbeTells.calls (k : Nat) (A0 : Option Addr) (c0 : Nat) (l0 : List (S31)) (A1 : Option Addr) (c1 : Nat) (l1 : List (S31)) (a2 : ByteArray) (a3 : Int) (a4 : Int) (r : Bool) (w : World) (hr0 : Kd.C k31 w A0 l0.length l0) (hc0 : l0.length ≤ c0) (hr1 : Kd.C k31 w A1 l1.length l1) (hc1 : l1.length ≤ c1) (h : gangplanklaw11_ProbeTells.f k l0 l1 a2 a3 a4 = some r) :
    Calls Try.prog 3 #[.slice A0 l0.length c0, .slice A1 l1.length c1, .string a2, .int .i64 a3, .int .i64 a4] w fun e w' => e = .returned (.bool r) ∧ Below w.heap.size w w' := by
  have HR0 := Aside0.mk hr0
  have HC0 := Aside0.mk hc0
  clear hr0 hc0
  have HR1 := Aside0.mk hr1
  have HC1 := Aside0.mk hc1
  clear hr1 hc1
  have HB := Aside0.mk (Below.refl w.heap.size w)
  have H : ((gangplanklaw11_works.f k).bind fun t135 => (if t135 = true then ((gangplankref11_Few.f k l0).bind fun t136 => (if t136 = true then ((gangplankref11_Few.f k l1).bind fun t137 => (gangplanklaw11_ProbeTells.j0 k l0 l1 a2 a3 a4 t135 t137)) else (gangplanklaw11_ProbeTells.j0 k l0 l1 a2 a3 a4 t135 false))) else (some false))) = some r := h
  clear h
  replace H := Option.bind_eq_some_iff.mp H
  obtain ⟨t135, A60, H⟩ := H
  replace H : (if t135 = true then ((gangplankref11_Few.f k l0).bind fun t136 => (if t136 = true then ((gangplankref11_Few.f k l1).bind fun t137 => (gangplanklaw11_ProbeTells.j0 k l0 l1 a2 a3 a4 t135 t137)) else (gangplanklaw11_ProbeTells.j0 k l0 l1 a2 a3 a4 t135 false))) else (some false)) = some r := H
  have A6 := Aside0.mk A60
  clear A60
  by_cases c7 : t135 = true
  · subst c7
    have H1 : ((gangplankref11_Few.f k l0).bind fun t136 => (if t136 = true then ((gangplankref11_Few.f k l1).bind fun t137 => (gangplanklaw11_ProbeTells.j0 k l0 l1 a2 a3 a4 true t137)) else (gangplanklaw11_ProbeTells.j0 k l0 l1 a2 a3 a4 true false))) = some r := by first | (rw [if_pos rfl] at H; exact H) | (rw [if_pos trivial] at H; exact H)
    clear H
    have H := H1
    clear H1
    have HC8 := Aside0.mk H
    clear H
    go_enter Try.func3, Try.ntmps3
    go_upto_region 4 with (first | ((with_reducible refine gate_callee (f := 22) rfl ?_); refine goesL_ (some 14) rfl rfl Try.func22 (by kernel_rfl) rfl #[] rfl (by (try simp only [List.map_toArray, List.map_cons, List.map_nil]); first | done | rfl | (simp only [List.length_drop, List.length_take]; rfl)) ?_; (with_reducible refine (gangplanklaw11_works.calls k  true _ A6.out).mono ?_); (try clear A6); rintro e w9 ⟨rfl, hb⟩; refine ⟨_, rfl, ?_⟩; have n0_ := Aside0.mk (below_step (by repeat (first | (with_reducible first | exact HB.out | apply below_alloc | apply pw_below_drewN | apply below_drew1) | exact HB.out)) hb); clear HB; have HB := n0_; clear n0_; (try clear hb); (try clear hb2); (try clear hk); (try clear hi)))
    (try simp only [Act.put, List.setIfInBounds_toArray, List.set_cons_zero, List.set_cons_succ])
    go_cut [12] (fun v12 wc => ∃ (kq : Nat) (x12_7 : Bool), v12 = .bool x12_7 ∧ Aside0 (gangplanklaw11_ProbeTells.j0 kq l0 l1 a2 a3 a4 true x12_7 = some r) ∧ Aside0 (kq ≤ k) ∧ Aside0 (Below w.heap.size w wc))
    case first =>
      have H := HC8.out
      clear HC8
      replace H := Option.bind_eq_some_iff.mp H
      obtain ⟨t136, A100, H⟩ := H
      replace H : (if t136 = true then ((gangplankref11_Few.f k l1).bind fun t137 => (gangplanklaw11_ProbeTells.j0 k l0 l1 a2 a3 a4 true t137)) else (gangplanklaw11_ProbeTells.j0 k l0 l1 a2 a3 a4 true false)) = some r := H
      have A10 := Aside0.mk A100
      clear A100
      by_cases c11 : t136 = true
      · subst c11
        have H1 : ((gangplankref11_Few.f k l1).bind fun t137 => (gangplanklaw11_ProbeTells.j0 k l0 l1 a2 a3 a4 true t137)) = some r := by first | (rw [if_pos rfl] at H; exact H) | (rw [if_pos trivial] at H; exact H)
        clear H
        have H := H1
        clear H1
        replace H := Option.bind_eq_some_iff.mp H
        obtain ⟨t137, A120, H⟩ := H
        replace H : (gangplanklaw11_ProbeTells.j0 k l0 l1 a2 a3 a4 true t137) = some r := H
        have A12 := Aside0.mk A120
        clear A120
        have H' := Aside0.mk H
        clear H
        go_wp2_with (first | ((with_reducible refine gate_callee (f := 23) rfl ?_); refine goesL_ (some 18) rfl rfl Try.func23 (by kernel_rfl) rfl #[.slice A0 l0.length c0] rfl (by (try simp only [List.map_toArray, List.map_cons, List.map_nil]); first | done | rfl | (simp only [List.length_drop, List.length_take]; rfl)) ?_; (with_reducible refine (gangplankref11_Few.calls k _ _ l0 true _ ?side1 ?side2 A10.out).mono ?_); (case side1 => repeat (first | exact (Kd.C_below HR0.out HB.out) | (with_reducible refine Kd.C_alloc ?_ _) | (with_reducible refine Kd.C_drewN ?_ _) | (with_reducible refine Kd.C_drew ?_))); (case side2 => exact HC0.out); (try clear A10); rintro e w' ⟨rfl, ⟨nd, rfl⟩⟩; refine ⟨_, rfl, ?_⟩) | (go_at_call 23; (with_reducible refine (gangplankref11_Few.calls k _ _ l1 t137 _ ?side1 ?side2 A12.out).mono ?_); (case side1 => repeat (first | exact (Kd.C_below HR1.out (by repeat (first | (with_reducible first | exact HB.out | apply below_alloc | apply pw_below_drewN | apply below_drew1) | exact HB.out))) | (with_reducible refine Kd.C_alloc ?_ _) | (with_reducible refine Kd.C_drewN ?_ _) | (with_reducible refine Kd.C_drew ?_))); (case side2 => exact HC1.out); (try clear A12); rintro e w' ⟨rfl, ⟨nd, rfl⟩⟩))
        go_meet
        case rel => exact ⟨_, (t137), (by first | rfl | (simp; done) | (simp [*]; done)), H', ⟨by first | omega | exact Nat.le_refl _⟩, ⟨by repeat (first | (with_reducible first | exact HB.out | apply below_alloc | apply pw_below_drewN | apply below_drew1) | exact HB.out)⟩⟩
      · replace c11 := Bool.eq_false_iff.mpr c11
        subst c11
        have H1 : (gangplanklaw11_ProbeTells.j0 k l0 l1 a2 a3 a4 true false) = some r := by rw [if_neg (show ¬ (false = true) by decide)] at H; exact H
        clear H
        have H := H1
        clear H1
        have H' := Aside0.mk H
        clear H
        go_wp2_with (first | ((with_reducible refine gate_callee (f := 23) rfl ?_); refine goesL_ (some 18) rfl rfl Try.func23 (by kernel_rfl) rfl #[.slice A0 l0.length c0] rfl (by (try simp only [List.map_toArray, List.map_cons, List.map_nil]); first | done | rfl | (simp only [List.length_drop, List.length_take]; rfl)) ?_; (with_reducible refine (gangplankref11_Few.calls k _ _ l0 false _ ?side1 ?side2 A10.out).mono ?_); (case side1 => repeat (first | exact (Kd.C_below HR0.out HB.out) | (with_reducible refine Kd.C_alloc ?_ _) | (with_reducible refine Kd.C_drewN ?_ _) | (with_reducible refine Kd.C_drew ?_))); (case side2 => exact HC0.out); (try clear A10); rintro e w' ⟨rfl, ⟨nd, rfl⟩⟩; refine ⟨_, rfl, ?_⟩))
        go_meet
        case rel => exact ⟨_, (false), (by first | rfl | (simp; done) | (simp [*]; done)), H', ⟨by first | omega | exact Nat.le_refl _⟩, ⟨by repeat (first | (with_reducible first | exact HB.out | apply below_alloc | apply pw_below_drewN | apply below_drew1) | exact HB.out)⟩⟩
    case rest =>
      clear HC8
      try clear c1
      try clear c2
      try clear p2
      try clear c3
      try clear c7
      try clear c11
      obtain ⟨kq, x12_7, rfl, HA, HJ7, HB⟩ := hcut
      cases kq with
      | zero => exact absurd HA.out (by simp [gangplanklaw11_ProbeTells.j0])
      | succ kj7 =>
        have H := HA.out
        clear HA
        simp only [gangplanklaw11_ProbeTells.j0] at H
        have HC13 := Aside0.mk H
        clear H
        go_upto_region 5 with (fail)
        go_cut [29] (fun v29 wc => ∃ (kq : Nat) (x29_12 : Bool), v29 = .bool x29_12 ∧ Aside0 (gangplanklaw11_ProbeTells.j1 kq l0 l1 a2 a3 a4 true x29_12 = some r) ∧ Aside0 (kq ≤ kj7) ∧ Aside0 (Below w.heap.size w wc))
        case first =>
          have H := HC13.out
          clear HC13
          by_cases c14 : x12_7 = true
          · subst c14
            have H1 : (gangplanklaw11_ProbeTells.j1 kj7 l0 l1 a2 a3 a4 true (decide ((a2.size : Int) > 60))) = some r := by first | (rw [if_pos rfl] at H; exact H) | (rw [if_pos trivial] at H; exact H)
            clear H
            have H := H1
            clear H1
            have H' := Aside0.mk H
            clear H
            go_wp2
            go_meet
            case rel => exact ⟨_, (decide ((a2.size : Int) > 60)), (by first | rfl | (simp; done) | (simp [*]; done)), H', ⟨by have := HJ7.out; first | omega | exact Nat.le_refl _⟩, ⟨by repeat (first | (with_reducible first | exact HB.out | apply below_alloc | apply pw_below_drewN | apply below_drew1) | exact HB.out)⟩⟩
          · replace c14 := Bool.eq_false_iff.mpr c14
            subst c14
            have H1 : (gangplanklaw11_ProbeTells.j1 kj7 l0 l1 a2 a3 a4 true true) = some r := by rw [if_neg (show ¬ (false = true) by decide)] at H; exact H
            clear H
            have H := H1
            clear H1
            have H' := Aside0.mk H
            clear H
            go_wp2
            go_meet
            case rel => exact ⟨_, (true), (by first | rfl | (simp; done) | (simp [*]; done)), H', ⟨by have := HJ7.out; first | omega | exact Nat.le_refl _⟩, ⟨by repeat (first | (with_reducible first | exact HB.out | apply below_alloc | apply pw_below_drewN | apply below_drew1) | exact HB.out)⟩⟩
        case rest =>
          clear HC13
          try clear c1
          try clear c2
          try clear p2
          try clear c3
          try clear c7
          try clear c11
          try clear c14
          try clear p2
          obtain ⟨kq, x29_12, rfl, HA, HJ12, HB⟩ := hcut
          cases kq with
          | zero => exact absurd HA.out (by simp [gangplanklaw11_ProbeTells.j1])
          | succ kj12 =>
            have H := HA.out
            clear HA
            simp only [gangplanklaw11_ProbeTells.j1] at H
            by_cases c15 : x29_12 = true
            · subst c15
              have H1 : (some true) = some r := by first | (rw [if_pos rfl] at H; exact H) | (rw [if_pos trivial] at H; exact H)
              clear H
              have H := H1
              clear H1
              obtain rfl := Option.some.inj H
              go_wp2
              go_ret
              exact ⟨by first | rfl | (simp [errW_none, errW_some] <;> rfl) | (simp [*, errW_none, errW_some] <;> rfl), by repeat (first | (with_reducible first | exact HB.out | apply below_alloc | apply pw_below_drewN | apply below_drew1) | exact HB.out)⟩
            · replace c15 := Bool.eq_false_iff.mpr c15
              subst c15
              have H1 : ((gangplankref11_Same.f kj12 l0 l1).bind fun t138 => (if true = true then ((probe_Find.f l0 a2).bind fun t139 => ((gangplankref11_Find.f kj12 l0 a2).bind fun t140 => (if t139 = t140 then ((probe_Room.f l0 a2).bind fun t141 => ((gangplankref11_Room.f kj12 l0 a2).bind fun t142 => (if t141 = t142 then ((probe_Home.f a2 a3).bind fun t143 => ((gangplankref11_Home.f kj12 a2 a3).bind fun t144 => (if t143 = t144 then ((probe_Count.f l0 a4).bind fun t145 => ((gangplankref11_Count.f kj12 l0 a4).bind fun t146 => (if t145 = t146 then ((probe_Same.f kj12 l0 l1).bind fun t147 => (some (t147 == t138))) else (some false)))) else (some false)))) else (some false)))) else (some false)))) else (some false))) = some r := by rw [if_neg (show ¬ (false = true) by decide)] at H; exact H
              clear H
              have H := H1
              clear H1
              replace H := Option.bind_eq_some_iff.mp H
              obtain ⟨t138, A160, H⟩ := H
              replace H : (if true = true then ((probe_Find.f l0 a2).bind fun t139 => ((gangplankref11_Find.f kj12 l0 a2).bind fun t140 => (if t139 = t140 then ((probe_Room.f l0 a2).bind fun t141 => ((gangplankref11_Room.f kj12 l0 a2).bind fun t142 => (if t141 = t142 then ((probe_Home.f a2 a3).bind fun t143 => ((gangplankref11_Home.f kj12 a2 a3).bind fun t144 => (if t143 = t144 then ((probe_Count.f l0 a4).bind fun t145 => ((gangplankref11_Count.f kj12 l0 a4).bind fun t146 => (if t145 = t146 then ((probe_Same.f kj12 l0 l1).bind fun t147 => (some (t147 == t138))) else (some false)))) else (some false)))) else (some false)))) else (some false)))) else (some false)) = some r := H
              have A16 := Aside0.mk A160
              clear A160
              by_cases c17 : true = true
              · skip
                have H1 : ((probe_Find.f l0 a2).bind fun t139 => ((gangplankref11_Find.f kj12 l0 a2).bind fun t140 => (if t139 = t140 then ((probe_Room.f l0 a2).bind fun t141 => ((gangplankref11_Room.f kj12 l0 a2).bind fun t142 => (if t141 = t142 then ((probe_Home.f a2 a3).bind fun t143 => ((gangplankref11_Home.f kj12 a2 a3).bind fun t144 => (if t143 = t144 then ((probe_Count.f l0 a4).bind fun t145 => ((gangplankref11_Count.f kj12 l0 a4).bind fun t146 => (if t145 = t146 then ((probe_Same.f kj12 l0 l1).bind fun t147 => (some (t147 == t138))) else (some false)))) else (some false)))) else (some false)))) else (some false)))) = some r := by first | (rw [if_pos rfl] at H; exact H) | (rw [if_pos trivial] at H; exact H)
                clear H
                have H := H1
                clear H1
                replace H := Option.bind_eq_some_iff.mp H
                obtain ⟨t139, A180, H⟩ := H
                replace H : ((gangplankref11_Find.f kj12 l0 a2).bind fun t140 => (if t139 = t140 then ((probe_Room.f l0 a2).bind fun t141 => ((gangplankref11_Room.f kj12 l0 a2).bind fun t142 => (if t141 = t142 then ((probe_Home.f a2 a3).bind fun t143 => ((gangplankref11_Home.f kj12 a2 a3).bind fun t144 => (if t143 = t144 then ((probe_Count.f l0 a4).bind fun t145 => ((gangplankref11_Count.f kj12 l0 a4).bind fun t146 => (if t145 = t146 then ((probe_Same.f kj12 l0 l1).bind fun t147 => (some (t147 == t138))) else (some false)))) else (some false)))) else (some false)))) else (some false))) = some r := H
                have A18 := Aside0.mk A180
                clear A180
                replace H := Option.bind_eq_some_iff.mp H
                obtain ⟨t140, A190, H⟩ := H
                replace H : (if t139 = t140 then ((probe_Room.f l0 a2).bind fun t141 => ((gangplankref11_Room.f kj12 l0 a2).bind fun t142 => (if t141 = t142 then ((probe_Home.f a2 a3).bind fun t143 => ((gangplankref11_Home.f kj12 a2 a3).bind fun t144 => (if t143 = t144 then ((probe_Count.f l0 a4).bind fun t145 => ((gangplankref11_Count.f kj12 l0 a4).bind fun t146 => (if t145 = t146 then ((probe_Same.f kj12 l0 l1).bind fun t147 => (some (t147 == t138))) else (some false)))) else (some false)))) else (some false)))) else (some false)) = some r := H
                have A19 := Aside0.mk A190
                clear A190
                by_cases c20 : t139 = t140
                · rw [if_pos c20] at H
                  have c20b0 : (t139 == t140) = true := beq_iff_eq.mpr c20
                  have c20b1 : (t139 != t140) = false := bne_eq_false_iff_eq.mpr c20
                  clear c20
                  replace H := Option.bind_eq_some_iff.mp H
                  obtain ⟨t141, A210, H⟩ := H
                  replace H : ((gangplankref11_Room.f kj12 l0 a2).bind fun t142 => (if t141 = t142 then ((probe_Home.f a2 a3).bind fun t143 => ((gangplankref11_Home.f kj12 a2 a3).bind fun t144 => (if t143 = t144 then ((probe_Count.f l0 a4).bind fun t145 => ((gangplankref11_Count.f kj12 l0 a4).bind fun t146 => (if t145 = t146 then ((probe_Same.f kj12 l0 l1).bind fun t147 => (some (t147 == t138))) else (some false)))) else (some false)))) else (some false))) = some r := H
                  have A21 := Aside0.mk A210
                  clear A210
                  replace H := Option.bind_eq_some_iff.mp H
                  obtain ⟨t142, A220, H⟩ := H
                  replace H : (if t141 = t142 then ((probe_Home.f a2 a3).bind fun t143 => ((gangplankref11_Home.f kj12 a2 a3).bind fun t144 => (if t143 = t144 then ((probe_Count.f l0 a4).bind fun t145 => ((gangplankref11_Count.f kj12 l0 a4).bind fun t146 => (if t145 = t146 then ((probe_Same.f kj12 l0 l1).bind fun t147 => (some (t147 == t138))) else (some false)))) else (some false)))) else (some false)) = some r := H
                  have A22 := Aside0.mk A220
                  clear A220
                  by_cases c23 : t141 = t142
                  · rw [if_pos c23] at H
                    have c23b0 : (t141 == t142) = true := beq_iff_eq.mpr c23
                    have c23b1 : (t141 != t142) = false := bne_eq_false_iff_eq.mpr c23
                    clear c23
                    replace H := Option.bind_eq_some_iff.mp H
                    obtain ⟨t143, A240, H⟩ := H
                    replace H : ((gangplankref11_Home.f kj12 a2 a3).bind fun t144 => (if t143 = t144 then ((probe_Count.f l0 a4).bind fun t145 => ((gangplankref11_Count.f kj12 l0 a4).bind fun t146 => (if t145 = t146 then ((probe_Same.f kj12 l0 l1).bind fun t147 => (some (t147 == t138))) else (some false)))) else (some false))) = some r := H
                    have A24 := Aside0.mk A240
                    clear A240
                    replace H := Option.bind_eq_some_iff.mp H
                    obtain ⟨t144, A250, H⟩ := H
                    replace H : (if t143 = t144 then ((probe_Count.f l0 a4).bind fun t145 => ((gangplankref11_Count.f kj12 l0 a4).bind fun t146 => (if t145 = t146 then ((probe_Same.f kj12 l0 l1).bind fun t147 => (some (t147 == t138))) else (some false)))) else (some false)) = some r := H
                    have A25 := Aside0.mk A250
                    clear A250
                    by_cases c26 : t143 = t144
                    · rw [if_pos c26] at H
                      have c26b0 : (t143 == t144) = true := beq_iff_eq.mpr c26
                      have c26b1 : (t143 != t144) = false := bne_eq_false_iff_eq.mpr c26
                      clear c26
                      replace H := Option.bind_eq_some_iff.mp H
                      obtain ⟨t145, A270, H⟩ := H
                      replace H : ((gangplankref11_Count.f kj12 l0 a4).bind fun t146 => (if t145 = t146 then ((probe_Same.f kj12 l0 l1).bind fun t147 => (some (t147 == t138))) else (some false))) = some r := H
                      have A27 := Aside0.mk A270
                      clear A270
                      replace H := Option.bind_eq_some_iff.mp H
                      obtain ⟨t146, A280, H⟩ := H
                      replace H : (if t145 = t146 then ((probe_Same.f kj12 l0 l1).bind fun t147 => (some (t147 == t138))) else (some false)) = some r := H
                      have A28 := Aside0.mk A280
                      clear A280
                      by_cases c29 : t145 = t146
                      · rw [if_pos c29] at H
                        have c29b0 : (t145 == t146) = true := beq_iff_eq.mpr c29
                        have c29b1 : (t145 != t146) = false := bne_eq_false_iff_eq.mpr c29
                        clear c29
                        replace H := Option.bind_eq_some_iff.mp H
                        obtain ⟨t147, A300, H⟩ := H
                        replace H : (some (t147 == t138)) = some r := H
                        have A30 := Aside0.mk A300
                        clear A300
                        obtain rfl := Option.some.inj H
                        go_wp2_with (first | ((with_reducible refine gate_callee (f := 24) rfl ?_); refine goesL_ (some 33) rfl rfl Try.func24 (by kernel_rfl) rfl #[.slice A0 l0.length c0, .slice A1 l1.length c1] rfl (by (try simp only [List.map_toArray, List.map_cons, List.map_nil]); first | done | rfl | (simp only [List.length_drop, List.length_take]; rfl)) ?_; (with_reducible refine (gangplankref11_Same.calls kj12 _ _ l0 _ _ l1 t138 _ ?side1 ?side2 ?side3 ?side4 A16.out).mono ?_); (case side1 => repeat (first | exact (Kd.C_below HR0.out HB.out) | (with_reducible refine Kd.C_alloc ?_ _) | (with_reducible refine Kd.C_drewN ?_ _) | (with_reducible refine Kd.C_drew ?_))); (case side2 => exact HC0.out); (case side3 => repeat (first | exact (Kd.C_below HR1.out HB.out) | (with_reducible refine Kd.C_alloc ?_ _) | (with_reducible refine Kd.C_drewN ?_ _) | (with_reducible refine Kd.C_drew ?_))); (case side4 => exact HC1.out); (try clear A16); rintro e w' ⟨rfl, ⟨nd, rfl⟩⟩; refine ⟨_, rfl, ?_⟩) | (go_at_call 25; (with_reducible refine (probe_Find.calls _ _ l0 a2 t139 _ ?side1 ?side2 A18.out).mono ?_); (case side1 => repeat (first | exact (Kd.C_below HR0.out (by repeat (first | (with_reducible first | exact HB.out | apply below_alloc | apply pw_below_drewN | apply below_drew1) | exact HB.out))) | (with_reducible refine Kd.C_alloc ?_ _) | (with_reducible refine Kd.C_drewN ?_ _) | (with_reducible refine Kd.C_drew ?_))); (case side2 => exact HC0.out); (try clear A18); rintro e w31 ⟨rfl, hb⟩; have n0_ := Aside0.mk (below_step (by repeat (first | (with_reducible first | exact HB.out | apply below_alloc | apply pw_below_drewN | apply below_drew1) | exact HB.out)) hb); clear HB; have HB := n0_; clear n0_; (try clear hb); (try clear hb2); (try clear hk); (try clear hi)) | (go_at_call 26; (with_reducible refine (gangplankref11_Find.calls kj12 _ _ l0 a2 t140 _ ?side1 ?side2 A19.out).mono ?_); (case side1 => repeat (first | exact (Kd.C_below HR0.out HB.out) | (with_reducible refine Kd.C_alloc ?_ _) | (with_reducible refine Kd.C_drewN ?_ _) | (with_reducible refine Kd.C_drew ?_))); (case side2 => exact HC0.out); (try clear A19); rintro e w' ⟨rfl, ⟨nd, rfl⟩⟩) | (go_at_call 27; (with_reducible refine (probe_Room.calls _ _ l0 a2 t141 _ ?side1 ?side2 A21.out).mono ?_); (case side1 => repeat (first | exact (Kd.C_below HR0.out (by repeat (first | (with_reducible first | exact HB.out | apply below_alloc | apply pw_below_drewN | apply below_drew1) | exact HB.out))) | (with_reducible refine Kd.C_alloc ?_ _) | (with_reducible refine Kd.C_drewN ?_ _) | (with_reducible refine Kd.C_drew ?_))); (case side2 => exact HC0.out); (try clear A21); rintro e w32 ⟨rfl, hb⟩; have n0_ := Aside0.mk (below_step (by repeat (first | (with_reducible first | exact HB.out | apply below_alloc | apply pw_below_drewN | apply below_drew1) | exact HB.out)) hb); clear HB; have HB := n0_; clear n0_; (try clear hb); (try clear hb2); (try clear hk); (try clear hi)) | (go_at_call 28; (with_reducible refine (gangplankref11_Room.calls kj12 _ _ l0 a2 t142 _ ?side1 ?side2 A22.out).mono ?_); (case side1 => repeat (first | exact (Kd.C_below HR0.out HB.out) | (with_reducible refine Kd.C_alloc ?_ _) | (with_reducible refine Kd.C_drewN ?_ _) | (with_reducible refine Kd.C_drew ?_))); (case side2 => exact HC0.out); (try clear A22); rintro e w' ⟨rfl, ⟨nd, rfl⟩⟩) | (go_at_call 29; (with_reducible refine (probe_Home.calls a2 a3 t143 _ A24.out).mono ?_); (try clear A24); rintro e w33 ⟨rfl, hb⟩; have n0_ := Aside0.mk (below_step (by repeat (first | (with_reducible first | exact HB.out | apply below_alloc | apply pw_below_drewN | apply below_drew1) | exact HB.out)) hb); clear HB; have HB := n0_; clear n0_; (try clear hb); (try clear hb2); (try clear hk); (try clear hi)) | (go_at_call 30; (with_reducible refine (gangplankref11_Home.calls kj12 a2 a3 t144 _ A25.out).mono ?_); (try clear A25); rintro e w' ⟨rfl, ⟨nd, rfl⟩⟩) | (go_at_call 31; (with_reducible refine (probe_Count.calls _ _ l0 a4 t145 _ ?side1 ?side2 A27.out).mono ?_); (case side1 => repeat (first | exact (Kd.C_below HR0.out (by repeat (first | (with_reducible first | exact HB.out | apply below_alloc | apply pw_below_drewN | apply below_drew1) | exact HB.out))) | (with_reducible refine Kd.C_alloc ?_ _) | (with_reducible refine Kd.C_drewN ?_ _) | (with_reducible refine Kd.C_drew ?_))); (case side2 => exact HC0.out); (try clear A27); rintro e w34 ⟨rfl, hb⟩; have n0_ := Aside0.mk (below_step (by repeat (first | (with_reducible first | exact HB.out | apply below_alloc | apply pw_below_drewN | apply below_drew1) | exact HB.out)) hb); clear HB; have HB := n0_; clear n0_; (try clear hb); (try clear hb2); (try clear hk); (try clear hi)) | (go_at_call 32; (with_reducible refine (gangplankref11_Count.calls kj12 _ _ l0 a4 t146 _ ?side1 ?side2 A28.out).mono ?_); (case side1 => repeat (first | exact (Kd.C_below HR0.out HB.out) | (with_reducible refine Kd.C_alloc ?_ _) | (with_reducible refine Kd.C_drewN ?_ _) | (with_reducible refine Kd.C_drew ?_))); (case side2 => exact HC0.out); (try clear A28); rintro e w' ⟨rfl, ⟨nd, rfl⟩⟩) | (go_at_call 33; (with_reducible refine (probe_Same.calls kj12 _ _ l0 _ _ l1 t147 _ ?side1 ?side2 ?side3 ?side4 A30.out).mono ?_); (case side1 => repeat (first | exact (Kd.C_below HR0.out (by repeat (first | (with_reducible first | exact HB.out | apply below_alloc | apply pw_below_drewN | apply below_drew1) | exact HB.out))) | (with_reducible refine Kd.C_alloc ?_ _) | (with_reducible refine Kd.C_drewN ?_ _) | (with_reducible refine Kd.C_drew ?_))); (case side2 => exact HC0.out); (case side3 => repeat (first | exact (Kd.C_below HR1.out (by repeat (first | (with_reducible first | exact HB.out | apply below_alloc | apply pw_below_drewN | apply below_drew1) | exact HB.out))) | (with_reducible refine Kd.C_alloc ?_ _) | (with_reducible refine Kd.C_drewN ?_ _) | (with_reducible refine Kd.C_drew ?_))); (case side4 => exact HC1.out); (try clear A30); rintro e w' ⟨rfl, ⟨nd, rfl⟩⟩))
                        go_ret
                        exact ⟨by first | rfl | (simp [errW_none, errW_some] <;> rfl) | (simp [*, errW_none, errW_some] <;> rfl), by repeat (first | (with_reducible first | exact HB.out | apply below_alloc | apply pw_below_drewN | apply below_drew1) | exact HB.out)⟩
                      · rw [if_neg c29] at H
                        have c29b0 : (t145 == t146) = false := beq_eq_false_iff_ne.mpr c29
                        have c29b1 : (t145 != t146) = true := bne_iff_ne.mpr c29
                        obtain rfl := Option.some.inj H
                        go_wp2_with (first | ((with_reducible refine gate_callee (f := 24) rfl ?_); refine goesL_ (some 33) rfl rfl Try.func24 (by kernel_rfl) rfl #[.slice A0 l0.length c0, .slice A1 l1.length c1] rfl (by (try simp only [List.map_toArray, List.map_cons, List.map_nil]); first | done | rfl | (simp only [List.length_drop, List.length_take]; rfl)) ?_; (with_reducible refine (gangplankref11_Same.calls kj12 _ _ l0 _ _ l1 t138 _ ?side1 ?side2 ?side3 ?side4 A16.out).mono ?_); (case side1 => repeat (first | exact (Kd.C_below HR0.out HB.out) | (with_reducible refine Kd.C_alloc ?_ _) | (with_reducible refine Kd.C_drewN ?_ _) | (with_reducible refine Kd.C_drew ?_))); (case side2 => exact HC0.out); (case side3 => repeat (first | exact (Kd.C_below HR1.out HB.out) | (with_reducible refine Kd.C_alloc ?_ _) | (with_reducible refine Kd.C_drewN ?_ _) | (with_reducible refine Kd.C_drew ?_))); (case side4 => exact HC1.out); (try clear A16); rintro e w' ⟨rfl, ⟨nd, rfl⟩⟩; refine ⟨_, rfl, ?_⟩) | (go_at_call 25; (with_reducible refine (probe_Find.calls _ _ l0 a2 t139 _ ?side1 ?side2 A18.out).mono ?_); (case side1 => repeat (first | exact (Kd.C_below HR0.out (by repeat (first | (with_reducible first | exact HB.out | apply below_alloc | apply pw_below_drewN | apply below_drew1) | exact HB.out))) | (with_reducible refine Kd.C_alloc ?_ _) | (with_reducible refine Kd.C_drewN ?_ _) | (with_reducible refine Kd.C_drew ?_))); (case side2 => exact HC0.out); (try clear A18); rintro e w35 ⟨rfl, hb⟩; have n0_ := Aside0.mk (below_step (by repeat (first | (with_reducible first | exact HB.out | apply below_alloc | apply pw_below_drewN | apply below_drew1) | exact HB.out)) hb); clear HB; have HB := n0_; clear n0_; (try clear hb); (try clear hb2); (try clear hk); (try clear hi)) | (go_at_call 26; (with_reducible refine (gangplankref11_Find.calls kj12 _ _ l0 a2 t140 _ ?side1 ?side2 A19.out).mono ?_); (case side1 => repeat (first | exact (Kd.C_below HR0.out HB.out) | (with_reducible refine Kd.C_alloc ?_ _) | (with_reducible refine Kd.C_drewN ?_ _) | (with_reducible refine Kd.C_drew ?_))); (case side2 => exact HC0.out); (try clear A19); rintro e w' ⟨rfl, ⟨nd, rfl⟩⟩) | (go_at_call 27; (with_reducible refine (probe_Room.calls _ _ l0 a2 t141 _ ?side1 ?side2 A21.out).mono ?_); (case side1 => repeat (first | exact (Kd.C_below HR0.out (by repeat (first | (with_reducible first | exact HB.out | apply below_alloc | apply pw_below_drewN | apply below_drew1) | exact HB.out))) | (with_reducible refine Kd.C_alloc ?_ _) | (with_reducible refine Kd.C_drewN ?_ _) | (with_reducible refine Kd.C_drew ?_))); (case side2 => exact HC0.out); (try clear A21); rintro e w36 ⟨rfl, hb⟩; have n0_ := Aside0.mk (below_step (by repeat (first | (with_reducible first | exact HB.out | apply below_alloc | apply pw_below_drewN | apply below_drew1) | exact HB.out)) hb); clear HB; have HB := n0_; clear n0_; (try clear hb); (try clear hb2); (try clear hk); (try clear hi)) | (go_at_call 28; (with_reducible refine (gangplankref11_Room.calls kj12 _ _ l0 a2 t142 _ ?side1 ?side2 A22.out).mono ?_); (case side1 => repeat (first | exact (Kd.C_below HR0.out HB.out) | (with_reducible refine Kd.C_alloc ?_ _) | (with_reducible refine Kd.C_drewN ?_ _) | (with_reducible refine Kd.C_drew ?_))); (case side2 => exact HC0.out); (try clear A22); rintro e w' ⟨rfl, ⟨nd, rfl⟩⟩) | (go_at_call 29; (with_reducible refine (probe_Home.calls a2 a3 t143 _ A24.out).mono ?_); (try clear A24); rintro e w37 ⟨rfl, hb⟩; have n0_ := Aside0.mk (below_step (by repeat (first | (with_reducible first | exact HB.out | apply below_alloc | apply pw_below_drewN | apply below_drew1) | exact HB.out)) hb); clear HB; have HB := n0_; clear n0_; (try clear hb); (try clear hb2); (try clear hk); (try clear hi)) | (go_at_call 30; (with_reducible refine (gangplankref11_Home.calls kj12 a2 a3 t144 _ A25.out).mono ?_); (try clear A25); rintro e w' ⟨rfl, ⟨nd, rfl⟩⟩) | (go_at_call 31; (with_reducible refine (probe_Count.calls _ _ l0 a4 t145 _ ?side1 ?side2 A27.out).mono ?_); (case side1 => repeat (first | exact (Kd.C_below HR0.out (by repeat (first | (with_reducible first | exact HB.out | apply below_alloc | apply pw_below_drewN | apply below_drew1) | exact HB.out))) | (with_reducible refine Kd.C_alloc ?_ _) | (with_reducible refine Kd.C_drewN ?_ _) | (with_reducible refine Kd.C_drew ?_))); (case side2 => exact HC0.out); (try clear A27); rintro e w38 ⟨rfl, hb⟩; have n0_ := Aside0.mk (below_step (by repeat (first | (with_reducible first | exact HB.out | apply below_alloc | apply pw_below_drewN | apply below_drew1) | exact HB.out)) hb); clear HB; have HB := n0_; clear n0_; (try clear hb); (try clear hb2); (try clear hk); (try clear hi)) | (go_at_call 32; (with_reducible refine (gangplankref11_Count.calls kj12 _ _ l0 a4 t146 _ ?side1 ?side2 A28.out).mono ?_); (case side1 => repeat (first | exact (Kd.C_below HR0.out HB.out) | (with_reducible refine Kd.C_alloc ?_ _) | (with_reducible refine Kd.C_drewN ?_ _) | (with_reducible refine Kd.C_drew ?_))); (case side2 => exact HC0.out); (try clear A28); rintro e w' ⟨rfl, ⟨nd, rfl⟩⟩))
                        go_ret
                        exact ⟨by first | rfl | (simp [errW_none, errW_some] <;> rfl) | (simp [*, errW_none, errW_some] <;> rfl), by repeat (first | (with_reducible first | exact HB.out | apply below_alloc | apply pw_below_drewN | apply below_drew1) | exact HB.out)⟩
                    · rw [if_neg c26] at H
                      have c26b0 : (t143 == t144) = false := beq_eq_false_iff_ne.mpr c26
                      have c26b1 : (t143 != t144) = true := bne_iff_ne.mpr c26
                      obtain rfl := Option.some.inj H
                      go_wp2_with (first | ((with_reducible refine gate_callee (f := 24) rfl ?_); refine goesL_ (some 33) rfl rfl Try.func24 (by kernel_rfl) rfl #[.slice A0 l0.length c0, .slice A1 l1.length c1] rfl (by (try simp only [List.map_toArray, List.map_cons, List.map_nil]); first | done | rfl | (simp only [List.length_drop, List.length_take]; rfl)) ?_; (with_reducible refine (gangplankref11_Same.calls kj12 _ _ l0 _ _ l1 t138 _ ?side1 ?side2 ?side3 ?side4 A16.out).mono ?_); (case side1 => repeat (first | exact (Kd.C_below HR0.out HB.out) | (with_reducible refine Kd.C_alloc ?_ _) | (with_reducible refine Kd.C_drewN ?_ _) | (with_reducible refine Kd.C_drew ?_))); (case side2 => exact HC0.out); (case side3 => repeat (first | exact (Kd.C_below HR1.out HB.out) | (with_reducible refine Kd.C_alloc ?_ _) | (with_reducible refine Kd.C_drewN ?_ _) | (with_reducible refine Kd.C_drew ?_))); (case side4 => exact HC1.out); (try clear A16); rintro e w' ⟨rfl, ⟨nd, rfl⟩⟩; refine ⟨_, rfl, ?_⟩) | (go_at_call 25; (with_reducible refine (probe_Find.calls _ _ l0 a2 t139 _ ?side1 ?side2 A18.out).mono ?_); (case side1 => repeat (first | exact (Kd.C_below HR0.out (by repeat (first | (with_reducible first | exact HB.out | apply below_alloc | apply pw_below_drewN | apply below_drew1) | exact HB.out))) | (with_reducible refine Kd.C_alloc ?_ _) | (with_reducible refine Kd.C_drewN ?_ _) | (with_reducible refine Kd.C_drew ?_))); (case side2 => exact HC0.out); (try clear A18); rintro e w39 ⟨rfl, hb⟩; have n0_ := Aside0.mk (below_step (by repeat (first | (with_reducible first | exact HB.out | apply below_alloc | apply pw_below_drewN | apply below_drew1) | exact HB.out)) hb); clear HB; have HB := n0_; clear n0_; (try clear hb); (try clear hb2); (try clear hk); (try clear hi)) | (go_at_call 26; (with_reducible refine (gangplankref11_Find.calls kj12 _ _ l0 a2 t140 _ ?side1 ?side2 A19.out).mono ?_); (case side1 => repeat (first | exact (Kd.C_below HR0.out HB.out) | (with_reducible refine Kd.C_alloc ?_ _) | (with_reducible refine Kd.C_drewN ?_ _) | (with_reducible refine Kd.C_drew ?_))); (case side2 => exact HC0.out); (try clear A19); rintro e w' ⟨rfl, ⟨nd, rfl⟩⟩) | (go_at_call 27; (with_reducible refine (probe_Room.calls _ _ l0 a2 t141 _ ?side1 ?side2 A21.out).mono ?_); (case side1 => repeat (first | exact (Kd.C_below HR0.out (by repeat (first | (with_reducible first | exact HB.out | apply below_alloc | apply pw_below_drewN | apply below_drew1) | exact HB.out))) | (with_reducible refine Kd.C_alloc ?_ _) | (with_reducible refine Kd.C_drewN ?_ _) | (with_reducible refine Kd.C_drew ?_))); (case side2 => exact HC0.out); (try clear A21); rintro e w40 ⟨rfl, hb⟩; have n0_ := Aside0.mk (below_step (by repeat (first | (with_reducible first | exact HB.out | apply below_alloc | apply pw_below_drewN | apply below_drew1) | exact HB.out)) hb); clear HB; have HB := n0_; clear n0_; (try clear hb); (try clear hb2); (try clear hk); (try clear hi)) | (go_at_call 28; (with_reducible refine (gangplankref11_Room.calls kj12 _ _ l0 a2 t142 _ ?side1 ?side2 A22.out).mono ?_); (case side1 => repeat (first | exact (Kd.C_below HR0.out HB.out) | (with_reducible refine Kd.C_alloc ?_ _) | (with_reducible refine Kd.C_drewN ?_ _) | (with_reducible refine Kd.C_drew ?_))); (case side2 => exact HC0.out); (try clear A22); rintro e w' ⟨rfl, ⟨nd, rfl⟩⟩) | (go_at_call 29; (with_reducible refine (probe_Home.calls a2 a3 t143 _ A24.out).mono ?_); (try clear A24); rintro e w41 ⟨rfl, hb⟩; have n0_ := Aside0.mk (below_step (by repeat (first | (with_reducible first | exact HB.out | apply below_alloc | apply pw_below_drewN | apply below_drew1) | exact HB.out)) hb); clear HB; have HB := n0_; clear n0_; (try clear hb); (try clear hb2); (try clear hk); (try clear hi)) | (go_at_call 30; (with_reducible refine (gangplankref11_Home.calls kj12 a2 a3 t144 _ A25.out).mono ?_); (try clear A25); rintro e w' ⟨rfl, ⟨nd, rfl⟩⟩))
                      go_ret
                      exact ⟨by first | rfl | (simp [errW_none, errW_some] <;> rfl) | (simp [*, errW_none, errW_some] <;> rfl), by repeat (first | (with_reducible first | exact HB.out | apply below_alloc | apply pw_below_drewN | apply below_drew1) | exact HB.out)⟩
                  · rw [if_neg c23] at H
                    have c23b0 : (t141 == t142) = false := beq_eq_false_iff_ne.mpr c23
                    have c23b1 : (t141 != t142) = true := bne_iff_ne.mpr c23
                    obtain rfl := Option.some.inj H
                    go_wp2_with (first | ((with_reducible refine gate_callee (f := 24) rfl ?_); refine goesL_ (some 33) rfl rfl Try.func24 (by kernel_rfl) rfl #[.slice A0 l0.length c0, .slice A1 l1.length c1] rfl (by (try simp only [List.map_toArray, List.map_cons, List.map_nil]); first | done | rfl | (simp only [List.length_drop, List.length_take]; rfl)) ?_; (with_reducible refine (gangplankref11_Same.calls kj12 _ _ l0 _ _ l1 t138 _ ?side1 ?side2 ?side3 ?side4 A16.out).mono ?_); (case side1 => repeat (first | exact (Kd.C_below HR0.out HB.out) | (with_reducible refine Kd.C_alloc ?_ _) | (with_reducible refine Kd.C_drewN ?_ _) | (with_reducible refine Kd.C_drew ?_))); (case side2 => exact HC0.out); (case side3 => repeat (first | exact (Kd.C_below HR1.out HB.out) | (with_reducible refine Kd.C_alloc ?_ _) | (with_reducible refine Kd.C_drewN ?_ _) | (with_reducible refine Kd.C_drew ?_))); (case side4 => exact HC1.out); (try clear A16); rintro e w' ⟨rfl, ⟨nd, rfl⟩⟩; refine ⟨_, rfl, ?_⟩) | (go_at_call 25; (with_reducible refine (probe_Find.calls _ _ l0 a2 t139 _ ?side1 ?side2 A18.out).mono ?_); (case side1 => repeat (first | exact (Kd.C_below HR0.out (by repeat (first | (with_reducible first | exact HB.out | apply below_alloc | apply pw_below_drewN | apply below_drew1) | exact HB.out))) | (with_reducible refine Kd.C_alloc ?_ _) | (with_reducible refine Kd.C_drewN ?_ _) | (with_reducible refine Kd.C_drew ?_))); (case side2 => exact HC0.out); (try clear A18); rintro e w42 ⟨rfl, hb⟩; have n0_ := Aside0.mk (below_step (by repeat (first | (with_reducible first | exact HB.out | apply below_alloc | apply pw_below_drewN | apply below_drew1) | exact HB.out)) hb); clear HB; have HB := n0_; clear n0_; (try clear hb); (try clear hb2); (try clear hk); (try clear hi)) | (go_at_call 26; (with_reducible refine (gangplankref11_Find.calls kj12 _ _ l0 a2 t140 _ ?side1 ?side2 A19.out).mono ?_); (case side1 => repeat (first | exact (Kd.C_below HR0.out HB.out) | (with_reducible refine Kd.C_alloc ?_ _) | (with_reducible refine Kd.C_drewN ?_ _) | (with_reducible refine Kd.C_drew ?_))); (case side2 => exact HC0.out); (try clear A19); rintro e w' ⟨rfl, ⟨nd, rfl⟩⟩) | (go_at_call 27; (with_reducible refine (probe_Room.calls _ _ l0 a2 t141 _ ?side1 ?side2 A21.out).mono ?_); (case side1 => repeat (first | exact (Kd.C_below HR0.out (by repeat (first | (with_reducible first | exact HB.out | apply below_alloc | apply pw_below_drewN | apply below_drew1) | exact HB.out))) | (with_reducible refine Kd.C_alloc ?_ _) | (with_reducible refine Kd.C_drewN ?_ _) | (with_reducible refine Kd.C_drew ?_))); (case side2 => exact HC0.out); (try clear A21); rintro e w43 ⟨rfl, hb⟩; have n0_ := Aside0.mk (below_step (by repeat (first | (with_reducible first | exact HB.out | apply below_alloc | apply pw_below_drewN | apply below_drew1) | exact HB.out)) hb); clear HB; have HB := n0_; clear n0_; (try clear hb); (try clear hb2); (try clear hk); (try clear hi)) | (go_at_call 28; (with_reducible refine (gangplankref11_Room.calls kj12 _ _ l0 a2 t142 _ ?side1 ?side2 A22.out).mono ?_); (case side1 => repeat (first | exact (Kd.C_below HR0.out HB.out) | (with_reducible refine Kd.C_alloc ?_ _) | (with_reducible refine Kd.C_drewN ?_ _) | (with_reducible refine Kd.C_drew ?_))); (case side2 => exact HC0.out); (try clear A22); rintro e w' ⟨rfl, ⟨nd, rfl⟩⟩))
                    go_ret
                    exact ⟨by first | rfl | (simp [errW_none, errW_some] <;> rfl) | (simp [*, errW_none, errW_some] <;> rfl), by repeat (first | (with_reducible first | exact HB.out | apply below_alloc | apply pw_below_drewN | apply below_drew1) | exact HB.out)⟩
                · rw [if_neg c20] at H
                  have c20b0 : (t139 == t140) = false := beq_eq_false_iff_ne.mpr c20
                  have c20b1 : (t139 != t140) = true := bne_iff_ne.mpr c20
                  obtain rfl := Option.some.inj H
                  go_wp2_with (first | ((with_reducible refine gate_callee (f := 24) rfl ?_); refine goesL_ (some 33) rfl rfl Try.func24 (by kernel_rfl) rfl #[.slice A0 l0.length c0, .slice A1 l1.length c1] rfl (by (try simp only [List.map_toArray, List.map_cons, List.map_nil]); first | done | rfl | (simp only [List.length_drop, List.length_take]; rfl)) ?_; (with_reducible refine (gangplankref11_Same.calls kj12 _ _ l0 _ _ l1 t138 _ ?side1 ?side2 ?side3 ?side4 A16.out).mono ?_); (case side1 => repeat (first | exact (Kd.C_below HR0.out HB.out) | (with_reducible refine Kd.C_alloc ?_ _) | (with_reducible refine Kd.C_drewN ?_ _) | (with_reducible refine Kd.C_drew ?_))); (case side2 => exact HC0.out); (case side3 => repeat (first | exact (Kd.C_below HR1.out HB.out) | (with_reducible refine Kd.C_alloc ?_ _) | (with_reducible refine Kd.C_drewN ?_ _) | (with_reducible refine Kd.C_drew ?_))); (case side4 => exact HC1.out); (try clear A16); rintro e w' ⟨rfl, ⟨nd, rfl⟩⟩; refine ⟨_, rfl, ?_⟩) | (go_at_call 25; (with_reducible refine (probe_Find.calls _ _ l0 a2 t139 _ ?side1 ?side2 A18.out).mono ?_); (case side1 => repeat (first | exact (Kd.C_below HR0.out (by repeat (first | (with_reducible first | exact HB.out | apply below_alloc | apply pw_below_drewN | apply below_drew1) | exact HB.out))) | (with_reducible refine Kd.C_alloc ?_ _) | (with_reducible refine Kd.C_drewN ?_ _) | (with_reducible refine Kd.C_drew ?_))); (case side2 => exact HC0.out); (try clear A18); rintro e w44 ⟨rfl, hb⟩; have n0_ := Aside0.mk (below_step (by repeat (first | (with_reducible first | exact HB.out | apply below_alloc | apply pw_below_drewN | apply below_drew1) | exact HB.out)) hb); clear HB; have HB := n0_; clear n0_; (try clear hb); (try clear hb2); (try clear hk); (try clear hi)) | (go_at_call 26; (with_reducible refine (gangplankref11_Find.calls kj12 _ _ l0 a2 t140 _ ?side1 ?side2 A19.out).mono ?_); (case side1 => repeat (first | exact (Kd.C_below HR0.out HB.out) | (with_reducible refine Kd.C_alloc ?_ _) | (with_reducible refine Kd.C_drewN ?_ _) | (with_reducible refine Kd.C_drew ?_))); (case side2 => exact HC0.out); (try clear A19); rintro e w' ⟨rfl, ⟨nd, rfl⟩⟩))
                  go_ret
                  exact ⟨by first | rfl | (simp [errW_none, errW_some] <;> rfl) | (simp [*, errW_none, errW_some] <;> rfl), by repeat (first | (with_reducible first | exact HB.out | apply below_alloc | apply pw_below_drewN | apply below_drew1) | exact HB.out)⟩
              · exact absurd rfl c17
  · replace c7 := Bool.eq_false_iff.mpr c7
    subst c7
    have H1 : (some false) = some r := by rw [if_neg (show ¬ (false = true) by decide)] at H; exact H
    clear H
    have H := H1
    clear H1
    obtain rfl := Option.some.inj H
    go_enter Try.func3, Try.ntmps3
    go_wp2_with (first | ((with_reducible refine gate_callee (f := 22) rfl ?_); refine goesL_ (some 14) rfl rfl Try.func22 (by kernel_rfl) rfl #[] rfl (by (try simp only [List.map_toArray, List.map_cons, List.map_nil]); first | done | rfl | (simp only [List.length_drop, List.length_take]; rfl)) ?_; (with_reducible refine (gangplanklaw11_works.calls k  false _ A6.out).mono ?_); (try clear A6); rintro e w45 ⟨rfl, hb⟩; refine ⟨_, rfl, ?_⟩; have n0_ := Aside0.mk (below_step (by repeat (first | (with_reducible first | exact HB.out | apply below_alloc | apply pw_below_drewN | apply below_drew1) | exact HB.out)) hb); clear HB; have HB := n0_; clear n0_; (try clear hb); (try clear hb2); (try clear hk); (try clear hi)))
    go_ret
    exact ⟨by first | rfl | (simp [errW_none, errW_some] <;> rfl) | (simp [*, errW_none, errW_some] <;> rfl), by repeat (first | (with_reducible first | exact HB.out | apply below_alloc | apply pw_below_drewN | apply below_drew1) | exact HB.out)⟩

/-- THE PURE STATEMENT of gangplanklaw11_ProbeTells. -/
def gangplanklaw11_ProbeTells.Pure : Prop := ∀ (l0 : List (S31)) (l1 : List (S31)) (a2 : ByteArray) (a3 : Int) (a4 : Int), (l0.length ≤ maxLen) → ((∀ x ∈ l0, okS31 x)) → (l1.length ≤ maxLen) → ((∀ x ∈ l1, okS31 x)) → (a2.size ≤ 140737488351232) → ((Lit.int .i64 a3).wf = true) → ((Lit.int .i64 a4).wf = true) → ∃ k, gangplanklaw11_ProbeTells.f k l0 l1 a2 a3 a4 = some true

/-! ### gangplanklaw11_ProbeFinds: function 4 -/
mutual
def gangplanklaw11_ProbeFinds.j0 : Nat → List (S31) → ByteArray → Bool → Bool → Option (Bool)
  | 0, _, _, _, _ => none
  | k + 1, x0, x1, x5, x20 => if x20 = true then (some x5) else ((probe_Find.f x0 x1).bind fun t150 => ((probe_Room.f x0 x1).bind fun t151 => (if t150 ≥ (x0.length : Int) then (gangplanklaw11_ProbeFinds.j1 k x0 x1 x5 t150 t151 true) else (if t151 ≥ (x0.length : Int) then (gangplanklaw11_ProbeFinds.j1 k x0 x1 x5 t150 t151 true) else (if t150 < (-1) then (gangplanklaw11_ProbeFinds.j1 k x0 x1 x5 t150 t151 true) else (if t151 < (-1) then (gangplanklaw11_ProbeFinds.j1 k x0 x1 x5 t150 t151 true) else (if t150 ≥ 0 then (gangplanklaw11_ProbeFinds.j1 k x0 x1 x5 t150 t151 (decide (t151 ≥ 0))) else (gangplanklaw11_ProbeFinds.j1 k x0 x1 x5 t150 t151 false))))))))
def gangplanklaw11_ProbeFinds.j1 : Nat → List (S31) → ByteArray → Bool → Int → Int → Bool → Option (Bool)
  | 0, _, _, _, _, _, _ => none
  | k + 1, x0, x1, x5, x7, x8, x53 => if x53 = true then (some false) else (if x7 ≥ 0 then (if x5 = true then (if 0 ≤ x7 then (if x7 < (x0.length : Int) then (if ((rd_T31 x0 x7).f0) = 1 then (some (((rd_T31 x0 x7).f1).toList == x1.toList)) else (some false)) else (none)) else (none)) else (some false)) else (if x8 ≥ 0 then (if x5 = true then (if 0 ≤ x8 then (if x8 < (x0.length : Int) then (some (((rd_T31 x0 x8).f0) != 1)) else (none)) else (none)) else (some false)) else (if x5 = true then ((probe_Count.f x0 1).bind fun t155 => (some (t155 == (x0.length : Int)))) else (some false))))
end
def gangplanklaw11_ProbeFinds.f (k : Nat) (l0 : List (S31)) (a1 : ByteArray) : Option (Bool) := (gangplanklaw11_works.f k).bind fun t148 => (if t148 = true then ((gangplankref11_Few.f k l0).bind fun t149 => (if t149 = true then (gangplanklaw11_ProbeFinds.j0 k l0 a1 t148 (decide ((a1.size : Int) > 60))) else (gangplanklaw11_ProbeFinds.j0 k l0 a1 t148 true))) else (some false))
theorem gangplanklaw11_ProbeFinds.mono_l : ∀ k, (∀ y0 y1 y2 y3, LeO (gangplanklaw11_ProbeFinds.j0 k y0 y1 y2 y3) (gangplanklaw11_ProbeFinds.j0 (k + 1) y0 y1 y2 y3)) ∧ (∀ y0 y1 y2 y3 y4 y5, LeO (gangplanklaw11_ProbeFinds.j1 k y0 y1 y2 y3 y4 y5) (gangplanklaw11_ProbeFinds.j1 (k + 1) y0 y1 y2 y3 y4 y5))
  | 0 => ⟨fun _ _ _ _ r h => by simp [gangplanklaw11_ProbeFinds.j0] at h, fun _ _ _ _ _ _ r h => by simp [gangplanklaw11_ProbeFinds.j1] at h⟩
  | k + 1 => by
    obtain ⟨ih0, ih1⟩ := gangplanklaw11_ProbeFinds.mono_l k
    refine ⟨?_, ?_⟩
    · intro y0 y1 y2 y3
      unfold gangplanklaw11_ProbeFinds.j0
      repeat' first
      | (with_reducible exact ih0 _ _ _ _)
      | (with_reducible exact ih1 _ _ _ _ _ _)
      | (with_reducible exact gangplanklaw11_works.mono _)
      | (with_reducible exact gangplankref11_Few.mono _ _)
      | (with_reducible exact LeO.refl _)
      | (with_reducible exact LeO.none _)
      | (with_reducible refine LeO.ite ?_ ?_)
      | (with_reducible refine LeO.bind ?_ (fun _ => ?_))
      | exact ih0 _ _ _ _
      | exact ih1 _ _ _ _ _ _
      | exact gangplanklaw11_works.mono _
      | exact gangplankref11_Few.mono _ _
      | exact LeO.none _
      | refine LeO.ite ?_ ?_
      | refine LeO.bind ?_ (fun _ => ?_)
    · intro y0 y1 y2 y3 y4 y5
      unfold gangplanklaw11_ProbeFinds.j1
      repeat' first
      | (with_reducible exact ih0 _ _ _ _)
      | (with_reducible exact ih1 _ _ _ _ _ _)
      | (with_reducible exact gangplanklaw11_works.mono _)
      | (with_reducible exact gangplankref11_Few.mono _ _)
      | (with_reducible exact LeO.refl _)
      | (with_reducible exact LeO.none _)
      | (with_reducible refine LeO.ite ?_ ?_)
      | (with_reducible refine LeO.bind ?_ (fun _ => ?_))
      | exact ih0 _ _ _ _
      | exact ih1 _ _ _ _ _ _
      | exact gangplanklaw11_works.mono _
      | exact gangplankref11_Few.mono _ _
      | exact LeO.none _
      | refine LeO.ite ?_ ?_
      | refine LeO.bind ?_ (fun _ => ?_)
theorem gangplanklaw11_ProbeFinds.mono : ∀ a0 a1 k, LeO (gangplanklaw11_ProbeFinds.f k a0 a1) (gangplanklaw11_ProbeFinds.f (k + 1) a0 a1) := by
  intro a0 a1 k
  obtain ⟨ih0, ih1⟩ := gangplanklaw11_ProbeFinds.mono_l k
  unfold gangplanklaw11_ProbeFinds.f
  repeat' first
      | (with_reducible exact ih0 _ _ _ _)
      | (with_reducible exact ih1 _ _ _ _ _ _)
      | (with_reducible exact gangplanklaw11_works.mono _)
      | (with_reducible exact gangplankref11_Few.mono _ _)
      | (with_reducible exact LeO.refl _)
      | (with_reducible exact LeO.none _)
      | (with_reducible refine LeO.ite ?_ ?_)
      | (with_reducible refine LeO.bind ?_ (fun _ => ?_))
      | exact ih0 _ _ _ _
      | exact ih1 _ _ _ _ _ _
      | exact gangplanklaw11_works.mono _
      | exact gangplankref11_Few.mono _ _
      | exact LeO.none _
      | refine LeO.ite ?_ ?_
      | refine LeO.bind ?_ (fun _ => ?_)
set_option maxHeartbeats 8000000 in
set_option maxRecDepth 100000 in
theorem gangplanklaw11_ProbeFinds.calls (k : Nat) (A0 : Option Addr) (c0 : Nat) (l0 : List (S31)) (a1 : ByteArray) (r : Bool) (w : World) (hr0 : Kd.C k31 w A0 l0.length l0) (hc0 : l0.length ≤ c0) (h : gangplanklaw11_ProbeFinds.f k l0 a1 = some r) :
    Calls Try.prog 4 #[.slice A0 l0.length c0, .string a1] w fun e w' => e = .returned (.bool r) ∧ Below w.heap.size w w' := by
  have HR0 := Aside0.mk hr0
  have HC0 := Aside0.mk hc0
  clear hr0 hc0
  have HB := Aside0.mk (Below.refl w.heap.size w)
  have H : ((gangplanklaw11_works.f k).bind fun t148 => (if t148 = true then ((gangplankref11_Few.f k l0).bind fun t149 => (if t149 = true then (gangplanklaw11_ProbeFinds.j0 k l0 a1 t148 (decide ((a1.size : Int) > 60))) else (gangplanklaw11_ProbeFinds.j0 k l0 a1 t148 true))) else (some false))) = some r := h
  clear h
  replace H := Option.bind_eq_some_iff.mp H
  obtain ⟨t148, A30, H⟩ := H
  replace H : (if t148 = true then ((gangplankref11_Few.f k l0).bind fun t149 => (if t149 = true then (gangplanklaw11_ProbeFinds.j0 k l0 a1 t148 (decide ((a1.size : Int) > 60))) else (gangplanklaw11_ProbeFinds.j0 k l0 a1 t148 true))) else (some false)) = some r := H
  have A3 := Aside0.mk A30
  clear A30
  by_cases c4 : t148 = true
  · subst c4
    have H1 : ((gangplankref11_Few.f k l0).bind fun t149 => (if t149 = true then (gangplanklaw11_ProbeFinds.j0 k l0 a1 true (decide ((a1.size : Int) > 60))) else (gangplanklaw11_ProbeFinds.j0 k l0 a1 true true))) = some r := by first | (rw [if_pos rfl] at H; exact H) | (rw [if_pos trivial] at H; exact H)
    clear H
    have H := H1
    clear H1
    replace H := Option.bind_eq_some_iff.mp H
    obtain ⟨t149, A50, H⟩ := H
    replace H : (if t149 = true then (gangplanklaw11_ProbeFinds.j0 k l0 a1 true (decide ((a1.size : Int) > 60))) else (gangplanklaw11_ProbeFinds.j0 k l0 a1 true true)) = some r := H
    have A5 := Aside0.mk A50
    clear A50
    have HC6 := Aside0.mk H
    clear H
    go_enter Try.func4, Try.ntmps4
    go_upto_region 5 with (first | ((with_reducible refine gate_callee (f := 22) rfl ?_); refine goesL_ (some 9) rfl rfl Try.func22 (by kernel_rfl) rfl #[] rfl (by (try simp only [List.map_toArray, List.map_cons, List.map_nil]); first | done | rfl | (simp only [List.length_drop, List.length_take]; rfl)) ?_; (with_reducible refine (gangplanklaw11_works.calls k  true _ A3.out).mono ?_); (try clear A3); rintro e w7 ⟨rfl, hb⟩; refine ⟨_, rfl, ?_⟩; have n0_ := Aside0.mk (below_step (by repeat (first | (with_reducible first | exact HB.out | apply below_alloc | apply pw_below_drewN | apply below_drew1) | exact HB.out)) hb); clear HB; have HB := n0_; clear n0_; (try clear hb); (try clear hb2); (try clear hk); (try clear hi)) | ((with_reducible refine gate_callee (f := 23) rfl ?_); refine goesL_ (some 13) rfl rfl Try.func23 (by kernel_rfl) rfl #[.slice A0 l0.length c0] rfl (by (try simp only [List.map_toArray, List.map_cons, List.map_nil]); first | done | rfl | (simp only [List.length_drop, List.length_take]; rfl)) ?_; (with_reducible refine (gangplankref11_Few.calls k _ _ l0 t149 _ ?side1 ?side2 A5.out).mono ?_); (case side1 => repeat (first | exact (Kd.C_below HR0.out HB.out) | (with_reducible refine Kd.C_alloc ?_ _) | (with_reducible refine Kd.C_drewN ?_ _) | (with_reducible refine Kd.C_drew ?_))); (case side2 => exact HC0.out); (try clear A5); rintro e w' ⟨rfl, ⟨nd, rfl⟩⟩; refine ⟨_, rfl, ?_⟩))
    (try simp only [Act.put, List.setIfInBounds_toArray, List.set_cons_zero, List.set_cons_succ])
    go_cut [20] (fun v20 wc => ∃ (kq : Nat) (x20_5 : Bool), v20 = .bool x20_5 ∧ Aside0 (gangplanklaw11_ProbeFinds.j0 kq l0 a1 true x20_5 = some r) ∧ Aside0 (kq ≤ k) ∧ Aside0 (Below w.heap.size w wc))
    case first =>
      have H := HC6.out
      clear HC6
      by_cases c8 : t149 = true
      · subst c8
        have H1 : (gangplanklaw11_ProbeFinds.j0 k l0 a1 true (decide ((a1.size : Int) > 60))) = some r := by first | (rw [if_pos rfl] at H; exact H) | (rw [if_pos trivial] at H; exact H)
        clear H
        have H := H1
        clear H1
        have H' := Aside0.mk H
        clear H
        go_wp2
        go_meet
        case rel => exact ⟨_, (decide ((a1.size : Int) > 60)), (by first | rfl | (simp; done) | (simp [*]; done)), H', ⟨by first | omega | exact Nat.le_refl _⟩, ⟨by repeat (first | (with_reducible first | exact HB.out | apply below_alloc | apply pw_below_drewN | apply below_drew1) | exact HB.out)⟩⟩
      · replace c8 := Bool.eq_false_iff.mpr c8
        subst c8
        have H1 : (gangplanklaw11_ProbeFinds.j0 k l0 a1 true true) = some r := by rw [if_neg (show ¬ (false = true) by decide)] at H; exact H
        clear H
        have H := H1
        clear H1
        have H' := Aside0.mk H
        clear H
        go_wp2
        go_meet
        case rel => exact ⟨_, (true), (by first | rfl | (simp; done) | (simp [*]; done)), H', ⟨by first | omega | exact Nat.le_refl _⟩, ⟨by repeat (first | (with_reducible first | exact HB.out | apply below_alloc | apply pw_below_drewN | apply below_drew1) | exact HB.out)⟩⟩
    case rest =>
      clear HC6
      try clear c2
      try clear p2
      try clear c4
      try clear c8
      obtain ⟨kq, x20_5, rfl, HA, HJ5, HB⟩ := hcut
      cases kq with
      | zero => exact absurd HA.out (by simp [gangplanklaw11_ProbeFinds.j0])
      | succ kj5 =>
        have H := HA.out
        clear HA
        simp only [gangplanklaw11_ProbeFinds.j0] at H
        by_cases c9 : x20_5 = true
        · subst c9
          have H1 : (some true) = some r := by first | (rw [if_pos rfl] at H; exact H) | (rw [if_pos trivial] at H; exact H)
          clear H
          have H := H1
          clear H1
          obtain rfl := Option.some.inj H
          go_wp2
          go_ret
          exact ⟨by first | rfl | (simp [errW_none, errW_some] <;> rfl) | (simp [*, errW_none, errW_some] <;> rfl), by repeat (first | (with_reducible first | exact HB.out | apply below_alloc | apply pw_below_drewN | apply below_drew1) | exact HB.out)⟩
        · replace c9 := Bool.eq_false_iff.mpr c9
          subst c9
          have H1 : ((probe_Find.f l0 a1).bind fun t150 => ((probe_Room.f l0 a1).bind fun t151 => (if t150 ≥ (l0.length : Int) then (gangplanklaw11_ProbeFinds.j1 kj5 l0 a1 true t150 t151 true) else (if t151 ≥ (l0.length : Int) then (gangplanklaw11_ProbeFinds.j1 kj5 l0 a1 true t150 t151 true) else (if t150 < (-1) then (gangplanklaw11_ProbeFinds.j1 kj5 l0 a1 true t150 t151 true) else (if t151 < (-1) then (gangplanklaw11_ProbeFinds.j1 kj5 l0 a1 true t150 t151 true) else (if t150 ≥ 0 then (gangplanklaw11_ProbeFinds.j1 kj5 l0 a1 true t150 t151 (decide (t151 ≥ 0))) else (gangplanklaw11_ProbeFinds.j1 kj5 l0 a1 true t150 t151 false)))))))) = some r := by rw [if_neg (show ¬ (false = true) by decide)] at H; exact H
          clear H
          have H := H1
          clear H1
          replace H := Option.bind_eq_some_iff.mp H
          obtain ⟨t150, A100, H⟩ := H
          replace H : ((probe_Room.f l0 a1).bind fun t151 => (if t150 ≥ (l0.length : Int) then (gangplanklaw11_ProbeFinds.j1 kj5 l0 a1 true t150 t151 true) else (if t151 ≥ (l0.length : Int) then (gangplanklaw11_ProbeFinds.j1 kj5 l0 a1 true t150 t151 true) else (if t150 < (-1) then (gangplanklaw11_ProbeFinds.j1 kj5 l0 a1 true t150 t151 true) else (if t151 < (-1) then (gangplanklaw11_ProbeFinds.j1 kj5 l0 a1 true t150 t151 true) else (if t150 ≥ 0 then (gangplanklaw11_ProbeFinds.j1 kj5 l0 a1 true t150 t151 (decide (t151 ≥ 0))) else (gangplanklaw11_ProbeFinds.j1 kj5 l0 a1 true t150 t151 false))))))) = some r := H
          have A10 := Aside0.mk A100
          clear A100
          replace H := Option.bind_eq_some_iff.mp H
          obtain ⟨t151, A110, H⟩ := H
          replace H : (if t150 ≥ (l0.length : Int) then (gangplanklaw11_ProbeFinds.j1 kj5 l0 a1 true t150 t151 true) else (if t151 ≥ (l0.length : Int) then (gangplanklaw11_ProbeFinds.j1 kj5 l0 a1 true t150 t151 true) else (if t150 < (-1) then (gangplanklaw11_ProbeFinds.j1 kj5 l0 a1 true t150 t151 true) else (if t151 < (-1) then (gangplanklaw11_ProbeFinds.j1 kj5 l0 a1 true t150 t151 true) else (if t150 ≥ 0 then (gangplanklaw11_ProbeFinds.j1 kj5 l0 a1 true t150 t151 (decide (t151 ≥ 0))) else (gangplanklaw11_ProbeFinds.j1 kj5 l0 a1 true t150 t151 false)))))) = some r := H
          have A11 := Aside0.mk A110
          clear A110
          have HC12 := Aside0.mk H
          clear H
          go_upto_region 8 with (first | ((with_reducible refine gate_callee (f := 25) rfl ?_); refine goesL_ (some 24) rfl rfl Try.func25 (by kernel_rfl) rfl #[.slice A0 l0.length c0, .string a1] rfl (by (try simp only [List.map_toArray, List.map_cons, List.map_nil]); first | done | rfl | (simp only [List.length_drop, List.length_take]; rfl)) ?_; (with_reducible refine (probe_Find.calls _ _ l0 a1 t150 _ ?side1 ?side2 A10.out).mono ?_); (case side1 => repeat (first | exact (Kd.C_below HR0.out HB.out) | (with_reducible refine Kd.C_alloc ?_ _) | (with_reducible refine Kd.C_drewN ?_ _) | (with_reducible refine Kd.C_drew ?_))); (case side2 => exact HC0.out); (try clear A10); rintro e w13 ⟨rfl, hb⟩; refine ⟨_, rfl, ?_⟩; have n0_ := Aside0.mk (below_step (by repeat (first | (with_reducible first | exact HB.out | apply below_alloc | apply pw_below_drewN | apply below_drew1) | exact HB.out)) hb); clear HB; have HB := n0_; clear n0_; (try clear hb); (try clear hb2); (try clear hk); (try clear hi)) | ((with_reducible refine gate_callee (f := 27) rfl ?_); refine goesL_ (some 27) rfl rfl Try.func27 (by kernel_rfl) rfl #[.slice A0 l0.length c0, .string a1] rfl (by (try simp only [List.map_toArray, List.map_cons, List.map_nil]); first | done | rfl | (simp only [List.length_drop, List.length_take]; rfl)) ?_; (with_reducible refine (probe_Room.calls _ _ l0 a1 t151 _ ?side1 ?side2 A11.out).mono ?_); (case side1 => repeat (first | exact (Kd.C_below HR0.out HB.out) | (with_reducible refine Kd.C_alloc ?_ _) | (with_reducible refine Kd.C_drewN ?_ _) | (with_reducible refine Kd.C_drew ?_))); (case side2 => exact HC0.out); (try clear A11); rintro e w14 ⟨rfl, hb⟩; refine ⟨_, rfl, ?_⟩; have n0_ := Aside0.mk (below_step (by repeat (first | (with_reducible first | exact HB.out | apply below_alloc | apply pw_below_drewN | apply below_drew1) | exact HB.out)) hb); clear HB; have HB := n0_; clear n0_; (try clear hb); (try clear hb2); (try clear hk); (try clear hi)))
          (try simp only [Act.put, List.setIfInBounds_toArray, List.set_cons_zero, List.set_cons_succ])
          go_cut [53] (fun v53 wc => ∃ (kq : Nat) (x53_11 : Bool), v53 = .bool x53_11 ∧ Aside0 (gangplanklaw11_ProbeFinds.j1 kq l0 a1 true t150 t151 x53_11 = some r) ∧ Aside0 (kq ≤ kj5) ∧ Aside0 (Below w.heap.size w wc))
          case first =>
            have H := HC12.out
            clear HC12
            by_cases c15 : t150 ≥ (l0.length : Int)
            · rw [if_pos c15] at H
              have c15b0 : decide ((l0.length : Int) ≤ t150) = true := decide_eq_true c15
              clear c15
              (first | rw [c15b0] | (simp only [i64_w, i32_w]; rw [c15b0]) | skip)
              have H' := Aside0.mk H
              clear H
              go_wp2
              go_meet
              case rel => exact ⟨_, (true), (by first | rfl | (simp; done) | (simp [*]; done)), H', ⟨by have := HJ5.out; first | omega | exact Nat.le_refl _⟩, ⟨by repeat (first | (with_reducible first | exact HB.out | apply below_alloc | apply pw_below_drewN | apply below_drew1) | exact HB.out)⟩⟩
            · rw [if_neg c15] at H
              have c15b0 : decide ((l0.length : Int) ≤ t150) = false := decide_eq_false c15
              clear c15
              (first | rw [c15b0] | (simp only [i64_w, i32_w]; rw [c15b0]) | skip)
              by_cases c16 : t151 ≥ (l0.length : Int)
              · rw [if_pos c16] at H
                have c16b0 : decide ((l0.length : Int) ≤ t151) = true := decide_eq_true c16
                clear c16
                have H' := Aside0.mk H
                clear H
                go_wp2
                go_meet
                case rel => exact ⟨_, (true), (by first | rfl | (simp; done) | (simp [*]; done)), H', ⟨by have := HJ5.out; first | omega | exact Nat.le_refl _⟩, ⟨by repeat (first | (with_reducible first | exact HB.out | apply below_alloc | apply pw_below_drewN | apply below_drew1) | exact HB.out)⟩⟩
              · rw [if_neg c16] at H
                have c16b0 : decide ((l0.length : Int) ≤ t151) = false := decide_eq_false c16
                clear c16
                by_cases c17 : t150 < (-1)
                · rw [if_pos c17] at H
                  have c17b0 : decide (t150 < (-1)) = true := decide_eq_true c17
                  clear c17
                  have H' := Aside0.mk H
                  clear H
                  go_wp2
                  go_meet
                  case rel => exact ⟨_, (true), (by first | rfl | (simp; done) | (simp [*]; done)), H', ⟨by have := HJ5.out; first | omega | exact Nat.le_refl _⟩, ⟨by repeat (first | (with_reducible first | exact HB.out | apply below_alloc | apply pw_below_drewN | apply below_drew1) | exact HB.out)⟩⟩
                · rw [if_neg c17] at H
                  have c17b0 : decide (t150 < (-1)) = false := decide_eq_false c17
                  clear c17
                  by_cases c18 : t151 < (-1)
                  · rw [if_pos c18] at H
                    have c18b0 : decide (t151 < (-1)) = true := decide_eq_true c18
                    clear c18
                    have H' := Aside0.mk H
                    clear H
                    go_wp2
                    go_meet
                    case rel => exact ⟨_, (true), (by first | rfl | (simp; done) | (simp [*]; done)), H', ⟨by have := HJ5.out; first | omega | exact Nat.le_refl _⟩, ⟨by repeat (first | (with_reducible first | exact HB.out | apply below_alloc | apply pw_below_drewN | apply below_drew1) | exact HB.out)⟩⟩
                  · rw [if_neg c18] at H
                    have c18b0 : decide (t151 < (-1)) = false := decide_eq_false c18
                    clear c18
                    by_cases c19 : t150 ≥ 0
                    · rw [if_pos c19] at H
                      have c19b0 : decide (0 ≤ t150) = true := decide_eq_true c19
                      clear c19
                      have H' := Aside0.mk H
                      clear H
                      go_wp2
                      go_meet
                      case rel => exact ⟨_, (decide (t151 ≥ 0)), (by first | rfl | (simp; done) | (simp [*]; done)), H', ⟨by have := HJ5.out; first | omega | exact Nat.le_refl _⟩, ⟨by repeat (first | (with_reducible first | exact HB.out | apply below_alloc | apply pw_below_drewN | apply below_drew1) | exact HB.out)⟩⟩
                    · rw [if_neg c19] at H
                      have c19b0 : decide (0 ≤ t150) = false := decide_eq_false c19
                      clear c19
                      have H' := Aside0.mk H
                      clear H
                      go_wp2
                      go_meet
                      case rel => exact ⟨_, (false), (by first | rfl | (simp; done) | (simp [*]; done)), H', ⟨by have := HJ5.out; first | omega | exact Nat.le_refl _⟩, ⟨by repeat (first | (with_reducible first | exact HB.out | apply below_alloc | apply pw_below_drewN | apply below_drew1) | exact HB.out)⟩⟩
          case rest =>
            clear HC12
            try clear c1
            try clear c2
            try clear p2
            try clear c4
            try clear c8
            try clear c9
            try clear c15
            try clear c15b0
            try clear c16
            try clear c16b0
            try clear c17
            try clear c17b0
            try clear c18
            try clear c18b0
            try clear c19
            try clear c19b0
            try clear p2
            obtain ⟨kq, x53_11, rfl, HA, HJ11, HB⟩ := hcut
            cases kq with
            | zero => exact absurd HA.out (by simp [gangplanklaw11_ProbeFinds.j1])
            | succ kj11 =>
              have H := HA.out
              clear HA
              simp only [gangplanklaw11_ProbeFinds.j1] at H
              by_cases c20 : x53_11 = true
              · subst c20
                have H1 : (some false) = some r := by first | (rw [if_pos rfl] at H; exact H) | (rw [if_pos trivial] at H; exact H)
                clear H
                have H := H1
                clear H1
                obtain rfl := Option.some.inj H
                go_wp2
                go_ret
                exact ⟨by first | rfl | (simp [errW_none, errW_some] <;> rfl) | (simp [*, errW_none, errW_some] <;> rfl), by repeat (first | (with_reducible first | exact HB.out | apply below_alloc | apply pw_below_drewN | apply below_drew1) | exact HB.out)⟩
              · replace c20 := Bool.eq_false_iff.mpr c20
                subst c20
                have H1 : (if t150 ≥ 0 then (if true = true then (if 0 ≤ t150 then (if t150 < (l0.length : Int) then (if ((rd_T31 l0 t150).f0) = 1 then (some (((rd_T31 l0 t150).f1).toList == a1.toList)) else (some false)) else (none)) else (none)) else (some false)) else (if t151 ≥ 0 then (if true = true then (if 0 ≤ t151 then (if t151 < (l0.length : Int) then (some (((rd_T31 l0 t151).f0) != 1)) else (none)) else (none)) else (some false)) else (if true = true then ((probe_Count.f l0 1).bind fun t155 => (some (t155 == (l0.length : Int)))) else (some false)))) = some r := by rw [if_neg (show ¬ (false = true) by decide)] at H; exact H
                clear H
                have H := H1
                clear H1
                by_cases c21 : t150 ≥ 0
                · rw [if_pos c21] at H
                  have c21b0 : decide (0 ≤ t150) = true := decide_eq_true c21
                  clear c21
                  by_cases c22 : true = true
                  · skip
                    have H1 : (if 0 ≤ t150 then (if t150 < (l0.length : Int) then (if ((rd_T31 l0 t150).f0) = 1 then (some (((rd_T31 l0 t150).f1).toList == a1.toList)) else (some false)) else (none)) else (none)) = some r := by first | (rw [if_pos rfl] at H; exact H) | (rw [if_pos trivial] at H; exact H)
                    clear H
                    have H := H1
                    clear H1
                    by_cases c23 : 0 ≤ t150
                    · rw [if_pos c23] at H
                      have c23b0 : decide (0 ≤ t150) = true := decide_eq_true c23
                      clear c23
                      by_cases c24 : t150 < (l0.length : Int)
                      · rw [if_pos c24] at H
                        have c24b0 : decide (t150 < (l0.length : Int)) = true := decide_eq_true c24
                        clear c24
                        by_cases c25 : ((rd_T31 l0 t150).f0) = 1
                        · rw [if_pos c25] at H
                          have c25b0 : (((rd_T31 l0 t150).f0) == 1) = true := beq_iff_eq.mpr c25
                          have c25b1 : (((rd_T31 l0 t150).f0) != 1) = false := bne_eq_false_iff_eq.mpr c25
                          clear c25
                          obtain rfl := Option.some.inj H
                          have p152 : 0 ≤ (t150 : Int) := of_decide_eq_true (by first | (with_reducible assumption) | assumption)
                          have q152 : t150 < (l0.length : Int) := of_decide_eq_true (by first | (with_reducible assumption) | assumption)
                          obtain ⟨ad152, e152, hx152_0, hx152_1, hx152_2, hx152_3⟩ := at_T31 HR0.out t150 p152 q152
                          cases e152
                          replace hx152_0 := (HB.out.cell (World.block_lt_of_cell? w _ hx152_0)).trans hx152_0
                          replace hx152_1 := (HB.out.cell (World.block_lt_of_cell? w _ hx152_1)).trans hx152_1
                          replace hx152_2 := (HB.out.cell (World.block_lt_of_cell? w _ hx152_2)).trans hx152_2
                          replace hx152_3 := (HB.out.cell (World.block_lt_of_cell? w _ hx152_3)).trans hx152_3
                          replace p152 := eq_true p152
                          replace q152 := eq_true q152
                          have p153 : 0 ≤ (t150 : Int) := of_decide_eq_true (by first | (with_reducible assumption) | assumption)
                          have q153 : t150 < (l0.length : Int) := of_decide_eq_true (by first | (with_reducible assumption) | assumption)
                          obtain ⟨ad153, e153, hx153_0, hx153_1, hx153_2, hx153_3⟩ := at_T31 HR0.out t150 p153 q153
                          obtain rfl : ad152 = ad153 := (by injection e153)
                          replace hx153_0 := (HB.out.cell (World.block_lt_of_cell? w _ hx153_0)).trans hx153_0
                          replace hx153_1 := (HB.out.cell (World.block_lt_of_cell? w _ hx153_1)).trans hx153_1
                          replace hx153_2 := (HB.out.cell (World.block_lt_of_cell? w _ hx153_2)).trans hx153_2
                          replace hx153_3 := (HB.out.cell (World.block_lt_of_cell? w _ hx153_3)).trans hx153_3
                          replace p153 := eq_true p153
                          replace q153 := eq_true q153
                          go_wp2
                          go_ret
                          exact ⟨by first | rfl | (simp [errW_none, errW_some] <;> rfl) | (simp [*, errW_none, errW_some] <;> rfl), by repeat (first | (with_reducible first | exact HB.out | apply below_alloc | apply pw_below_drewN | apply below_drew1) | exact HB.out)⟩
                        · rw [if_neg c25] at H
                          have c25b0 : (((rd_T31 l0 t150).f0) == 1) = false := beq_eq_false_iff_ne.mpr c25
                          have c25b1 : (((rd_T31 l0 t150).f0) != 1) = true := bne_iff_ne.mpr c25
                          obtain rfl := Option.some.inj H
                          have p152 : 0 ≤ (t150 : Int) := of_decide_eq_true (by first | (with_reducible assumption) | assumption)
                          have q152 : t150 < (l0.length : Int) := of_decide_eq_true (by first | (with_reducible assumption) | assumption)
                          obtain ⟨ad152, e152, hx152_0, hx152_1, hx152_2, hx152_3⟩ := at_T31 HR0.out t150 p152 q152
                          cases e152
                          replace hx152_0 := (HB.out.cell (World.block_lt_of_cell? w _ hx152_0)).trans hx152_0
                          replace hx152_1 := (HB.out.cell (World.block_lt_of_cell? w _ hx152_1)).trans hx152_1
                          replace hx152_2 := (HB.out.cell (World.block_lt_of_cell? w _ hx152_2)).trans hx152_2
                          replace hx152_3 := (HB.out.cell (World.block_lt_of_cell? w _ hx152_3)).trans hx152_3
                          replace p152 := eq_true p152
                          replace q152 := eq_true q152
                          go_wp2
                          go_ret
                          exact ⟨by first | rfl | (simp [errW_none, errW_some] <;> rfl) | (simp [*, errW_none, errW_some] <;> rfl), by repeat (first | (with_reducible first | exact HB.out | apply below_alloc | apply pw_below_drewN | apply below_drew1) | exact HB.out)⟩
                      · rw [if_neg c24] at H
                        exact absurd H (by simp)
                    · rw [if_neg c23] at H
                      exact absurd H (by simp)
                  · exact absurd rfl c22
                · rw [if_neg c21] at H
                  have c21b0 : decide (0 ≤ t150) = false := decide_eq_false c21
                  clear c21
                  by_cases c26 : t151 ≥ 0
                  · rw [if_pos c26] at H
                    have c26b0 : decide (0 ≤ t151) = true := decide_eq_true c26
                    clear c26
                    by_cases c27 : true = true
                    · skip
                      have H1 : (if 0 ≤ t151 then (if t151 < (l0.length : Int) then (some (((rd_T31 l0 t151).f0) != 1)) else (none)) else (none)) = some r := by first | (rw [if_pos rfl] at H; exact H) | (rw [if_pos trivial] at H; exact H)
                      clear H
                      have H := H1
                      clear H1
                      by_cases c28 : 0 ≤ t151
                      · rw [if_pos c28] at H
                        have c28b0 : decide (0 ≤ t151) = true := decide_eq_true c28
                        clear c28
                        by_cases c29 : t151 < (l0.length : Int)
                        · rw [if_pos c29] at H
                          have c29b0 : decide (t151 < (l0.length : Int)) = true := decide_eq_true c29
                          clear c29
                          obtain rfl := Option.some.inj H
                          have p154 : 0 ≤ (t151 : Int) := of_decide_eq_true (by first | (with_reducible assumption) | assumption)
                          have q154 : t151 < (l0.length : Int) := of_decide_eq_true (by first | (with_reducible assumption) | assumption)
                          obtain ⟨ad154, e154, hx154_0, hx154_1, hx154_2, hx154_3⟩ := at_T31 HR0.out t151 p154 q154
                          cases e154
                          replace hx154_0 := (HB.out.cell (World.block_lt_of_cell? w _ hx154_0)).trans hx154_0
                          replace hx154_1 := (HB.out.cell (World.block_lt_of_cell? w _ hx154_1)).trans hx154_1
                          replace hx154_2 := (HB.out.cell (World.block_lt_of_cell? w _ hx154_2)).trans hx154_2
                          replace hx154_3 := (HB.out.cell (World.block_lt_of_cell? w _ hx154_3)).trans hx154_3
                          replace p154 := eq_true p154
                          replace q154 := eq_true q154
                          go_wp2
                          go_ret
                          exact ⟨by first | rfl | (simp [errW_none, errW_some] <;> rfl) | (simp [*, errW_none, errW_some] <;> rfl), by repeat (first | (with_reducible first | exact HB.out | apply below_alloc | apply pw_below_drewN | apply below_drew1) | exact HB.out)⟩
                        · rw [if_neg c29] at H
                          exact absurd H (by simp)
                      · rw [if_neg c28] at H
                        exact absurd H (by simp)
                    · exact absurd rfl c27
                  · rw [if_neg c26] at H
                    have c26b0 : decide (0 ≤ t151) = false := decide_eq_false c26
                    clear c26
                    by_cases c30 : true = true
                    · skip
                      have H1 : ((probe_Count.f l0 1).bind fun t155 => (some (t155 == (l0.length : Int)))) = some r := by first | (rw [if_pos rfl] at H; exact H) | (rw [if_pos trivial] at H; exact H)
                      clear H
                      have H := H1
                      clear H1
                      replace H := Option.bind_eq_some_iff.mp H
                      obtain ⟨t155, A310, H⟩ := H
                      replace H : (some (t155 == (l0.length : Int))) = some r := H
                      have A31 := Aside0.mk A310
                      clear A310
                      obtain rfl := Option.some.inj H
                      go_wp2_with (first | (go_at_call 31; (with_reducible refine (probe_Count.calls _ _ l0 1 t155 _ ?side1 ?side2 A31.out).mono ?_); (case side1 => repeat (first | exact (Kd.C_below HR0.out HB.out) | (with_reducible refine Kd.C_alloc ?_ _) | (with_reducible refine Kd.C_drewN ?_ _) | (with_reducible refine Kd.C_drew ?_))); (case side2 => exact HC0.out); (try clear A31); rintro e w32 ⟨rfl, hb⟩; have n0_ := Aside0.mk (below_step (by repeat (first | (with_reducible first | exact HB.out | apply below_alloc | apply pw_below_drewN | apply below_drew1) | exact HB.out)) hb); clear HB; have HB := n0_; clear n0_; (try clear hb); (try clear hb2); (try clear hk); (try clear hi)))
                      go_ret
                      exact ⟨by first | rfl | (simp [errW_none, errW_some] <;> rfl) | (simp [*, errW_none, errW_some] <;> rfl), by repeat (first | (with_reducible first | exact HB.out | apply below_alloc | apply pw_below_drewN | apply below_drew1) | exact HB.out)⟩
                    · exact absurd rfl c30
  · replace c4 := Bool.eq_false_iff.mpr c4
    subst c4
    have H1 : (some false) = some r := by rw [if_neg (show ¬ (false = true) by decide)] at H; exact H
    clear H
    have H := H1
    clear H1
    obtain rfl := Option.some.inj H
    go_enter Try.func4, Try.ntmps4
    go_wp2_with (first | ((with_reducible refine gate_callee (f := 22) rfl ?_); refine goesL_ (some 9) rfl rfl Try.func22 (by kernel_rfl) rfl #[] rfl (by (try simp only [List.map_toArray, List.map_cons, List.map_nil]); first | done | rfl | (simp only [List.length_drop, List.length_take]; rfl)) ?_; (with_reducible refine (gangplanklaw11_works.calls k  false _ A3.out).mono ?_); (try clear A3); rintro e w33 ⟨rfl, hb⟩; refine ⟨_, rfl, ?_⟩; have n0_ := Aside0.mk (below_step (by repeat (first | (with_reducible first | exact HB.out | apply below_alloc | apply pw_below_drewN | apply below_drew1) | exact HB.out)) hb); clear HB; have HB := n0_; clear n0_; (try clear hb); (try clear hb2); (try clear hk); (try clear hi)))
    go_ret
    exact ⟨by first | rfl | (simp [errW_none, errW_some] <;> rfl) | (simp [*, errW_none, errW_some] <;> rfl), by repeat (first | (with_reducible first | exact HB.out | apply below_alloc | apply pw_below_drewN | apply below_drew1) | exact HB.out)⟩

/-- THE PURE STATEMENT of gangplanklaw11_ProbeFinds. -/
def gangplanklaw11_ProbeFinds.Pure : Prop := ∀ (l0 : List (S31)) (a1 : ByteArray), (l0.length ≤ maxLen) → ((∀ x ∈ l0, okS31 x)) → (a1.size ≤ 140737488351232) → ∃ k, gangplanklaw11_ProbeFinds.f k l0 a1 = some true

end Go.Proofs.Ythdkkmeiihbafaa.P
