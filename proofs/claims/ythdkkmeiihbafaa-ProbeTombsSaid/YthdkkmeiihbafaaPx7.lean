/- Each Go function that the laws reach, as a plain function, with the proof that the machine's call comes to what it says; of a law: its row. Made by a program of this seat (wip/hp.py, over the print). -/
import Derived.Test.YthdkkmeiihbafaaPx0
import Derived.Test.YthdkkmeiihbafaaPx2
import Derived.Test.YthdkkmeiihbafaaPx3
namespace Go.Proofs.Ythdkkmeiihbafaa.P
open Go.RowKit Go.Proofs.YthdkkmeiihbafaaW.PrintWords Go.Proofs.YthdkkmeiihbafaaW.PrintLast Go.Proofs.YthdkkmeiihbafaaW.PrintMore
attribute [local go_sem] max2_int min2_int max_two min_two max_three min_three max_four min_four   -- for this text's walks alone
set_option linter.unusedVariables false
set_option linter.unusedSimpArgs false

/-! ### gangplanklaw11_ProbeWay: function 7 -/
mutual
def gangplanklaw11_ProbeWay.j0 : Nat → ByteArray → Int → Int → Bool → Bool → Option (Bool)
  | 0, _, _, _, _, _ => none
  | k + 1, x0, x1, x2, x7, x34 => if x34 = true then (some x7) else (if 0 ≤ x1 then (if (x1 : Int).toNat ≤ 7036874417766 then ((some (List.replicate (x1 : Int).toNat z31 : List (S31))).bind fun y188 => ((probe_Home.f x0 x1).bind fun t191 => (if t191 < 0 then (gangplanklaw11_ProbeWay.j1 k x0 x1 x2 x7 y188 t191 true) else (if t191 ≥ x1 then (gangplanklaw11_ProbeWay.j1 k x0 x1 x2 x7 y188 t191 true) else ((probe_Room.f y188 x0).bind fun t192 => (if t192 = t191 then ((probe_Find.f y188 x0).bind fun t193 => (gangplanklaw11_ProbeWay.j1 k x0 x1 x2 x7 y188 t191 (t193 != (-1)))) else (gangplanklaw11_ProbeWay.j1 k x0 x1 x2 x7 y188 t191 true))))))) else (none)) else (none))
def gangplanklaw11_ProbeWay.j1 : Nat → ByteArray → Int → Int → Bool → List (S31) → Int → Bool → Option (Bool)
  | 0, _, _, _, _, _, _, _ => none
  | k + 1, x0, x1, x2, x7, x8, x9, x60 => if x60 = true then (some false) else (gangplanklaw11_ProbeWay.l0 k x0 x1 x2 x7 x8 x9 0)
def gangplanklaw11_ProbeWay.l0 : Nat → ByteArray → Int → Int → Bool → List (S31) → Int → Int → Option (Bool)
  | 0, _, _, _, _, _, _, _ => none
  | k + 1, x0, x1, x2, x7, x8, x9, x10 => if x10 < x2 then (if x1 = 0 then (none) else (if x0.size + 1 ≤ 9223372036854775807 then (if 0 ≤ (Int.tmod (wrap64 (x9 + x10)) x1) then (if (Int.tmod (wrap64 (x9 + x10)) x1) < (x8.length : Int) then (gangplanklaw11_ProbeWay.l0 k x0 x1 x2 x7 (x8.set ((Int.tmod (wrap64 (x9 + x10)) x1) : Int).toNat (⟨1, x0 ++ (⟨#[63]⟩ : ByteArray), 0, 0⟩ : S31)) x9 (wrap64 (x10 + 1))) else (none)) else (none)) else (none))) else (if x1 = 0 then (none) else ((probe_Room.f x8 x0).bind fun t195 => (if t195 = (Int.tmod (wrap64 (x9 + x2)) x1) then (if 0 ≤ (Int.tmod (wrap64 (x9 + x2)) x1) then (if (Int.tmod (wrap64 (x9 + x2)) x1) < (x8.length : Int) then (if x7 = true then ((probe_Find.f (x8.set ((Int.tmod (wrap64 (x9 + x2)) x1) : Int).toNat (⟨1, x0, 0, 0⟩ : S31)) x0).bind fun t197 => (some (t197 == (Int.tmod (wrap64 (x9 + x2)) x1)))) else (some false)) else (none)) else (none)) else (some false))))
end
def gangplanklaw11_ProbeWay.f (k : Nat) (a0 : ByteArray) (a1 : Int) (a2 : Int) : Option (Bool) := (gangplanklaw11_works.f k).bind fun t187 => (if t187 = true then (if (a0.size : Int) > 60 then (gangplanklaw11_ProbeWay.j0 k a0 a1 a2 t187 true) else (if a1 < 1 then (gangplanklaw11_ProbeWay.j0 k a0 a1 a2 t187 true) else (if a1 > 64 then (gangplanklaw11_ProbeWay.j0 k a0 a1 a2 t187 true) else (if a2 < 0 then (gangplanklaw11_ProbeWay.j0 k a0 a1 a2 t187 true) else (gangplanklaw11_ProbeWay.j0 k a0 a1 a2 t187 (decide (a2 ≥ a1))))))) else (some false))
theorem gangplanklaw11_ProbeWay.mono_l : ∀ k, (∀ y0 y1 y2 y3 y4, LeO (gangplanklaw11_ProbeWay.j0 k y0 y1 y2 y3 y4) (gangplanklaw11_ProbeWay.j0 (k + 1) y0 y1 y2 y3 y4)) ∧ (∀ y0 y1 y2 y3 y4 y5 y6, LeO (gangplanklaw11_ProbeWay.j1 k y0 y1 y2 y3 y4 y5 y6) (gangplanklaw11_ProbeWay.j1 (k + 1) y0 y1 y2 y3 y4 y5 y6)) ∧ (∀ y0 y1 y2 y3 y4 y5 y6, LeO (gangplanklaw11_ProbeWay.l0 k y0 y1 y2 y3 y4 y5 y6) (gangplanklaw11_ProbeWay.l0 (k + 1) y0 y1 y2 y3 y4 y5 y6))
  | 0 => ⟨fun _ _ _ _ _ r h => by simp [gangplanklaw11_ProbeWay.j0] at h, fun _ _ _ _ _ _ _ r h => by simp [gangplanklaw11_ProbeWay.j1] at h, fun _ _ _ _ _ _ _ r h => by simp [gangplanklaw11_ProbeWay.l0] at h⟩
  | k + 1 => by
    obtain ⟨ih0, ih1, ih2⟩ := gangplanklaw11_ProbeWay.mono_l k
    refine ⟨?_, ?_, ?_⟩
    · intro y0 y1 y2 y3 y4
      unfold gangplanklaw11_ProbeWay.j0
      repeat' first
      | (with_reducible exact ih0 _ _ _ _ _)
      | (with_reducible exact ih1 _ _ _ _ _ _ _)
      | (with_reducible exact ih2 _ _ _ _ _ _ _)
      | (with_reducible exact gangplanklaw11_works.mono _)
      | (with_reducible exact LeO.refl _)
      | (with_reducible exact LeO.none _)
      | (with_reducible refine LeO.ite ?_ ?_)
      | (with_reducible refine LeO.bind ?_ (fun _ => ?_))
      | exact ih0 _ _ _ _ _
      | exact ih1 _ _ _ _ _ _ _
      | exact ih2 _ _ _ _ _ _ _
      | exact gangplanklaw11_works.mono _
      | exact LeO.none _
      | refine LeO.ite ?_ ?_
      | refine LeO.bind ?_ (fun _ => ?_)
    · intro y0 y1 y2 y3 y4 y5 y6
      unfold gangplanklaw11_ProbeWay.j1
      repeat' first
      | (with_reducible exact ih0 _ _ _ _ _)
      | (with_reducible exact ih1 _ _ _ _ _ _ _)
      | (with_reducible exact ih2 _ _ _ _ _ _ _)
      | (with_reducible exact gangplanklaw11_works.mono _)
      | (with_reducible exact LeO.refl _)
      | (with_reducible exact LeO.none _)
      | (with_reducible refine LeO.ite ?_ ?_)
      | (with_reducible refine LeO.bind ?_ (fun _ => ?_))
      | exact ih0 _ _ _ _ _
      | exact ih1 _ _ _ _ _ _ _
      | exact ih2 _ _ _ _ _ _ _
      | exact gangplanklaw11_works.mono _
      | exact LeO.none _
      | refine LeO.ite ?_ ?_
      | refine LeO.bind ?_ (fun _ => ?_)
    · intro y0 y1 y2 y3 y4 y5 y6
      unfold gangplanklaw11_ProbeWay.l0
      repeat' first
      | (with_reducible exact ih0 _ _ _ _ _)
      | (with_reducible exact ih1 _ _ _ _ _ _ _)
      | (with_reducible exact ih2 _ _ _ _ _ _ _)
      | (with_reducible exact gangplanklaw11_works.mono _)
      | (with_reducible exact LeO.refl _)
      | (with_reducible exact LeO.none _)
      | (with_reducible refine LeO.ite ?_ ?_)
      | (with_reducible refine LeO.bind ?_ (fun _ => ?_))
      | exact ih0 _ _ _ _ _
      | exact ih1 _ _ _ _ _ _ _
      | exact ih2 _ _ _ _ _ _ _
      | exact gangplanklaw11_works.mono _
      | exact LeO.none _
      | refine LeO.ite ?_ ?_
      | refine LeO.bind ?_ (fun _ => ?_)
theorem gangplanklaw11_ProbeWay.mono : ∀ a0 a1 a2 k, LeO (gangplanklaw11_ProbeWay.f k a0 a1 a2) (gangplanklaw11_ProbeWay.f (k + 1) a0 a1 a2) := by
  intro a0 a1 a2 k
  obtain ⟨ih0, ih1, ih2⟩ := gangplanklaw11_ProbeWay.mono_l k
  unfold gangplanklaw11_ProbeWay.f
  repeat' first
      | (with_reducible exact ih0 _ _ _ _ _)
      | (with_reducible exact ih1 _ _ _ _ _ _ _)
      | (with_reducible exact ih2 _ _ _ _ _ _ _)
      | (with_reducible exact gangplanklaw11_works.mono _)
      | (with_reducible exact LeO.refl _)
      | (with_reducible exact LeO.none _)
      | (with_reducible refine LeO.ite ?_ ?_)
      | (with_reducible refine LeO.bind ?_ (fun _ => ?_))
      | exact ih0 _ _ _ _ _
      | exact ih1 _ _ _ _ _ _ _
      | exact ih2 _ _ _ _ _ _ _
      | exact gangplanklaw11_works.mono _
      | exact LeO.none _
      | refine LeO.ite ?_ ?_
      | refine LeO.bind ?_ (fun _ => ?_)
set_option maxHeartbeats 8000000 in
set_option maxRecDepth 100000 in
theorem gangplanklaw11_ProbeWay.calls (k : Nat) (a0 : ByteArray) (a1 : Int) (a2 : Int) (r : Bool) (w : World) (h : gangplanklaw11_ProbeWay.f k a0 a1 a2 = some r) :
    Calls Try.prog 7 #[.string a0, .int .i64 a1, .int .i64 a2] w fun e w' => e = .returned (.bool r) ∧ Below w.heap.size w w' := by
  have hu31 := Try.underlying31
  have HB := Aside0.mk (Below.refl w.heap.size w)
  have H : ((gangplanklaw11_works.f k).bind fun t187 => (if t187 = true then (if (a0.size : Int) > 60 then (gangplanklaw11_ProbeWay.j0 k a0 a1 a2 t187 true) else (if a1 < 1 then (gangplanklaw11_ProbeWay.j0 k a0 a1 a2 t187 true) else (if a1 > 64 then (gangplanklaw11_ProbeWay.j0 k a0 a1 a2 t187 true) else (if a2 < 0 then (gangplanklaw11_ProbeWay.j0 k a0 a1 a2 t187 true) else (gangplanklaw11_ProbeWay.j0 k a0 a1 a2 t187 (decide (a2 ≥ a1))))))) else (some false))) = some r := h
  clear h
  replace H := Option.bind_eq_some_iff.mp H
  obtain ⟨t187, A40, H⟩ := H
  replace H : (if t187 = true then (if (a0.size : Int) > 60 then (gangplanklaw11_ProbeWay.j0 k a0 a1 a2 t187 true) else (if a1 < 1 then (gangplanklaw11_ProbeWay.j0 k a0 a1 a2 t187 true) else (if a1 > 64 then (gangplanklaw11_ProbeWay.j0 k a0 a1 a2 t187 true) else (if a2 < 0 then (gangplanklaw11_ProbeWay.j0 k a0 a1 a2 t187 true) else (gangplanklaw11_ProbeWay.j0 k a0 a1 a2 t187 (decide (a2 ≥ a1))))))) else (some false)) = some r := H
  have A4 := Aside0.mk A40
  clear A40
  by_cases c5 : t187 = true
  · subst c5
    have H1 : (if (a0.size : Int) > 60 then (gangplanklaw11_ProbeWay.j0 k a0 a1 a2 true true) else (if a1 < 1 then (gangplanklaw11_ProbeWay.j0 k a0 a1 a2 true true) else (if a1 > 64 then (gangplanklaw11_ProbeWay.j0 k a0 a1 a2 true true) else (if a2 < 0 then (gangplanklaw11_ProbeWay.j0 k a0 a1 a2 true true) else (gangplanklaw11_ProbeWay.j0 k a0 a1 a2 true (decide (a2 ≥ a1))))))) = some r := by first | (rw [if_pos rfl] at H; exact H) | (rw [if_pos trivial] at H; exact H)
    clear H
    have H := H1
    clear H1
    have HC6 := Aside0.mk H
    clear H
    go_enter Try.func7, Try.ntmps7
    go_upto_region 4 with (first | ((with_reducible refine gate_callee (f := 22) rfl ?_); refine goesL_ (some 12) rfl rfl Try.func22 (by kernel_rfl) rfl #[] rfl (by (try simp only [List.map_toArray, List.map_cons, List.map_nil]); first | done | rfl | (simp only [List.length_drop, List.length_take]; rfl)) ?_; (with_reducible refine (gangplanklaw11_works.calls k  true _ A4.out).mono ?_); (try clear A4); rintro e w7 ⟨rfl, hb⟩; refine ⟨_, rfl, ?_⟩; have n0_ := Aside0.mk (below_step (by repeat (first | (with_reducible first | exact HB.out | apply below_alloc | apply pw_below_drewN | apply below_drew1) | exact HB.out)) hb); clear HB; have HB := n0_; clear n0_; (try clear hb); (try clear hb2); (try clear hk); (try clear hi)))
    (try simp only [Act.put, List.setIfInBounds_toArray, List.set_cons_zero, List.set_cons_succ])
    go_cut [34] (fun v34 wc => ∃ (kq : Nat) (x34_5 : Bool), v34 = .bool x34_5 ∧ Aside0 (gangplanklaw11_ProbeWay.j0 kq a0 a1 a2 true x34_5 = some r) ∧ Aside0 (kq ≤ k) ∧ Aside0 (Below w.heap.size w wc))
    case first =>
      have H := HC6.out
      clear HC6
      by_cases c8 : (a0.size : Int) > 60
      · rw [if_pos c8] at H
        have c8b0 : decide (60 < (a0.size : Int)) = true := decide_eq_true c8
        have c8b1 : decide (60 < a0.size) = true := decide_eq_true (by omega)
        clear c8
        (first | rw [c8b0] | (simp only [i64_w, i32_w]; rw [c8b0]) | skip)
        have H' := Aside0.mk H
        clear H
        go_wp2
        go_meet
        case rel => exact ⟨_, (true), (by first | rfl | (simp; done) | (simp [*]; done)), H', ⟨by first | omega | exact Nat.le_refl _⟩, ⟨by repeat (first | (with_reducible first | exact HB.out | apply below_alloc | apply pw_below_drewN | apply below_drew1) | exact HB.out)⟩⟩
      · rw [if_neg c8] at H
        have c8b0 : decide (60 < (a0.size : Int)) = false := decide_eq_false c8
        have c8b1 : decide (60 < a0.size) = false := decide_eq_false (by omega)
        clear c8
        (first | rw [c8b0] | (simp only [i64_w, i32_w]; rw [c8b0]) | skip)
        by_cases c9 : a1 < 1
        · rw [if_pos c9] at H
          have c9b0 : decide (a1 < 1) = true := decide_eq_true c9
          clear c9
          have H' := Aside0.mk H
          clear H
          go_wp2
          go_meet
          case rel => exact ⟨_, (true), (by first | rfl | (simp; done) | (simp [*]; done)), H', ⟨by first | omega | exact Nat.le_refl _⟩, ⟨by repeat (first | (with_reducible first | exact HB.out | apply below_alloc | apply pw_below_drewN | apply below_drew1) | exact HB.out)⟩⟩
        · rw [if_neg c9] at H
          have c9b0 : decide (a1 < 1) = false := decide_eq_false c9
          clear c9
          by_cases c10 : a1 > 64
          · rw [if_pos c10] at H
            have c10b0 : decide (64 < a1) = true := decide_eq_true c10
            clear c10
            have H' := Aside0.mk H
            clear H
            go_wp2
            go_meet
            case rel => exact ⟨_, (true), (by first | rfl | (simp; done) | (simp [*]; done)), H', ⟨by first | omega | exact Nat.le_refl _⟩, ⟨by repeat (first | (with_reducible first | exact HB.out | apply below_alloc | apply pw_below_drewN | apply below_drew1) | exact HB.out)⟩⟩
          · rw [if_neg c10] at H
            have c10b0 : decide (64 < a1) = false := decide_eq_false c10
            clear c10
            by_cases c11 : a2 < 0
            · rw [if_pos c11] at H
              have c11b0 : decide (a2 < 0) = true := decide_eq_true c11
              clear c11
              have H' := Aside0.mk H
              clear H
              go_wp2
              go_meet
              case rel => exact ⟨_, (true), (by first | rfl | (simp; done) | (simp [*]; done)), H', ⟨by first | omega | exact Nat.le_refl _⟩, ⟨by repeat (first | (with_reducible first | exact HB.out | apply below_alloc | apply pw_below_drewN | apply below_drew1) | exact HB.out)⟩⟩
            · rw [if_neg c11] at H
              have c11b0 : decide (a2 < 0) = false := decide_eq_false c11
              clear c11
              have H' := Aside0.mk H
              clear H
              go_wp2
              go_meet
              case rel => exact ⟨_, (decide (a2 ≥ a1)), (by first | rfl | (simp; done) | (simp [*]; done)), H', ⟨by first | omega | exact Nat.le_refl _⟩, ⟨by repeat (first | (with_reducible first | exact HB.out | apply below_alloc | apply pw_below_drewN | apply below_drew1) | exact HB.out)⟩⟩
    case rest =>
      clear HC6
      try clear c1
      try clear c2
      try clear p2
      try clear c5
      try clear c7
      try clear c8
      try clear c8b0
      try clear c8b1
      try clear c9
      try clear c9b0
      try clear c10
      try clear c10b0
      try clear c11
      try clear c11b0
      obtain ⟨kq, x34_5, rfl, HA, HJ5, HB⟩ := hcut
      cases kq with
      | zero => exact absurd HA.out (by simp [gangplanklaw11_ProbeWay.j0])
      | succ kj5 =>
        have H := HA.out
        clear HA
        simp only [gangplanklaw11_ProbeWay.j0] at H
        by_cases c12 : x34_5 = true
        · subst c12
          have H1 : (some true) = some r := by first | (rw [if_pos rfl] at H; exact H) | (rw [if_pos trivial] at H; exact H)
          clear H
          have H := H1
          clear H1
          obtain rfl := Option.some.inj H
          go_wp2
          go_ret
          exact ⟨by first | rfl | (simp [errW_none, errW_some] <;> rfl) | (simp [*, errW_none, errW_some] <;> rfl), by repeat (first | (with_reducible first | exact HB.out | apply below_alloc | apply pw_below_drewN | apply below_drew1) | exact HB.out)⟩
        · replace c12 := Bool.eq_false_iff.mpr c12
          subst c12
          have H1 : (if 0 ≤ a1 then (if (a1 : Int).toNat ≤ 7036874417766 then ((some (List.replicate (a1 : Int).toNat z31 : List (S31))).bind fun y188 => ((probe_Home.f a0 a1).bind fun t191 => (if t191 < 0 then (gangplanklaw11_ProbeWay.j1 kj5 a0 a1 a2 true y188 t191 true) else (if t191 ≥ a1 then (gangplanklaw11_ProbeWay.j1 kj5 a0 a1 a2 true y188 t191 true) else ((probe_Room.f y188 a0).bind fun t192 => (if t192 = t191 then ((probe_Find.f y188 a0).bind fun t193 => (gangplanklaw11_ProbeWay.j1 kj5 a0 a1 a2 true y188 t191 (t193 != (-1)))) else (gangplanklaw11_ProbeWay.j1 kj5 a0 a1 a2 true y188 t191 true))))))) else (none)) else (none)) = some r := by rw [if_neg (show ¬ (false = true) by decide)] at H; exact H
          clear H
          have H := H1
          clear H1
          by_cases c13 : 0 ≤ a1
          · rw [if_pos c13] at H
            have c13b0 := eq_true c13
            have c13b1 : decide (0 ≤ a1) = true := decide_eq_true c13
            clear c13
            by_cases c14 : (a1 : Int).toNat ≤ 7036874417766
            · rw [if_pos c14] at H
              have c14b0 := eq_true c14
              have c14b1 : decide ((a1 : Int).toNat ≤ 7036874417766) = true := decide_eq_true c14
              clear c14
              obtain ⟨y188, hy188⟩ : ∃ y_ : List (S31), y_ = (List.replicate (a1 : Int).toNat z31) := ⟨_, rfl⟩
              replace H : ((probe_Home.f a0 a1).bind fun t191 => (if t191 < 0 then (gangplanklaw11_ProbeWay.j1 kj5 a0 a1 a2 true y188 t191 true) else (if t191 ≥ a1 then (gangplanklaw11_ProbeWay.j1 kj5 a0 a1 a2 true y188 t191 true) else ((probe_Room.f y188 a0).bind fun t192 => (if t192 = t191 then ((probe_Find.f y188 a0).bind fun t193 => (gangplanklaw11_ProbeWay.j1 kj5 a0 a1 a2 true y188 t191 (t193 != (-1)))) else (gangplanklaw11_ProbeWay.j1 kj5 a0 a1 a2 true y188 t191 true)))))) = some r := by first | (rw [hy188]; with_reducible exact H) | (have H2_ := (Option.bind_some _ _).symm.trans H; rw [hy188]; with_reducible exact H2_) | (have H2_ := (Option.bind_some _ _).symm.trans H; with_reducible exact H2_) | with_reducible exact H | (rw [hy188]; exact H) | exact H
              have Ny188 := Aside0.mk hy188
              clear hy188
              replace H := Option.bind_eq_some_iff.mp H
              obtain ⟨t191, A150, H⟩ := H
              replace H : (if t191 < 0 then (gangplanklaw11_ProbeWay.j1 kj5 a0 a1 a2 true y188 t191 true) else (if t191 ≥ a1 then (gangplanklaw11_ProbeWay.j1 kj5 a0 a1 a2 true y188 t191 true) else ((probe_Room.f y188 a0).bind fun t192 => (if t192 = t191 then ((probe_Find.f y188 a0).bind fun t193 => (gangplanklaw11_ProbeWay.j1 kj5 a0 a1 a2 true y188 t191 (t193 != (-1)))) else (gangplanklaw11_ProbeWay.j1 kj5 a0 a1 a2 true y188 t191 true))))) = some r := H
              have A15 := Aside0.mk A150
              clear A150
              have HC16 := Aside0.mk H
              clear H
              go_upto_region 8 with (first | ((with_reducible refine gate_dst (N := 37) rfl ?_); refine Kd.R_make k31 _ 31 rfl (N := 37) rfl 22 _ _ rfl a1 rfl rfl Try.underlying22 (.agg #[(.int .i64 0), (.string ⟨#[]⟩), (.int .i64 0), (.int .i64 0)]) 40 info31 rfl (by decide) (by omega) z31 (ok := fun _ => True) (okp := fun _ => True) (k31_mkM _ _ _ z31 ) (fun _ hk => hk) trivial (of_decide_eq_true (by first | (with_reducible assumption) | assumption)) (Nat.le_trans (Nat.mul_le_mul_right _ (of_decide_eq_true (by first | (with_reducible assumption) | assumption) : a1.toNat ≤ 7036874417766)) (by omega)) (Below.refl _ _) (Nat.le_refl _) ?_; intro v189 w17 ho18 hb hg_ hnew_; clear hg_ hnew_; (first | rw [← Ny188.out] at ho18 | (simp only [Int.reduceToNat] at ho18; rw [← Ny188.out] at ho18)); have n0_ := Aside0.mk (Kd.R_lower ho18 (below_size (by repeat (first | (with_reducible first | exact HB.out | apply below_alloc | apply pw_below_drewN | apply below_drew1) | exact HB.out)))); have n1_ := Aside0.mk (below_step (by repeat (first | (with_reducible first | exact HB.out | apply below_alloc | apply pw_below_drewN | apply below_drew1) | exact HB.out)) hb); clear HB; have HO190 := n0_; have HB := n1_; clear n0_ n1_; clear hb ho18) | ((with_reducible refine gate_callee (f := 29) rfl ?_); refine goesL_ (some 40) rfl rfl Try.func29 (by kernel_rfl) rfl #[.string a0, .int .i64 a1] rfl (by (try simp only [List.map_toArray, List.map_cons, List.map_nil]); first | done | rfl | (simp only [List.length_drop, List.length_take]; rfl)) ?_; (with_reducible refine (probe_Home.calls a0 a1 t191 _ A15.out).mono ?_); (try clear A15); rintro e w19 ⟨rfl, hb⟩; refine ⟨_, rfl, ?_⟩; have n0_ := Aside0.mk (Kd.R_below (by (with_reducible repeat (first | apply Kd.R_alloc | apply Kd.R_drewN | apply Kd.R_drew)); exact HO190.out) hb); have n1_ := Aside0.mk (below_step (by repeat (first | (with_reducible first | exact HB.out | apply below_alloc | apply pw_below_drewN | apply below_drew1) | exact HB.out)) hb); clear HO190; clear HB; have HO190 := n0_; have HB := n1_; clear n0_ n1_; (try clear hb); (try clear hb2); (try clear hk); (try clear hi)))
              (try simp only [Act.put, List.setIfInBounds_toArray, List.set_cons_zero, List.set_cons_succ])
              go_cut [60] (fun v60 wc => ∃ (kq : Nat) (x60_15 : Bool), v60 = .bool x60_15 ∧ Aside0 (gangplanklaw11_ProbeWay.j1 kq a0 a1 a2 true y188 t191 x60_15 = some r) ∧ Aside0 (kq ≤ kj5) ∧ Aside0 (Kd.R k31 31 wc w.heap.size (fun _ => True) v189 y188) ∧ Aside0 (Below w.heap.size w wc))
              case first =>
                have H := HC16.out
                clear HC16
                by_cases c20 : t191 < 0
                · rw [if_pos c20] at H
                  have c20b0 : decide (t191 < 0) = true := decide_eq_true c20
                  clear c20
                  (first | rw [c20b0] | (simp only [i64_w, i32_w]; rw [c20b0]) | skip)
                  have H' := Aside0.mk H
                  clear H
                  go_wp2
                  go_meet
                  case rel => exact ⟨_, (true), (by first | rfl | (simp; done) | (simp [*]; done)), H', ⟨by have := HJ5.out; first | omega | exact Nat.le_refl _⟩, ⟨by (with_reducible repeat (first | apply Kd.R_alloc | apply Kd.R_drewN | apply Kd.R_drew)); exact HO190.out⟩, ⟨by repeat (first | (with_reducible first | exact HB.out | apply below_alloc | apply pw_below_drewN | apply below_drew1) | exact HB.out)⟩⟩
                · rw [if_neg c20] at H
                  have c20b0 : decide (t191 < 0) = false := decide_eq_false c20
                  clear c20
                  (first | rw [c20b0] | (simp only [i64_w, i32_w]; rw [c20b0]) | skip)
                  by_cases c21 : t191 ≥ a1
                  · rw [if_pos c21] at H
                    have c21b0 : decide (a1 ≤ t191) = true := decide_eq_true c21
                    clear c21
                    have H' := Aside0.mk H
                    clear H
                    go_wp2
                    go_meet
                    case rel => exact ⟨_, (true), (by first | rfl | (simp; done) | (simp [*]; done)), H', ⟨by have := HJ5.out; first | omega | exact Nat.le_refl _⟩, ⟨by (with_reducible repeat (first | apply Kd.R_alloc | apply Kd.R_drewN | apply Kd.R_drew)); exact HO190.out⟩, ⟨by repeat (first | (with_reducible first | exact HB.out | apply below_alloc | apply pw_below_drewN | apply below_drew1) | exact HB.out)⟩⟩
                  · rw [if_neg c21] at H
                    have c21b0 : decide (a1 ≤ t191) = false := decide_eq_false c21
                    clear c21
                    replace H := Option.bind_eq_some_iff.mp H
                    obtain ⟨t192, A220, H⟩ := H
                    replace H : (if t192 = t191 then ((probe_Find.f y188 a0).bind fun t193 => (gangplanklaw11_ProbeWay.j1 kj5 a0 a1 a2 true y188 t191 (t193 != (-1)))) else (gangplanklaw11_ProbeWay.j1 kj5 a0 a1 a2 true y188 t191 true)) = some r := H
                    have A22 := Aside0.mk A220
                    clear A220
                    by_cases c23 : t192 = t191
                    · rw [if_pos c23] at H
                      have c23b0 : (t192 == t191) = true := beq_iff_eq.mpr c23
                      have c23b1 : (t192 != t191) = false := bne_eq_false_iff_eq.mpr c23
                      clear c23
                      replace H := Option.bind_eq_some_iff.mp H
                      obtain ⟨t193, A240, H⟩ := H
                      replace H : (gangplanklaw11_ProbeWay.j1 kj5 a0 a1 a2 true y188 t191 (t193 != (-1))) = some r := H
                      have A24 := Aside0.mk A240
                      clear A240
                      have H' := Aside0.mk H
                      clear H
                      obtain ⟨Ao25, co25, eo25⟩ := Kd.R_slice HO190.out
                      subst eo25
                      go_wp2_with (first | (go_at_call 27; (with_reducible refine (probe_Room.calls _ _ y188 a0 t192 _ ?side1 ?side2 A22.out).mono ?_); (case side1 => repeat (first | exact (Kd.R_reads' HO190.out).2.2 | (with_reducible refine Kd.C_alloc ?_ _) | (with_reducible refine Kd.C_drewN ?_ _) | (with_reducible refine Kd.C_drew ?_))); (case side2 => exact (Kd.R_reads' HO190.out).2.1); (try clear A22); rintro e w26 ⟨rfl, hb⟩; have n0_ := Aside0.mk (Kd.R_below (by (with_reducible repeat (first | apply Kd.R_alloc | apply Kd.R_drewN | apply Kd.R_drew)); exact HO190.out) hb); have n1_ := Aside0.mk (below_step (by repeat (first | (with_reducible first | exact HB.out | apply below_alloc | apply pw_below_drewN | apply below_drew1) | exact HB.out)) hb); clear HO190; clear HB; have HO190 := n0_; have HB := n1_; clear n0_ n1_; (try clear hb); (try clear hb2); (try clear hk); (try clear hi)) | (go_at_call 25; (with_reducible refine (probe_Find.calls _ _ y188 a0 t193 _ ?side1 ?side2 A24.out).mono ?_); (case side1 => repeat (first | exact (Kd.R_reads' HO190.out).2.2 | (with_reducible refine Kd.C_alloc ?_ _) | (with_reducible refine Kd.C_drewN ?_ _) | (with_reducible refine Kd.C_drew ?_))); (case side2 => exact (Kd.R_reads' HO190.out).2.1); (try clear A24); rintro e w27 ⟨rfl, hb⟩; have n0_ := Aside0.mk (Kd.R_below (by (with_reducible repeat (first | apply Kd.R_alloc | apply Kd.R_drewN | apply Kd.R_drew)); exact HO190.out) hb); have n1_ := Aside0.mk (below_step (by repeat (first | (with_reducible first | exact HB.out | apply below_alloc | apply pw_below_drewN | apply below_drew1) | exact HB.out)) hb); clear HO190; clear HB; have HO190 := n0_; have HB := n1_; clear n0_ n1_; (try clear hb); (try clear hb2); (try clear hk); (try clear hi)))
                      go_meet
                      case rel => exact ⟨_, ((t193 != (-1))), (by first | rfl | (simp; done) | (simp [*]; done)), H', ⟨by have := HJ5.out; first | omega | exact Nat.le_refl _⟩, ⟨by (with_reducible repeat (first | apply Kd.R_alloc | apply Kd.R_drewN | apply Kd.R_drew)); exact HO190.out⟩, ⟨by repeat (first | (with_reducible first | exact HB.out | apply below_alloc | apply pw_below_drewN | apply below_drew1) | exact HB.out)⟩⟩
                    · rw [if_neg c23] at H
                      have c23b0 : (t192 == t191) = false := beq_eq_false_iff_ne.mpr c23
                      have c23b1 : (t192 != t191) = true := bne_iff_ne.mpr c23
                      have H' := Aside0.mk H
                      clear H
                      obtain ⟨Ao28, co28, eo28⟩ := Kd.R_slice HO190.out
                      subst eo28
                      go_wp2_with (first | (go_at_call 27; (with_reducible refine (probe_Room.calls _ _ y188 a0 t192 _ ?side1 ?side2 A22.out).mono ?_); (case side1 => repeat (first | exact (Kd.R_reads' HO190.out).2.2 | (with_reducible refine Kd.C_alloc ?_ _) | (with_reducible refine Kd.C_drewN ?_ _) | (with_reducible refine Kd.C_drew ?_))); (case side2 => exact (Kd.R_reads' HO190.out).2.1); (try clear A22); rintro e w29 ⟨rfl, hb⟩; have n0_ := Aside0.mk (Kd.R_below (by (with_reducible repeat (first | apply Kd.R_alloc | apply Kd.R_drewN | apply Kd.R_drew)); exact HO190.out) hb); have n1_ := Aside0.mk (below_step (by repeat (first | (with_reducible first | exact HB.out | apply below_alloc | apply pw_below_drewN | apply below_drew1) | exact HB.out)) hb); clear HO190; clear HB; have HO190 := n0_; have HB := n1_; clear n0_ n1_; (try clear hb); (try clear hb2); (try clear hk); (try clear hi)))
                      go_meet
                      case rel => exact ⟨_, (true), (by first | rfl | (simp; done) | (simp [*]; done)), H', ⟨by have := HJ5.out; first | omega | exact Nat.le_refl _⟩, ⟨by (with_reducible repeat (first | apply Kd.R_alloc | apply Kd.R_drewN | apply Kd.R_drew)); exact HO190.out⟩, ⟨by repeat (first | (with_reducible first | exact HB.out | apply below_alloc | apply pw_below_drewN | apply below_drew1) | exact HB.out)⟩⟩
              case rest =>
                clear HC16
                try clear c1
                try clear c2
                try clear p2
                try clear c5
                try clear c7
                try clear c8
                try clear c8b0
                try clear c8b1
                try clear c9
                try clear c9b0
                try clear c10
                try clear c10b0
                try clear c11
                try clear c11b0
                try clear c12
                try clear c13
                try clear c13b0
                try clear c13b1
                try clear c14
                try clear c14b0
                try clear c14b1
                try clear c20
                try clear c20b0
                try clear c21
                try clear c21b0
                try clear c22
                try clear c23
                try clear c23b0
                try clear c23b1
                try clear c29
                try clear p2
                obtain ⟨kq, x60_15, rfl, HA, HJ15, HO_8, HB⟩ := hcut
                cases kq with
                | zero => exact absurd HA.out (by simp [gangplanklaw11_ProbeWay.j1])
                | succ kj15 =>
                  have H := HA.out
                  clear HA
                  simp only [gangplanklaw11_ProbeWay.j1] at H
                  by_cases c30 : x60_15 = true
                  · subst c30
                    have H1 : (some false) = some r := by first | (rw [if_pos rfl] at H; exact H) | (rw [if_pos trivial] at H; exact H)
                    clear H
                    have H := H1
                    clear H1
                    obtain rfl := Option.some.inj H
                    go_wp2
                    go_ret
                    exact ⟨by first | rfl | (simp [errW_none, errW_some] <;> rfl) | (simp [*, errW_none, errW_some] <;> rfl), by repeat (first | (with_reducible first | exact HB.out | apply below_alloc | apply pw_below_drewN | apply below_drew1) | exact HB.out)⟩
                  · replace c30 := Bool.eq_false_iff.mpr c30
                    subst c30
                    have H1 : (gangplanklaw11_ProbeWay.l0 kj15 a0 a1 a2 true y188 t191 0) = some r := by rw [if_neg (show ¬ (false = true) by decide)] at H; exact H
                    clear H
                    have H := H1
                    clear H1
                    have H' := Aside0.mk H
                    clear H
                    go_wp2
                    go_loopg [10] kj15 (fun kq v10 w' => ∃ (x8_3 : List (S31)) (x10_3 : Int), v10 = .int .i64 x10_3 ∧ Aside0 (gangplanklaw11_ProbeWay.l0 kq a0 a1 a2 true x8_3 t191 x10_3 = some r) ∧ Aside0 (kq ≤ kj15) ∧ Aside0 (Kd.R k31 31 w' w.heap.size (fun _ => True) v189 x8_3) ∧ Aside0 (Below w.heap.size w w'))
                    case atStart => exact ⟨(y188), (0), (by first | rfl | (simp; done) | (simp [*]; done)), H', ⟨Nat.le_refl _⟩, ⟨by (with_reducible repeat (first | apply Kd.R_alloc | apply Kd.R_drewN | apply Kd.R_drew)); exact HO_8.out⟩, ⟨by repeat (first | (with_reducible first | exact HB.out | apply below_alloc | apply pw_below_drewN | apply below_drew1) | exact HB.out)⟩⟩
                    case round =>
                      clear H'
                      try clear c1
                      try clear c2
                      try clear p2
                      try clear c3
                      try clear c5
                      try clear c7
                      try clear c8
                      try clear c8b0
                      try clear c8b1
                      try clear c9
                      try clear c9b0
                      try clear c10
                      try clear c10b0
                      try clear c11
                      try clear c11b0
                      try clear c12
                      try clear c13
                      try clear c13b0
                      try clear c13b1
                      try clear c14
                      try clear c14b0
                      try clear c14b1
                      try clear c20
                      try clear c20b0
                      try clear c21
                      try clear c21b0
                      try clear c22
                      try clear c23
                      try clear c23b0
                      try clear c23b1
                      try clear c29
                      try clear c30
                      try clear p2
                      obtain ⟨x8_3, x10_3, rfl, HA, HK3, HO_8, HB⟩ := hrel
                      cases gk with
                      | zero => exact absurd HA.out (by simp [gangplanklaw11_ProbeWay.l0])
                      | succ k3 =>
                        have H := HA.out
                        clear HA
                        simp only [gangplanklaw11_ProbeWay.l0] at H
                        by_cases c31 : x10_3 < a2
                        · rw [if_pos c31] at H
                          have c31b0 : decide (x10_3 < a2) = true := decide_eq_true c31
                          clear c31
                          by_cases c32 : a1 = 0
                          · rw [if_pos c32] at H
                            exact absurd H (by simp)
                          · rw [if_neg c32] at H
                            have c32b0 : (a1 == 0) = false := beq_eq_false_iff_ne.mpr c32
                            have c32b1 : (a1 != 0) = true := bne_iff_ne.mpr c32
                            by_cases c33 : a0.size + 1 ≤ 9223372036854775807
                            · rw [if_pos c33] at H
                              have c33b0 := eq_true c33
                              have c33b1 : decide (a0.size + 1 ≤ 9223372036854775807) = true := decide_eq_true c33
                              try have c33b2 : (9223372036854775807 < a0.size + 1) = False := eq_false (Nat.not_lt.2 c33)
                              obtain ⟨ji34, hji34⟩ : ∃ j_ : Int, (Int.tmod (wrap64 (t191 + x10_3)) a1) = j_ := ⟨_, rfl⟩
                              replace H : (if 0 ≤ (ji34) then (if (ji34) < (x8_3.length : Int) then (gangplanklaw11_ProbeWay.l0 k3 a0 a1 a2 true (x8_3.set ((ji34) : Int).toNat (⟨1, a0 ++ (⟨#[63]⟩ : ByteArray), 0, 0⟩ : S31)) t191 (wrap64 (x10_3 + 1))) else (none)) else (none)) = some r := by first | (rw [hji34] at H; exact H) | (simp only [hji34] at H ⊢; exact H)
                              by_cases c35 : 0 ≤ (ji34)
                              · rw [if_pos c35] at H
                                have c35b0 : decide (0 ≤ (ji34)) = true := decide_eq_true c35
                                clear c35
                                by_cases c36 : (ji34) < (x8_3.length : Int)
                                · rw [if_pos c36] at H
                                  have c36b0 : decide ((ji34) < (x8_3.length : Int)) = true := decide_eq_true c36
                                  clear c36
                                  obtain ⟨y194, hy194⟩ : ∃ y_ : List (S31), y_ = (x8_3.set ((ji34) : Int).toNat (⟨1, a0 ++ (⟨#[63]⟩ : ByteArray), 0, 0⟩ : S31)) := ⟨_, rfl⟩
                                  replace H : (gangplanklaw11_ProbeWay.l0 k3 a0 a1 a2 true y194 t191 (wrap64 (x10_3 + 1))) = some r := by first | (rw [hy194]; with_reducible exact H) | (have H2_ := (Option.bind_some _ _).symm.trans H; rw [hy194]; with_reducible exact H2_) | (have H2_ := (Option.bind_some _ _).symm.trans H; with_reducible exact H2_) | with_reducible exact H | (rw [hy194]; exact H) | exact H
                                  have Ny194 := Aside0.mk hy194
                                  clear hy194
                                  have H' := Aside0.mk H
                                  clear H
                                  have p37 : 0 ≤ ((ji34) : Int) := of_decide_eq_true (by first | (with_reducible assumption) | assumption)
                                  have q37 : ((ji34) : Int) < ((x8_3.length : Int) : Int) := of_decide_eq_true (by first | (with_reducible assumption) | assumption)
                                  obtain ⟨go37, co37, eo37, gb37, gl37, cl37, HG37⟩ := Kd.R_form HO_8.out (by omega)
                                  (first | cases eo37 | (injection eo37 with ea_ en_ ec_; (first | subst ea_ | (injection ea_ with ea_; subst ea_)); subst ec_; clear en_))
                                  have GB37 := Aside0.mk gb37
                                  have GG37 := Aside0.mk HG37
                                  clear gb37 gl37 HG37
                                  obtain ⟨ce37, hcl37, hM37, hcc37, hfr37⟩ := Kd.R_elem HO_8.out z31 ((ji34) : Int) p37 q37
                                  obtain rfl := k31_openM hM37
                                  have hx37_0 : wr.cell? ⟨go37, ((ji34) : Int).toNat * 4, none⟩ = some (.int .i64 ((rd_T31 x8_3 (ji34)).f0)) := hcc37 0 _ rfl
                                  have hx37_1 : wr.cell? ⟨go37, ((ji34) : Int).toNat * 4 + 1, none⟩ = some (.string ((rd_T31 x8_3 (ji34)).f1)) := hcc37 1 _ rfl
                                  have hx37_2 : wr.cell? ⟨go37, ((ji34) : Int).toNat * 4 + 2, none⟩ = some (.int .i64 ((rd_T31 x8_3 (ji34)).f2)) := hcc37 2 _ rfl
                                  have hx37_3 : wr.cell? ⟨go37, ((ji34) : Int).toNat * 4 + 3, none⟩ = some (.int .i64 ((rd_T31 x8_3 (ji34)).f3)) := hcc37 3 _ rfl
                                  have hf37_0 : wr.frozen? ⟨go37, ((ji34) : Int).toNat * 4, none⟩ = false := hfr37 0
                                  have hf37_1 : wr.frozen? ⟨go37, ((ji34) : Int).toNat * 4 + 1, none⟩ = false := hfr37 1
                                  have hf37_2 : wr.frozen? ⟨go37, ((ji34) : Int).toNat * 4 + 2, none⟩ = false := hfr37 2
                                  have hf37_3 : wr.frozen? ⟨go37, ((ji34) : Int).toNat * 4 + 3, none⟩ = false := hfr37 3
                                  clear hcl37 hcc37 hfr37 hM37
                                  replace p37 := eq_true p37
                                  replace q37 := eq_true q37
                                  have HX38 := Aside0.mk (show Kd.R k31 31 wr w.heap.size (fun _ => True) (.slice (some ⟨go37, 0, none⟩) x8_3.length co37) x8_3 from (by (with_reducible repeat (first | apply Kd.R_alloc | apply Kd.R_drewN | apply Kd.R_drew)); exact HO_8.out))
                                  obtain ⟨ce38, hcl38, hM38, hcc38, hfr38⟩ := Kd.R_elem HX38.out z31 ((ji34) : Int) (of_decide_eq_true (by first | (with_reducible assumption) | assumption)) (by have h_ : ((ji34) : Int) < ((x8_3.length : Int) : Int) := of_decide_eq_true (by first | (with_reducible assumption) | assumption); first | exact h_ | (have e_ := (Kd.R_reads' HO_8.out).1; omega) | simpa using h_)
                                  obtain rfl := k31_openM hM38
                                  have HP38 := Kd.R_seg HX38.out ((ji34) : Int) (of_decide_eq_true (by first | (with_reducible assumption) | assumption)) (by have h_ : ((ji34) : Int) < ((x8_3.length : Int) : Int) := of_decide_eq_true (by first | (with_reducible assumption) | assumption); first | exact h_ | (have e_ := (Kd.R_reads' HO_8.out).1; omega) | simpa using h_) (seg := [.int .i64 1, .string (a0 ++ (⟨#[63]⟩ : ByteArray)), .int .i64 0, .int .i64 0]) (j := 0) hcl38 hcc38 (show 4 ≤ 4 from by decide) (x' := (⟨1, a0 ++ (⟨#[63]⟩ : ByteArray), 0, 0⟩ : S31)) (k31_mkM _ _ _ (⟨1, a0 ++ (⟨#[63]⟩ : ByteArray), 0, 0⟩ : S31) ) (fun _ hk => hk)
                                  have hx38_0 := hcc38 0 _ rfl
                                  (try simp only [show (k31).sz = 4 from rfl, Nat.mul_one, Nat.add_zero] at hx38_0)
                                  have hf38_0 := hfr38 0
                                  (try simp only [show (k31).sz = 4 from rfl, Nat.mul_one, Nat.add_zero] at hf38_0)
                                  have hx38_1 := hcc38 1 _ rfl
                                  (try simp only [show (k31).sz = 4 from rfl, Nat.mul_one, Nat.add_zero] at hx38_1)
                                  have hf38_1 := hfr38 1
                                  (try simp only [show (k31).sz = 4 from rfl, Nat.mul_one, Nat.add_zero] at hf38_1)
                                  have hx38_2 := hcc38 2 _ rfl
                                  (try simp only [show (k31).sz = 4 from rfl, Nat.mul_one, Nat.add_zero] at hx38_2)
                                  have hf38_2 := hfr38 2
                                  (try simp only [show (k31).sz = 4 from rfl, Nat.mul_one, Nat.add_zero] at hf38_2)
                                  have hx38_3 := hcc38 3 _ rfl
                                  (try simp only [show (k31).sz = 4 from rfl, Nat.mul_one, Nat.add_zero] at hx38_3)
                                  have hf38_3 := hfr38 3
                                  (try simp only [show (k31).sz = 4 from rfl, Nat.mul_one, Nat.add_zero] at hf38_3)
                                  clear hcl38 hcc38 hfr38 hM38
                                  go_wp2_with (first | ((with_reducible refine gate_store (t := 31) (p := 75) rfl ?_); refine store_event (t := 31) (p := 75) (v := ?vo_w39) (w1 := ((((wr.setCell ⟨go37, ((ji34) : Int).toNat * 4, none⟩ (.int .i64 1)).setCell ⟨go37, ((ji34) : Int).toNat * 4 + 1, none⟩ (.string (a0 ++ (⟨#[63]⟩ : ByteArray)))).setCell ⟨go37, ((ji34) : Int).toNat * 4 + 2, none⟩ (.int .i64 0)).setCell ⟨go37, ((ji34) : Int).toNat * 4 + 3, none⟩ (.int .i64 0))) ?hg ?ho ?hn ?hr ?_; (case ho => rfl); (case hg => rfl); (case hn => rfl); (case hr => first | (go_simp; done) | (go_simp; rfl)); intro w39 hw; have hg : wr.grownBy w39 (some go37) := (by rw [hw]; exact HP38.2); have hp_ : Kd.R k31 31 w39 w.heap.size (fun _ => True) (.slice (some ⟨go37, 0, none⟩) x8_3.length co37) y194 := (by rw [hw, Ny194.out]; exact HP38.1); clear HP38; have n0_ := Aside0.mk (hp_); have n1_ := Aside0.mk ((by rw [hw]; exact below_set (below_set (below_set (below_set (HB.out) GB37.out) GB37.out) GB37.out) GB37.out : Below w.heap.size w w39)); clear HO_8; clear HB; have HO_8 := n0_; have HB := n1_; clear n0_ n1_; clear hg hw hp_))
                                  go_roundg k3
                                  case measure => have := HJ5.out; have := HJ15.out; have := HK3.out; omega
                                  case rel => exact ⟨(y194), (wrap64 (x10_3 + 1)), (by first | rfl | (simp; done) | (simp [*]; done)), H', ⟨by have := HJ5.out; have := HJ15.out; have := HK3.out; omega⟩, ⟨by (with_reducible repeat (first | apply Kd.R_alloc | apply Kd.R_drewN | apply Kd.R_drew)); exact HO_8.out⟩, ⟨by repeat (first | (with_reducible first | exact HB.out | apply below_alloc | apply pw_below_drewN | apply below_drew1) | exact HB.out)⟩⟩
                                · rw [if_neg c36] at H
                                  exact absurd H (by simp)
                              · rw [if_neg c35] at H
                                exact absurd H (by simp)
                            · rw [if_neg c33] at H
                              exact absurd H (by simp)
                        · rw [if_neg c31] at H
                          have c31b0 : decide (x10_3 < a2) = false := decide_eq_false c31
                          clear c31
                          by_cases c40 : a1 = 0
                          · rw [if_pos c40] at H
                            exact absurd H (by simp)
                          · rw [if_neg c40] at H
                            have c40b0 : (a1 == 0) = false := beq_eq_false_iff_ne.mpr c40
                            have c40b1 : (a1 != 0) = true := bne_iff_ne.mpr c40
                            replace H := Option.bind_eq_some_iff.mp H
                            obtain ⟨t195, A410, H⟩ := H
                            replace H : (if t195 = (Int.tmod (wrap64 (t191 + a2)) a1) then (if 0 ≤ (Int.tmod (wrap64 (t191 + a2)) a1) then (if (Int.tmod (wrap64 (t191 + a2)) a1) < (x8_3.length : Int) then (if true = true then ((probe_Find.f (x8_3.set ((Int.tmod (wrap64 (t191 + a2)) a1) : Int).toNat (⟨1, a0, 0, 0⟩ : S31)) a0).bind fun t197 => (some (t197 == (Int.tmod (wrap64 (t191 + a2)) a1)))) else (some false)) else (none)) else (none)) else (some false)) = some r := H
                            have A41 := Aside0.mk A410
                            clear A410
                            by_cases c42 : t195 = (Int.tmod (wrap64 (t191 + a2)) a1)
                            · rw [if_pos c42] at H
                              have c42b0 : (t195 == (Int.tmod (wrap64 (t191 + a2)) a1)) = true := beq_iff_eq.mpr c42
                              have c42b1 : (t195 != (Int.tmod (wrap64 (t191 + a2)) a1)) = false := bne_eq_false_iff_eq.mpr c42
                              clear c42
                              obtain ⟨ji43, hji43⟩ : ∃ j_ : Int, (Int.tmod (wrap64 (t191 + a2)) a1) = j_ := ⟨_, rfl⟩
                              replace H : (if 0 ≤ (ji43) then (if (ji43) < (x8_3.length : Int) then (if true = true then ((probe_Find.f (x8_3.set ((ji43) : Int).toNat (⟨1, a0, 0, 0⟩ : S31)) a0).bind fun t197 => (some (t197 == (ji43)))) else (some false)) else (none)) else (none)) = some r := by first | (rw [hji43] at H; exact H) | (simp only [hji43] at H ⊢; exact H)
                              (try rw [hji43] at c42b0)
                              (try rw [hji43] at c42b1)
                              (try rw [hji43] at A41)
                              by_cases c44 : 0 ≤ (ji43)
                              · rw [if_pos c44] at H
                                have c44b0 : decide (0 ≤ (ji43)) = true := decide_eq_true c44
                                clear c44
                                by_cases c45 : (ji43) < (x8_3.length : Int)
                                · rw [if_pos c45] at H
                                  have c45b0 : decide ((ji43) < (x8_3.length : Int)) = true := decide_eq_true c45
                                  clear c45
                                  obtain ⟨y196, hy196⟩ : ∃ y_ : List (S31), y_ = (x8_3.set ((ji43) : Int).toNat (⟨1, a0, 0, 0⟩ : S31)) := ⟨_, rfl⟩
                                  replace H : (if true = true then ((probe_Find.f y196 a0).bind fun t197 => (some (t197 == (ji43)))) else (some false)) = some r := by first | (rw [hy196]; with_reducible exact H) | (have H2_ := (Option.bind_some _ _).symm.trans H; rw [hy196]; with_reducible exact H2_) | (have H2_ := (Option.bind_some _ _).symm.trans H; with_reducible exact H2_) | with_reducible exact H | (rw [hy196]; exact H) | exact H
                                  have Ny196 := Aside0.mk hy196
                                  clear hy196
                                  by_cases c47 : true = true
                                  · skip
                                    have H1 : ((probe_Find.f y196 a0).bind fun t197 => (some (t197 == (ji43)))) = some r := by first | (rw [if_pos rfl] at H; exact H) | (rw [if_pos trivial] at H; exact H)
                                    clear H
                                    have H := H1
                                    clear H1
                                    replace H := Option.bind_eq_some_iff.mp H
                                    obtain ⟨t197, A480, H⟩ := H
                                    replace H : (some (t197 == (ji43))) = some r := H
                                    have A48 := Aside0.mk A480
                                    clear A480
                                    obtain rfl := Option.some.inj H
                                    obtain ⟨Ao49, co49, eo49⟩ := Kd.R_slice HO_8.out
                                    subst eo49
                                    go_wp2_with (first | ((with_reducible refine gate_callee (f := 27) rfl ?_); refine goesL_ (some 83) rfl rfl Try.func27 (by kernel_rfl) rfl #[.slice Ao49 x8_3.length co49, .string a0] rfl (by (try simp only [List.map_toArray, List.map_cons, List.map_nil]); first | done | rfl | (simp only [List.length_drop, List.length_take]; rfl)) ?_; (with_reducible refine (probe_Room.calls _ _ x8_3 a0 t195 _ ?side1 ?side2 A41.out).mono ?_); (case side1 => repeat (first | exact (Kd.R_reads' HO_8.out).2.2 | (with_reducible refine Kd.C_alloc ?_ _) | (with_reducible refine Kd.C_drewN ?_ _) | (with_reducible refine Kd.C_drew ?_))); (case side2 => exact (Kd.R_reads' HO_8.out).2.1); (try clear A41); rintro e w50 ⟨rfl, hb⟩; refine ⟨_, rfl, ?_⟩; have n0_ := Aside0.mk (Kd.R_below (by (with_reducible repeat (first | apply Kd.R_alloc | apply Kd.R_drewN | apply Kd.R_drew)); exact HO_8.out) hb); have n1_ := Aside0.mk (below_step (by repeat (first | (with_reducible first | exact HB.out | apply below_alloc | apply pw_below_drewN | apply below_drew1) | exact HB.out)) hb); clear HO_8; clear HB; have HO_8 := n0_; have HB := n1_; clear n0_ n1_; (try clear hb); (try clear hb2); (try clear hk); (try clear hi); have p46 : 0 ≤ ((ji43) : Int) := of_decide_eq_true (by first | (with_reducible assumption) | assumption); have q46 : ((ji43) : Int) < ((x8_3.length : Int) : Int) := of_decide_eq_true (by first | (with_reducible assumption) | assumption); obtain ⟨go46, co46, eo46, gb46, gl46, cl46, HG46⟩ := Kd.R_form HO_8.out (by omega); (first | cases eo46 | (injection eo46 with ea_ en_ ec_; (first | subst ea_ | (injection ea_ with ea_; subst ea_)); subst ec_; clear en_)); have GB46 := Aside0.mk gb46; have GG46 := Aside0.mk HG46; clear gb46 gl46 HG46; obtain ⟨ce46, hcl46, hM46, hcc46, hfr46⟩ := Kd.R_elem HO_8.out z31 ((ji43) : Int) p46 q46; obtain rfl := k31_openM hM46; have hx46_0 : w50.cell? ⟨go46, ((ji43) : Int).toNat * 4, none⟩ = some (.int .i64 ((rd_T31 x8_3 (ji43)).f0)) := hcc46 0 _ rfl; have hx46_1 : w50.cell? ⟨go46, ((ji43) : Int).toNat * 4 + 1, none⟩ = some (.string ((rd_T31 x8_3 (ji43)).f1)) := hcc46 1 _ rfl; have hx46_2 : w50.cell? ⟨go46, ((ji43) : Int).toNat * 4 + 2, none⟩ = some (.int .i64 ((rd_T31 x8_3 (ji43)).f2)) := hcc46 2 _ rfl; have hx46_3 : w50.cell? ⟨go46, ((ji43) : Int).toNat * 4 + 3, none⟩ = some (.int .i64 ((rd_T31 x8_3 (ji43)).f3)) := hcc46 3 _ rfl; have hf46_0 : w50.frozen? ⟨go46, ((ji43) : Int).toNat * 4, none⟩ = false := hfr46 0; have hf46_1 : w50.frozen? ⟨go46, ((ji43) : Int).toNat * 4 + 1, none⟩ = false := hfr46 1; have hf46_2 : w50.frozen? ⟨go46, ((ji43) : Int).toNat * 4 + 2, none⟩ = false := hfr46 2; have hf46_3 : w50.frozen? ⟨go46, ((ji43) : Int).toNat * 4 + 3, none⟩ = false := hfr46 3; clear hcl46 hcc46 hfr46 hM46; replace p46 := eq_true p46; replace q46 := eq_true q46; have HX51 := Aside0.mk (show Kd.R k31 31 w50 w.heap.size (fun _ => True) (.slice (some ⟨go46, 0, none⟩) x8_3.length co49) x8_3 from (by (with_reducible repeat (first | apply Kd.R_alloc | apply Kd.R_drewN | apply Kd.R_drew)); exact HO_8.out)); obtain ⟨ce51, hcl51, hM51, hcc51, hfr51⟩ := Kd.R_elem HX51.out z31 ((ji43) : Int) (of_decide_eq_true (by first | (with_reducible assumption) | assumption)) (by have h_ : ((ji43) : Int) < ((x8_3.length : Int) : Int) := of_decide_eq_true (by first | (with_reducible assumption) | assumption); first | exact h_ | (have e_ := (Kd.R_reads' HO_8.out).1; omega) | simpa using h_); obtain rfl := k31_openM hM51; have HP51 := Kd.R_seg HX51.out ((ji43) : Int) (of_decide_eq_true (by first | (with_reducible assumption) | assumption)) (by have h_ : ((ji43) : Int) < ((x8_3.length : Int) : Int) := of_decide_eq_true (by first | (with_reducible assumption) | assumption); first | exact h_ | (have e_ := (Kd.R_reads' HO_8.out).1; omega) | simpa using h_) (seg := [.int .i64 1, .string a0, .int .i64 0, .int .i64 0]) (j := 0) hcl51 hcc51 (show 4 ≤ 4 from by decide) (x' := (⟨1, a0, 0, 0⟩ : S31)) (k31_mkM _ _ _ (⟨1, a0, 0, 0⟩ : S31) ) (fun _ hk => hk); have hx51_0 := hcc51 0 _ rfl; (try simp only [show (k31).sz = 4 from rfl, Nat.mul_one, Nat.add_zero] at hx51_0); have hf51_0 := hfr51 0; (try simp only [show (k31).sz = 4 from rfl, Nat.mul_one, Nat.add_zero] at hf51_0); have hx51_1 := hcc51 1 _ rfl; (try simp only [show (k31).sz = 4 from rfl, Nat.mul_one, Nat.add_zero] at hx51_1); have hf51_1 := hfr51 1; (try simp only [show (k31).sz = 4 from rfl, Nat.mul_one, Nat.add_zero] at hf51_1); have hx51_2 := hcc51 2 _ rfl; (try simp only [show (k31).sz = 4 from rfl, Nat.mul_one, Nat.add_zero] at hx51_2); have hf51_2 := hfr51 2; (try simp only [show (k31).sz = 4 from rfl, Nat.mul_one, Nat.add_zero] at hf51_2); have hx51_3 := hcc51 3 _ rfl; (try simp only [show (k31).sz = 4 from rfl, Nat.mul_one, Nat.add_zero] at hx51_3); have hf51_3 := hfr51 3; (try simp only [show (k31).sz = 4 from rfl, Nat.mul_one, Nat.add_zero] at hf51_3); clear hcl51 hcc51 hfr51 hM51) | ((with_reducible refine gate_store (t := 31) (p := 90) rfl ?_); refine store_event (t := 31) (p := 90) (v := ?vo_w52) (w1 := ((((w50.setCell ⟨go46, ((ji43) : Int).toNat * 4, none⟩ (.int .i64 1)).setCell ⟨go46, ((ji43) : Int).toNat * 4 + 1, none⟩ (.string a0)).setCell ⟨go46, ((ji43) : Int).toNat * 4 + 2, none⟩ (.int .i64 0)).setCell ⟨go46, ((ji43) : Int).toNat * 4 + 3, none⟩ (.int .i64 0))) ?hg ?ho ?hn ?hr ?_; (case ho => rfl); (case hg => rfl); (case hn => rfl); (case hr => first | (go_simp; done) | (go_simp; rfl)); intro w52 hw; have hg : w50.grownBy w52 (some go46) := (by rw [hw]; exact HP51.2); have hp_ : Kd.R k31 31 w52 w.heap.size (fun _ => True) (.slice (some ⟨go46, 0, none⟩) x8_3.length co49) y196 := (by rw [hw, Ny196.out]; exact HP51.1); clear HP51; have n0_ := Aside0.mk (hp_); have n1_ := Aside0.mk ((by rw [hw]; exact below_set (below_set (below_set (below_set (HB.out) GB46.out) GB46.out) GB46.out) GB46.out : Below w.heap.size w w52)); clear HO_8; clear HB; have HO_8 := n0_; have HB := n1_; clear n0_ n1_; clear hg hw hp_) | (go_at_call 25; refine calls_of_args (args' := #[.slice (some ⟨go46, 0, none⟩) y196.length co49, .string a0]) (by first | (rw [show y196.length = x8_3.length from (Kd.R_reads' HO_8.out).1.symm] <;> rfl) | rfl) ?_; (with_reducible refine (probe_Find.calls _ _ y196 a0 t197 _ ?side1 ?side2 A48.out).mono ?_); (case side1 => repeat (first | exact (Kd.R_reads' HO_8.out).2.2 | (with_reducible refine Kd.C_alloc ?_ _) | (with_reducible refine Kd.C_drewN ?_ _) | (with_reducible refine Kd.C_drew ?_))); (case side2 => rw [show y196.length = x8_3.length from (Kd.R_reads' HO_8.out).1.symm]; exact (Kd.R_reads' HO_8.out).2.1); (try clear A48); rintro e w53 ⟨rfl, hb⟩; have n0_ := Aside0.mk (Kd.R_below (by (with_reducible repeat (first | apply Kd.R_alloc | apply Kd.R_drewN | apply Kd.R_drew)); exact HO_8.out) hb); have n1_ := Aside0.mk (below_step (by repeat (first | (with_reducible first | exact HB.out | apply below_alloc | apply pw_below_drewN | apply below_drew1) | exact HB.out)) hb); clear HO_8; clear HB; have HO_8 := n0_; have HB := n1_; clear n0_ n1_; (try clear hb); (try clear hb2); (try clear hk); (try clear hi)))
                                    go_ret
                                    exact ⟨by first | rfl | (simp [errW_none, errW_some] <;> rfl) | (simp only [← hji43]; first | rfl | (simp [errW_none, errW_some] <;> rfl)) | (simp [*, errW_none, errW_some] <;> rfl), by repeat (first | (with_reducible first | exact HB.out | apply below_alloc | apply pw_below_drewN | apply below_drew1) | exact HB.out)⟩
                                  · exact absurd rfl c47
                                · rw [if_neg c45] at H
                                  exact absurd H (by simp)
                              · rw [if_neg c44] at H
                                exact absurd H (by simp)
                            · rw [if_neg c42] at H
                              have c42b0 : (t195 == (Int.tmod (wrap64 (t191 + a2)) a1)) = false := beq_eq_false_iff_ne.mpr c42
                              have c42b1 : (t195 != (Int.tmod (wrap64 (t191 + a2)) a1)) = true := bne_iff_ne.mpr c42
                              obtain rfl := Option.some.inj H
                              obtain ⟨Ao58, co58, eo58⟩ := Kd.R_slice HO_8.out
                              subst eo58
                              go_wp2_with (first | ((with_reducible refine gate_callee (f := 27) rfl ?_); refine goesL_ (some 83) rfl rfl Try.func27 (by kernel_rfl) rfl #[.slice Ao58 x8_3.length co58, .string a0] rfl (by (try simp only [List.map_toArray, List.map_cons, List.map_nil]); first | done | rfl | (simp only [List.length_drop, List.length_take]; rfl)) ?_; (with_reducible refine (probe_Room.calls _ _ x8_3 a0 t195 _ ?side1 ?side2 A41.out).mono ?_); (case side1 => repeat (first | exact (Kd.R_reads' HO_8.out).2.2 | (with_reducible refine Kd.C_alloc ?_ _) | (with_reducible refine Kd.C_drewN ?_ _) | (with_reducible refine Kd.C_drew ?_))); (case side2 => exact (Kd.R_reads' HO_8.out).2.1); (try clear A41); rintro e w59 ⟨rfl, hb⟩; refine ⟨_, rfl, ?_⟩; have n0_ := Aside0.mk (Kd.R_below (by (with_reducible repeat (first | apply Kd.R_alloc | apply Kd.R_drewN | apply Kd.R_drew)); exact HO_8.out) hb); have n1_ := Aside0.mk (below_step (by repeat (first | (with_reducible first | exact HB.out | apply below_alloc | apply pw_below_drewN | apply below_drew1) | exact HB.out)) hb); clear HO_8; clear HB; have HO_8 := n0_; have HB := n1_; clear n0_ n1_; (try clear hb); (try clear hb2); (try clear hk); (try clear hi)))
                              go_ret
                              exact ⟨by first | rfl | (simp [errW_none, errW_some] <;> rfl) | (simp [*, errW_none, errW_some] <;> rfl), by repeat (first | (with_reducible first | exact HB.out | apply below_alloc | apply pw_below_drewN | apply below_drew1) | exact HB.out)⟩
            · rw [if_neg c14] at H
              exact absurd H (by simp)
          · rw [if_neg c13] at H
            exact absurd H (by simp)
  · replace c5 := Bool.eq_false_iff.mpr c5
    subst c5
    have H1 : (some false) = some r := by rw [if_neg (show ¬ (false = true) by decide)] at H; exact H
    clear H
    have H := H1
    clear H1
    obtain rfl := Option.some.inj H
    go_enter Try.func7, Try.ntmps7
    go_wp2_with (first | ((with_reducible refine gate_callee (f := 22) rfl ?_); refine goesL_ (some 12) rfl rfl Try.func22 (by kernel_rfl) rfl #[] rfl (by (try simp only [List.map_toArray, List.map_cons, List.map_nil]); first | done | rfl | (simp only [List.length_drop, List.length_take]; rfl)) ?_; (with_reducible refine (gangplanklaw11_works.calls k  false _ A4.out).mono ?_); (try clear A4); rintro e w60 ⟨rfl, hb⟩; refine ⟨_, rfl, ?_⟩; have n0_ := Aside0.mk (below_step (by repeat (first | (with_reducible first | exact HB.out | apply below_alloc | apply pw_below_drewN | apply below_drew1) | exact HB.out)) hb); clear HB; have HB := n0_; clear n0_; (try clear hb); (try clear hb2); (try clear hk); (try clear hi)))
    go_ret
    exact ⟨by first | rfl | (simp [errW_none, errW_some] <;> rfl) | (simp [*, errW_none, errW_some] <;> rfl), by repeat (first | (with_reducible first | exact HB.out | apply below_alloc | apply pw_below_drewN | apply below_drew1) | exact HB.out)⟩

/-- THE ONE PURE STATEMENT of gangplanklaw11_ProbeWay: yours. -/
def gangplanklaw11_ProbeWay.Pure : Prop := ∀ (a0 : ByteArray) (a1 : Int) (a2 : Int), a0.size ≤ 140737488351232 → (Lit.int .i64 a1).wf = true → (Lit.int .i64 a2).wf = true → ∃ k, gangplanklaw11_ProbeWay.f k a0 a1 a2 = some true
theorem gangplanklaw11_ProbeWay.walk (P : gangplanklaw11_ProbeWay.Pure) (a0 : ByteArray) (a1 : Int) (a2 : Int) (w : World) (w0 : a0.size ≤ 140737488351232) (w1 : (Lit.int .i64 a1).wf = true) (w2 : (Lit.int .i64 a2).wf = true) :
    Calls Try.prog 7 #[.string a0, .int .i64 a1, .int .i64 a2] w fun e w' => e = .returned (.bool true) ∧ Below w.heap.size w w' := by
  obtain ⟨k, h⟩ := P a0 a1 a2 w0 w1 w2
  refine (gangplanklaw11_ProbeWay.calls k a0 a1 a2 true w h).mono ?_
  rintro e w' ⟨rfl, hd⟩
  exact ⟨rfl, hd⟩

/-! ### gangplanklaw11_ProbeHome: function 8 -/
def gangplanklaw11_ProbeHome.f (k : Nat) (a0 : ByteArray) (a1 : Int) : Option (Bool) := (gangplanklaw11_works.f k).bind fun t198 => (if t198 = true then (if (a0.size : Int) > 60 then (some t198) else ((probe_Home.f a0 a1).bind fun t199 => (if a1 < 1 then (some (t199 == 0)) else (if t199 ≥ 0 then (if t199 < a1 then ((fnv_Sum.f a0).bind fun t200 => (if (IntKind.u64.wrap (a1)) = 0 then (none) else (some ((Int.tmod t200 (IntKind.u64.wrap (a1))) == (IntKind.u64.wrap (t199)))))) else (some false)) else (some false))))) else (some false))
theorem gangplanklaw11_ProbeHome.mono : ∀ a0 a1 k, LeO (gangplanklaw11_ProbeHome.f k a0 a1) (gangplanklaw11_ProbeHome.f (k + 1) a0 a1) := by
  intro a0 a1 k
  unfold gangplanklaw11_ProbeHome.f
  repeat' first
      | (with_reducible exact gangplanklaw11_works.mono _)
      | (with_reducible exact LeO.refl _)
      | (with_reducible exact LeO.none _)
      | (with_reducible refine LeO.ite ?_ ?_)
      | (with_reducible refine LeO.bind ?_ (fun _ => ?_))
      | exact gangplanklaw11_works.mono _
      | exact LeO.none _
      | refine LeO.ite ?_ ?_
      | refine LeO.bind ?_ (fun _ => ?_)
set_option maxHeartbeats 8000000 in
set_option maxRecDepth 100000 in
theorem gangplanklaw11_ProbeHome.calls (k : Nat) (a0 : ByteArray) (a1 : Int) (r : Bool) (w : World) (h : gangplanklaw11_ProbeHome.f k a0 a1 = some r) :
    Calls Try.prog 8 #[.string a0, .int .i64 a1] w fun e w' => e = .returned (.bool r) ∧ Below w.heap.size w w' := by
  have HB := Aside0.mk (Below.refl w.heap.size w)
  have H : ((gangplanklaw11_works.f k).bind fun t198 => (if t198 = true then (if (a0.size : Int) > 60 then (some t198) else ((probe_Home.f a0 a1).bind fun t199 => (if a1 < 1 then (some (t199 == 0)) else (if t199 ≥ 0 then (if t199 < a1 then ((fnv_Sum.f a0).bind fun t200 => (if (IntKind.u64.wrap (a1)) = 0 then (none) else (some ((Int.tmod t200 (IntKind.u64.wrap (a1))) == (IntKind.u64.wrap (t199)))))) else (some false)) else (some false))))) else (some false))) = some r := h
  clear h
  replace H := Option.bind_eq_some_iff.mp H
  obtain ⟨t198, A30, H⟩ := H
  replace H : (if t198 = true then (if (a0.size : Int) > 60 then (some t198) else ((probe_Home.f a0 a1).bind fun t199 => (if a1 < 1 then (some (t199 == 0)) else (if t199 ≥ 0 then (if t199 < a1 then ((fnv_Sum.f a0).bind fun t200 => (if (IntKind.u64.wrap (a1)) = 0 then (none) else (some ((Int.tmod t200 (IntKind.u64.wrap (a1))) == (IntKind.u64.wrap (t199)))))) else (some false)) else (some false))))) else (some false)) = some r := H
  have A3 := Aside0.mk A30
  clear A30
  by_cases c4 : t198 = true
  · subst c4
    have H1 : (if (a0.size : Int) > 60 then (some true) else ((probe_Home.f a0 a1).bind fun t199 => (if a1 < 1 then (some (t199 == 0)) else (if t199 ≥ 0 then (if t199 < a1 then ((fnv_Sum.f a0).bind fun t200 => (if (IntKind.u64.wrap (a1)) = 0 then (none) else (some ((Int.tmod t200 (IntKind.u64.wrap (a1))) == (IntKind.u64.wrap (t199)))))) else (some false)) else (some false))))) = some r := by first | (rw [if_pos rfl] at H; exact H) | (rw [if_pos trivial] at H; exact H)
    clear H
    have H := H1
    clear H1
    by_cases c5 : (a0.size : Int) > 60
    · rw [if_pos c5] at H
      have c5b0 : decide (60 < (a0.size : Int)) = true := decide_eq_true c5
      have c5b1 : decide (60 < a0.size) = true := decide_eq_true (by omega)
      clear c5
      obtain rfl := Option.some.inj H
      go_enter Try.func8, Try.ntmps8
      go_wp2_with (first | ((with_reducible refine gate_callee (f := 22) rfl ?_); refine goesL_ (some 7) rfl rfl Try.func22 (by kernel_rfl) rfl #[] rfl (by (try simp only [List.map_toArray, List.map_cons, List.map_nil]); first | done | rfl | (simp only [List.length_drop, List.length_take]; rfl)) ?_; (with_reducible refine (gangplanklaw11_works.calls k  true _ A3.out).mono ?_); (try clear A3); rintro e w6 ⟨rfl, hb⟩; refine ⟨_, rfl, ?_⟩; have n0_ := Aside0.mk (below_step (by repeat (first | (with_reducible first | exact HB.out | apply below_alloc | apply pw_below_drewN | apply below_drew1) | exact HB.out)) hb); clear HB; have HB := n0_; clear n0_; (try clear hb); (try clear hb2); (try clear hk); (try clear hi)))
      go_ret
      exact ⟨by first | rfl | (simp [errW_none, errW_some] <;> rfl) | (simp [*, errW_none, errW_some] <;> rfl), by repeat (first | (with_reducible first | exact HB.out | apply below_alloc | apply pw_below_drewN | apply below_drew1) | exact HB.out)⟩
    · rw [if_neg c5] at H
      have c5b0 : decide (60 < (a0.size : Int)) = false := decide_eq_false c5
      have c5b1 : decide (60 < a0.size) = false := decide_eq_false (by omega)
      clear c5
      replace H := Option.bind_eq_some_iff.mp H
      obtain ⟨t199, A70, H⟩ := H
      replace H : (if a1 < 1 then (some (t199 == 0)) else (if t199 ≥ 0 then (if t199 < a1 then ((fnv_Sum.f a0).bind fun t200 => (if (IntKind.u64.wrap (a1)) = 0 then (none) else (some ((Int.tmod t200 (IntKind.u64.wrap (a1))) == (IntKind.u64.wrap (t199)))))) else (some false)) else (some false))) = some r := H
      have A7 := Aside0.mk A70
      clear A70
      by_cases c8 : a1 < 1
      · rw [if_pos c8] at H
        have c8b0 : decide (a1 < 1) = true := decide_eq_true c8
        clear c8
        obtain rfl := Option.some.inj H
        go_enter Try.func8, Try.ntmps8
        go_wp2_with (first | ((with_reducible refine gate_callee (f := 22) rfl ?_); refine goesL_ (some 7) rfl rfl Try.func22 (by kernel_rfl) rfl #[] rfl (by (try simp only [List.map_toArray, List.map_cons, List.map_nil]); first | done | rfl | (simp only [List.length_drop, List.length_take]; rfl)) ?_; (with_reducible refine (gangplanklaw11_works.calls k  true _ A3.out).mono ?_); (try clear A3); rintro e w9 ⟨rfl, hb⟩; refine ⟨_, rfl, ?_⟩; have n0_ := Aside0.mk (below_step (by repeat (first | (with_reducible first | exact HB.out | apply below_alloc | apply pw_below_drewN | apply below_drew1) | exact HB.out)) hb); clear HB; have HB := n0_; clear n0_; (try clear hb); (try clear hb2); (try clear hk); (try clear hi)) | ((with_reducible refine gate_callee (f := 29) rfl ?_); refine goesL_ (some 16) rfl rfl Try.func29 (by kernel_rfl) rfl #[.string a0, .int .i64 a1] rfl (by (try simp only [List.map_toArray, List.map_cons, List.map_nil]); first | done | rfl | (simp only [List.length_drop, List.length_take]; rfl)) ?_; (with_reducible refine (probe_Home.calls a0 a1 t199 _ A7.out).mono ?_); (try clear A7); rintro e w10 ⟨rfl, hb⟩; refine ⟨_, rfl, ?_⟩; have n0_ := Aside0.mk (below_step (by repeat (first | (with_reducible first | exact HB.out | apply below_alloc | apply pw_below_drewN | apply below_drew1) | exact HB.out)) hb); clear HB; have HB := n0_; clear n0_; (try clear hb); (try clear hb2); (try clear hk); (try clear hi)))
        go_ret
        exact ⟨by first | rfl | (simp [errW_none, errW_some] <;> rfl) | (simp [*, errW_none, errW_some] <;> rfl), by repeat (first | (with_reducible first | exact HB.out | apply below_alloc | apply pw_below_drewN | apply below_drew1) | exact HB.out)⟩
      · rw [if_neg c8] at H
        have c8b0 : decide (a1 < 1) = false := decide_eq_false c8
        clear c8
        by_cases c11 : t199 ≥ 0
        · rw [if_pos c11] at H
          have c11b0 : decide (0 ≤ t199) = true := decide_eq_true c11
          clear c11
          by_cases c12 : t199 < a1
          · rw [if_pos c12] at H
            have c12b0 : decide (t199 < a1) = true := decide_eq_true c12
            clear c12
            replace H := Option.bind_eq_some_iff.mp H
            obtain ⟨t200, A130, H⟩ := H
            replace H : (if (IntKind.u64.wrap (a1)) = 0 then (none) else (some ((Int.tmod t200 (IntKind.u64.wrap (a1))) == (IntKind.u64.wrap (t199))))) = some r := H
            have A13 := Aside0.mk A130
            clear A130
            by_cases c14 : (IntKind.u64.wrap (a1)) = 0
            · rw [if_pos c14] at H
              exact absurd H (by simp)
            · rw [if_neg c14] at H
              have c14b0 : ((IntKind.u64.wrap (a1)) == 0) = false := beq_eq_false_iff_ne.mpr c14
              have c14b1 : ((IntKind.u64.wrap (a1)) != 0) = true := bne_iff_ne.mpr c14
              obtain rfl := Option.some.inj H
              go_enter Try.func8, Try.ntmps8
              go_wp2_with (first | ((with_reducible refine gate_callee (f := 22) rfl ?_); refine goesL_ (some 7) rfl rfl Try.func22 (by kernel_rfl) rfl #[] rfl (by (try simp only [List.map_toArray, List.map_cons, List.map_nil]); first | done | rfl | (simp only [List.length_drop, List.length_take]; rfl)) ?_; (with_reducible refine (gangplanklaw11_works.calls k  true _ A3.out).mono ?_); (try clear A3); rintro e w15 ⟨rfl, hb⟩; refine ⟨_, rfl, ?_⟩; have n0_ := Aside0.mk (below_step (by repeat (first | (with_reducible first | exact HB.out | apply below_alloc | apply pw_below_drewN | apply below_drew1) | exact HB.out)) hb); clear HB; have HB := n0_; clear n0_; (try clear hb); (try clear hb2); (try clear hk); (try clear hi)) | ((with_reducible refine gate_callee (f := 29) rfl ?_); refine goesL_ (some 16) rfl rfl Try.func29 (by kernel_rfl) rfl #[.string a0, .int .i64 a1] rfl (by (try simp only [List.map_toArray, List.map_cons, List.map_nil]); first | done | rfl | (simp only [List.length_drop, List.length_take]; rfl)) ?_; (with_reducible refine (probe_Home.calls a0 a1 t199 _ A7.out).mono ?_); (try clear A7); rintro e w16 ⟨rfl, hb⟩; refine ⟨_, rfl, ?_⟩; have n0_ := Aside0.mk (below_step (by repeat (first | (with_reducible first | exact HB.out | apply below_alloc | apply pw_below_drewN | apply below_drew1) | exact HB.out)) hb); clear HB; have HB := n0_; clear n0_; (try clear hb); (try clear hb2); (try clear hk); (try clear hi)) | (go_at_call 34; (with_reducible refine (fnv_Sum.calls a0 t200 _ A13.out).mono ?_); (try clear A13); rintro e w17 ⟨rfl, hb⟩; have n0_ := Aside0.mk (below_step (by repeat (first | (with_reducible first | exact HB.out | apply below_alloc | apply pw_below_drewN | apply below_drew1) | exact HB.out)) hb); clear HB; have HB := n0_; clear n0_; (try clear hb); (try clear hb2); (try clear hk); (try clear hi)))
              go_ret
              exact ⟨by first | rfl | (simp [errW_none, errW_some] <;> rfl) | (simp [*, errW_none, errW_some] <;> rfl), by repeat (first | (with_reducible first | exact HB.out | apply below_alloc | apply pw_below_drewN | apply below_drew1) | exact HB.out)⟩
          · rw [if_neg c12] at H
            have c12b0 : decide (t199 < a1) = false := decide_eq_false c12
            clear c12
            obtain rfl := Option.some.inj H
            go_enter Try.func8, Try.ntmps8
            go_wp2_with (first | ((with_reducible refine gate_callee (f := 22) rfl ?_); refine goesL_ (some 7) rfl rfl Try.func22 (by kernel_rfl) rfl #[] rfl (by (try simp only [List.map_toArray, List.map_cons, List.map_nil]); first | done | rfl | (simp only [List.length_drop, List.length_take]; rfl)) ?_; (with_reducible refine (gangplanklaw11_works.calls k  true _ A3.out).mono ?_); (try clear A3); rintro e w18 ⟨rfl, hb⟩; refine ⟨_, rfl, ?_⟩; have n0_ := Aside0.mk (below_step (by repeat (first | (with_reducible first | exact HB.out | apply below_alloc | apply pw_below_drewN | apply below_drew1) | exact HB.out)) hb); clear HB; have HB := n0_; clear n0_; (try clear hb); (try clear hb2); (try clear hk); (try clear hi)) | ((with_reducible refine gate_callee (f := 29) rfl ?_); refine goesL_ (some 16) rfl rfl Try.func29 (by kernel_rfl) rfl #[.string a0, .int .i64 a1] rfl (by (try simp only [List.map_toArray, List.map_cons, List.map_nil]); first | done | rfl | (simp only [List.length_drop, List.length_take]; rfl)) ?_; (with_reducible refine (probe_Home.calls a0 a1 t199 _ A7.out).mono ?_); (try clear A7); rintro e w19 ⟨rfl, hb⟩; refine ⟨_, rfl, ?_⟩; have n0_ := Aside0.mk (below_step (by repeat (first | (with_reducible first | exact HB.out | apply below_alloc | apply pw_below_drewN | apply below_drew1) | exact HB.out)) hb); clear HB; have HB := n0_; clear n0_; (try clear hb); (try clear hb2); (try clear hk); (try clear hi)))
            go_ret
            exact ⟨by first | rfl | (simp [errW_none, errW_some] <;> rfl) | (simp [*, errW_none, errW_some] <;> rfl), by repeat (first | (with_reducible first | exact HB.out | apply below_alloc | apply pw_below_drewN | apply below_drew1) | exact HB.out)⟩
        · rw [if_neg c11] at H
          have c11b0 : decide (0 ≤ t199) = false := decide_eq_false c11
          clear c11
          obtain rfl := Option.some.inj H
          go_enter Try.func8, Try.ntmps8
          go_wp2_with (first | ((with_reducible refine gate_callee (f := 22) rfl ?_); refine goesL_ (some 7) rfl rfl Try.func22 (by kernel_rfl) rfl #[] rfl (by (try simp only [List.map_toArray, List.map_cons, List.map_nil]); first | done | rfl | (simp only [List.length_drop, List.length_take]; rfl)) ?_; (with_reducible refine (gangplanklaw11_works.calls k  true _ A3.out).mono ?_); (try clear A3); rintro e w20 ⟨rfl, hb⟩; refine ⟨_, rfl, ?_⟩; have n0_ := Aside0.mk (below_step (by repeat (first | (with_reducible first | exact HB.out | apply below_alloc | apply pw_below_drewN | apply below_drew1) | exact HB.out)) hb); clear HB; have HB := n0_; clear n0_; (try clear hb); (try clear hb2); (try clear hk); (try clear hi)) | ((with_reducible refine gate_callee (f := 29) rfl ?_); refine goesL_ (some 16) rfl rfl Try.func29 (by kernel_rfl) rfl #[.string a0, .int .i64 a1] rfl (by (try simp only [List.map_toArray, List.map_cons, List.map_nil]); first | done | rfl | (simp only [List.length_drop, List.length_take]; rfl)) ?_; (with_reducible refine (probe_Home.calls a0 a1 t199 _ A7.out).mono ?_); (try clear A7); rintro e w21 ⟨rfl, hb⟩; refine ⟨_, rfl, ?_⟩; have n0_ := Aside0.mk (below_step (by repeat (first | (with_reducible first | exact HB.out | apply below_alloc | apply pw_below_drewN | apply below_drew1) | exact HB.out)) hb); clear HB; have HB := n0_; clear n0_; (try clear hb); (try clear hb2); (try clear hk); (try clear hi)))
          go_ret
          exact ⟨by first | rfl | (simp [errW_none, errW_some] <;> rfl) | (simp [*, errW_none, errW_some] <;> rfl), by repeat (first | (with_reducible first | exact HB.out | apply below_alloc | apply pw_below_drewN | apply below_drew1) | exact HB.out)⟩
  · replace c4 := Bool.eq_false_iff.mpr c4
    subst c4
    have H1 : (some false) = some r := by rw [if_neg (show ¬ (false = true) by decide)] at H; exact H
    clear H
    have H := H1
    clear H1
    obtain rfl := Option.some.inj H
    go_enter Try.func8, Try.ntmps8
    go_wp2_with (first | ((with_reducible refine gate_callee (f := 22) rfl ?_); refine goesL_ (some 7) rfl rfl Try.func22 (by kernel_rfl) rfl #[] rfl (by (try simp only [List.map_toArray, List.map_cons, List.map_nil]); first | done | rfl | (simp only [List.length_drop, List.length_take]; rfl)) ?_; (with_reducible refine (gangplanklaw11_works.calls k  false _ A3.out).mono ?_); (try clear A3); rintro e w22 ⟨rfl, hb⟩; refine ⟨_, rfl, ?_⟩; have n0_ := Aside0.mk (below_step (by repeat (first | (with_reducible first | exact HB.out | apply below_alloc | apply pw_below_drewN | apply below_drew1) | exact HB.out)) hb); clear HB; have HB := n0_; clear n0_; (try clear hb); (try clear hb2); (try clear hk); (try clear hi)))
    go_ret
    exact ⟨by first | rfl | (simp [errW_none, errW_some] <;> rfl) | (simp [*, errW_none, errW_some] <;> rfl), by repeat (first | (with_reducible first | exact HB.out | apply below_alloc | apply pw_below_drewN | apply below_drew1) | exact HB.out)⟩

/-- THE ONE PURE STATEMENT of gangplanklaw11_ProbeHome: yours. -/
def gangplanklaw11_ProbeHome.Pure : Prop := ∀ (a0 : ByteArray) (a1 : Int), a0.size ≤ 140737488351232 → (Lit.int .i64 a1).wf = true → ∃ k, gangplanklaw11_ProbeHome.f k a0 a1 = some true
theorem gangplanklaw11_ProbeHome.walk (P : gangplanklaw11_ProbeHome.Pure) (a0 : ByteArray) (a1 : Int) (w : World) (w0 : a0.size ≤ 140737488351232) (w1 : (Lit.int .i64 a1).wf = true) :
    Calls Try.prog 8 #[.string a0, .int .i64 a1] w fun e w' => e = .returned (.bool true) ∧ Below w.heap.size w w' := by
  obtain ⟨k, h⟩ := P a0 a1 w0 w1
  refine (gangplanklaw11_ProbeHome.calls k a0 a1 true w h).mono ?_
  rintro e w' ⟨rfl, hd⟩
  exact ⟨rfl, hd⟩

end Go.Proofs.Ythdkkmeiihbafaa.P
