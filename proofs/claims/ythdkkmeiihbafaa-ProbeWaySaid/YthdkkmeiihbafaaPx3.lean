/- Each Go function that the laws reach, as a plain function, with the proof that the machine's call comes to what it says; of a law: its row. Made by a program of this seat (wip/hp.py, over the print). -/
import Derived.Test.YthdkkmeiihbafaaPx0
import Derived.Test.YthdkkmeiihbafaaPx2
namespace Go.Proofs.Ythdkkmeiihbafaa.P
open Go.RowKit Go.Proofs.YthdkkmeiihbafaaW.PrintWords Go.Proofs.YthdkkmeiihbafaaW.PrintLast Go.Proofs.YthdkkmeiihbafaaW.PrintMore
attribute [local go_sem] max2_int min2_int max_two min_two max_three min_three max_four min_four   -- for this text's walks alone
set_option linter.unusedVariables false
set_option linter.unusedSimpArgs false

/-! ### gangplanklaw11_works: function 22 -/
def gangplanklaw11_works.j0 : Nat → List (S31) → Int → Bool → Option (Bool)
  | 0, _, _, _ => none
  | k + 1, x1, x2, x10 => if x10 = true then (some false) else (if 0 ≤ x2 then (if x2 < (x1.length : Int) then ((some (x1.set (x2 : Int).toNat (⟨1, (⟨#[97]⟩ : ByteArray), 0, 0⟩ : S31) : List (S31))).bind fun y110 => ((probe_Find.f ([] : List (S31)) (⟨#[97]⟩ : ByteArray)).bind fun t111 => (if t111 = (-1) then ((probe_Room.f ([] : List (S31)) (⟨#[97]⟩ : ByteArray)).bind fun t112 => (if t112 = (-1) then ((probe_Home.f (⟨#[97]⟩ : ByteArray) 0).bind fun t113 => (if t113 = 0 then ((fnv_Sum.f (⟨#[97]⟩ : ByteArray)).bind fun t114 => (if x2 = (wrap64 (Int.tmod t114 3)) then ((probe_Find.f y110 (⟨#[97]⟩ : ByteArray)).bind fun t115 => (if t115 = x2 then ((probe_Room.f y110 (⟨#[97]⟩ : ByteArray)).bind fun t116 => (if t116 = (-1) then ((probe_Count.f y110 1).bind fun t117 => (if t117 = 1 then ((probe_Count.f y110 0).bind fun t118 => (if t118 = 2 then ((probe_Same.f k y110 y110).bind fun t119 => (if t119 = true then ((probe_Same.f k y110 ([] : List (S31))).bind fun t120 => (some (!t120))) else (some false))) else (some false))) else (some false))) else (some false))) else (some false))) else (some false))) else (some false))) else (some false))) else (some false)))) else (none)) else (none))
def gangplanklaw11_works.f (k : Nat)  : Option (Bool) := if 3 ≤ 7036874417766 then ((some (List.replicate 3 z31 : List (S31))).bind fun y106 => ((probe_Home.f (⟨#[97]⟩ : ByteArray) 3).bind fun t109 => (if t109 < 0 then (gangplanklaw11_works.j0 k y106 t109 true) else (gangplanklaw11_works.j0 k y106 t109 (decide (t109 > 2)))))) else (none)
theorem gangplanklaw11_works.mono_l : ∀ k, (∀ y0 y1 y2, LeO (gangplanklaw11_works.j0 k y0 y1 y2) (gangplanklaw11_works.j0 (k + 1) y0 y1 y2))
  | 0 => fun _ _ _ r h => by simp [gangplanklaw11_works.j0] at h
  | k + 1 => by
    have ih0 := gangplanklaw11_works.mono_l k
    · intro y0 y1 y2
      unfold gangplanklaw11_works.j0
      repeat' first
      | (with_reducible exact ih0 _ _ _)
      | (with_reducible exact probe_Same.mono _ _ _)
      | (with_reducible exact LeO.refl _)
      | (with_reducible exact LeO.none _)
      | (with_reducible refine LeO.ite ?_ ?_)
      | (with_reducible refine LeO.bind ?_ (fun _ => ?_))
      | exact ih0 _ _ _
      | exact probe_Same.mono _ _ _
      | exact LeO.none _
      | refine LeO.ite ?_ ?_
      | refine LeO.bind ?_ (fun _ => ?_)
theorem gangplanklaw11_works.mono : ∀ k, LeO (gangplanklaw11_works.f k ) (gangplanklaw11_works.f (k + 1) ) := by
  intro  k
  have ih0 := gangplanklaw11_works.mono_l k
  unfold gangplanklaw11_works.f
  repeat' first
      | (with_reducible exact ih0 _ _ _)
      | (with_reducible exact probe_Same.mono _ _ _)
      | (with_reducible exact LeO.refl _)
      | (with_reducible exact LeO.none _)
      | (with_reducible refine LeO.ite ?_ ?_)
      | (with_reducible refine LeO.bind ?_ (fun _ => ?_))
      | exact ih0 _ _ _
      | exact probe_Same.mono _ _ _
      | exact LeO.none _
      | refine LeO.ite ?_ ?_
      | refine LeO.bind ?_ (fun _ => ?_)
set_option maxHeartbeats 8000000 in
set_option maxRecDepth 100000 in
theorem gangplanklaw11_works.calls (k : Nat)  (r : Bool) (w : World) (h : gangplanklaw11_works.f k  = some r) :
    Calls Try.prog 22 #[] w fun e w' => e = .returned (.bool r) ∧ Below w.heap.size w w' := by
  have hu31 := Try.underlying31
  have HB := Aside0.mk (Below.refl w.heap.size w)
  have H : (if 3 ≤ 7036874417766 then ((some (List.replicate 3 z31 : List (S31))).bind fun y106 => ((probe_Home.f (⟨#[97]⟩ : ByteArray) 3).bind fun t109 => (if t109 < 0 then (gangplanklaw11_works.j0 k y106 t109 true) else (gangplanklaw11_works.j0 k y106 t109 (decide (t109 > 2)))))) else (none)) = some r := h
  clear h
  by_cases c1 : 3 ≤ 7036874417766
  · rw [if_pos c1] at H
    have c1b0 := eq_true c1
    have c1b1 : decide (3 ≤ 7036874417766) = true := decide_eq_true c1
    clear c1
    obtain ⟨y106, hy106⟩ : ∃ y_ : List (S31), y_ = (List.replicate 3 z31) := ⟨_, rfl⟩
    replace H : ((probe_Home.f (⟨#[97]⟩ : ByteArray) 3).bind fun t109 => (if t109 < 0 then (gangplanklaw11_works.j0 k y106 t109 true) else (gangplanklaw11_works.j0 k y106 t109 (decide (t109 > 2))))) = some r := by first | (rw [hy106]; with_reducible exact H) | (have H2_ := (Option.bind_some _ _).symm.trans H; rw [hy106]; with_reducible exact H2_) | (have H2_ := (Option.bind_some _ _).symm.trans H; with_reducible exact H2_) | with_reducible exact H | (rw [hy106]; exact H) | exact H
    have Ny106 := Aside0.mk hy106
    clear hy106
    replace H := Option.bind_eq_some_iff.mp H
    obtain ⟨t109, A20, H⟩ := H
    replace H : (if t109 < 0 then (gangplanklaw11_works.j0 k y106 t109 true) else (gangplanklaw11_works.j0 k y106 t109 (decide (t109 > 2)))) = some r := H
    have A2 := Aside0.mk A20
    clear A20
    have HC3 := Aside0.mk H
    clear H
    go_enter Try.func22, Try.ntmps22
    go_upto_region 3 with (first | ((with_reducible refine gate_dst (N := 3) rfl ?_); refine Kd.R_make k31 _ 31 rfl (N := 3) rfl 22 _ _ rfl 3 rfl rfl Try.underlying22 (.agg #[(.int .i64 0), (.string ⟨#[]⟩), (.int .i64 0), (.int .i64 0)]) 40 info31 rfl (by decide) (by omega) z31 (ok := fun _ => True) (okp := fun _ => True) (k31_mkM _ _ _ z31 ) (fun _ hk => hk) trivial (by omega) (by omega) (Below.refl _ _) (Nat.le_refl _) ?_; intro v107 w4 ho5 hb hg_ hnew_; clear hg_ hnew_; (first | rw [← Ny106.out] at ho5 | (simp only [Int.reduceToNat] at ho5; rw [← Ny106.out] at ho5)); have n0_ := Aside0.mk (Kd.R_lower ho5 (below_size (by repeat (first | (with_reducible first | exact HB.out | apply below_alloc | apply pw_below_drewN | apply below_drew1) | exact HB.out)))); have n1_ := Aside0.mk (below_step (by repeat (first | (with_reducible first | exact HB.out | apply below_alloc | apply pw_below_drewN | apply below_drew1) | exact HB.out)) hb); clear HB; have HO108 := n0_; have HB := n1_; clear n0_ n1_; clear hb ho5) | ((with_reducible refine gate_callee (f := 29) rfl ?_); refine goesL_ (some 4) rfl rfl Try.func29 (by kernel_rfl) rfl #[.string (⟨#[97]⟩ : ByteArray), .int .i64 3] rfl (by (try simp only [List.map_toArray, List.map_cons, List.map_nil]); first | done | rfl | (simp only [List.length_drop, List.length_take]; rfl)) ?_; (with_reducible refine (probe_Home.calls (⟨#[97]⟩ : ByteArray) 3 t109 _ A2.out).mono ?_); (try clear A2); rintro e w6 ⟨rfl, hb⟩; refine ⟨_, rfl, ?_⟩; have n0_ := Aside0.mk (Kd.R_below (by (with_reducible repeat (first | apply Kd.R_alloc | apply Kd.R_drewN | apply Kd.R_drew)); exact HO108.out) hb); have n1_ := Aside0.mk (below_step (by repeat (first | (with_reducible first | exact HB.out | apply below_alloc | apply pw_below_drewN | apply below_drew1) | exact HB.out)) hb); clear HO108; clear HB; have HO108 := n0_; have HB := n1_; clear n0_ n1_; (try clear hb); (try clear hb2); (try clear hk); (try clear hi)))
    (try simp only [Act.put, List.setIfInBounds_toArray, List.set_cons_zero, List.set_cons_succ])
    go_cut [10] (fun v10 wc => ∃ (kq : Nat) (x10_2 : Bool), v10 = .bool x10_2 ∧ Aside0 (gangplanklaw11_works.j0 kq y106 t109 x10_2 = some r) ∧ Aside0 (kq ≤ k) ∧ Aside0 (Kd.R k31 31 wc w.heap.size (fun _ => True) v107 y106) ∧ Aside0 (Below w.heap.size w wc))
    case first =>
      have H := HC3.out
      clear HC3
      by_cases c7 : t109 < 0
      · rw [if_pos c7] at H
        have c7b0 : decide (t109 < 0) = true := decide_eq_true c7
        clear c7
        (first | rw [c7b0] | (simp only [i64_w, i32_w]; rw [c7b0]) | skip)
        have H' := Aside0.mk H
        clear H
        go_wp2
        go_meet
        case rel => exact ⟨_, (true), (by first | rfl | (simp; done) | (simp [*]; done)), H', ⟨by first | omega | exact Nat.le_refl _⟩, ⟨by (with_reducible repeat (first | apply Kd.R_alloc | apply Kd.R_drewN | apply Kd.R_drew)); exact HO108.out⟩, ⟨by repeat (first | (with_reducible first | exact HB.out | apply below_alloc | apply pw_below_drewN | apply below_drew1) | exact HB.out)⟩⟩
      · rw [if_neg c7] at H
        have c7b0 : decide (t109 < 0) = false := decide_eq_false c7
        clear c7
        (first | rw [c7b0] | (simp only [i64_w, i32_w]; rw [c7b0]) | skip)
        have H' := Aside0.mk H
        clear H
        go_wp2
        go_meet
        case rel => exact ⟨_, (decide (t109 > 2)), (by first | rfl | (simp; done) | (simp [*]; done)), H', ⟨by first | omega | exact Nat.le_refl _⟩, ⟨by (with_reducible repeat (first | apply Kd.R_alloc | apply Kd.R_drewN | apply Kd.R_drew)); exact HO108.out⟩, ⟨by repeat (first | (with_reducible first | exact HB.out | apply below_alloc | apply pw_below_drewN | apply below_drew1) | exact HB.out)⟩⟩
    case rest =>
      clear HC3
      try clear c1
      try clear c1b0
      try clear c1b1
      try clear c2
      try clear p2
      try clear c7
      try clear c7b0
      obtain ⟨kq, x10_2, rfl, HA, HJ2, HO_1, HB⟩ := hcut
      cases kq with
      | zero => exact absurd HA.out (by simp [gangplanklaw11_works.j0])
      | succ kj2 =>
        have H := HA.out
        clear HA
        simp only [gangplanklaw11_works.j0] at H
        by_cases c8 : x10_2 = true
        · subst c8
          have H1 : (some false) = some r := by first | (rw [if_pos rfl] at H; exact H) | (rw [if_pos trivial] at H; exact H)
          clear H
          have H := H1
          clear H1
          obtain rfl := Option.some.inj H
          go_wp2
          go_ret
          exact ⟨by first | rfl | (simp [errW_none, errW_some] <;> rfl) | (simp [*, errW_none, errW_some] <;> rfl), by repeat (first | (with_reducible first | exact HB.out | apply below_alloc | apply pw_below_drewN | apply below_drew1) | exact HB.out)⟩
        · replace c8 := Bool.eq_false_iff.mpr c8
          subst c8
          have H1 : (if 0 ≤ t109 then (if t109 < (y106.length : Int) then ((some (y106.set (t109 : Int).toNat (⟨1, (⟨#[97]⟩ : ByteArray), 0, 0⟩ : S31) : List (S31))).bind fun y110 => ((probe_Find.f ([] : List (S31)) (⟨#[97]⟩ : ByteArray)).bind fun t111 => (if t111 = (-1) then ((probe_Room.f ([] : List (S31)) (⟨#[97]⟩ : ByteArray)).bind fun t112 => (if t112 = (-1) then ((probe_Home.f (⟨#[97]⟩ : ByteArray) 0).bind fun t113 => (if t113 = 0 then ((fnv_Sum.f (⟨#[97]⟩ : ByteArray)).bind fun t114 => (if t109 = (wrap64 (Int.tmod t114 3)) then ((probe_Find.f y110 (⟨#[97]⟩ : ByteArray)).bind fun t115 => (if t115 = t109 then ((probe_Room.f y110 (⟨#[97]⟩ : ByteArray)).bind fun t116 => (if t116 = (-1) then ((probe_Count.f y110 1).bind fun t117 => (if t117 = 1 then ((probe_Count.f y110 0).bind fun t118 => (if t118 = 2 then ((probe_Same.f kj2 y110 y110).bind fun t119 => (if t119 = true then ((probe_Same.f kj2 y110 ([] : List (S31))).bind fun t120 => (some (!t120))) else (some false))) else (some false))) else (some false))) else (some false))) else (some false))) else (some false))) else (some false))) else (some false))) else (some false)))) else (none)) else (none)) = some r := by rw [if_neg (show ¬ (false = true) by decide)] at H; exact H
          clear H
          have H := H1
          clear H1
          by_cases c9 : 0 ≤ t109
          · rw [if_pos c9] at H
            have c9b0 : decide (0 ≤ t109) = true := decide_eq_true c9
            clear c9
            by_cases c10 : t109 < (y106.length : Int)
            · rw [if_pos c10] at H
              have c10b0 : decide (t109 < (y106.length : Int)) = true := decide_eq_true c10
              clear c10
              obtain ⟨y110, hy110⟩ : ∃ y_ : List (S31), y_ = (y106.set (t109 : Int).toNat (⟨1, (⟨#[97]⟩ : ByteArray), 0, 0⟩ : S31)) := ⟨_, rfl⟩
              replace H : ((probe_Find.f ([] : List (S31)) (⟨#[97]⟩ : ByteArray)).bind fun t111 => (if t111 = (-1) then ((probe_Room.f ([] : List (S31)) (⟨#[97]⟩ : ByteArray)).bind fun t112 => (if t112 = (-1) then ((probe_Home.f (⟨#[97]⟩ : ByteArray) 0).bind fun t113 => (if t113 = 0 then ((fnv_Sum.f (⟨#[97]⟩ : ByteArray)).bind fun t114 => (if t109 = (wrap64 (Int.tmod t114 3)) then ((probe_Find.f y110 (⟨#[97]⟩ : ByteArray)).bind fun t115 => (if t115 = t109 then ((probe_Room.f y110 (⟨#[97]⟩ : ByteArray)).bind fun t116 => (if t116 = (-1) then ((probe_Count.f y110 1).bind fun t117 => (if t117 = 1 then ((probe_Count.f y110 0).bind fun t118 => (if t118 = 2 then ((probe_Same.f kj2 y110 y110).bind fun t119 => (if t119 = true then ((probe_Same.f kj2 y110 ([] : List (S31))).bind fun t120 => (some (!t120))) else (some false))) else (some false))) else (some false))) else (some false))) else (some false))) else (some false))) else (some false))) else (some false))) else (some false))) = some r := by first | (rw [hy110]; with_reducible exact H) | (have H2_ := (Option.bind_some _ _).symm.trans H; rw [hy110]; with_reducible exact H2_) | (have H2_ := (Option.bind_some _ _).symm.trans H; with_reducible exact H2_) | with_reducible exact H | (rw [hy110]; exact H) | exact H
              have Ny110 := Aside0.mk hy110
              clear hy110
              replace H := Option.bind_eq_some_iff.mp H
              obtain ⟨t111, A120, H⟩ := H
              replace H : (if t111 = (-1) then ((probe_Room.f ([] : List (S31)) (⟨#[97]⟩ : ByteArray)).bind fun t112 => (if t112 = (-1) then ((probe_Home.f (⟨#[97]⟩ : ByteArray) 0).bind fun t113 => (if t113 = 0 then ((fnv_Sum.f (⟨#[97]⟩ : ByteArray)).bind fun t114 => (if t109 = (wrap64 (Int.tmod t114 3)) then ((probe_Find.f y110 (⟨#[97]⟩ : ByteArray)).bind fun t115 => (if t115 = t109 then ((probe_Room.f y110 (⟨#[97]⟩ : ByteArray)).bind fun t116 => (if t116 = (-1) then ((probe_Count.f y110 1).bind fun t117 => (if t117 = 1 then ((probe_Count.f y110 0).bind fun t118 => (if t118 = 2 then ((probe_Same.f kj2 y110 y110).bind fun t119 => (if t119 = true then ((probe_Same.f kj2 y110 ([] : List (S31))).bind fun t120 => (some (!t120))) else (some false))) else (some false))) else (some false))) else (some false))) else (some false))) else (some false))) else (some false))) else (some false))) else (some false)) = some r := H
              have A12 := Aside0.mk A120
              clear A120
              by_cases c13 : t111 = (-1)
              · rw [if_pos c13] at H
                have c13b0 : (t111 == (-1)) = true := beq_iff_eq.mpr c13
                have c13b1 : (t111 != (-1)) = false := bne_eq_false_iff_eq.mpr c13
                clear c13
                replace H := Option.bind_eq_some_iff.mp H
                obtain ⟨t112, A140, H⟩ := H
                replace H : (if t112 = (-1) then ((probe_Home.f (⟨#[97]⟩ : ByteArray) 0).bind fun t113 => (if t113 = 0 then ((fnv_Sum.f (⟨#[97]⟩ : ByteArray)).bind fun t114 => (if t109 = (wrap64 (Int.tmod t114 3)) then ((probe_Find.f y110 (⟨#[97]⟩ : ByteArray)).bind fun t115 => (if t115 = t109 then ((probe_Room.f y110 (⟨#[97]⟩ : ByteArray)).bind fun t116 => (if t116 = (-1) then ((probe_Count.f y110 1).bind fun t117 => (if t117 = 1 then ((probe_Count.f y110 0).bind fun t118 => (if t118 = 2 then ((probe_Same.f kj2 y110 y110).bind fun t119 => (if t119 = true then ((probe_Same.f kj2 y110 ([] : List (S31))).bind fun t120 => (some (!t120))) else (some false))) else (some false))) else (some false))) else (some false))) else (some false))) else (some false))) else (some false))) else (some false)) = some r := H
                have A14 := Aside0.mk A140
                clear A140
                by_cases c15 : t112 = (-1)
                · rw [if_pos c15] at H
                  have c15b0 : (t112 == (-1)) = true := beq_iff_eq.mpr c15
                  have c15b1 : (t112 != (-1)) = false := bne_eq_false_iff_eq.mpr c15
                  clear c15
                  replace H := Option.bind_eq_some_iff.mp H
                  obtain ⟨t113, A160, H⟩ := H
                  replace H : (if t113 = 0 then ((fnv_Sum.f (⟨#[97]⟩ : ByteArray)).bind fun t114 => (if t109 = (wrap64 (Int.tmod t114 3)) then ((probe_Find.f y110 (⟨#[97]⟩ : ByteArray)).bind fun t115 => (if t115 = t109 then ((probe_Room.f y110 (⟨#[97]⟩ : ByteArray)).bind fun t116 => (if t116 = (-1) then ((probe_Count.f y110 1).bind fun t117 => (if t117 = 1 then ((probe_Count.f y110 0).bind fun t118 => (if t118 = 2 then ((probe_Same.f kj2 y110 y110).bind fun t119 => (if t119 = true then ((probe_Same.f kj2 y110 ([] : List (S31))).bind fun t120 => (some (!t120))) else (some false))) else (some false))) else (some false))) else (some false))) else (some false))) else (some false))) else (some false)) = some r := H
                  have A16 := Aside0.mk A160
                  clear A160
                  by_cases c17 : t113 = 0
                  · rw [if_pos c17] at H
                    have c17b0 : (t113 == 0) = true := beq_iff_eq.mpr c17
                    have c17b1 : (t113 != 0) = false := bne_eq_false_iff_eq.mpr c17
                    clear c17
                    replace H := Option.bind_eq_some_iff.mp H
                    obtain ⟨t114, A180, H⟩ := H
                    replace H : (if t109 = (wrap64 (Int.tmod t114 3)) then ((probe_Find.f y110 (⟨#[97]⟩ : ByteArray)).bind fun t115 => (if t115 = t109 then ((probe_Room.f y110 (⟨#[97]⟩ : ByteArray)).bind fun t116 => (if t116 = (-1) then ((probe_Count.f y110 1).bind fun t117 => (if t117 = 1 then ((probe_Count.f y110 0).bind fun t118 => (if t118 = 2 then ((probe_Same.f kj2 y110 y110).bind fun t119 => (if t119 = true then ((probe_Same.f kj2 y110 ([] : List (S31))).bind fun t120 => (some (!t120))) else (some false))) else (some false))) else (some false))) else (some false))) else (some false))) else (some false)) = some r := H
                    have A18 := Aside0.mk A180
                    clear A180
                    by_cases c19 : t109 = (wrap64 (Int.tmod t114 3))
                    · rw [if_pos c19] at H
                      have c19b0 : (t109 == (wrap64 (Int.tmod t114 3))) = true := beq_iff_eq.mpr c19
                      have c19b1 : (t109 != (wrap64 (Int.tmod t114 3))) = false := bne_eq_false_iff_eq.mpr c19
                      clear c19
                      replace H := Option.bind_eq_some_iff.mp H
                      obtain ⟨t115, A200, H⟩ := H
                      replace H : (if t115 = t109 then ((probe_Room.f y110 (⟨#[97]⟩ : ByteArray)).bind fun t116 => (if t116 = (-1) then ((probe_Count.f y110 1).bind fun t117 => (if t117 = 1 then ((probe_Count.f y110 0).bind fun t118 => (if t118 = 2 then ((probe_Same.f kj2 y110 y110).bind fun t119 => (if t119 = true then ((probe_Same.f kj2 y110 ([] : List (S31))).bind fun t120 => (some (!t120))) else (some false))) else (some false))) else (some false))) else (some false))) else (some false)) = some r := H
                      have A20 := Aside0.mk A200
                      clear A200
                      by_cases c21 : t115 = t109
                      · rw [if_pos c21] at H
                        have c21b0 : (t115 == t109) = true := beq_iff_eq.mpr c21
                        have c21b1 : (t115 != t109) = false := bne_eq_false_iff_eq.mpr c21
                        clear c21
                        replace H := Option.bind_eq_some_iff.mp H
                        obtain ⟨t116, A220, H⟩ := H
                        replace H : (if t116 = (-1) then ((probe_Count.f y110 1).bind fun t117 => (if t117 = 1 then ((probe_Count.f y110 0).bind fun t118 => (if t118 = 2 then ((probe_Same.f kj2 y110 y110).bind fun t119 => (if t119 = true then ((probe_Same.f kj2 y110 ([] : List (S31))).bind fun t120 => (some (!t120))) else (some false))) else (some false))) else (some false))) else (some false)) = some r := H
                        have A22 := Aside0.mk A220
                        clear A220
                        by_cases c23 : t116 = (-1)
                        · rw [if_pos c23] at H
                          have c23b0 : (t116 == (-1)) = true := beq_iff_eq.mpr c23
                          have c23b1 : (t116 != (-1)) = false := bne_eq_false_iff_eq.mpr c23
                          clear c23
                          replace H := Option.bind_eq_some_iff.mp H
                          obtain ⟨t117, A240, H⟩ := H
                          replace H : (if t117 = 1 then ((probe_Count.f y110 0).bind fun t118 => (if t118 = 2 then ((probe_Same.f kj2 y110 y110).bind fun t119 => (if t119 = true then ((probe_Same.f kj2 y110 ([] : List (S31))).bind fun t120 => (some (!t120))) else (some false))) else (some false))) else (some false)) = some r := H
                          have A24 := Aside0.mk A240
                          clear A240
                          by_cases c25 : t117 = 1
                          · rw [if_pos c25] at H
                            have c25b0 : (t117 == 1) = true := beq_iff_eq.mpr c25
                            have c25b1 : (t117 != 1) = false := bne_eq_false_iff_eq.mpr c25
                            clear c25
                            replace H := Option.bind_eq_some_iff.mp H
                            obtain ⟨t118, A260, H⟩ := H
                            replace H : (if t118 = 2 then ((probe_Same.f kj2 y110 y110).bind fun t119 => (if t119 = true then ((probe_Same.f kj2 y110 ([] : List (S31))).bind fun t120 => (some (!t120))) else (some false))) else (some false)) = some r := H
                            have A26 := Aside0.mk A260
                            clear A260
                            by_cases c27 : t118 = 2
                            · rw [if_pos c27] at H
                              have c27b0 : (t118 == 2) = true := beq_iff_eq.mpr c27
                              have c27b1 : (t118 != 2) = false := bne_eq_false_iff_eq.mpr c27
                              clear c27
                              replace H := Option.bind_eq_some_iff.mp H
                              obtain ⟨t119, A280, H⟩ := H
                              replace H : (if t119 = true then ((probe_Same.f kj2 y110 ([] : List (S31))).bind fun t120 => (some (!t120))) else (some false)) = some r := H
                              have A28 := Aside0.mk A280
                              clear A280
                              by_cases c29 : t119 = true
                              · subst c29
                                have H1 : ((probe_Same.f kj2 y110 ([] : List (S31))).bind fun t120 => (some (!t120))) = some r := by first | (rw [if_pos rfl] at H; exact H) | (rw [if_pos trivial] at H; exact H)
                                clear H
                                have H := H1
                                clear H1
                                replace H := Option.bind_eq_some_iff.mp H
                                obtain ⟨t120, A300, H⟩ := H
                                replace H : (some (!t120)) = some r := H
                                have A30 := Aside0.mk A300
                                clear A300
                                obtain rfl := Option.some.inj H
                                have p11 : 0 ≤ (t109 : Int) := of_decide_eq_true (by first | (with_reducible assumption) | assumption)
                                have q11 : (t109 : Int) < ((y106.length : Int) : Int) := of_decide_eq_true (by first | (with_reducible assumption) | assumption)
                                obtain ⟨go11, co11, eo11, gb11, gl11, cl11, HG11⟩ := Kd.R_form HO_1.out (by omega)
                                (first | cases eo11 | (injection eo11 with ea_ en_ ec_; (first | subst ea_ | (injection ea_ with ea_; subst ea_)); subst ec_; clear en_))
                                have GB11 := Aside0.mk gb11
                                have GG11 := Aside0.mk HG11
                                clear gb11 gl11 HG11
                                obtain ⟨ce11, hcl11, hM11, hcc11, hfr11⟩ := Kd.R_elem HO_1.out z31 (t109 : Int) p11 q11
                                obtain rfl := k31_openM hM11
                                have hx11_0 : wc.cell? ⟨go11, (t109 : Int).toNat * 4, none⟩ = some (.int .i64 ((rd_T31 y106 t109).f0)) := hcc11 0 _ rfl
                                have hx11_1 : wc.cell? ⟨go11, (t109 : Int).toNat * 4 + 1, none⟩ = some (.string ((rd_T31 y106 t109).f1)) := hcc11 1 _ rfl
                                have hx11_2 : wc.cell? ⟨go11, (t109 : Int).toNat * 4 + 2, none⟩ = some (.int .i64 ((rd_T31 y106 t109).f2)) := hcc11 2 _ rfl
                                have hx11_3 : wc.cell? ⟨go11, (t109 : Int).toNat * 4 + 3, none⟩ = some (.int .i64 ((rd_T31 y106 t109).f3)) := hcc11 3 _ rfl
                                have hf11_0 : wc.frozen? ⟨go11, (t109 : Int).toNat * 4, none⟩ = false := hfr11 0
                                have hf11_1 : wc.frozen? ⟨go11, (t109 : Int).toNat * 4 + 1, none⟩ = false := hfr11 1
                                have hf11_2 : wc.frozen? ⟨go11, (t109 : Int).toNat * 4 + 2, none⟩ = false := hfr11 2
                                have hf11_3 : wc.frozen? ⟨go11, (t109 : Int).toNat * 4 + 3, none⟩ = false := hfr11 3
                                clear hcl11 hcc11 hfr11 hM11
                                replace p11 := eq_true p11
                                replace q11 := eq_true q11
                                have HX31 := Aside0.mk (show Kd.R k31 31 wc w.heap.size (fun _ => True) (.slice (some ⟨go11, 0, none⟩) y106.length co11) y106 from (by (with_reducible repeat (first | apply Kd.R_alloc | apply Kd.R_drewN | apply Kd.R_drew)); exact HO_1.out))
                                obtain ⟨ce31, hcl31, hM31, hcc31, hfr31⟩ := Kd.R_elem HX31.out z31 (t109 : Int) (of_decide_eq_true (by first | (with_reducible assumption) | assumption)) (by have h_ : (t109 : Int) < ((y106.length : Int) : Int) := of_decide_eq_true (by first | (with_reducible assumption) | assumption); first | exact h_ | (have e_ := (Kd.R_reads' HO_1.out).1; omega) | simpa using h_)
                                obtain rfl := k31_openM hM31
                                have HP31 := Kd.R_seg HX31.out (t109 : Int) (of_decide_eq_true (by first | (with_reducible assumption) | assumption)) (by have h_ : (t109 : Int) < ((y106.length : Int) : Int) := of_decide_eq_true (by first | (with_reducible assumption) | assumption); first | exact h_ | (have e_ := (Kd.R_reads' HO_1.out).1; omega) | simpa using h_) (seg := [.int .i64 1, .string (⟨#[97]⟩ : ByteArray), .int .i64 0, .int .i64 0]) (j := 0) hcl31 hcc31 (show 4 ≤ 4 from by decide) (x' := (⟨1, (⟨#[97]⟩ : ByteArray), 0, 0⟩ : S31)) (k31_mkM _ _ _ (⟨1, (⟨#[97]⟩ : ByteArray), 0, 0⟩ : S31) ) (fun _ hk => hk)
                                have hx31_0 := hcc31 0 _ rfl
                                (try simp only [show (k31).sz = 4 from rfl, Nat.mul_one, Nat.add_zero] at hx31_0)
                                have hf31_0 := hfr31 0
                                (try simp only [show (k31).sz = 4 from rfl, Nat.mul_one, Nat.add_zero] at hf31_0)
                                have hx31_1 := hcc31 1 _ rfl
                                (try simp only [show (k31).sz = 4 from rfl, Nat.mul_one, Nat.add_zero] at hx31_1)
                                have hf31_1 := hfr31 1
                                (try simp only [show (k31).sz = 4 from rfl, Nat.mul_one, Nat.add_zero] at hf31_1)
                                have hx31_2 := hcc31 2 _ rfl
                                (try simp only [show (k31).sz = 4 from rfl, Nat.mul_one, Nat.add_zero] at hx31_2)
                                have hf31_2 := hfr31 2
                                (try simp only [show (k31).sz = 4 from rfl, Nat.mul_one, Nat.add_zero] at hf31_2)
                                have hx31_3 := hcc31 3 _ rfl
                                (try simp only [show (k31).sz = 4 from rfl, Nat.mul_one, Nat.add_zero] at hx31_3)
                                have hf31_3 := hfr31 3
                                (try simp only [show (k31).sz = 4 from rfl, Nat.mul_one, Nat.add_zero] at hf31_3)
                                clear hcl31 hcc31 hfr31 hM31
                                go_wp2_with (first | ((with_reducible refine gate_store (t := 31) (p := 14) rfl ?_); refine store_event (t := 31) (p := 14) (v := ?vo_w32) (w1 := ((((wc.setCell ⟨go11, (t109 : Int).toNat * 4, none⟩ (.int .i64 1)).setCell ⟨go11, (t109 : Int).toNat * 4 + 1, none⟩ (.string (⟨#[97]⟩ : ByteArray))).setCell ⟨go11, (t109 : Int).toNat * 4 + 2, none⟩ (.int .i64 0)).setCell ⟨go11, (t109 : Int).toNat * 4 + 3, none⟩ (.int .i64 0))) ?hg ?ho ?hn ?hr ?_; (case ho => rfl); (case hg => rfl); (case hn => rfl); (case hr => first | (go_simp; done) | (go_simp; rfl)); intro w32 hw; have hg : wc.grownBy w32 (some go11) := (by rw [hw]; exact HP31.2); have hp_ : Kd.R k31 31 w32 w.heap.size (fun _ => True) (.slice (some ⟨go11, 0, none⟩) y106.length co11) y110 := (by rw [hw, Ny110.out]; exact HP31.1); clear HP31; have n0_ := Aside0.mk (hp_); have n1_ := Aside0.mk ((by rw [hw]; exact below_set (below_set (below_set (below_set (HB.out) GB11.out) GB11.out) GB11.out) GB11.out : Below w.heap.size w w32)); clear HO_1; clear HB; have HO_1 := n0_; have HB := n1_; clear n0_ n1_; clear hg hw hp_) | ((with_reducible refine gate_callee (f := 25) rfl ?_); refine goesL_ (some 15) rfl rfl Try.func25 (by kernel_rfl) rfl #[.slice none 0 0, .string (⟨#[97]⟩ : ByteArray)] rfl (by (try simp only [List.map_toArray, List.map_cons, List.map_nil]); first | done | rfl | (simp only [List.length_drop, List.length_take]; rfl)) ?_; (refine (probe_Find.calls _ _ ([] : List (S31)) (⟨#[97]⟩ : ByteArray) t111 _ ?side1 ?side2 A12.out).mono ?_); (case side1 => exact Kd.C_nil _ _); (case side2 => exact Nat.le_refl _); (try clear A12); rintro e w33 ⟨rfl, hb⟩; refine ⟨_, rfl, ?_⟩; have n0_ := Aside0.mk (Kd.R_below (by (with_reducible repeat (first | apply Kd.R_alloc | apply Kd.R_drewN | apply Kd.R_drew)); exact HO_1.out) hb); have n1_ := Aside0.mk (below_step (by repeat (first | (with_reducible first | exact HB.out | apply below_alloc | apply pw_below_drewN | apply below_drew1) | exact HB.out)) hb); clear HO_1; clear HB; have HO_1 := n0_; have HB := n1_; clear n0_ n1_; (try clear hb); (try clear hb2); (try clear hk); (try clear hi)) | (go_at_call 27; (refine (probe_Room.calls _ _ ([] : List (S31)) (⟨#[97]⟩ : ByteArray) t112 _ ?side1 ?side2 A14.out).mono ?_); (case side1 => exact Kd.C_nil _ _); (case side2 => exact Nat.le_refl _); (try clear A14); rintro e w34 ⟨rfl, hb⟩; have n0_ := Aside0.mk (Kd.R_below (by (with_reducible repeat (first | apply Kd.R_alloc | apply Kd.R_drewN | apply Kd.R_drew)); exact HO_1.out) hb); have n1_ := Aside0.mk (below_step (by repeat (first | (with_reducible first | exact HB.out | apply below_alloc | apply pw_below_drewN | apply below_drew1) | exact HB.out)) hb); clear HO_1; clear HB; have HO_1 := n0_; have HB := n1_; clear n0_ n1_; (try clear hb); (try clear hb2); (try clear hk); (try clear hi)) | (go_at_call 29; (with_reducible refine (probe_Home.calls (⟨#[97]⟩ : ByteArray) 0 t113 _ A16.out).mono ?_); (try clear A16); rintro e w35 ⟨rfl, hb⟩; have n0_ := Aside0.mk (Kd.R_below (by (with_reducible repeat (first | apply Kd.R_alloc | apply Kd.R_drewN | apply Kd.R_drew)); exact HO_1.out) hb); have n1_ := Aside0.mk (below_step (by repeat (first | (with_reducible first | exact HB.out | apply below_alloc | apply pw_below_drewN | apply below_drew1) | exact HB.out)) hb); clear HO_1; clear HB; have HO_1 := n0_; have HB := n1_; clear n0_ n1_; (try clear hb); (try clear hb2); (try clear hk); (try clear hi)) | (go_at_call 34; (with_reducible refine (fnv_Sum.calls (⟨#[97]⟩ : ByteArray) t114 _ A18.out).mono ?_); (try clear A18); rintro e w36 ⟨rfl, hb⟩; have n0_ := Aside0.mk (Kd.R_below (by (with_reducible repeat (first | apply Kd.R_alloc | apply Kd.R_drewN | apply Kd.R_drew)); exact HO_1.out) hb); have n1_ := Aside0.mk (below_step (by repeat (first | (with_reducible first | exact HB.out | apply below_alloc | apply pw_below_drewN | apply below_drew1) | exact HB.out)) hb); clear HO_1; clear HB; have HO_1 := n0_; have HB := n1_; clear n0_ n1_; (try clear hb); (try clear hb2); (try clear hk); (try clear hi)) | (go_at_call 25; refine calls_of_args (args' := #[.slice (some ⟨go11, 0, none⟩) y110.length co11, .string (⟨#[97]⟩ : ByteArray)]) (by first | (rw [show y110.length = y106.length from (Kd.R_reads' HO_1.out).1.symm] <;> rfl) | rfl) ?_; (with_reducible refine (probe_Find.calls _ _ y110 (⟨#[97]⟩ : ByteArray) t115 _ ?side1 ?side2 A20.out).mono ?_); (case side1 => repeat (first | exact (Kd.R_reads' HO_1.out).2.2 | (with_reducible refine Kd.C_alloc ?_ _) | (with_reducible refine Kd.C_drewN ?_ _) | (with_reducible refine Kd.C_drew ?_))); (case side2 => rw [show y110.length = y106.length from (Kd.R_reads' HO_1.out).1.symm]; exact (Kd.R_reads' HO_1.out).2.1); (try clear A20); rintro e w37 ⟨rfl, hb⟩; have n0_ := Aside0.mk (Kd.R_below (by (with_reducible repeat (first | apply Kd.R_alloc | apply Kd.R_drewN | apply Kd.R_drew)); exact HO_1.out) hb); have n1_ := Aside0.mk (below_step (by repeat (first | (with_reducible first | exact HB.out | apply below_alloc | apply pw_below_drewN | apply below_drew1) | exact HB.out)) hb); clear HO_1; clear HB; have HO_1 := n0_; have HB := n1_; clear n0_ n1_; (try clear hb); (try clear hb2); (try clear hk); (try clear hi)) | (go_at_call 27; refine calls_of_args (args' := #[.slice (some ⟨go11, 0, none⟩) y110.length co11, .string (⟨#[97]⟩ : ByteArray)]) (by first | (rw [show y110.length = y106.length from (Kd.R_reads' HO_1.out).1.symm] <;> rfl) | rfl) ?_; (with_reducible refine (probe_Room.calls _ _ y110 (⟨#[97]⟩ : ByteArray) t116 _ ?side1 ?side2 A22.out).mono ?_); (case side1 => repeat (first | exact (Kd.R_reads' HO_1.out).2.2 | (with_reducible refine Kd.C_alloc ?_ _) | (with_reducible refine Kd.C_drewN ?_ _) | (with_reducible refine Kd.C_drew ?_))); (case side2 => rw [show y110.length = y106.length from (Kd.R_reads' HO_1.out).1.symm]; exact (Kd.R_reads' HO_1.out).2.1); (try clear A22); rintro e w38 ⟨rfl, hb⟩; have n0_ := Aside0.mk (Kd.R_below (by (with_reducible repeat (first | apply Kd.R_alloc | apply Kd.R_drewN | apply Kd.R_drew)); exact HO_1.out) hb); have n1_ := Aside0.mk (below_step (by repeat (first | (with_reducible first | exact HB.out | apply below_alloc | apply pw_below_drewN | apply below_drew1) | exact HB.out)) hb); clear HO_1; clear HB; have HO_1 := n0_; have HB := n1_; clear n0_ n1_; (try clear hb); (try clear hb2); (try clear hk); (try clear hi)) | (go_at_call 31; refine calls_of_args (args' := #[.slice (some ⟨go11, 0, none⟩) y110.length co11, .int .i64 1]) (by first | (rw [show y110.length = y106.length from (Kd.R_reads' HO_1.out).1.symm] <;> rfl) | rfl) ?_; (with_reducible refine (probe_Count.calls _ _ y110 1 t117 _ ?side1 ?side2 A24.out).mono ?_); (case side1 => repeat (first | exact (Kd.R_reads' HO_1.out).2.2 | (with_reducible refine Kd.C_alloc ?_ _) | (with_reducible refine Kd.C_drewN ?_ _) | (with_reducible refine Kd.C_drew ?_))); (case side2 => rw [show y110.length = y106.length from (Kd.R_reads' HO_1.out).1.symm]; exact (Kd.R_reads' HO_1.out).2.1); (try clear A24); rintro e w39 ⟨rfl, hb⟩; have n0_ := Aside0.mk (Kd.R_below (by (with_reducible repeat (first | apply Kd.R_alloc | apply Kd.R_drewN | apply Kd.R_drew)); exact HO_1.out) hb); have n1_ := Aside0.mk (below_step (by repeat (first | (with_reducible first | exact HB.out | apply below_alloc | apply pw_below_drewN | apply below_drew1) | exact HB.out)) hb); clear HO_1; clear HB; have HO_1 := n0_; have HB := n1_; clear n0_ n1_; (try clear hb); (try clear hb2); (try clear hk); (try clear hi)) | (go_at_call 31; refine calls_of_args (args' := #[.slice (some ⟨go11, 0, none⟩) y110.length co11, .int .i64 0]) (by first | (rw [show y110.length = y106.length from (Kd.R_reads' HO_1.out).1.symm] <;> rfl) | rfl) ?_; (with_reducible refine (probe_Count.calls _ _ y110 0 t118 _ ?side1 ?side2 A26.out).mono ?_); (case side1 => repeat (first | exact (Kd.R_reads' HO_1.out).2.2 | (with_reducible refine Kd.C_alloc ?_ _) | (with_reducible refine Kd.C_drewN ?_ _) | (with_reducible refine Kd.C_drew ?_))); (case side2 => rw [show y110.length = y106.length from (Kd.R_reads' HO_1.out).1.symm]; exact (Kd.R_reads' HO_1.out).2.1); (try clear A26); rintro e w40 ⟨rfl, hb⟩; have n0_ := Aside0.mk (Kd.R_below (by (with_reducible repeat (first | apply Kd.R_alloc | apply Kd.R_drewN | apply Kd.R_drew)); exact HO_1.out) hb); have n1_ := Aside0.mk (below_step (by repeat (first | (with_reducible first | exact HB.out | apply below_alloc | apply pw_below_drewN | apply below_drew1) | exact HB.out)) hb); clear HO_1; clear HB; have HO_1 := n0_; have HB := n1_; clear n0_ n1_; (try clear hb); (try clear hb2); (try clear hk); (try clear hi)) | (go_at_call 33; refine calls_of_args (args' := #[.slice (some ⟨go11, 0, none⟩) y110.length co11, .slice (some ⟨go11, 0, none⟩) y110.length co11]) (by first | (rw [show y110.length = y106.length from (Kd.R_reads' HO_1.out).1.symm] <;> rfl) | rfl) ?_; (with_reducible refine (probe_Same.calls kj2 _ _ y110 _ _ y110 true _ ?side1 ?side2 ?side3 ?side4 A28.out).mono ?_); (case side1 => repeat (first | exact (Kd.R_reads' HO_1.out).2.2 | (with_reducible refine Kd.C_alloc ?_ _) | (with_reducible refine Kd.C_drewN ?_ _) | (with_reducible refine Kd.C_drew ?_))); (case side2 => rw [show y110.length = y106.length from (Kd.R_reads' HO_1.out).1.symm]; exact (Kd.R_reads' HO_1.out).2.1); (case side3 => repeat (first | exact (Kd.R_reads' HO_1.out).2.2 | (with_reducible refine Kd.C_alloc ?_ _) | (with_reducible refine Kd.C_drewN ?_ _) | (with_reducible refine Kd.C_drew ?_))); (case side4 => rw [show y110.length = y106.length from (Kd.R_reads' HO_1.out).1.symm]; exact (Kd.R_reads' HO_1.out).2.1); (try clear A28); rintro e w' ⟨rfl, ⟨nd, rfl⟩⟩) | (go_at_call 33; refine calls_of_args (args' := #[.slice (some ⟨go11, 0, none⟩) y110.length co11, .slice none 0 0]) (by first | (rw [show y110.length = y106.length from (Kd.R_reads' HO_1.out).1.symm] <;> rfl) | rfl) ?_; (refine (probe_Same.calls kj2 _ _ y110 _ _ ([] : List (S31)) t120 _ ?side1 ?side2 ?side3 ?side4 A30.out).mono ?_); (case side1 => repeat (first | exact (Kd.R_reads' HO_1.out).2.2 | (with_reducible refine Kd.C_alloc ?_ _) | (with_reducible refine Kd.C_drewN ?_ _) | (with_reducible refine Kd.C_drew ?_))); (case side2 => rw [show y110.length = y106.length from (Kd.R_reads' HO_1.out).1.symm]; exact (Kd.R_reads' HO_1.out).2.1); (case side3 => exact Kd.C_nil _ _); (case side4 => exact Nat.le_refl _); (try clear A30); rintro e w' ⟨rfl, ⟨nd, rfl⟩⟩))
                                go_ret
                                exact ⟨by first | rfl | (simp [errW_none, errW_some] <;> rfl) | (simp [*, errW_none, errW_some] <;> rfl), by repeat (first | (with_reducible first | exact HB.out | apply below_alloc | apply pw_below_drewN | apply below_drew1) | exact HB.out)⟩
                              · replace c29 := Bool.eq_false_iff.mpr c29
                                subst c29
                                have H1 : (some false) = some r := by rw [if_neg (show ¬ (false = true) by decide)] at H; exact H
                                clear H
                                have H := H1
                                clear H1
                                obtain rfl := Option.some.inj H
                                have p11 : 0 ≤ (t109 : Int) := of_decide_eq_true (by first | (with_reducible assumption) | assumption)
                                have q11 : (t109 : Int) < ((y106.length : Int) : Int) := of_decide_eq_true (by first | (with_reducible assumption) | assumption)
                                obtain ⟨go11, co11, eo11, gb11, gl11, cl11, HG11⟩ := Kd.R_form HO_1.out (by omega)
                                (first | cases eo11 | (injection eo11 with ea_ en_ ec_; (first | subst ea_ | (injection ea_ with ea_; subst ea_)); subst ec_; clear en_))
                                have GB11 := Aside0.mk gb11
                                have GG11 := Aside0.mk HG11
                                clear gb11 gl11 HG11
                                obtain ⟨ce11, hcl11, hM11, hcc11, hfr11⟩ := Kd.R_elem HO_1.out z31 (t109 : Int) p11 q11
                                obtain rfl := k31_openM hM11
                                have hx11_0 : wc.cell? ⟨go11, (t109 : Int).toNat * 4, none⟩ = some (.int .i64 ((rd_T31 y106 t109).f0)) := hcc11 0 _ rfl
                                have hx11_1 : wc.cell? ⟨go11, (t109 : Int).toNat * 4 + 1, none⟩ = some (.string ((rd_T31 y106 t109).f1)) := hcc11 1 _ rfl
                                have hx11_2 : wc.cell? ⟨go11, (t109 : Int).toNat * 4 + 2, none⟩ = some (.int .i64 ((rd_T31 y106 t109).f2)) := hcc11 2 _ rfl
                                have hx11_3 : wc.cell? ⟨go11, (t109 : Int).toNat * 4 + 3, none⟩ = some (.int .i64 ((rd_T31 y106 t109).f3)) := hcc11 3 _ rfl
                                have hf11_0 : wc.frozen? ⟨go11, (t109 : Int).toNat * 4, none⟩ = false := hfr11 0
                                have hf11_1 : wc.frozen? ⟨go11, (t109 : Int).toNat * 4 + 1, none⟩ = false := hfr11 1
                                have hf11_2 : wc.frozen? ⟨go11, (t109 : Int).toNat * 4 + 2, none⟩ = false := hfr11 2
                                have hf11_3 : wc.frozen? ⟨go11, (t109 : Int).toNat * 4 + 3, none⟩ = false := hfr11 3
                                clear hcl11 hcc11 hfr11 hM11
                                replace p11 := eq_true p11
                                replace q11 := eq_true q11
                                have HX41 := Aside0.mk (show Kd.R k31 31 wc w.heap.size (fun _ => True) (.slice (some ⟨go11, 0, none⟩) y106.length co11) y106 from (by (with_reducible repeat (first | apply Kd.R_alloc | apply Kd.R_drewN | apply Kd.R_drew)); exact HO_1.out))
                                obtain ⟨ce41, hcl41, hM41, hcc41, hfr41⟩ := Kd.R_elem HX41.out z31 (t109 : Int) (of_decide_eq_true (by first | (with_reducible assumption) | assumption)) (by have h_ : (t109 : Int) < ((y106.length : Int) : Int) := of_decide_eq_true (by first | (with_reducible assumption) | assumption); first | exact h_ | (have e_ := (Kd.R_reads' HO_1.out).1; omega) | simpa using h_)
                                obtain rfl := k31_openM hM41
                                have HP41 := Kd.R_seg HX41.out (t109 : Int) (of_decide_eq_true (by first | (with_reducible assumption) | assumption)) (by have h_ : (t109 : Int) < ((y106.length : Int) : Int) := of_decide_eq_true (by first | (with_reducible assumption) | assumption); first | exact h_ | (have e_ := (Kd.R_reads' HO_1.out).1; omega) | simpa using h_) (seg := [.int .i64 1, .string (⟨#[97]⟩ : ByteArray), .int .i64 0, .int .i64 0]) (j := 0) hcl41 hcc41 (show 4 ≤ 4 from by decide) (x' := (⟨1, (⟨#[97]⟩ : ByteArray), 0, 0⟩ : S31)) (k31_mkM _ _ _ (⟨1, (⟨#[97]⟩ : ByteArray), 0, 0⟩ : S31) ) (fun _ hk => hk)
                                have hx41_0 := hcc41 0 _ rfl
                                (try simp only [show (k31).sz = 4 from rfl, Nat.mul_one, Nat.add_zero] at hx41_0)
                                have hf41_0 := hfr41 0
                                (try simp only [show (k31).sz = 4 from rfl, Nat.mul_one, Nat.add_zero] at hf41_0)
                                have hx41_1 := hcc41 1 _ rfl
                                (try simp only [show (k31).sz = 4 from rfl, Nat.mul_one, Nat.add_zero] at hx41_1)
                                have hf41_1 := hfr41 1
                                (try simp only [show (k31).sz = 4 from rfl, Nat.mul_one, Nat.add_zero] at hf41_1)
                                have hx41_2 := hcc41 2 _ rfl
                                (try simp only [show (k31).sz = 4 from rfl, Nat.mul_one, Nat.add_zero] at hx41_2)
                                have hf41_2 := hfr41 2
                                (try simp only [show (k31).sz = 4 from rfl, Nat.mul_one, Nat.add_zero] at hf41_2)
                                have hx41_3 := hcc41 3 _ rfl
                                (try simp only [show (k31).sz = 4 from rfl, Nat.mul_one, Nat.add_zero] at hx41_3)
                                have hf41_3 := hfr41 3
                                (try simp only [show (k31).sz = 4 from rfl, Nat.mul_one, Nat.add_zero] at hf41_3)
                                clear hcl41 hcc41 hfr41 hM41
                                go_wp2_with (first | ((with_reducible refine gate_store (t := 31) (p := 14) rfl ?_); refine store_event (t := 31) (p := 14) (v := ?vo_w42) (w1 := ((((wc.setCell ⟨go11, (t109 : Int).toNat * 4, none⟩ (.int .i64 1)).setCell ⟨go11, (t109 : Int).toNat * 4 + 1, none⟩ (.string (⟨#[97]⟩ : ByteArray))).setCell ⟨go11, (t109 : Int).toNat * 4 + 2, none⟩ (.int .i64 0)).setCell ⟨go11, (t109 : Int).toNat * 4 + 3, none⟩ (.int .i64 0))) ?hg ?ho ?hn ?hr ?_; (case ho => rfl); (case hg => rfl); (case hn => rfl); (case hr => first | (go_simp; done) | (go_simp; rfl)); intro w42 hw; have hg : wc.grownBy w42 (some go11) := (by rw [hw]; exact HP41.2); have hp_ : Kd.R k31 31 w42 w.heap.size (fun _ => True) (.slice (some ⟨go11, 0, none⟩) y106.length co11) y110 := (by rw [hw, Ny110.out]; exact HP41.1); clear HP41; have n0_ := Aside0.mk (hp_); have n1_ := Aside0.mk ((by rw [hw]; exact below_set (below_set (below_set (below_set (HB.out) GB11.out) GB11.out) GB11.out) GB11.out : Below w.heap.size w w42)); clear HO_1; clear HB; have HO_1 := n0_; have HB := n1_; clear n0_ n1_; clear hg hw hp_) | ((with_reducible refine gate_callee (f := 25) rfl ?_); refine goesL_ (some 15) rfl rfl Try.func25 (by kernel_rfl) rfl #[.slice none 0 0, .string (⟨#[97]⟩ : ByteArray)] rfl (by (try simp only [List.map_toArray, List.map_cons, List.map_nil]); first | done | rfl | (simp only [List.length_drop, List.length_take]; rfl)) ?_; (refine (probe_Find.calls _ _ ([] : List (S31)) (⟨#[97]⟩ : ByteArray) t111 _ ?side1 ?side2 A12.out).mono ?_); (case side1 => exact Kd.C_nil _ _); (case side2 => exact Nat.le_refl _); (try clear A12); rintro e w43 ⟨rfl, hb⟩; refine ⟨_, rfl, ?_⟩; have n0_ := Aside0.mk (Kd.R_below (by (with_reducible repeat (first | apply Kd.R_alloc | apply Kd.R_drewN | apply Kd.R_drew)); exact HO_1.out) hb); have n1_ := Aside0.mk (below_step (by repeat (first | (with_reducible first | exact HB.out | apply below_alloc | apply pw_below_drewN | apply below_drew1) | exact HB.out)) hb); clear HO_1; clear HB; have HO_1 := n0_; have HB := n1_; clear n0_ n1_; (try clear hb); (try clear hb2); (try clear hk); (try clear hi)) | (go_at_call 27; (refine (probe_Room.calls _ _ ([] : List (S31)) (⟨#[97]⟩ : ByteArray) t112 _ ?side1 ?side2 A14.out).mono ?_); (case side1 => exact Kd.C_nil _ _); (case side2 => exact Nat.le_refl _); (try clear A14); rintro e w44 ⟨rfl, hb⟩; have n0_ := Aside0.mk (Kd.R_below (by (with_reducible repeat (first | apply Kd.R_alloc | apply Kd.R_drewN | apply Kd.R_drew)); exact HO_1.out) hb); have n1_ := Aside0.mk (below_step (by repeat (first | (with_reducible first | exact HB.out | apply below_alloc | apply pw_below_drewN | apply below_drew1) | exact HB.out)) hb); clear HO_1; clear HB; have HO_1 := n0_; have HB := n1_; clear n0_ n1_; (try clear hb); (try clear hb2); (try clear hk); (try clear hi)) | (go_at_call 29; (with_reducible refine (probe_Home.calls (⟨#[97]⟩ : ByteArray) 0 t113 _ A16.out).mono ?_); (try clear A16); rintro e w45 ⟨rfl, hb⟩; have n0_ := Aside0.mk (Kd.R_below (by (with_reducible repeat (first | apply Kd.R_alloc | apply Kd.R_drewN | apply Kd.R_drew)); exact HO_1.out) hb); have n1_ := Aside0.mk (below_step (by repeat (first | (with_reducible first | exact HB.out | apply below_alloc | apply pw_below_drewN | apply below_drew1) | exact HB.out)) hb); clear HO_1; clear HB; have HO_1 := n0_; have HB := n1_; clear n0_ n1_; (try clear hb); (try clear hb2); (try clear hk); (try clear hi)) | (go_at_call 34; (with_reducible refine (fnv_Sum.calls (⟨#[97]⟩ : ByteArray) t114 _ A18.out).mono ?_); (try clear A18); rintro e w46 ⟨rfl, hb⟩; have n0_ := Aside0.mk (Kd.R_below (by (with_reducible repeat (first | apply Kd.R_alloc | apply Kd.R_drewN | apply Kd.R_drew)); exact HO_1.out) hb); have n1_ := Aside0.mk (below_step (by repeat (first | (with_reducible first | exact HB.out | apply below_alloc | apply pw_below_drewN | apply below_drew1) | exact HB.out)) hb); clear HO_1; clear HB; have HO_1 := n0_; have HB := n1_; clear n0_ n1_; (try clear hb); (try clear hb2); (try clear hk); (try clear hi)) | (go_at_call 25; refine calls_of_args (args' := #[.slice (some ⟨go11, 0, none⟩) y110.length co11, .string (⟨#[97]⟩ : ByteArray)]) (by first | (rw [show y110.length = y106.length from (Kd.R_reads' HO_1.out).1.symm] <;> rfl) | rfl) ?_; (with_reducible refine (probe_Find.calls _ _ y110 (⟨#[97]⟩ : ByteArray) t115 _ ?side1 ?side2 A20.out).mono ?_); (case side1 => repeat (first | exact (Kd.R_reads' HO_1.out).2.2 | (with_reducible refine Kd.C_alloc ?_ _) | (with_reducible refine Kd.C_drewN ?_ _) | (with_reducible refine Kd.C_drew ?_))); (case side2 => rw [show y110.length = y106.length from (Kd.R_reads' HO_1.out).1.symm]; exact (Kd.R_reads' HO_1.out).2.1); (try clear A20); rintro e w47 ⟨rfl, hb⟩; have n0_ := Aside0.mk (Kd.R_below (by (with_reducible repeat (first | apply Kd.R_alloc | apply Kd.R_drewN | apply Kd.R_drew)); exact HO_1.out) hb); have n1_ := Aside0.mk (below_step (by repeat (first | (with_reducible first | exact HB.out | apply below_alloc | apply pw_below_drewN | apply below_drew1) | exact HB.out)) hb); clear HO_1; clear HB; have HO_1 := n0_; have HB := n1_; clear n0_ n1_; (try clear hb); (try clear hb2); (try clear hk); (try clear hi)) | (go_at_call 27; refine calls_of_args (args' := #[.slice (some ⟨go11, 0, none⟩) y110.length co11, .string (⟨#[97]⟩ : ByteArray)]) (by first | (rw [show y110.length = y106.length from (Kd.R_reads' HO_1.out).1.symm] <;> rfl) | rfl) ?_; (with_reducible refine (probe_Room.calls _ _ y110 (⟨#[97]⟩ : ByteArray) t116 _ ?side1 ?side2 A22.out).mono ?_); (case side1 => repeat (first | exact (Kd.R_reads' HO_1.out).2.2 | (with_reducible refine Kd.C_alloc ?_ _) | (with_reducible refine Kd.C_drewN ?_ _) | (with_reducible refine Kd.C_drew ?_))); (case side2 => rw [show y110.length = y106.length from (Kd.R_reads' HO_1.out).1.symm]; exact (Kd.R_reads' HO_1.out).2.1); (try clear A22); rintro e w48 ⟨rfl, hb⟩; have n0_ := Aside0.mk (Kd.R_below (by (with_reducible repeat (first | apply Kd.R_alloc | apply Kd.R_drewN | apply Kd.R_drew)); exact HO_1.out) hb); have n1_ := Aside0.mk (below_step (by repeat (first | (with_reducible first | exact HB.out | apply below_alloc | apply pw_below_drewN | apply below_drew1) | exact HB.out)) hb); clear HO_1; clear HB; have HO_1 := n0_; have HB := n1_; clear n0_ n1_; (try clear hb); (try clear hb2); (try clear hk); (try clear hi)) | (go_at_call 31; refine calls_of_args (args' := #[.slice (some ⟨go11, 0, none⟩) y110.length co11, .int .i64 1]) (by first | (rw [show y110.length = y106.length from (Kd.R_reads' HO_1.out).1.symm] <;> rfl) | rfl) ?_; (with_reducible refine (probe_Count.calls _ _ y110 1 t117 _ ?side1 ?side2 A24.out).mono ?_); (case side1 => repeat (first | exact (Kd.R_reads' HO_1.out).2.2 | (with_reducible refine Kd.C_alloc ?_ _) | (with_reducible refine Kd.C_drewN ?_ _) | (with_reducible refine Kd.C_drew ?_))); (case side2 => rw [show y110.length = y106.length from (Kd.R_reads' HO_1.out).1.symm]; exact (Kd.R_reads' HO_1.out).2.1); (try clear A24); rintro e w49 ⟨rfl, hb⟩; have n0_ := Aside0.mk (Kd.R_below (by (with_reducible repeat (first | apply Kd.R_alloc | apply Kd.R_drewN | apply Kd.R_drew)); exact HO_1.out) hb); have n1_ := Aside0.mk (below_step (by repeat (first | (with_reducible first | exact HB.out | apply below_alloc | apply pw_below_drewN | apply below_drew1) | exact HB.out)) hb); clear HO_1; clear HB; have HO_1 := n0_; have HB := n1_; clear n0_ n1_; (try clear hb); (try clear hb2); (try clear hk); (try clear hi)) | (go_at_call 31; refine calls_of_args (args' := #[.slice (some ⟨go11, 0, none⟩) y110.length co11, .int .i64 0]) (by first | (rw [show y110.length = y106.length from (Kd.R_reads' HO_1.out).1.symm] <;> rfl) | rfl) ?_; (with_reducible refine (probe_Count.calls _ _ y110 0 t118 _ ?side1 ?side2 A26.out).mono ?_); (case side1 => repeat (first | exact (Kd.R_reads' HO_1.out).2.2 | (with_reducible refine Kd.C_alloc ?_ _) | (with_reducible refine Kd.C_drewN ?_ _) | (with_reducible refine Kd.C_drew ?_))); (case side2 => rw [show y110.length = y106.length from (Kd.R_reads' HO_1.out).1.symm]; exact (Kd.R_reads' HO_1.out).2.1); (try clear A26); rintro e w50 ⟨rfl, hb⟩; have n0_ := Aside0.mk (Kd.R_below (by (with_reducible repeat (first | apply Kd.R_alloc | apply Kd.R_drewN | apply Kd.R_drew)); exact HO_1.out) hb); have n1_ := Aside0.mk (below_step (by repeat (first | (with_reducible first | exact HB.out | apply below_alloc | apply pw_below_drewN | apply below_drew1) | exact HB.out)) hb); clear HO_1; clear HB; have HO_1 := n0_; have HB := n1_; clear n0_ n1_; (try clear hb); (try clear hb2); (try clear hk); (try clear hi)) | (go_at_call 33; refine calls_of_args (args' := #[.slice (some ⟨go11, 0, none⟩) y110.length co11, .slice (some ⟨go11, 0, none⟩) y110.length co11]) (by first | (rw [show y110.length = y106.length from (Kd.R_reads' HO_1.out).1.symm] <;> rfl) | rfl) ?_; (with_reducible refine (probe_Same.calls kj2 _ _ y110 _ _ y110 false _ ?side1 ?side2 ?side3 ?side4 A28.out).mono ?_); (case side1 => repeat (first | exact (Kd.R_reads' HO_1.out).2.2 | (with_reducible refine Kd.C_alloc ?_ _) | (with_reducible refine Kd.C_drewN ?_ _) | (with_reducible refine Kd.C_drew ?_))); (case side2 => rw [show y110.length = y106.length from (Kd.R_reads' HO_1.out).1.symm]; exact (Kd.R_reads' HO_1.out).2.1); (case side3 => repeat (first | exact (Kd.R_reads' HO_1.out).2.2 | (with_reducible refine Kd.C_alloc ?_ _) | (with_reducible refine Kd.C_drewN ?_ _) | (with_reducible refine Kd.C_drew ?_))); (case side4 => rw [show y110.length = y106.length from (Kd.R_reads' HO_1.out).1.symm]; exact (Kd.R_reads' HO_1.out).2.1); (try clear A28); rintro e w' ⟨rfl, ⟨nd, rfl⟩⟩))
                                go_ret
                                exact ⟨by first | rfl | (simp [errW_none, errW_some] <;> rfl) | (simp [*, errW_none, errW_some] <;> rfl), by repeat (first | (with_reducible first | exact HB.out | apply below_alloc | apply pw_below_drewN | apply below_drew1) | exact HB.out)⟩
                            · rw [if_neg c27] at H
                              have c27b0 : (t118 == 2) = false := beq_eq_false_iff_ne.mpr c27
                              have c27b1 : (t118 != 2) = true := bne_iff_ne.mpr c27
                              obtain rfl := Option.some.inj H
                              have p11 : 0 ≤ (t109 : Int) := of_decide_eq_true (by first | (with_reducible assumption) | assumption)
                              have q11 : (t109 : Int) < ((y106.length : Int) : Int) := of_decide_eq_true (by first | (with_reducible assumption) | assumption)
                              obtain ⟨go11, co11, eo11, gb11, gl11, cl11, HG11⟩ := Kd.R_form HO_1.out (by omega)
                              (first | cases eo11 | (injection eo11 with ea_ en_ ec_; (first | subst ea_ | (injection ea_ with ea_; subst ea_)); subst ec_; clear en_))
                              have GB11 := Aside0.mk gb11
                              have GG11 := Aside0.mk HG11
                              clear gb11 gl11 HG11
                              obtain ⟨ce11, hcl11, hM11, hcc11, hfr11⟩ := Kd.R_elem HO_1.out z31 (t109 : Int) p11 q11
                              obtain rfl := k31_openM hM11
                              have hx11_0 : wc.cell? ⟨go11, (t109 : Int).toNat * 4, none⟩ = some (.int .i64 ((rd_T31 y106 t109).f0)) := hcc11 0 _ rfl
                              have hx11_1 : wc.cell? ⟨go11, (t109 : Int).toNat * 4 + 1, none⟩ = some (.string ((rd_T31 y106 t109).f1)) := hcc11 1 _ rfl
                              have hx11_2 : wc.cell? ⟨go11, (t109 : Int).toNat * 4 + 2, none⟩ = some (.int .i64 ((rd_T31 y106 t109).f2)) := hcc11 2 _ rfl
                              have hx11_3 : wc.cell? ⟨go11, (t109 : Int).toNat * 4 + 3, none⟩ = some (.int .i64 ((rd_T31 y106 t109).f3)) := hcc11 3 _ rfl
                              have hf11_0 : wc.frozen? ⟨go11, (t109 : Int).toNat * 4, none⟩ = false := hfr11 0
                              have hf11_1 : wc.frozen? ⟨go11, (t109 : Int).toNat * 4 + 1, none⟩ = false := hfr11 1
                              have hf11_2 : wc.frozen? ⟨go11, (t109 : Int).toNat * 4 + 2, none⟩ = false := hfr11 2
                              have hf11_3 : wc.frozen? ⟨go11, (t109 : Int).toNat * 4 + 3, none⟩ = false := hfr11 3
                              clear hcl11 hcc11 hfr11 hM11
                              replace p11 := eq_true p11
                              replace q11 := eq_true q11
                              have HX51 := Aside0.mk (show Kd.R k31 31 wc w.heap.size (fun _ => True) (.slice (some ⟨go11, 0, none⟩) y106.length co11) y106 from (by (with_reducible repeat (first | apply Kd.R_alloc | apply Kd.R_drewN | apply Kd.R_drew)); exact HO_1.out))
                              obtain ⟨ce51, hcl51, hM51, hcc51, hfr51⟩ := Kd.R_elem HX51.out z31 (t109 : Int) (of_decide_eq_true (by first | (with_reducible assumption) | assumption)) (by have h_ : (t109 : Int) < ((y106.length : Int) : Int) := of_decide_eq_true (by first | (with_reducible assumption) | assumption); first | exact h_ | (have e_ := (Kd.R_reads' HO_1.out).1; omega) | simpa using h_)
                              obtain rfl := k31_openM hM51
                              have HP51 := Kd.R_seg HX51.out (t109 : Int) (of_decide_eq_true (by first | (with_reducible assumption) | assumption)) (by have h_ : (t109 : Int) < ((y106.length : Int) : Int) := of_decide_eq_true (by first | (with_reducible assumption) | assumption); first | exact h_ | (have e_ := (Kd.R_reads' HO_1.out).1; omega) | simpa using h_) (seg := [.int .i64 1, .string (⟨#[97]⟩ : ByteArray), .int .i64 0, .int .i64 0]) (j := 0) hcl51 hcc51 (show 4 ≤ 4 from by decide) (x' := (⟨1, (⟨#[97]⟩ : ByteArray), 0, 0⟩ : S31)) (k31_mkM _ _ _ (⟨1, (⟨#[97]⟩ : ByteArray), 0, 0⟩ : S31) ) (fun _ hk => hk)
                              have hx51_0 := hcc51 0 _ rfl
                              (try simp only [show (k31).sz = 4 from rfl, Nat.mul_one, Nat.add_zero] at hx51_0)
                              have hf51_0 := hfr51 0
                              (try simp only [show (k31).sz = 4 from rfl, Nat.mul_one, Nat.add_zero] at hf51_0)
                              have hx51_1 := hcc51 1 _ rfl
                              (try simp only [show (k31).sz = 4 from rfl, Nat.mul_one, Nat.add_zero] at hx51_1)
                              have hf51_1 := hfr51 1
                              (try simp only [show (k31).sz = 4 from rfl, Nat.mul_one, Nat.add_zero] at hf51_1)
                              have hx51_2 := hcc51 2 _ rfl
                              (try simp only [show (k31).sz = 4 from rfl, Nat.mul_one, Nat.add_zero] at hx51_2)
                              have hf51_2 := hfr51 2
                              (try simp only [show (k31).sz = 4 from rfl, Nat.mul_one, Nat.add_zero] at hf51_2)
                              have hx51_3 := hcc51 3 _ rfl
                              (try simp only [show (k31).sz = 4 from rfl, Nat.mul_one, Nat.add_zero] at hx51_3)
                              have hf51_3 := hfr51 3
                              (try simp only [show (k31).sz = 4 from rfl, Nat.mul_one, Nat.add_zero] at hf51_3)
                              clear hcl51 hcc51 hfr51 hM51
                              go_wp2_with (first | ((with_reducible refine gate_store (t := 31) (p := 14) rfl ?_); refine store_event (t := 31) (p := 14) (v := ?vo_w52) (w1 := ((((wc.setCell ⟨go11, (t109 : Int).toNat * 4, none⟩ (.int .i64 1)).setCell ⟨go11, (t109 : Int).toNat * 4 + 1, none⟩ (.string (⟨#[97]⟩ : ByteArray))).setCell ⟨go11, (t109 : Int).toNat * 4 + 2, none⟩ (.int .i64 0)).setCell ⟨go11, (t109 : Int).toNat * 4 + 3, none⟩ (.int .i64 0))) ?hg ?ho ?hn ?hr ?_; (case ho => rfl); (case hg => rfl); (case hn => rfl); (case hr => first | (go_simp; done) | (go_simp; rfl)); intro w52 hw; have hg : wc.grownBy w52 (some go11) := (by rw [hw]; exact HP51.2); have hp_ : Kd.R k31 31 w52 w.heap.size (fun _ => True) (.slice (some ⟨go11, 0, none⟩) y106.length co11) y110 := (by rw [hw, Ny110.out]; exact HP51.1); clear HP51; have n0_ := Aside0.mk (hp_); have n1_ := Aside0.mk ((by rw [hw]; exact below_set (below_set (below_set (below_set (HB.out) GB11.out) GB11.out) GB11.out) GB11.out : Below w.heap.size w w52)); clear HO_1; clear HB; have HO_1 := n0_; have HB := n1_; clear n0_ n1_; clear hg hw hp_) | ((with_reducible refine gate_callee (f := 25) rfl ?_); refine goesL_ (some 15) rfl rfl Try.func25 (by kernel_rfl) rfl #[.slice none 0 0, .string (⟨#[97]⟩ : ByteArray)] rfl (by (try simp only [List.map_toArray, List.map_cons, List.map_nil]); first | done | rfl | (simp only [List.length_drop, List.length_take]; rfl)) ?_; (refine (probe_Find.calls _ _ ([] : List (S31)) (⟨#[97]⟩ : ByteArray) t111 _ ?side1 ?side2 A12.out).mono ?_); (case side1 => exact Kd.C_nil _ _); (case side2 => exact Nat.le_refl _); (try clear A12); rintro e w53 ⟨rfl, hb⟩; refine ⟨_, rfl, ?_⟩; have n0_ := Aside0.mk (Kd.R_below (by (with_reducible repeat (first | apply Kd.R_alloc | apply Kd.R_drewN | apply Kd.R_drew)); exact HO_1.out) hb); have n1_ := Aside0.mk (below_step (by repeat (first | (with_reducible first | exact HB.out | apply below_alloc | apply pw_below_drewN | apply below_drew1) | exact HB.out)) hb); clear HO_1; clear HB; have HO_1 := n0_; have HB := n1_; clear n0_ n1_; (try clear hb); (try clear hb2); (try clear hk); (try clear hi)) | (go_at_call 27; (refine (probe_Room.calls _ _ ([] : List (S31)) (⟨#[97]⟩ : ByteArray) t112 _ ?side1 ?side2 A14.out).mono ?_); (case side1 => exact Kd.C_nil _ _); (case side2 => exact Nat.le_refl _); (try clear A14); rintro e w54 ⟨rfl, hb⟩; have n0_ := Aside0.mk (Kd.R_below (by (with_reducible repeat (first | apply Kd.R_alloc | apply Kd.R_drewN | apply Kd.R_drew)); exact HO_1.out) hb); have n1_ := Aside0.mk (below_step (by repeat (first | (with_reducible first | exact HB.out | apply below_alloc | apply pw_below_drewN | apply below_drew1) | exact HB.out)) hb); clear HO_1; clear HB; have HO_1 := n0_; have HB := n1_; clear n0_ n1_; (try clear hb); (try clear hb2); (try clear hk); (try clear hi)) | (go_at_call 29; (with_reducible refine (probe_Home.calls (⟨#[97]⟩ : ByteArray) 0 t113 _ A16.out).mono ?_); (try clear A16); rintro e w55 ⟨rfl, hb⟩; have n0_ := Aside0.mk (Kd.R_below (by (with_reducible repeat (first | apply Kd.R_alloc | apply Kd.R_drewN | apply Kd.R_drew)); exact HO_1.out) hb); have n1_ := Aside0.mk (below_step (by repeat (first | (with_reducible first | exact HB.out | apply below_alloc | apply pw_below_drewN | apply below_drew1) | exact HB.out)) hb); clear HO_1; clear HB; have HO_1 := n0_; have HB := n1_; clear n0_ n1_; (try clear hb); (try clear hb2); (try clear hk); (try clear hi)) | (go_at_call 34; (with_reducible refine (fnv_Sum.calls (⟨#[97]⟩ : ByteArray) t114 _ A18.out).mono ?_); (try clear A18); rintro e w56 ⟨rfl, hb⟩; have n0_ := Aside0.mk (Kd.R_below (by (with_reducible repeat (first | apply Kd.R_alloc | apply Kd.R_drewN | apply Kd.R_drew)); exact HO_1.out) hb); have n1_ := Aside0.mk (below_step (by repeat (first | (with_reducible first | exact HB.out | apply below_alloc | apply pw_below_drewN | apply below_drew1) | exact HB.out)) hb); clear HO_1; clear HB; have HO_1 := n0_; have HB := n1_; clear n0_ n1_; (try clear hb); (try clear hb2); (try clear hk); (try clear hi)) | (go_at_call 25; refine calls_of_args (args' := #[.slice (some ⟨go11, 0, none⟩) y110.length co11, .string (⟨#[97]⟩ : ByteArray)]) (by first | (rw [show y110.length = y106.length from (Kd.R_reads' HO_1.out).1.symm] <;> rfl) | rfl) ?_; (with_reducible refine (probe_Find.calls _ _ y110 (⟨#[97]⟩ : ByteArray) t115 _ ?side1 ?side2 A20.out).mono ?_); (case side1 => repeat (first | exact (Kd.R_reads' HO_1.out).2.2 | (with_reducible refine Kd.C_alloc ?_ _) | (with_reducible refine Kd.C_drewN ?_ _) | (with_reducible refine Kd.C_drew ?_))); (case side2 => rw [show y110.length = y106.length from (Kd.R_reads' HO_1.out).1.symm]; exact (Kd.R_reads' HO_1.out).2.1); (try clear A20); rintro e w57 ⟨rfl, hb⟩; have n0_ := Aside0.mk (Kd.R_below (by (with_reducible repeat (first | apply Kd.R_alloc | apply Kd.R_drewN | apply Kd.R_drew)); exact HO_1.out) hb); have n1_ := Aside0.mk (below_step (by repeat (first | (with_reducible first | exact HB.out | apply below_alloc | apply pw_below_drewN | apply below_drew1) | exact HB.out)) hb); clear HO_1; clear HB; have HO_1 := n0_; have HB := n1_; clear n0_ n1_; (try clear hb); (try clear hb2); (try clear hk); (try clear hi)) | (go_at_call 27; refine calls_of_args (args' := #[.slice (some ⟨go11, 0, none⟩) y110.length co11, .string (⟨#[97]⟩ : ByteArray)]) (by first | (rw [show y110.length = y106.length from (Kd.R_reads' HO_1.out).1.symm] <;> rfl) | rfl) ?_; (with_reducible refine (probe_Room.calls _ _ y110 (⟨#[97]⟩ : ByteArray) t116 _ ?side1 ?side2 A22.out).mono ?_); (case side1 => repeat (first | exact (Kd.R_reads' HO_1.out).2.2 | (with_reducible refine Kd.C_alloc ?_ _) | (with_reducible refine Kd.C_drewN ?_ _) | (with_reducible refine Kd.C_drew ?_))); (case side2 => rw [show y110.length = y106.length from (Kd.R_reads' HO_1.out).1.symm]; exact (Kd.R_reads' HO_1.out).2.1); (try clear A22); rintro e w58 ⟨rfl, hb⟩; have n0_ := Aside0.mk (Kd.R_below (by (with_reducible repeat (first | apply Kd.R_alloc | apply Kd.R_drewN | apply Kd.R_drew)); exact HO_1.out) hb); have n1_ := Aside0.mk (below_step (by repeat (first | (with_reducible first | exact HB.out | apply below_alloc | apply pw_below_drewN | apply below_drew1) | exact HB.out)) hb); clear HO_1; clear HB; have HO_1 := n0_; have HB := n1_; clear n0_ n1_; (try clear hb); (try clear hb2); (try clear hk); (try clear hi)) | (go_at_call 31; refine calls_of_args (args' := #[.slice (some ⟨go11, 0, none⟩) y110.length co11, .int .i64 1]) (by first | (rw [show y110.length = y106.length from (Kd.R_reads' HO_1.out).1.symm] <;> rfl) | rfl) ?_; (with_reducible refine (probe_Count.calls _ _ y110 1 t117 _ ?side1 ?side2 A24.out).mono ?_); (case side1 => repeat (first | exact (Kd.R_reads' HO_1.out).2.2 | (with_reducible refine Kd.C_alloc ?_ _) | (with_reducible refine Kd.C_drewN ?_ _) | (with_reducible refine Kd.C_drew ?_))); (case side2 => rw [show y110.length = y106.length from (Kd.R_reads' HO_1.out).1.symm]; exact (Kd.R_reads' HO_1.out).2.1); (try clear A24); rintro e w59 ⟨rfl, hb⟩; have n0_ := Aside0.mk (Kd.R_below (by (with_reducible repeat (first | apply Kd.R_alloc | apply Kd.R_drewN | apply Kd.R_drew)); exact HO_1.out) hb); have n1_ := Aside0.mk (below_step (by repeat (first | (with_reducible first | exact HB.out | apply below_alloc | apply pw_below_drewN | apply below_drew1) | exact HB.out)) hb); clear HO_1; clear HB; have HO_1 := n0_; have HB := n1_; clear n0_ n1_; (try clear hb); (try clear hb2); (try clear hk); (try clear hi)) | (go_at_call 31; refine calls_of_args (args' := #[.slice (some ⟨go11, 0, none⟩) y110.length co11, .int .i64 0]) (by first | (rw [show y110.length = y106.length from (Kd.R_reads' HO_1.out).1.symm] <;> rfl) | rfl) ?_; (with_reducible refine (probe_Count.calls _ _ y110 0 t118 _ ?side1 ?side2 A26.out).mono ?_); (case side1 => repeat (first | exact (Kd.R_reads' HO_1.out).2.2 | (with_reducible refine Kd.C_alloc ?_ _) | (with_reducible refine Kd.C_drewN ?_ _) | (with_reducible refine Kd.C_drew ?_))); (case side2 => rw [show y110.length = y106.length from (Kd.R_reads' HO_1.out).1.symm]; exact (Kd.R_reads' HO_1.out).2.1); (try clear A26); rintro e w60 ⟨rfl, hb⟩; have n0_ := Aside0.mk (Kd.R_below (by (with_reducible repeat (first | apply Kd.R_alloc | apply Kd.R_drewN | apply Kd.R_drew)); exact HO_1.out) hb); have n1_ := Aside0.mk (below_step (by repeat (first | (with_reducible first | exact HB.out | apply below_alloc | apply pw_below_drewN | apply below_drew1) | exact HB.out)) hb); clear HO_1; clear HB; have HO_1 := n0_; have HB := n1_; clear n0_ n1_; (try clear hb); (try clear hb2); (try clear hk); (try clear hi)))
                              go_ret
                              exact ⟨by first | rfl | (simp [errW_none, errW_some] <;> rfl) | (simp [*, errW_none, errW_some] <;> rfl), by repeat (first | (with_reducible first | exact HB.out | apply below_alloc | apply pw_below_drewN | apply below_drew1) | exact HB.out)⟩
                          · rw [if_neg c25] at H
                            have c25b0 : (t117 == 1) = false := beq_eq_false_iff_ne.mpr c25
                            have c25b1 : (t117 != 1) = true := bne_iff_ne.mpr c25
                            obtain rfl := Option.some.inj H
                            have p11 : 0 ≤ (t109 : Int) := of_decide_eq_true (by first | (with_reducible assumption) | assumption)
                            have q11 : (t109 : Int) < ((y106.length : Int) : Int) := of_decide_eq_true (by first | (with_reducible assumption) | assumption)
                            obtain ⟨go11, co11, eo11, gb11, gl11, cl11, HG11⟩ := Kd.R_form HO_1.out (by omega)
                            (first | cases eo11 | (injection eo11 with ea_ en_ ec_; (first | subst ea_ | (injection ea_ with ea_; subst ea_)); subst ec_; clear en_))
                            have GB11 := Aside0.mk gb11
                            have GG11 := Aside0.mk HG11
                            clear gb11 gl11 HG11
                            obtain ⟨ce11, hcl11, hM11, hcc11, hfr11⟩ := Kd.R_elem HO_1.out z31 (t109 : Int) p11 q11
                            obtain rfl := k31_openM hM11
                            have hx11_0 : wc.cell? ⟨go11, (t109 : Int).toNat * 4, none⟩ = some (.int .i64 ((rd_T31 y106 t109).f0)) := hcc11 0 _ rfl
                            have hx11_1 : wc.cell? ⟨go11, (t109 : Int).toNat * 4 + 1, none⟩ = some (.string ((rd_T31 y106 t109).f1)) := hcc11 1 _ rfl
                            have hx11_2 : wc.cell? ⟨go11, (t109 : Int).toNat * 4 + 2, none⟩ = some (.int .i64 ((rd_T31 y106 t109).f2)) := hcc11 2 _ rfl
                            have hx11_3 : wc.cell? ⟨go11, (t109 : Int).toNat * 4 + 3, none⟩ = some (.int .i64 ((rd_T31 y106 t109).f3)) := hcc11 3 _ rfl
                            have hf11_0 : wc.frozen? ⟨go11, (t109 : Int).toNat * 4, none⟩ = false := hfr11 0
                            have hf11_1 : wc.frozen? ⟨go11, (t109 : Int).toNat * 4 + 1, none⟩ = false := hfr11 1
                            have hf11_2 : wc.frozen? ⟨go11, (t109 : Int).toNat * 4 + 2, none⟩ = false := hfr11 2
                            have hf11_3 : wc.frozen? ⟨go11, (t109 : Int).toNat * 4 + 3, none⟩ = false := hfr11 3
                            clear hcl11 hcc11 hfr11 hM11
                            replace p11 := eq_true p11
                            replace q11 := eq_true q11
                            have HX61 := Aside0.mk (show Kd.R k31 31 wc w.heap.size (fun _ => True) (.slice (some ⟨go11, 0, none⟩) y106.length co11) y106 from (by (with_reducible repeat (first | apply Kd.R_alloc | apply Kd.R_drewN | apply Kd.R_drew)); exact HO_1.out))
                            obtain ⟨ce61, hcl61, hM61, hcc61, hfr61⟩ := Kd.R_elem HX61.out z31 (t109 : Int) (of_decide_eq_true (by first | (with_reducible assumption) | assumption)) (by have h_ : (t109 : Int) < ((y106.length : Int) : Int) := of_decide_eq_true (by first | (with_reducible assumption) | assumption); first | exact h_ | (have e_ := (Kd.R_reads' HO_1.out).1; omega) | simpa using h_)
                            obtain rfl := k31_openM hM61
                            have HP61 := Kd.R_seg HX61.out (t109 : Int) (of_decide_eq_true (by first | (with_reducible assumption) | assumption)) (by have h_ : (t109 : Int) < ((y106.length : Int) : Int) := of_decide_eq_true (by first | (with_reducible assumption) | assumption); first | exact h_ | (have e_ := (Kd.R_reads' HO_1.out).1; omega) | simpa using h_) (seg := [.int .i64 1, .string (⟨#[97]⟩ : ByteArray), .int .i64 0, .int .i64 0]) (j := 0) hcl61 hcc61 (show 4 ≤ 4 from by decide) (x' := (⟨1, (⟨#[97]⟩ : ByteArray), 0, 0⟩ : S31)) (k31_mkM _ _ _ (⟨1, (⟨#[97]⟩ : ByteArray), 0, 0⟩ : S31) ) (fun _ hk => hk)
                            have hx61_0 := hcc61 0 _ rfl
                            (try simp only [show (k31).sz = 4 from rfl, Nat.mul_one, Nat.add_zero] at hx61_0)
                            have hf61_0 := hfr61 0
                            (try simp only [show (k31).sz = 4 from rfl, Nat.mul_one, Nat.add_zero] at hf61_0)
                            have hx61_1 := hcc61 1 _ rfl
                            (try simp only [show (k31).sz = 4 from rfl, Nat.mul_one, Nat.add_zero] at hx61_1)
                            have hf61_1 := hfr61 1
                            (try simp only [show (k31).sz = 4 from rfl, Nat.mul_one, Nat.add_zero] at hf61_1)
                            have hx61_2 := hcc61 2 _ rfl
                            (try simp only [show (k31).sz = 4 from rfl, Nat.mul_one, Nat.add_zero] at hx61_2)
                            have hf61_2 := hfr61 2
                            (try simp only [show (k31).sz = 4 from rfl, Nat.mul_one, Nat.add_zero] at hf61_2)
                            have hx61_3 := hcc61 3 _ rfl
                            (try simp only [show (k31).sz = 4 from rfl, Nat.mul_one, Nat.add_zero] at hx61_3)
                            have hf61_3 := hfr61 3
                            (try simp only [show (k31).sz = 4 from rfl, Nat.mul_one, Nat.add_zero] at hf61_3)
                            clear hcl61 hcc61 hfr61 hM61
                            go_wp2_with (first | ((with_reducible refine gate_store (t := 31) (p := 14) rfl ?_); refine store_event (t := 31) (p := 14) (v := ?vo_w62) (w1 := ((((wc.setCell ⟨go11, (t109 : Int).toNat * 4, none⟩ (.int .i64 1)).setCell ⟨go11, (t109 : Int).toNat * 4 + 1, none⟩ (.string (⟨#[97]⟩ : ByteArray))).setCell ⟨go11, (t109 : Int).toNat * 4 + 2, none⟩ (.int .i64 0)).setCell ⟨go11, (t109 : Int).toNat * 4 + 3, none⟩ (.int .i64 0))) ?hg ?ho ?hn ?hr ?_; (case ho => rfl); (case hg => rfl); (case hn => rfl); (case hr => first | (go_simp; done) | (go_simp; rfl)); intro w62 hw; have hg : wc.grownBy w62 (some go11) := (by rw [hw]; exact HP61.2); have hp_ : Kd.R k31 31 w62 w.heap.size (fun _ => True) (.slice (some ⟨go11, 0, none⟩) y106.length co11) y110 := (by rw [hw, Ny110.out]; exact HP61.1); clear HP61; have n0_ := Aside0.mk (hp_); have n1_ := Aside0.mk ((by rw [hw]; exact below_set (below_set (below_set (below_set (HB.out) GB11.out) GB11.out) GB11.out) GB11.out : Below w.heap.size w w62)); clear HO_1; clear HB; have HO_1 := n0_; have HB := n1_; clear n0_ n1_; clear hg hw hp_) | ((with_reducible refine gate_callee (f := 25) rfl ?_); refine goesL_ (some 15) rfl rfl Try.func25 (by kernel_rfl) rfl #[.slice none 0 0, .string (⟨#[97]⟩ : ByteArray)] rfl (by (try simp only [List.map_toArray, List.map_cons, List.map_nil]); first | done | rfl | (simp only [List.length_drop, List.length_take]; rfl)) ?_; (refine (probe_Find.calls _ _ ([] : List (S31)) (⟨#[97]⟩ : ByteArray) t111 _ ?side1 ?side2 A12.out).mono ?_); (case side1 => exact Kd.C_nil _ _); (case side2 => exact Nat.le_refl _); (try clear A12); rintro e w63 ⟨rfl, hb⟩; refine ⟨_, rfl, ?_⟩; have n0_ := Aside0.mk (Kd.R_below (by (with_reducible repeat (first | apply Kd.R_alloc | apply Kd.R_drewN | apply Kd.R_drew)); exact HO_1.out) hb); have n1_ := Aside0.mk (below_step (by repeat (first | (with_reducible first | exact HB.out | apply below_alloc | apply pw_below_drewN | apply below_drew1) | exact HB.out)) hb); clear HO_1; clear HB; have HO_1 := n0_; have HB := n1_; clear n0_ n1_; (try clear hb); (try clear hb2); (try clear hk); (try clear hi)) | (go_at_call 27; (refine (probe_Room.calls _ _ ([] : List (S31)) (⟨#[97]⟩ : ByteArray) t112 _ ?side1 ?side2 A14.out).mono ?_); (case side1 => exact Kd.C_nil _ _); (case side2 => exact Nat.le_refl _); (try clear A14); rintro e w64 ⟨rfl, hb⟩; have n0_ := Aside0.mk (Kd.R_below (by (with_reducible repeat (first | apply Kd.R_alloc | apply Kd.R_drewN | apply Kd.R_drew)); exact HO_1.out) hb); have n1_ := Aside0.mk (below_step (by repeat (first | (with_reducible first | exact HB.out | apply below_alloc | apply pw_below_drewN | apply below_drew1) | exact HB.out)) hb); clear HO_1; clear HB; have HO_1 := n0_; have HB := n1_; clear n0_ n1_; (try clear hb); (try clear hb2); (try clear hk); (try clear hi)) | (go_at_call 29; (with_reducible refine (probe_Home.calls (⟨#[97]⟩ : ByteArray) 0 t113 _ A16.out).mono ?_); (try clear A16); rintro e w65 ⟨rfl, hb⟩; have n0_ := Aside0.mk (Kd.R_below (by (with_reducible repeat (first | apply Kd.R_alloc | apply Kd.R_drewN | apply Kd.R_drew)); exact HO_1.out) hb); have n1_ := Aside0.mk (below_step (by repeat (first | (with_reducible first | exact HB.out | apply below_alloc | apply pw_below_drewN | apply below_drew1) | exact HB.out)) hb); clear HO_1; clear HB; have HO_1 := n0_; have HB := n1_; clear n0_ n1_; (try clear hb); (try clear hb2); (try clear hk); (try clear hi)) | (go_at_call 34; (with_reducible refine (fnv_Sum.calls (⟨#[97]⟩ : ByteArray) t114 _ A18.out).mono ?_); (try clear A18); rintro e w66 ⟨rfl, hb⟩; have n0_ := Aside0.mk (Kd.R_below (by (with_reducible repeat (first | apply Kd.R_alloc | apply Kd.R_drewN | apply Kd.R_drew)); exact HO_1.out) hb); have n1_ := Aside0.mk (below_step (by repeat (first | (with_reducible first | exact HB.out | apply below_alloc | apply pw_below_drewN | apply below_drew1) | exact HB.out)) hb); clear HO_1; clear HB; have HO_1 := n0_; have HB := n1_; clear n0_ n1_; (try clear hb); (try clear hb2); (try clear hk); (try clear hi)) | (go_at_call 25; refine calls_of_args (args' := #[.slice (some ⟨go11, 0, none⟩) y110.length co11, .string (⟨#[97]⟩ : ByteArray)]) (by first | (rw [show y110.length = y106.length from (Kd.R_reads' HO_1.out).1.symm] <;> rfl) | rfl) ?_; (with_reducible refine (probe_Find.calls _ _ y110 (⟨#[97]⟩ : ByteArray) t115 _ ?side1 ?side2 A20.out).mono ?_); (case side1 => repeat (first | exact (Kd.R_reads' HO_1.out).2.2 | (with_reducible refine Kd.C_alloc ?_ _) | (with_reducible refine Kd.C_drewN ?_ _) | (with_reducible refine Kd.C_drew ?_))); (case side2 => rw [show y110.length = y106.length from (Kd.R_reads' HO_1.out).1.symm]; exact (Kd.R_reads' HO_1.out).2.1); (try clear A20); rintro e w67 ⟨rfl, hb⟩; have n0_ := Aside0.mk (Kd.R_below (by (with_reducible repeat (first | apply Kd.R_alloc | apply Kd.R_drewN | apply Kd.R_drew)); exact HO_1.out) hb); have n1_ := Aside0.mk (below_step (by repeat (first | (with_reducible first | exact HB.out | apply below_alloc | apply pw_below_drewN | apply below_drew1) | exact HB.out)) hb); clear HO_1; clear HB; have HO_1 := n0_; have HB := n1_; clear n0_ n1_; (try clear hb); (try clear hb2); (try clear hk); (try clear hi)) | (go_at_call 27; refine calls_of_args (args' := #[.slice (some ⟨go11, 0, none⟩) y110.length co11, .string (⟨#[97]⟩ : ByteArray)]) (by first | (rw [show y110.length = y106.length from (Kd.R_reads' HO_1.out).1.symm] <;> rfl) | rfl) ?_; (with_reducible refine (probe_Room.calls _ _ y110 (⟨#[97]⟩ : ByteArray) t116 _ ?side1 ?side2 A22.out).mono ?_); (case side1 => repeat (first | exact (Kd.R_reads' HO_1.out).2.2 | (with_reducible refine Kd.C_alloc ?_ _) | (with_reducible refine Kd.C_drewN ?_ _) | (with_reducible refine Kd.C_drew ?_))); (case side2 => rw [show y110.length = y106.length from (Kd.R_reads' HO_1.out).1.symm]; exact (Kd.R_reads' HO_1.out).2.1); (try clear A22); rintro e w68 ⟨rfl, hb⟩; have n0_ := Aside0.mk (Kd.R_below (by (with_reducible repeat (first | apply Kd.R_alloc | apply Kd.R_drewN | apply Kd.R_drew)); exact HO_1.out) hb); have n1_ := Aside0.mk (below_step (by repeat (first | (with_reducible first | exact HB.out | apply below_alloc | apply pw_below_drewN | apply below_drew1) | exact HB.out)) hb); clear HO_1; clear HB; have HO_1 := n0_; have HB := n1_; clear n0_ n1_; (try clear hb); (try clear hb2); (try clear hk); (try clear hi)) | (go_at_call 31; refine calls_of_args (args' := #[.slice (some ⟨go11, 0, none⟩) y110.length co11, .int .i64 1]) (by first | (rw [show y110.length = y106.length from (Kd.R_reads' HO_1.out).1.symm] <;> rfl) | rfl) ?_; (with_reducible refine (probe_Count.calls _ _ y110 1 t117 _ ?side1 ?side2 A24.out).mono ?_); (case side1 => repeat (first | exact (Kd.R_reads' HO_1.out).2.2 | (with_reducible refine Kd.C_alloc ?_ _) | (with_reducible refine Kd.C_drewN ?_ _) | (with_reducible refine Kd.C_drew ?_))); (case side2 => rw [show y110.length = y106.length from (Kd.R_reads' HO_1.out).1.symm]; exact (Kd.R_reads' HO_1.out).2.1); (try clear A24); rintro e w69 ⟨rfl, hb⟩; have n0_ := Aside0.mk (Kd.R_below (by (with_reducible repeat (first | apply Kd.R_alloc | apply Kd.R_drewN | apply Kd.R_drew)); exact HO_1.out) hb); have n1_ := Aside0.mk (below_step (by repeat (first | (with_reducible first | exact HB.out | apply below_alloc | apply pw_below_drewN | apply below_drew1) | exact HB.out)) hb); clear HO_1; clear HB; have HO_1 := n0_; have HB := n1_; clear n0_ n1_; (try clear hb); (try clear hb2); (try clear hk); (try clear hi)))
                            go_ret
                            exact ⟨by first | rfl | (simp [errW_none, errW_some] <;> rfl) | (simp [*, errW_none, errW_some] <;> rfl), by repeat (first | (with_reducible first | exact HB.out | apply below_alloc | apply pw_below_drewN | apply below_drew1) | exact HB.out)⟩
                        · rw [if_neg c23] at H
                          have c23b0 : (t116 == (-1)) = false := beq_eq_false_iff_ne.mpr c23
                          have c23b1 : (t116 != (-1)) = true := bne_iff_ne.mpr c23
                          obtain rfl := Option.some.inj H
                          have p11 : 0 ≤ (t109 : Int) := of_decide_eq_true (by first | (with_reducible assumption) | assumption)
                          have q11 : (t109 : Int) < ((y106.length : Int) : Int) := of_decide_eq_true (by first | (with_reducible assumption) | assumption)
                          obtain ⟨go11, co11, eo11, gb11, gl11, cl11, HG11⟩ := Kd.R_form HO_1.out (by omega)
                          (first | cases eo11 | (injection eo11 with ea_ en_ ec_; (first | subst ea_ | (injection ea_ with ea_; subst ea_)); subst ec_; clear en_))
                          have GB11 := Aside0.mk gb11
                          have GG11 := Aside0.mk HG11
                          clear gb11 gl11 HG11
                          obtain ⟨ce11, hcl11, hM11, hcc11, hfr11⟩ := Kd.R_elem HO_1.out z31 (t109 : Int) p11 q11
                          obtain rfl := k31_openM hM11
                          have hx11_0 : wc.cell? ⟨go11, (t109 : Int).toNat * 4, none⟩ = some (.int .i64 ((rd_T31 y106 t109).f0)) := hcc11 0 _ rfl
                          have hx11_1 : wc.cell? ⟨go11, (t109 : Int).toNat * 4 + 1, none⟩ = some (.string ((rd_T31 y106 t109).f1)) := hcc11 1 _ rfl
                          have hx11_2 : wc.cell? ⟨go11, (t109 : Int).toNat * 4 + 2, none⟩ = some (.int .i64 ((rd_T31 y106 t109).f2)) := hcc11 2 _ rfl
                          have hx11_3 : wc.cell? ⟨go11, (t109 : Int).toNat * 4 + 3, none⟩ = some (.int .i64 ((rd_T31 y106 t109).f3)) := hcc11 3 _ rfl
                          have hf11_0 : wc.frozen? ⟨go11, (t109 : Int).toNat * 4, none⟩ = false := hfr11 0
                          have hf11_1 : wc.frozen? ⟨go11, (t109 : Int).toNat * 4 + 1, none⟩ = false := hfr11 1
                          have hf11_2 : wc.frozen? ⟨go11, (t109 : Int).toNat * 4 + 2, none⟩ = false := hfr11 2
                          have hf11_3 : wc.frozen? ⟨go11, (t109 : Int).toNat * 4 + 3, none⟩ = false := hfr11 3
                          clear hcl11 hcc11 hfr11 hM11
                          replace p11 := eq_true p11
                          replace q11 := eq_true q11
                          have HX70 := Aside0.mk (show Kd.R k31 31 wc w.heap.size (fun _ => True) (.slice (some ⟨go11, 0, none⟩) y106.length co11) y106 from (by (with_reducible repeat (first | apply Kd.R_alloc | apply Kd.R_drewN | apply Kd.R_drew)); exact HO_1.out))
                          obtain ⟨ce70, hcl70, hM70, hcc70, hfr70⟩ := Kd.R_elem HX70.out z31 (t109 : Int) (of_decide_eq_true (by first | (with_reducible assumption) | assumption)) (by have h_ : (t109 : Int) < ((y106.length : Int) : Int) := of_decide_eq_true (by first | (with_reducible assumption) | assumption); first | exact h_ | (have e_ := (Kd.R_reads' HO_1.out).1; omega) | simpa using h_)
                          obtain rfl := k31_openM hM70
                          have HP70 := Kd.R_seg HX70.out (t109 : Int) (of_decide_eq_true (by first | (with_reducible assumption) | assumption)) (by have h_ : (t109 : Int) < ((y106.length : Int) : Int) := of_decide_eq_true (by first | (with_reducible assumption) | assumption); first | exact h_ | (have e_ := (Kd.R_reads' HO_1.out).1; omega) | simpa using h_) (seg := [.int .i64 1, .string (⟨#[97]⟩ : ByteArray), .int .i64 0, .int .i64 0]) (j := 0) hcl70 hcc70 (show 4 ≤ 4 from by decide) (x' := (⟨1, (⟨#[97]⟩ : ByteArray), 0, 0⟩ : S31)) (k31_mkM _ _ _ (⟨1, (⟨#[97]⟩ : ByteArray), 0, 0⟩ : S31) ) (fun _ hk => hk)
                          have hx70_0 := hcc70 0 _ rfl
                          (try simp only [show (k31).sz = 4 from rfl, Nat.mul_one, Nat.add_zero] at hx70_0)
                          have hf70_0 := hfr70 0
                          (try simp only [show (k31).sz = 4 from rfl, Nat.mul_one, Nat.add_zero] at hf70_0)
                          have hx70_1 := hcc70 1 _ rfl
                          (try simp only [show (k31).sz = 4 from rfl, Nat.mul_one, Nat.add_zero] at hx70_1)
                          have hf70_1 := hfr70 1
                          (try simp only [show (k31).sz = 4 from rfl, Nat.mul_one, Nat.add_zero] at hf70_1)
                          have hx70_2 := hcc70 2 _ rfl
                          (try simp only [show (k31).sz = 4 from rfl, Nat.mul_one, Nat.add_zero] at hx70_2)
                          have hf70_2 := hfr70 2
                          (try simp only [show (k31).sz = 4 from rfl, Nat.mul_one, Nat.add_zero] at hf70_2)
                          have hx70_3 := hcc70 3 _ rfl
                          (try simp only [show (k31).sz = 4 from rfl, Nat.mul_one, Nat.add_zero] at hx70_3)
                          have hf70_3 := hfr70 3
                          (try simp only [show (k31).sz = 4 from rfl, Nat.mul_one, Nat.add_zero] at hf70_3)
                          clear hcl70 hcc70 hfr70 hM70
                          go_wp2_with (first | ((with_reducible refine gate_store (t := 31) (p := 14) rfl ?_); refine store_event (t := 31) (p := 14) (v := ?vo_w71) (w1 := ((((wc.setCell ⟨go11, (t109 : Int).toNat * 4, none⟩ (.int .i64 1)).setCell ⟨go11, (t109 : Int).toNat * 4 + 1, none⟩ (.string (⟨#[97]⟩ : ByteArray))).setCell ⟨go11, (t109 : Int).toNat * 4 + 2, none⟩ (.int .i64 0)).setCell ⟨go11, (t109 : Int).toNat * 4 + 3, none⟩ (.int .i64 0))) ?hg ?ho ?hn ?hr ?_; (case ho => rfl); (case hg => rfl); (case hn => rfl); (case hr => first | (go_simp; done) | (go_simp; rfl)); intro w71 hw; have hg : wc.grownBy w71 (some go11) := (by rw [hw]; exact HP70.2); have hp_ : Kd.R k31 31 w71 w.heap.size (fun _ => True) (.slice (some ⟨go11, 0, none⟩) y106.length co11) y110 := (by rw [hw, Ny110.out]; exact HP70.1); clear HP70; have n0_ := Aside0.mk (hp_); have n1_ := Aside0.mk ((by rw [hw]; exact below_set (below_set (below_set (below_set (HB.out) GB11.out) GB11.out) GB11.out) GB11.out : Below w.heap.size w w71)); clear HO_1; clear HB; have HO_1 := n0_; have HB := n1_; clear n0_ n1_; clear hg hw hp_) | ((with_reducible refine gate_callee (f := 25) rfl ?_); refine goesL_ (some 15) rfl rfl Try.func25 (by kernel_rfl) rfl #[.slice none 0 0, .string (⟨#[97]⟩ : ByteArray)] rfl (by (try simp only [List.map_toArray, List.map_cons, List.map_nil]); first | done | rfl | (simp only [List.length_drop, List.length_take]; rfl)) ?_; (refine (probe_Find.calls _ _ ([] : List (S31)) (⟨#[97]⟩ : ByteArray) t111 _ ?side1 ?side2 A12.out).mono ?_); (case side1 => exact Kd.C_nil _ _); (case side2 => exact Nat.le_refl _); (try clear A12); rintro e w72 ⟨rfl, hb⟩; refine ⟨_, rfl, ?_⟩; have n0_ := Aside0.mk (Kd.R_below (by (with_reducible repeat (first | apply Kd.R_alloc | apply Kd.R_drewN | apply Kd.R_drew)); exact HO_1.out) hb); have n1_ := Aside0.mk (below_step (by repeat (first | (with_reducible first | exact HB.out | apply below_alloc | apply pw_below_drewN | apply below_drew1) | exact HB.out)) hb); clear HO_1; clear HB; have HO_1 := n0_; have HB := n1_; clear n0_ n1_; (try clear hb); (try clear hb2); (try clear hk); (try clear hi)) | (go_at_call 27; (refine (probe_Room.calls _ _ ([] : List (S31)) (⟨#[97]⟩ : ByteArray) t112 _ ?side1 ?side2 A14.out).mono ?_); (case side1 => exact Kd.C_nil _ _); (case side2 => exact Nat.le_refl _); (try clear A14); rintro e w73 ⟨rfl, hb⟩; have n0_ := Aside0.mk (Kd.R_below (by (with_reducible repeat (first | apply Kd.R_alloc | apply Kd.R_drewN | apply Kd.R_drew)); exact HO_1.out) hb); have n1_ := Aside0.mk (below_step (by repeat (first | (with_reducible first | exact HB.out | apply below_alloc | apply pw_below_drewN | apply below_drew1) | exact HB.out)) hb); clear HO_1; clear HB; have HO_1 := n0_; have HB := n1_; clear n0_ n1_; (try clear hb); (try clear hb2); (try clear hk); (try clear hi)) | (go_at_call 29; (with_reducible refine (probe_Home.calls (⟨#[97]⟩ : ByteArray) 0 t113 _ A16.out).mono ?_); (try clear A16); rintro e w74 ⟨rfl, hb⟩; have n0_ := Aside0.mk (Kd.R_below (by (with_reducible repeat (first | apply Kd.R_alloc | apply Kd.R_drewN | apply Kd.R_drew)); exact HO_1.out) hb); have n1_ := Aside0.mk (below_step (by repeat (first | (with_reducible first | exact HB.out | apply below_alloc | apply pw_below_drewN | apply below_drew1) | exact HB.out)) hb); clear HO_1; clear HB; have HO_1 := n0_; have HB := n1_; clear n0_ n1_; (try clear hb); (try clear hb2); (try clear hk); (try clear hi)) | (go_at_call 34; (with_reducible refine (fnv_Sum.calls (⟨#[97]⟩ : ByteArray) t114 _ A18.out).mono ?_); (try clear A18); rintro e w75 ⟨rfl, hb⟩; have n0_ := Aside0.mk (Kd.R_below (by (with_reducible repeat (first | apply Kd.R_alloc | apply Kd.R_drewN | apply Kd.R_drew)); exact HO_1.out) hb); have n1_ := Aside0.mk (below_step (by repeat (first | (with_reducible first | exact HB.out | apply below_alloc | apply pw_below_drewN | apply below_drew1) | exact HB.out)) hb); clear HO_1; clear HB; have HO_1 := n0_; have HB := n1_; clear n0_ n1_; (try clear hb); (try clear hb2); (try clear hk); (try clear hi)) | (go_at_call 25; refine calls_of_args (args' := #[.slice (some ⟨go11, 0, none⟩) y110.length co11, .string (⟨#[97]⟩ : ByteArray)]) (by first | (rw [show y110.length = y106.length from (Kd.R_reads' HO_1.out).1.symm] <;> rfl) | rfl) ?_; (with_reducible refine (probe_Find.calls _ _ y110 (⟨#[97]⟩ : ByteArray) t115 _ ?side1 ?side2 A20.out).mono ?_); (case side1 => repeat (first | exact (Kd.R_reads' HO_1.out).2.2 | (with_reducible refine Kd.C_alloc ?_ _) | (with_reducible refine Kd.C_drewN ?_ _) | (with_reducible refine Kd.C_drew ?_))); (case side2 => rw [show y110.length = y106.length from (Kd.R_reads' HO_1.out).1.symm]; exact (Kd.R_reads' HO_1.out).2.1); (try clear A20); rintro e w76 ⟨rfl, hb⟩; have n0_ := Aside0.mk (Kd.R_below (by (with_reducible repeat (first | apply Kd.R_alloc | apply Kd.R_drewN | apply Kd.R_drew)); exact HO_1.out) hb); have n1_ := Aside0.mk (below_step (by repeat (first | (with_reducible first | exact HB.out | apply below_alloc | apply pw_below_drewN | apply below_drew1) | exact HB.out)) hb); clear HO_1; clear HB; have HO_1 := n0_; have HB := n1_; clear n0_ n1_; (try clear hb); (try clear hb2); (try clear hk); (try clear hi)) | (go_at_call 27; refine calls_of_args (args' := #[.slice (some ⟨go11, 0, none⟩) y110.length co11, .string (⟨#[97]⟩ : ByteArray)]) (by first | (rw [show y110.length = y106.length from (Kd.R_reads' HO_1.out).1.symm] <;> rfl) | rfl) ?_; (with_reducible refine (probe_Room.calls _ _ y110 (⟨#[97]⟩ : ByteArray) t116 _ ?side1 ?side2 A22.out).mono ?_); (case side1 => repeat (first | exact (Kd.R_reads' HO_1.out).2.2 | (with_reducible refine Kd.C_alloc ?_ _) | (with_reducible refine Kd.C_drewN ?_ _) | (with_reducible refine Kd.C_drew ?_))); (case side2 => rw [show y110.length = y106.length from (Kd.R_reads' HO_1.out).1.symm]; exact (Kd.R_reads' HO_1.out).2.1); (try clear A22); rintro e w77 ⟨rfl, hb⟩; have n0_ := Aside0.mk (Kd.R_below (by (with_reducible repeat (first | apply Kd.R_alloc | apply Kd.R_drewN | apply Kd.R_drew)); exact HO_1.out) hb); have n1_ := Aside0.mk (below_step (by repeat (first | (with_reducible first | exact HB.out | apply below_alloc | apply pw_below_drewN | apply below_drew1) | exact HB.out)) hb); clear HO_1; clear HB; have HO_1 := n0_; have HB := n1_; clear n0_ n1_; (try clear hb); (try clear hb2); (try clear hk); (try clear hi)))
                          go_ret
                          exact ⟨by first | rfl | (simp [errW_none, errW_some] <;> rfl) | (simp [*, errW_none, errW_some] <;> rfl), by repeat (first | (with_reducible first | exact HB.out | apply below_alloc | apply pw_below_drewN | apply below_drew1) | exact HB.out)⟩
                      · rw [if_neg c21] at H
                        have c21b0 : (t115 == t109) = false := beq_eq_false_iff_ne.mpr c21
                        have c21b1 : (t115 != t109) = true := bne_iff_ne.mpr c21
                        obtain rfl := Option.some.inj H
                        have p11 : 0 ≤ (t109 : Int) := of_decide_eq_true (by first | (with_reducible assumption) | assumption)
                        have q11 : (t109 : Int) < ((y106.length : Int) : Int) := of_decide_eq_true (by first | (with_reducible assumption) | assumption)
                        obtain ⟨go11, co11, eo11, gb11, gl11, cl11, HG11⟩ := Kd.R_form HO_1.out (by omega)
                        (first | cases eo11 | (injection eo11 with ea_ en_ ec_; (first | subst ea_ | (injection ea_ with ea_; subst ea_)); subst ec_; clear en_))
                        have GB11 := Aside0.mk gb11
                        have GG11 := Aside0.mk HG11
                        clear gb11 gl11 HG11
                        obtain ⟨ce11, hcl11, hM11, hcc11, hfr11⟩ := Kd.R_elem HO_1.out z31 (t109 : Int) p11 q11
                        obtain rfl := k31_openM hM11
                        have hx11_0 : wc.cell? ⟨go11, (t109 : Int).toNat * 4, none⟩ = some (.int .i64 ((rd_T31 y106 t109).f0)) := hcc11 0 _ rfl
                        have hx11_1 : wc.cell? ⟨go11, (t109 : Int).toNat * 4 + 1, none⟩ = some (.string ((rd_T31 y106 t109).f1)) := hcc11 1 _ rfl
                        have hx11_2 : wc.cell? ⟨go11, (t109 : Int).toNat * 4 + 2, none⟩ = some (.int .i64 ((rd_T31 y106 t109).f2)) := hcc11 2 _ rfl
                        have hx11_3 : wc.cell? ⟨go11, (t109 : Int).toNat * 4 + 3, none⟩ = some (.int .i64 ((rd_T31 y106 t109).f3)) := hcc11 3 _ rfl
                        have hf11_0 : wc.frozen? ⟨go11, (t109 : Int).toNat * 4, none⟩ = false := hfr11 0
                        have hf11_1 : wc.frozen? ⟨go11, (t109 : Int).toNat * 4 + 1, none⟩ = false := hfr11 1
                        have hf11_2 : wc.frozen? ⟨go11, (t109 : Int).toNat * 4 + 2, none⟩ = false := hfr11 2
                        have hf11_3 : wc.frozen? ⟨go11, (t109 : Int).toNat * 4 + 3, none⟩ = false := hfr11 3
                        clear hcl11 hcc11 hfr11 hM11
                        replace p11 := eq_true p11
                        replace q11 := eq_true q11
                        have HX78 := Aside0.mk (show Kd.R k31 31 wc w.heap.size (fun _ => True) (.slice (some ⟨go11, 0, none⟩) y106.length co11) y106 from (by (with_reducible repeat (first | apply Kd.R_alloc | apply Kd.R_drewN | apply Kd.R_drew)); exact HO_1.out))
                        obtain ⟨ce78, hcl78, hM78, hcc78, hfr78⟩ := Kd.R_elem HX78.out z31 (t109 : Int) (of_decide_eq_true (by first | (with_reducible assumption) | assumption)) (by have h_ : (t109 : Int) < ((y106.length : Int) : Int) := of_decide_eq_true (by first | (with_reducible assumption) | assumption); first | exact h_ | (have e_ := (Kd.R_reads' HO_1.out).1; omega) | simpa using h_)
                        obtain rfl := k31_openM hM78
                        have HP78 := Kd.R_seg HX78.out (t109 : Int) (of_decide_eq_true (by first | (with_reducible assumption) | assumption)) (by have h_ : (t109 : Int) < ((y106.length : Int) : Int) := of_decide_eq_true (by first | (with_reducible assumption) | assumption); first | exact h_ | (have e_ := (Kd.R_reads' HO_1.out).1; omega) | simpa using h_) (seg := [.int .i64 1, .string (⟨#[97]⟩ : ByteArray), .int .i64 0, .int .i64 0]) (j := 0) hcl78 hcc78 (show 4 ≤ 4 from by decide) (x' := (⟨1, (⟨#[97]⟩ : ByteArray), 0, 0⟩ : S31)) (k31_mkM _ _ _ (⟨1, (⟨#[97]⟩ : ByteArray), 0, 0⟩ : S31) ) (fun _ hk => hk)
                        have hx78_0 := hcc78 0 _ rfl
                        (try simp only [show (k31).sz = 4 from rfl, Nat.mul_one, Nat.add_zero] at hx78_0)
                        have hf78_0 := hfr78 0
                        (try simp only [show (k31).sz = 4 from rfl, Nat.mul_one, Nat.add_zero] at hf78_0)
                        have hx78_1 := hcc78 1 _ rfl
                        (try simp only [show (k31).sz = 4 from rfl, Nat.mul_one, Nat.add_zero] at hx78_1)
                        have hf78_1 := hfr78 1
                        (try simp only [show (k31).sz = 4 from rfl, Nat.mul_one, Nat.add_zero] at hf78_1)
                        have hx78_2 := hcc78 2 _ rfl
                        (try simp only [show (k31).sz = 4 from rfl, Nat.mul_one, Nat.add_zero] at hx78_2)
                        have hf78_2 := hfr78 2
                        (try simp only [show (k31).sz = 4 from rfl, Nat.mul_one, Nat.add_zero] at hf78_2)
                        have hx78_3 := hcc78 3 _ rfl
                        (try simp only [show (k31).sz = 4 from rfl, Nat.mul_one, Nat.add_zero] at hx78_3)
                        have hf78_3 := hfr78 3
                        (try simp only [show (k31).sz = 4 from rfl, Nat.mul_one, Nat.add_zero] at hf78_3)
                        clear hcl78 hcc78 hfr78 hM78
                        go_wp2_with (first | ((with_reducible refine gate_store (t := 31) (p := 14) rfl ?_); refine store_event (t := 31) (p := 14) (v := ?vo_w79) (w1 := ((((wc.setCell ⟨go11, (t109 : Int).toNat * 4, none⟩ (.int .i64 1)).setCell ⟨go11, (t109 : Int).toNat * 4 + 1, none⟩ (.string (⟨#[97]⟩ : ByteArray))).setCell ⟨go11, (t109 : Int).toNat * 4 + 2, none⟩ (.int .i64 0)).setCell ⟨go11, (t109 : Int).toNat * 4 + 3, none⟩ (.int .i64 0))) ?hg ?ho ?hn ?hr ?_; (case ho => rfl); (case hg => rfl); (case hn => rfl); (case hr => first | (go_simp; done) | (go_simp; rfl)); intro w79 hw; have hg : wc.grownBy w79 (some go11) := (by rw [hw]; exact HP78.2); have hp_ : Kd.R k31 31 w79 w.heap.size (fun _ => True) (.slice (some ⟨go11, 0, none⟩) y106.length co11) y110 := (by rw [hw, Ny110.out]; exact HP78.1); clear HP78; have n0_ := Aside0.mk (hp_); have n1_ := Aside0.mk ((by rw [hw]; exact below_set (below_set (below_set (below_set (HB.out) GB11.out) GB11.out) GB11.out) GB11.out : Below w.heap.size w w79)); clear HO_1; clear HB; have HO_1 := n0_; have HB := n1_; clear n0_ n1_; clear hg hw hp_) | ((with_reducible refine gate_callee (f := 25) rfl ?_); refine goesL_ (some 15) rfl rfl Try.func25 (by kernel_rfl) rfl #[.slice none 0 0, .string (⟨#[97]⟩ : ByteArray)] rfl (by (try simp only [List.map_toArray, List.map_cons, List.map_nil]); first | done | rfl | (simp only [List.length_drop, List.length_take]; rfl)) ?_; (refine (probe_Find.calls _ _ ([] : List (S31)) (⟨#[97]⟩ : ByteArray) t111 _ ?side1 ?side2 A12.out).mono ?_); (case side1 => exact Kd.C_nil _ _); (case side2 => exact Nat.le_refl _); (try clear A12); rintro e w80 ⟨rfl, hb⟩; refine ⟨_, rfl, ?_⟩; have n0_ := Aside0.mk (Kd.R_below (by (with_reducible repeat (first | apply Kd.R_alloc | apply Kd.R_drewN | apply Kd.R_drew)); exact HO_1.out) hb); have n1_ := Aside0.mk (below_step (by repeat (first | (with_reducible first | exact HB.out | apply below_alloc | apply pw_below_drewN | apply below_drew1) | exact HB.out)) hb); clear HO_1; clear HB; have HO_1 := n0_; have HB := n1_; clear n0_ n1_; (try clear hb); (try clear hb2); (try clear hk); (try clear hi)) | (go_at_call 27; (refine (probe_Room.calls _ _ ([] : List (S31)) (⟨#[97]⟩ : ByteArray) t112 _ ?side1 ?side2 A14.out).mono ?_); (case side1 => exact Kd.C_nil _ _); (case side2 => exact Nat.le_refl _); (try clear A14); rintro e w81 ⟨rfl, hb⟩; have n0_ := Aside0.mk (Kd.R_below (by (with_reducible repeat (first | apply Kd.R_alloc | apply Kd.R_drewN | apply Kd.R_drew)); exact HO_1.out) hb); have n1_ := Aside0.mk (below_step (by repeat (first | (with_reducible first | exact HB.out | apply below_alloc | apply pw_below_drewN | apply below_drew1) | exact HB.out)) hb); clear HO_1; clear HB; have HO_1 := n0_; have HB := n1_; clear n0_ n1_; (try clear hb); (try clear hb2); (try clear hk); (try clear hi)) | (go_at_call 29; (with_reducible refine (probe_Home.calls (⟨#[97]⟩ : ByteArray) 0 t113 _ A16.out).mono ?_); (try clear A16); rintro e w82 ⟨rfl, hb⟩; have n0_ := Aside0.mk (Kd.R_below (by (with_reducible repeat (first | apply Kd.R_alloc | apply Kd.R_drewN | apply Kd.R_drew)); exact HO_1.out) hb); have n1_ := Aside0.mk (below_step (by repeat (first | (with_reducible first | exact HB.out | apply below_alloc | apply pw_below_drewN | apply below_drew1) | exact HB.out)) hb); clear HO_1; clear HB; have HO_1 := n0_; have HB := n1_; clear n0_ n1_; (try clear hb); (try clear hb2); (try clear hk); (try clear hi)) | (go_at_call 34; (with_reducible refine (fnv_Sum.calls (⟨#[97]⟩ : ByteArray) t114 _ A18.out).mono ?_); (try clear A18); rintro e w83 ⟨rfl, hb⟩; have n0_ := Aside0.mk (Kd.R_below (by (with_reducible repeat (first | apply Kd.R_alloc | apply Kd.R_drewN | apply Kd.R_drew)); exact HO_1.out) hb); have n1_ := Aside0.mk (below_step (by repeat (first | (with_reducible first | exact HB.out | apply below_alloc | apply pw_below_drewN | apply below_drew1) | exact HB.out)) hb); clear HO_1; clear HB; have HO_1 := n0_; have HB := n1_; clear n0_ n1_; (try clear hb); (try clear hb2); (try clear hk); (try clear hi)) | (go_at_call 25; refine calls_of_args (args' := #[.slice (some ⟨go11, 0, none⟩) y110.length co11, .string (⟨#[97]⟩ : ByteArray)]) (by first | (rw [show y110.length = y106.length from (Kd.R_reads' HO_1.out).1.symm] <;> rfl) | rfl) ?_; (with_reducible refine (probe_Find.calls _ _ y110 (⟨#[97]⟩ : ByteArray) t115 _ ?side1 ?side2 A20.out).mono ?_); (case side1 => repeat (first | exact (Kd.R_reads' HO_1.out).2.2 | (with_reducible refine Kd.C_alloc ?_ _) | (with_reducible refine Kd.C_drewN ?_ _) | (with_reducible refine Kd.C_drew ?_))); (case side2 => rw [show y110.length = y106.length from (Kd.R_reads' HO_1.out).1.symm]; exact (Kd.R_reads' HO_1.out).2.1); (try clear A20); rintro e w84 ⟨rfl, hb⟩; have n0_ := Aside0.mk (Kd.R_below (by (with_reducible repeat (first | apply Kd.R_alloc | apply Kd.R_drewN | apply Kd.R_drew)); exact HO_1.out) hb); have n1_ := Aside0.mk (below_step (by repeat (first | (with_reducible first | exact HB.out | apply below_alloc | apply pw_below_drewN | apply below_drew1) | exact HB.out)) hb); clear HO_1; clear HB; have HO_1 := n0_; have HB := n1_; clear n0_ n1_; (try clear hb); (try clear hb2); (try clear hk); (try clear hi)))
                        go_ret
                        exact ⟨by first | rfl | (simp [errW_none, errW_some] <;> rfl) | (simp [*, errW_none, errW_some] <;> rfl), by repeat (first | (with_reducible first | exact HB.out | apply below_alloc | apply pw_below_drewN | apply below_drew1) | exact HB.out)⟩
                    · rw [if_neg c19] at H
                      have c19b0 : (t109 == (wrap64 (Int.tmod t114 3))) = false := beq_eq_false_iff_ne.mpr c19
                      have c19b1 : (t109 != (wrap64 (Int.tmod t114 3))) = true := bne_iff_ne.mpr c19
                      obtain rfl := Option.some.inj H
                      have p11 : 0 ≤ (t109 : Int) := of_decide_eq_true (by first | (with_reducible assumption) | assumption)
                      have q11 : (t109 : Int) < ((y106.length : Int) : Int) := of_decide_eq_true (by first | (with_reducible assumption) | assumption)
                      obtain ⟨go11, co11, eo11, gb11, gl11, cl11, HG11⟩ := Kd.R_form HO_1.out (by omega)
                      (first | cases eo11 | (injection eo11 with ea_ en_ ec_; (first | subst ea_ | (injection ea_ with ea_; subst ea_)); subst ec_; clear en_))
                      have GB11 := Aside0.mk gb11
                      have GG11 := Aside0.mk HG11
                      clear gb11 gl11 HG11
                      obtain ⟨ce11, hcl11, hM11, hcc11, hfr11⟩ := Kd.R_elem HO_1.out z31 (t109 : Int) p11 q11
                      obtain rfl := k31_openM hM11
                      have hx11_0 : wc.cell? ⟨go11, (t109 : Int).toNat * 4, none⟩ = some (.int .i64 ((rd_T31 y106 t109).f0)) := hcc11 0 _ rfl
                      have hx11_1 : wc.cell? ⟨go11, (t109 : Int).toNat * 4 + 1, none⟩ = some (.string ((rd_T31 y106 t109).f1)) := hcc11 1 _ rfl
                      have hx11_2 : wc.cell? ⟨go11, (t109 : Int).toNat * 4 + 2, none⟩ = some (.int .i64 ((rd_T31 y106 t109).f2)) := hcc11 2 _ rfl
                      have hx11_3 : wc.cell? ⟨go11, (t109 : Int).toNat * 4 + 3, none⟩ = some (.int .i64 ((rd_T31 y106 t109).f3)) := hcc11 3 _ rfl
                      have hf11_0 : wc.frozen? ⟨go11, (t109 : Int).toNat * 4, none⟩ = false := hfr11 0
                      have hf11_1 : wc.frozen? ⟨go11, (t109 : Int).toNat * 4 + 1, none⟩ = false := hfr11 1
                      have hf11_2 : wc.frozen? ⟨go11, (t109 : Int).toNat * 4 + 2, none⟩ = false := hfr11 2
                      have hf11_3 : wc.frozen? ⟨go11, (t109 : Int).toNat * 4 + 3, none⟩ = false := hfr11 3
                      clear hcl11 hcc11 hfr11 hM11
                      replace p11 := eq_true p11
                      replace q11 := eq_true q11
                      have HX85 := Aside0.mk (show Kd.R k31 31 wc w.heap.size (fun _ => True) (.slice (some ⟨go11, 0, none⟩) y106.length co11) y106 from (by (with_reducible repeat (first | apply Kd.R_alloc | apply Kd.R_drewN | apply Kd.R_drew)); exact HO_1.out))
                      obtain ⟨ce85, hcl85, hM85, hcc85, hfr85⟩ := Kd.R_elem HX85.out z31 (t109 : Int) (of_decide_eq_true (by first | (with_reducible assumption) | assumption)) (by have h_ : (t109 : Int) < ((y106.length : Int) : Int) := of_decide_eq_true (by first | (with_reducible assumption) | assumption); first | exact h_ | (have e_ := (Kd.R_reads' HO_1.out).1; omega) | simpa using h_)
                      obtain rfl := k31_openM hM85
                      have HP85 := Kd.R_seg HX85.out (t109 : Int) (of_decide_eq_true (by first | (with_reducible assumption) | assumption)) (by have h_ : (t109 : Int) < ((y106.length : Int) : Int) := of_decide_eq_true (by first | (with_reducible assumption) | assumption); first | exact h_ | (have e_ := (Kd.R_reads' HO_1.out).1; omega) | simpa using h_) (seg := [.int .i64 1, .string (⟨#[97]⟩ : ByteArray), .int .i64 0, .int .i64 0]) (j := 0) hcl85 hcc85 (show 4 ≤ 4 from by decide) (x' := (⟨1, (⟨#[97]⟩ : ByteArray), 0, 0⟩ : S31)) (k31_mkM _ _ _ (⟨1, (⟨#[97]⟩ : ByteArray), 0, 0⟩ : S31) ) (fun _ hk => hk)
                      have hx85_0 := hcc85 0 _ rfl
                      (try simp only [show (k31).sz = 4 from rfl, Nat.mul_one, Nat.add_zero] at hx85_0)
                      have hf85_0 := hfr85 0
                      (try simp only [show (k31).sz = 4 from rfl, Nat.mul_one, Nat.add_zero] at hf85_0)
                      have hx85_1 := hcc85 1 _ rfl
                      (try simp only [show (k31).sz = 4 from rfl, Nat.mul_one, Nat.add_zero] at hx85_1)
                      have hf85_1 := hfr85 1
                      (try simp only [show (k31).sz = 4 from rfl, Nat.mul_one, Nat.add_zero] at hf85_1)
                      have hx85_2 := hcc85 2 _ rfl
                      (try simp only [show (k31).sz = 4 from rfl, Nat.mul_one, Nat.add_zero] at hx85_2)
                      have hf85_2 := hfr85 2
                      (try simp only [show (k31).sz = 4 from rfl, Nat.mul_one, Nat.add_zero] at hf85_2)
                      have hx85_3 := hcc85 3 _ rfl
                      (try simp only [show (k31).sz = 4 from rfl, Nat.mul_one, Nat.add_zero] at hx85_3)
                      have hf85_3 := hfr85 3
                      (try simp only [show (k31).sz = 4 from rfl, Nat.mul_one, Nat.add_zero] at hf85_3)
                      clear hcl85 hcc85 hfr85 hM85
                      go_wp2_with (first | ((with_reducible refine gate_store (t := 31) (p := 14) rfl ?_); refine store_event (t := 31) (p := 14) (v := ?vo_w86) (w1 := ((((wc.setCell ⟨go11, (t109 : Int).toNat * 4, none⟩ (.int .i64 1)).setCell ⟨go11, (t109 : Int).toNat * 4 + 1, none⟩ (.string (⟨#[97]⟩ : ByteArray))).setCell ⟨go11, (t109 : Int).toNat * 4 + 2, none⟩ (.int .i64 0)).setCell ⟨go11, (t109 : Int).toNat * 4 + 3, none⟩ (.int .i64 0))) ?hg ?ho ?hn ?hr ?_; (case ho => rfl); (case hg => rfl); (case hn => rfl); (case hr => first | (go_simp; done) | (go_simp; rfl)); intro w86 hw; have hg : wc.grownBy w86 (some go11) := (by rw [hw]; exact HP85.2); have hp_ : Kd.R k31 31 w86 w.heap.size (fun _ => True) (.slice (some ⟨go11, 0, none⟩) y106.length co11) y110 := (by rw [hw, Ny110.out]; exact HP85.1); clear HP85; have n0_ := Aside0.mk (hp_); have n1_ := Aside0.mk ((by rw [hw]; exact below_set (below_set (below_set (below_set (HB.out) GB11.out) GB11.out) GB11.out) GB11.out : Below w.heap.size w w86)); clear HO_1; clear HB; have HO_1 := n0_; have HB := n1_; clear n0_ n1_; clear hg hw hp_) | ((with_reducible refine gate_callee (f := 25) rfl ?_); refine goesL_ (some 15) rfl rfl Try.func25 (by kernel_rfl) rfl #[.slice none 0 0, .string (⟨#[97]⟩ : ByteArray)] rfl (by (try simp only [List.map_toArray, List.map_cons, List.map_nil]); first | done | rfl | (simp only [List.length_drop, List.length_take]; rfl)) ?_; (refine (probe_Find.calls _ _ ([] : List (S31)) (⟨#[97]⟩ : ByteArray) t111 _ ?side1 ?side2 A12.out).mono ?_); (case side1 => exact Kd.C_nil _ _); (case side2 => exact Nat.le_refl _); (try clear A12); rintro e w87 ⟨rfl, hb⟩; refine ⟨_, rfl, ?_⟩; have n0_ := Aside0.mk (Kd.R_below (by (with_reducible repeat (first | apply Kd.R_alloc | apply Kd.R_drewN | apply Kd.R_drew)); exact HO_1.out) hb); have n1_ := Aside0.mk (below_step (by repeat (first | (with_reducible first | exact HB.out | apply below_alloc | apply pw_below_drewN | apply below_drew1) | exact HB.out)) hb); clear HO_1; clear HB; have HO_1 := n0_; have HB := n1_; clear n0_ n1_; (try clear hb); (try clear hb2); (try clear hk); (try clear hi)) | (go_at_call 27; (refine (probe_Room.calls _ _ ([] : List (S31)) (⟨#[97]⟩ : ByteArray) t112 _ ?side1 ?side2 A14.out).mono ?_); (case side1 => exact Kd.C_nil _ _); (case side2 => exact Nat.le_refl _); (try clear A14); rintro e w88 ⟨rfl, hb⟩; have n0_ := Aside0.mk (Kd.R_below (by (with_reducible repeat (first | apply Kd.R_alloc | apply Kd.R_drewN | apply Kd.R_drew)); exact HO_1.out) hb); have n1_ := Aside0.mk (below_step (by repeat (first | (with_reducible first | exact HB.out | apply below_alloc | apply pw_below_drewN | apply below_drew1) | exact HB.out)) hb); clear HO_1; clear HB; have HO_1 := n0_; have HB := n1_; clear n0_ n1_; (try clear hb); (try clear hb2); (try clear hk); (try clear hi)) | (go_at_call 29; (with_reducible refine (probe_Home.calls (⟨#[97]⟩ : ByteArray) 0 t113 _ A16.out).mono ?_); (try clear A16); rintro e w89 ⟨rfl, hb⟩; have n0_ := Aside0.mk (Kd.R_below (by (with_reducible repeat (first | apply Kd.R_alloc | apply Kd.R_drewN | apply Kd.R_drew)); exact HO_1.out) hb); have n1_ := Aside0.mk (below_step (by repeat (first | (with_reducible first | exact HB.out | apply below_alloc | apply pw_below_drewN | apply below_drew1) | exact HB.out)) hb); clear HO_1; clear HB; have HO_1 := n0_; have HB := n1_; clear n0_ n1_; (try clear hb); (try clear hb2); (try clear hk); (try clear hi)) | (go_at_call 34; (with_reducible refine (fnv_Sum.calls (⟨#[97]⟩ : ByteArray) t114 _ A18.out).mono ?_); (try clear A18); rintro e w90 ⟨rfl, hb⟩; have n0_ := Aside0.mk (Kd.R_below (by (with_reducible repeat (first | apply Kd.R_alloc | apply Kd.R_drewN | apply Kd.R_drew)); exact HO_1.out) hb); have n1_ := Aside0.mk (below_step (by repeat (first | (with_reducible first | exact HB.out | apply below_alloc | apply pw_below_drewN | apply below_drew1) | exact HB.out)) hb); clear HO_1; clear HB; have HO_1 := n0_; have HB := n1_; clear n0_ n1_; (try clear hb); (try clear hb2); (try clear hk); (try clear hi)))
                      go_ret
                      exact ⟨by first | rfl | (simp [errW_none, errW_some] <;> rfl) | (simp [*, errW_none, errW_some] <;> rfl), by repeat (first | (with_reducible first | exact HB.out | apply below_alloc | apply pw_below_drewN | apply below_drew1) | exact HB.out)⟩
                  · rw [if_neg c17] at H
                    have c17b0 : (t113 == 0) = false := beq_eq_false_iff_ne.mpr c17
                    have c17b1 : (t113 != 0) = true := bne_iff_ne.mpr c17
                    obtain rfl := Option.some.inj H
                    have p11 : 0 ≤ (t109 : Int) := of_decide_eq_true (by first | (with_reducible assumption) | assumption)
                    have q11 : (t109 : Int) < ((y106.length : Int) : Int) := of_decide_eq_true (by first | (with_reducible assumption) | assumption)
                    obtain ⟨go11, co11, eo11, gb11, gl11, cl11, HG11⟩ := Kd.R_form HO_1.out (by omega)
                    (first | cases eo11 | (injection eo11 with ea_ en_ ec_; (first | subst ea_ | (injection ea_ with ea_; subst ea_)); subst ec_; clear en_))
                    have GB11 := Aside0.mk gb11
                    have GG11 := Aside0.mk HG11
                    clear gb11 gl11 HG11
                    obtain ⟨ce11, hcl11, hM11, hcc11, hfr11⟩ := Kd.R_elem HO_1.out z31 (t109 : Int) p11 q11
                    obtain rfl := k31_openM hM11
                    have hx11_0 : wc.cell? ⟨go11, (t109 : Int).toNat * 4, none⟩ = some (.int .i64 ((rd_T31 y106 t109).f0)) := hcc11 0 _ rfl
                    have hx11_1 : wc.cell? ⟨go11, (t109 : Int).toNat * 4 + 1, none⟩ = some (.string ((rd_T31 y106 t109).f1)) := hcc11 1 _ rfl
                    have hx11_2 : wc.cell? ⟨go11, (t109 : Int).toNat * 4 + 2, none⟩ = some (.int .i64 ((rd_T31 y106 t109).f2)) := hcc11 2 _ rfl
                    have hx11_3 : wc.cell? ⟨go11, (t109 : Int).toNat * 4 + 3, none⟩ = some (.int .i64 ((rd_T31 y106 t109).f3)) := hcc11 3 _ rfl
                    have hf11_0 : wc.frozen? ⟨go11, (t109 : Int).toNat * 4, none⟩ = false := hfr11 0
                    have hf11_1 : wc.frozen? ⟨go11, (t109 : Int).toNat * 4 + 1, none⟩ = false := hfr11 1
                    have hf11_2 : wc.frozen? ⟨go11, (t109 : Int).toNat * 4 + 2, none⟩ = false := hfr11 2
                    have hf11_3 : wc.frozen? ⟨go11, (t109 : Int).toNat * 4 + 3, none⟩ = false := hfr11 3
                    clear hcl11 hcc11 hfr11 hM11
                    replace p11 := eq_true p11
                    replace q11 := eq_true q11
                    have HX91 := Aside0.mk (show Kd.R k31 31 wc w.heap.size (fun _ => True) (.slice (some ⟨go11, 0, none⟩) y106.length co11) y106 from (by (with_reducible repeat (first | apply Kd.R_alloc | apply Kd.R_drewN | apply Kd.R_drew)); exact HO_1.out))
                    obtain ⟨ce91, hcl91, hM91, hcc91, hfr91⟩ := Kd.R_elem HX91.out z31 (t109 : Int) (of_decide_eq_true (by first | (with_reducible assumption) | assumption)) (by have h_ : (t109 : Int) < ((y106.length : Int) : Int) := of_decide_eq_true (by first | (with_reducible assumption) | assumption); first | exact h_ | (have e_ := (Kd.R_reads' HO_1.out).1; omega) | simpa using h_)
                    obtain rfl := k31_openM hM91
                    have HP91 := Kd.R_seg HX91.out (t109 : Int) (of_decide_eq_true (by first | (with_reducible assumption) | assumption)) (by have h_ : (t109 : Int) < ((y106.length : Int) : Int) := of_decide_eq_true (by first | (with_reducible assumption) | assumption); first | exact h_ | (have e_ := (Kd.R_reads' HO_1.out).1; omega) | simpa using h_) (seg := [.int .i64 1, .string (⟨#[97]⟩ : ByteArray), .int .i64 0, .int .i64 0]) (j := 0) hcl91 hcc91 (show 4 ≤ 4 from by decide) (x' := (⟨1, (⟨#[97]⟩ : ByteArray), 0, 0⟩ : S31)) (k31_mkM _ _ _ (⟨1, (⟨#[97]⟩ : ByteArray), 0, 0⟩ : S31) ) (fun _ hk => hk)
                    have hx91_0 := hcc91 0 _ rfl
                    (try simp only [show (k31).sz = 4 from rfl, Nat.mul_one, Nat.add_zero] at hx91_0)
                    have hf91_0 := hfr91 0
                    (try simp only [show (k31).sz = 4 from rfl, Nat.mul_one, Nat.add_zero] at hf91_0)
                    have hx91_1 := hcc91 1 _ rfl
                    (try simp only [show (k31).sz = 4 from rfl, Nat.mul_one, Nat.add_zero] at hx91_1)
                    have hf91_1 := hfr91 1
                    (try simp only [show (k31).sz = 4 from rfl, Nat.mul_one, Nat.add_zero] at hf91_1)
                    have hx91_2 := hcc91 2 _ rfl
                    (try simp only [show (k31).sz = 4 from rfl, Nat.mul_one, Nat.add_zero] at hx91_2)
                    have hf91_2 := hfr91 2
                    (try simp only [show (k31).sz = 4 from rfl, Nat.mul_one, Nat.add_zero] at hf91_2)
                    have hx91_3 := hcc91 3 _ rfl
                    (try simp only [show (k31).sz = 4 from rfl, Nat.mul_one, Nat.add_zero] at hx91_3)
                    have hf91_3 := hfr91 3
                    (try simp only [show (k31).sz = 4 from rfl, Nat.mul_one, Nat.add_zero] at hf91_3)
                    clear hcl91 hcc91 hfr91 hM91
                    go_wp2_with (first | ((with_reducible refine gate_store (t := 31) (p := 14) rfl ?_); refine store_event (t := 31) (p := 14) (v := ?vo_w92) (w1 := ((((wc.setCell ⟨go11, (t109 : Int).toNat * 4, none⟩ (.int .i64 1)).setCell ⟨go11, (t109 : Int).toNat * 4 + 1, none⟩ (.string (⟨#[97]⟩ : ByteArray))).setCell ⟨go11, (t109 : Int).toNat * 4 + 2, none⟩ (.int .i64 0)).setCell ⟨go11, (t109 : Int).toNat * 4 + 3, none⟩ (.int .i64 0))) ?hg ?ho ?hn ?hr ?_; (case ho => rfl); (case hg => rfl); (case hn => rfl); (case hr => first | (go_simp; done) | (go_simp; rfl)); intro w92 hw; have hg : wc.grownBy w92 (some go11) := (by rw [hw]; exact HP91.2); have hp_ : Kd.R k31 31 w92 w.heap.size (fun _ => True) (.slice (some ⟨go11, 0, none⟩) y106.length co11) y110 := (by rw [hw, Ny110.out]; exact HP91.1); clear HP91; have n0_ := Aside0.mk (hp_); have n1_ := Aside0.mk ((by rw [hw]; exact below_set (below_set (below_set (below_set (HB.out) GB11.out) GB11.out) GB11.out) GB11.out : Below w.heap.size w w92)); clear HO_1; clear HB; have HO_1 := n0_; have HB := n1_; clear n0_ n1_; clear hg hw hp_) | ((with_reducible refine gate_callee (f := 25) rfl ?_); refine goesL_ (some 15) rfl rfl Try.func25 (by kernel_rfl) rfl #[.slice none 0 0, .string (⟨#[97]⟩ : ByteArray)] rfl (by (try simp only [List.map_toArray, List.map_cons, List.map_nil]); first | done | rfl | (simp only [List.length_drop, List.length_take]; rfl)) ?_; (refine (probe_Find.calls _ _ ([] : List (S31)) (⟨#[97]⟩ : ByteArray) t111 _ ?side1 ?side2 A12.out).mono ?_); (case side1 => exact Kd.C_nil _ _); (case side2 => exact Nat.le_refl _); (try clear A12); rintro e w93 ⟨rfl, hb⟩; refine ⟨_, rfl, ?_⟩; have n0_ := Aside0.mk (Kd.R_below (by (with_reducible repeat (first | apply Kd.R_alloc | apply Kd.R_drewN | apply Kd.R_drew)); exact HO_1.out) hb); have n1_ := Aside0.mk (below_step (by repeat (first | (with_reducible first | exact HB.out | apply below_alloc | apply pw_below_drewN | apply below_drew1) | exact HB.out)) hb); clear HO_1; clear HB; have HO_1 := n0_; have HB := n1_; clear n0_ n1_; (try clear hb); (try clear hb2); (try clear hk); (try clear hi)) | (go_at_call 27; (refine (probe_Room.calls _ _ ([] : List (S31)) (⟨#[97]⟩ : ByteArray) t112 _ ?side1 ?side2 A14.out).mono ?_); (case side1 => exact Kd.C_nil _ _); (case side2 => exact Nat.le_refl _); (try clear A14); rintro e w94 ⟨rfl, hb⟩; have n0_ := Aside0.mk (Kd.R_below (by (with_reducible repeat (first | apply Kd.R_alloc | apply Kd.R_drewN | apply Kd.R_drew)); exact HO_1.out) hb); have n1_ := Aside0.mk (below_step (by repeat (first | (with_reducible first | exact HB.out | apply below_alloc | apply pw_below_drewN | apply below_drew1) | exact HB.out)) hb); clear HO_1; clear HB; have HO_1 := n0_; have HB := n1_; clear n0_ n1_; (try clear hb); (try clear hb2); (try clear hk); (try clear hi)) | (go_at_call 29; (with_reducible refine (probe_Home.calls (⟨#[97]⟩ : ByteArray) 0 t113 _ A16.out).mono ?_); (try clear A16); rintro e w95 ⟨rfl, hb⟩; have n0_ := Aside0.mk (Kd.R_below (by (with_reducible repeat (first | apply Kd.R_alloc | apply Kd.R_drewN | apply Kd.R_drew)); exact HO_1.out) hb); have n1_ := Aside0.mk (below_step (by repeat (first | (with_reducible first | exact HB.out | apply below_alloc | apply pw_below_drewN | apply below_drew1) | exact HB.out)) hb); clear HO_1; clear HB; have HO_1 := n0_; have HB := n1_; clear n0_ n1_; (try clear hb); (try clear hb2); (try clear hk); (try clear hi)))
                    go_ret
                    exact ⟨by first | rfl | (simp [errW_none, errW_some] <;> rfl) | (simp [*, errW_none, errW_some] <;> rfl), by repeat (first | (with_reducible first | exact HB.out | apply below_alloc | apply pw_below_drewN | apply below_drew1) | exact HB.out)⟩
                · rw [if_neg c15] at H
                  have c15b0 : (t112 == (-1)) = false := beq_eq_false_iff_ne.mpr c15
                  have c15b1 : (t112 != (-1)) = true := bne_iff_ne.mpr c15
                  obtain rfl := Option.some.inj H
                  have p11 : 0 ≤ (t109 : Int) := of_decide_eq_true (by first | (with_reducible assumption) | assumption)
                  have q11 : (t109 : Int) < ((y106.length : Int) : Int) := of_decide_eq_true (by first | (with_reducible assumption) | assumption)
                  obtain ⟨go11, co11, eo11, gb11, gl11, cl11, HG11⟩ := Kd.R_form HO_1.out (by omega)
                  (first | cases eo11 | (injection eo11 with ea_ en_ ec_; (first | subst ea_ | (injection ea_ with ea_; subst ea_)); subst ec_; clear en_))
                  have GB11 := Aside0.mk gb11
                  have GG11 := Aside0.mk HG11
                  clear gb11 gl11 HG11
                  obtain ⟨ce11, hcl11, hM11, hcc11, hfr11⟩ := Kd.R_elem HO_1.out z31 (t109 : Int) p11 q11
                  obtain rfl := k31_openM hM11
                  have hx11_0 : wc.cell? ⟨go11, (t109 : Int).toNat * 4, none⟩ = some (.int .i64 ((rd_T31 y106 t109).f0)) := hcc11 0 _ rfl
                  have hx11_1 : wc.cell? ⟨go11, (t109 : Int).toNat * 4 + 1, none⟩ = some (.string ((rd_T31 y106 t109).f1)) := hcc11 1 _ rfl
                  have hx11_2 : wc.cell? ⟨go11, (t109 : Int).toNat * 4 + 2, none⟩ = some (.int .i64 ((rd_T31 y106 t109).f2)) := hcc11 2 _ rfl
                  have hx11_3 : wc.cell? ⟨go11, (t109 : Int).toNat * 4 + 3, none⟩ = some (.int .i64 ((rd_T31 y106 t109).f3)) := hcc11 3 _ rfl
                  have hf11_0 : wc.frozen? ⟨go11, (t109 : Int).toNat * 4, none⟩ = false := hfr11 0
                  have hf11_1 : wc.frozen? ⟨go11, (t109 : Int).toNat * 4 + 1, none⟩ = false := hfr11 1
                  have hf11_2 : wc.frozen? ⟨go11, (t109 : Int).toNat * 4 + 2, none⟩ = false := hfr11 2
                  have hf11_3 : wc.frozen? ⟨go11, (t109 : Int).toNat * 4 + 3, none⟩ = false := hfr11 3
                  clear hcl11 hcc11 hfr11 hM11
                  replace p11 := eq_true p11
                  replace q11 := eq_true q11
                  have HX96 := Aside0.mk (show Kd.R k31 31 wc w.heap.size (fun _ => True) (.slice (some ⟨go11, 0, none⟩) y106.length co11) y106 from (by (with_reducible repeat (first | apply Kd.R_alloc | apply Kd.R_drewN | apply Kd.R_drew)); exact HO_1.out))
                  obtain ⟨ce96, hcl96, hM96, hcc96, hfr96⟩ := Kd.R_elem HX96.out z31 (t109 : Int) (of_decide_eq_true (by first | (with_reducible assumption) | assumption)) (by have h_ : (t109 : Int) < ((y106.length : Int) : Int) := of_decide_eq_true (by first | (with_reducible assumption) | assumption); first | exact h_ | (have e_ := (Kd.R_reads' HO_1.out).1; omega) | simpa using h_)
                  obtain rfl := k31_openM hM96
                  have HP96 := Kd.R_seg HX96.out (t109 : Int) (of_decide_eq_true (by first | (with_reducible assumption) | assumption)) (by have h_ : (t109 : Int) < ((y106.length : Int) : Int) := of_decide_eq_true (by first | (with_reducible assumption) | assumption); first | exact h_ | (have e_ := (Kd.R_reads' HO_1.out).1; omega) | simpa using h_) (seg := [.int .i64 1, .string (⟨#[97]⟩ : ByteArray), .int .i64 0, .int .i64 0]) (j := 0) hcl96 hcc96 (show 4 ≤ 4 from by decide) (x' := (⟨1, (⟨#[97]⟩ : ByteArray), 0, 0⟩ : S31)) (k31_mkM _ _ _ (⟨1, (⟨#[97]⟩ : ByteArray), 0, 0⟩ : S31) ) (fun _ hk => hk)
                  have hx96_0 := hcc96 0 _ rfl
                  (try simp only [show (k31).sz = 4 from rfl, Nat.mul_one, Nat.add_zero] at hx96_0)
                  have hf96_0 := hfr96 0
                  (try simp only [show (k31).sz = 4 from rfl, Nat.mul_one, Nat.add_zero] at hf96_0)
                  have hx96_1 := hcc96 1 _ rfl
                  (try simp only [show (k31).sz = 4 from rfl, Nat.mul_one, Nat.add_zero] at hx96_1)
                  have hf96_1 := hfr96 1
                  (try simp only [show (k31).sz = 4 from rfl, Nat.mul_one, Nat.add_zero] at hf96_1)
                  have hx96_2 := hcc96 2 _ rfl
                  (try simp only [show (k31).sz = 4 from rfl, Nat.mul_one, Nat.add_zero] at hx96_2)
                  have hf96_2 := hfr96 2
                  (try simp only [show (k31).sz = 4 from rfl, Nat.mul_one, Nat.add_zero] at hf96_2)
                  have hx96_3 := hcc96 3 _ rfl
                  (try simp only [show (k31).sz = 4 from rfl, Nat.mul_one, Nat.add_zero] at hx96_3)
                  have hf96_3 := hfr96 3
                  (try simp only [show (k31).sz = 4 from rfl, Nat.mul_one, Nat.add_zero] at hf96_3)
                  clear hcl96 hcc96 hfr96 hM96
                  go_wp2_with (first | ((with_reducible refine gate_store (t := 31) (p := 14) rfl ?_); refine store_event (t := 31) (p := 14) (v := ?vo_w97) (w1 := ((((wc.setCell ⟨go11, (t109 : Int).toNat * 4, none⟩ (.int .i64 1)).setCell ⟨go11, (t109 : Int).toNat * 4 + 1, none⟩ (.string (⟨#[97]⟩ : ByteArray))).setCell ⟨go11, (t109 : Int).toNat * 4 + 2, none⟩ (.int .i64 0)).setCell ⟨go11, (t109 : Int).toNat * 4 + 3, none⟩ (.int .i64 0))) ?hg ?ho ?hn ?hr ?_; (case ho => rfl); (case hg => rfl); (case hn => rfl); (case hr => first | (go_simp; done) | (go_simp; rfl)); intro w97 hw; have hg : wc.grownBy w97 (some go11) := (by rw [hw]; exact HP96.2); have hp_ : Kd.R k31 31 w97 w.heap.size (fun _ => True) (.slice (some ⟨go11, 0, none⟩) y106.length co11) y110 := (by rw [hw, Ny110.out]; exact HP96.1); clear HP96; have n0_ := Aside0.mk (hp_); have n1_ := Aside0.mk ((by rw [hw]; exact below_set (below_set (below_set (below_set (HB.out) GB11.out) GB11.out) GB11.out) GB11.out : Below w.heap.size w w97)); clear HO_1; clear HB; have HO_1 := n0_; have HB := n1_; clear n0_ n1_; clear hg hw hp_) | ((with_reducible refine gate_callee (f := 25) rfl ?_); refine goesL_ (some 15) rfl rfl Try.func25 (by kernel_rfl) rfl #[.slice none 0 0, .string (⟨#[97]⟩ : ByteArray)] rfl (by (try simp only [List.map_toArray, List.map_cons, List.map_nil]); first | done | rfl | (simp only [List.length_drop, List.length_take]; rfl)) ?_; (refine (probe_Find.calls _ _ ([] : List (S31)) (⟨#[97]⟩ : ByteArray) t111 _ ?side1 ?side2 A12.out).mono ?_); (case side1 => exact Kd.C_nil _ _); (case side2 => exact Nat.le_refl _); (try clear A12); rintro e w98 ⟨rfl, hb⟩; refine ⟨_, rfl, ?_⟩; have n0_ := Aside0.mk (Kd.R_below (by (with_reducible repeat (first | apply Kd.R_alloc | apply Kd.R_drewN | apply Kd.R_drew)); exact HO_1.out) hb); have n1_ := Aside0.mk (below_step (by repeat (first | (with_reducible first | exact HB.out | apply below_alloc | apply pw_below_drewN | apply below_drew1) | exact HB.out)) hb); clear HO_1; clear HB; have HO_1 := n0_; have HB := n1_; clear n0_ n1_; (try clear hb); (try clear hb2); (try clear hk); (try clear hi)) | (go_at_call 27; (refine (probe_Room.calls _ _ ([] : List (S31)) (⟨#[97]⟩ : ByteArray) t112 _ ?side1 ?side2 A14.out).mono ?_); (case side1 => exact Kd.C_nil _ _); (case side2 => exact Nat.le_refl _); (try clear A14); rintro e w99 ⟨rfl, hb⟩; have n0_ := Aside0.mk (Kd.R_below (by (with_reducible repeat (first | apply Kd.R_alloc | apply Kd.R_drewN | apply Kd.R_drew)); exact HO_1.out) hb); have n1_ := Aside0.mk (below_step (by repeat (first | (with_reducible first | exact HB.out | apply below_alloc | apply pw_below_drewN | apply below_drew1) | exact HB.out)) hb); clear HO_1; clear HB; have HO_1 := n0_; have HB := n1_; clear n0_ n1_; (try clear hb); (try clear hb2); (try clear hk); (try clear hi)))
                  go_ret
                  exact ⟨by first | rfl | (simp [errW_none, errW_some] <;> rfl) | (simp [*, errW_none, errW_some] <;> rfl), by repeat (first | (with_reducible first | exact HB.out | apply below_alloc | apply pw_below_drewN | apply below_drew1) | exact HB.out)⟩
              · rw [if_neg c13] at H
                have c13b0 : (t111 == (-1)) = false := beq_eq_false_iff_ne.mpr c13
                have c13b1 : (t111 != (-1)) = true := bne_iff_ne.mpr c13
                obtain rfl := Option.some.inj H
                have p11 : 0 ≤ (t109 : Int) := of_decide_eq_true (by first | (with_reducible assumption) | assumption)
                have q11 : (t109 : Int) < ((y106.length : Int) : Int) := of_decide_eq_true (by first | (with_reducible assumption) | assumption)
                obtain ⟨go11, co11, eo11, gb11, gl11, cl11, HG11⟩ := Kd.R_form HO_1.out (by omega)
                (first | cases eo11 | (injection eo11 with ea_ en_ ec_; (first | subst ea_ | (injection ea_ with ea_; subst ea_)); subst ec_; clear en_))
                have GB11 := Aside0.mk gb11
                have GG11 := Aside0.mk HG11
                clear gb11 gl11 HG11
                obtain ⟨ce11, hcl11, hM11, hcc11, hfr11⟩ := Kd.R_elem HO_1.out z31 (t109 : Int) p11 q11
                obtain rfl := k31_openM hM11
                have hx11_0 : wc.cell? ⟨go11, (t109 : Int).toNat * 4, none⟩ = some (.int .i64 ((rd_T31 y106 t109).f0)) := hcc11 0 _ rfl
                have hx11_1 : wc.cell? ⟨go11, (t109 : Int).toNat * 4 + 1, none⟩ = some (.string ((rd_T31 y106 t109).f1)) := hcc11 1 _ rfl
                have hx11_2 : wc.cell? ⟨go11, (t109 : Int).toNat * 4 + 2, none⟩ = some (.int .i64 ((rd_T31 y106 t109).f2)) := hcc11 2 _ rfl
                have hx11_3 : wc.cell? ⟨go11, (t109 : Int).toNat * 4 + 3, none⟩ = some (.int .i64 ((rd_T31 y106 t109).f3)) := hcc11 3 _ rfl
                have hf11_0 : wc.frozen? ⟨go11, (t109 : Int).toNat * 4, none⟩ = false := hfr11 0
                have hf11_1 : wc.frozen? ⟨go11, (t109 : Int).toNat * 4 + 1, none⟩ = false := hfr11 1
                have hf11_2 : wc.frozen? ⟨go11, (t109 : Int).toNat * 4 + 2, none⟩ = false := hfr11 2
                have hf11_3 : wc.frozen? ⟨go11, (t109 : Int).toNat * 4 + 3, none⟩ = false := hfr11 3
                clear hcl11 hcc11 hfr11 hM11
                replace p11 := eq_true p11
                replace q11 := eq_true q11
                have HX100 := Aside0.mk (show Kd.R k31 31 wc w.heap.size (fun _ => True) (.slice (some ⟨go11, 0, none⟩) y106.length co11) y106 from (by (with_reducible repeat (first | apply Kd.R_alloc | apply Kd.R_drewN | apply Kd.R_drew)); exact HO_1.out))
                obtain ⟨ce100, hcl100, hM100, hcc100, hfr100⟩ := Kd.R_elem HX100.out z31 (t109 : Int) (of_decide_eq_true (by first | (with_reducible assumption) | assumption)) (by have h_ : (t109 : Int) < ((y106.length : Int) : Int) := of_decide_eq_true (by first | (with_reducible assumption) | assumption); first | exact h_ | (have e_ := (Kd.R_reads' HO_1.out).1; omega) | simpa using h_)
                obtain rfl := k31_openM hM100
                have HP100 := Kd.R_seg HX100.out (t109 : Int) (of_decide_eq_true (by first | (with_reducible assumption) | assumption)) (by have h_ : (t109 : Int) < ((y106.length : Int) : Int) := of_decide_eq_true (by first | (with_reducible assumption) | assumption); first | exact h_ | (have e_ := (Kd.R_reads' HO_1.out).1; omega) | simpa using h_) (seg := [.int .i64 1, .string (⟨#[97]⟩ : ByteArray), .int .i64 0, .int .i64 0]) (j := 0) hcl100 hcc100 (show 4 ≤ 4 from by decide) (x' := (⟨1, (⟨#[97]⟩ : ByteArray), 0, 0⟩ : S31)) (k31_mkM _ _ _ (⟨1, (⟨#[97]⟩ : ByteArray), 0, 0⟩ : S31) ) (fun _ hk => hk)
                have hx100_0 := hcc100 0 _ rfl
                (try simp only [show (k31).sz = 4 from rfl, Nat.mul_one, Nat.add_zero] at hx100_0)
                have hf100_0 := hfr100 0
                (try simp only [show (k31).sz = 4 from rfl, Nat.mul_one, Nat.add_zero] at hf100_0)
                have hx100_1 := hcc100 1 _ rfl
                (try simp only [show (k31).sz = 4 from rfl, Nat.mul_one, Nat.add_zero] at hx100_1)
                have hf100_1 := hfr100 1
                (try simp only [show (k31).sz = 4 from rfl, Nat.mul_one, Nat.add_zero] at hf100_1)
                have hx100_2 := hcc100 2 _ rfl
                (try simp only [show (k31).sz = 4 from rfl, Nat.mul_one, Nat.add_zero] at hx100_2)
                have hf100_2 := hfr100 2
                (try simp only [show (k31).sz = 4 from rfl, Nat.mul_one, Nat.add_zero] at hf100_2)
                have hx100_3 := hcc100 3 _ rfl
                (try simp only [show (k31).sz = 4 from rfl, Nat.mul_one, Nat.add_zero] at hx100_3)
                have hf100_3 := hfr100 3
                (try simp only [show (k31).sz = 4 from rfl, Nat.mul_one, Nat.add_zero] at hf100_3)
                clear hcl100 hcc100 hfr100 hM100
                go_wp2_with (first | ((with_reducible refine gate_store (t := 31) (p := 14) rfl ?_); refine store_event (t := 31) (p := 14) (v := ?vo_w101) (w1 := ((((wc.setCell ⟨go11, (t109 : Int).toNat * 4, none⟩ (.int .i64 1)).setCell ⟨go11, (t109 : Int).toNat * 4 + 1, none⟩ (.string (⟨#[97]⟩ : ByteArray))).setCell ⟨go11, (t109 : Int).toNat * 4 + 2, none⟩ (.int .i64 0)).setCell ⟨go11, (t109 : Int).toNat * 4 + 3, none⟩ (.int .i64 0))) ?hg ?ho ?hn ?hr ?_; (case ho => rfl); (case hg => rfl); (case hn => rfl); (case hr => first | (go_simp; done) | (go_simp; rfl)); intro w101 hw; have hg : wc.grownBy w101 (some go11) := (by rw [hw]; exact HP100.2); have hp_ : Kd.R k31 31 w101 w.heap.size (fun _ => True) (.slice (some ⟨go11, 0, none⟩) y106.length co11) y110 := (by rw [hw, Ny110.out]; exact HP100.1); clear HP100; have n0_ := Aside0.mk (hp_); have n1_ := Aside0.mk ((by rw [hw]; exact below_set (below_set (below_set (below_set (HB.out) GB11.out) GB11.out) GB11.out) GB11.out : Below w.heap.size w w101)); clear HO_1; clear HB; have HO_1 := n0_; have HB := n1_; clear n0_ n1_; clear hg hw hp_) | ((with_reducible refine gate_callee (f := 25) rfl ?_); refine goesL_ (some 15) rfl rfl Try.func25 (by kernel_rfl) rfl #[.slice none 0 0, .string (⟨#[97]⟩ : ByteArray)] rfl (by (try simp only [List.map_toArray, List.map_cons, List.map_nil]); first | done | rfl | (simp only [List.length_drop, List.length_take]; rfl)) ?_; (refine (probe_Find.calls _ _ ([] : List (S31)) (⟨#[97]⟩ : ByteArray) t111 _ ?side1 ?side2 A12.out).mono ?_); (case side1 => exact Kd.C_nil _ _); (case side2 => exact Nat.le_refl _); (try clear A12); rintro e w102 ⟨rfl, hb⟩; refine ⟨_, rfl, ?_⟩; have n0_ := Aside0.mk (Kd.R_below (by (with_reducible repeat (first | apply Kd.R_alloc | apply Kd.R_drewN | apply Kd.R_drew)); exact HO_1.out) hb); have n1_ := Aside0.mk (below_step (by repeat (first | (with_reducible first | exact HB.out | apply below_alloc | apply pw_below_drewN | apply below_drew1) | exact HB.out)) hb); clear HO_1; clear HB; have HO_1 := n0_; have HB := n1_; clear n0_ n1_; (try clear hb); (try clear hb2); (try clear hk); (try clear hi)))
                go_ret
                exact ⟨by first | rfl | (simp [errW_none, errW_some] <;> rfl) | (simp [*, errW_none, errW_some] <;> rfl), by repeat (first | (with_reducible first | exact HB.out | apply below_alloc | apply pw_below_drewN | apply below_drew1) | exact HB.out)⟩
            · rw [if_neg c10] at H
              exact absurd H (by simp)
          · rw [if_neg c9] at H
            exact absurd H (by simp)
  · rw [if_neg c1] at H
    exact absurd H (by simp)

/-! ### gangplankref11_Few: function 23 -/
def gangplankref11_Few.l0 : Nat → List (S31) → Int → Option (Bool)
  | 0, _, _ => none
  | k + 1, x0, x3 => if x3 < (x0.length : Int) then (if 0 ≤ x3 then (if (((rd_T31 x0 x3).f1).size : Int) > 60 then (some false) else (gangplankref11_Few.l0 k x0 (wrap64 (x3 + 1)))) else (none)) else (some true)
def gangplankref11_Few.f (k : Nat) (l0 : List (S31)) : Option (Bool) := if (l0.length : Int) > 80 then (some false) else (gangplankref11_Few.l0 k l0 0)
theorem gangplankref11_Few.mono_l : ∀ k, (∀ y0 y1, LeO (gangplankref11_Few.l0 k y0 y1) (gangplankref11_Few.l0 (k + 1) y0 y1))
  | 0 => fun _ _ r h => by simp [gangplankref11_Few.l0] at h
  | k + 1 => by
    have ih0 := gangplankref11_Few.mono_l k
    · intro y0 y1
      unfold gangplankref11_Few.l0
      repeat' first
      | (with_reducible exact ih0 _ _)
      | (with_reducible exact LeO.refl _)
      | (with_reducible exact LeO.none _)
      | (with_reducible refine LeO.ite ?_ ?_)
      | (with_reducible refine LeO.bind ?_ (fun _ => ?_))
      | exact ih0 _ _
      | exact LeO.none _
      | refine LeO.ite ?_ ?_
      | refine LeO.bind ?_ (fun _ => ?_)
theorem gangplankref11_Few.mono : ∀ a0 k, LeO (gangplankref11_Few.f k a0) (gangplankref11_Few.f (k + 1) a0) := by
  intro a0 k
  have ih0 := gangplankref11_Few.mono_l k
  unfold gangplankref11_Few.f
  repeat' first
      | (with_reducible exact ih0 _ _)
      | (with_reducible exact LeO.refl _)
      | (with_reducible exact LeO.none _)
      | (with_reducible refine LeO.ite ?_ ?_)
      | (with_reducible refine LeO.bind ?_ (fun _ => ?_))
      | exact ih0 _ _
      | exact LeO.none _
      | refine LeO.ite ?_ ?_
      | refine LeO.bind ?_ (fun _ => ?_)
set_option maxHeartbeats 8000000 in
set_option maxRecDepth 100000 in
theorem gangplankref11_Few.calls (k : Nat) (A0 : Option Addr) (c0 : Nat) (l0 : List (S31)) (r : Bool) (w : World) (hr0 : Kd.C k31 w A0 l0.length l0) (hc0 : l0.length ≤ c0) (h : gangplankref11_Few.f k l0 = some r) :
    Calls Try.prog 23 #[.slice A0 l0.length c0] w fun e w' => e = .returned (.bool r) ∧ Drawn0 w w' := by
  have HR0 := Aside0.mk hr0
  have HC0 := Aside0.mk hc0
  clear hr0 hc0
  have H : (if (l0.length : Int) > 80 then (some false) else (gangplankref11_Few.l0 k l0 0)) = some r := h
  clear h
  by_cases c2 : (l0.length : Int) > 80
  · rw [if_pos c2] at H
    have c2b0 : decide (80 < (l0.length : Int)) = true := decide_eq_true c2
    have c2b1 : decide (80 < l0.length) = true := decide_eq_true (by omega)
    clear c2
    obtain rfl := Option.some.inj H
    go_enter Try.func23, Try.ntmps23
    go_wp2
    go_ret
    exact ⟨by first | rfl | (simp; done) | (simp [*]; done), by repeat (first | exact Drawn0.refl _ | apply Drawn0.step)⟩
  · rw [if_neg c2] at H
    have c2b0 : decide (80 < (l0.length : Int)) = false := decide_eq_false c2
    have c2b1 : decide (80 < l0.length) = false := decide_eq_false (by omega)
    clear c2
    have H' := Aside0.mk H
    clear H
    go_enter Try.func23, Try.ntmps23
    go_wp2
    go_loopg [3] k (fun kq v3 w' => ∃ (x3_1 : Int), v3 = .int .i64 x3_1 ∧ Aside0 (gangplankref11_Few.l0 kq l0 x3_1 = some r) ∧ Aside0 (kq ≤ k) ∧ Drawn0 w w')
    case atStart => exact ⟨(0), (by first | rfl | (simp; done) | (simp [*]; done)), H', ⟨Nat.le_refl _⟩, by repeat (first | exact Drawn0.refl _ | apply Drawn0.step)⟩
    case round =>
      clear H'
      try clear c2
      try clear c2b0
      try clear c2b1
      try clear p2
      obtain ⟨x3_1, rfl, HA, HK1, ⟨m1, rfl⟩⟩ := hrel
      cases gk with
      | zero => exact absurd HA.out (by simp [gangplankref11_Few.l0])
      | succ k1 =>
        have H := HA.out
        clear HA
        simp only [gangplankref11_Few.l0] at H
        by_cases c3 : x3_1 < (l0.length : Int)
        · rw [if_pos c3] at H
          have c3b0 : decide (x3_1 < (l0.length : Int)) = true := decide_eq_true c3
          clear c3
          by_cases c4 : 0 ≤ x3_1
          · rw [if_pos c4] at H
            have c4b0 : decide (0 ≤ x3_1) = true := decide_eq_true c4
            clear c4
            by_cases c5 : (((rd_T31 l0 x3_1).f1).size : Int) > 60
            · rw [if_pos c5] at H
              have c5b0 : decide (60 < (((rd_T31 l0 x3_1).f1).size : Int)) = true := decide_eq_true c5
              have c5b1 : decide (60 < ((rd_T31 l0 x3_1).f1).size) = true := decide_eq_true (by omega)
              clear c5
              obtain rfl := Option.some.inj H
              have p121 : 0 ≤ (x3_1 : Int) := of_decide_eq_true (by first | (with_reducible assumption) | assumption)
              have q121 : x3_1 < (l0.length : Int) := of_decide_eq_true (by first | (with_reducible assumption) | assumption)
              obtain ⟨ad121, e121, hx121_0, hx121_1, hx121_2, hx121_3⟩ := at_T31 HR0.out x3_1 p121 q121
              cases e121
              replace p121 := eq_true p121
              replace q121 := eq_true q121
              go_wp2
              go_ret
              exact ⟨by first | rfl | (simp; done) | (simp [*]; done), by repeat (first | exact Drawn0.refl _ | apply Drawn0.step)⟩
            · rw [if_neg c5] at H
              have c5b0 : decide (60 < (((rd_T31 l0 x3_1).f1).size : Int)) = false := decide_eq_false c5
              have c5b1 : decide (60 < ((rd_T31 l0 x3_1).f1).size) = false := decide_eq_false (by omega)
              clear c5
              have H' := Aside0.mk H
              clear H
              have p121 : 0 ≤ (x3_1 : Int) := of_decide_eq_true (by first | (with_reducible assumption) | assumption)
              have q121 : x3_1 < (l0.length : Int) := of_decide_eq_true (by first | (with_reducible assumption) | assumption)
              obtain ⟨ad121, e121, hx121_0, hx121_1, hx121_2, hx121_3⟩ := at_T31 HR0.out x3_1 p121 q121
              cases e121
              replace p121 := eq_true p121
              replace q121 := eq_true q121
              go_wp2
              go_roundg k1
              case measure => have := HK1.out; omega
              case rel => exact ⟨(wrap64 (x3_1 + 1)), (by first | rfl | (simp; done) | (simp [*]; done)), H', ⟨by have := HK1.out; omega⟩, by repeat (first | exact Drawn0.refl _ | apply Drawn0.step)⟩
          · rw [if_neg c4] at H
            exact absurd H (by simp)
        · rw [if_neg c3] at H
          have c3b0 : decide (x3_1 < (l0.length : Int)) = false := decide_eq_false c3
          clear c3
          obtain rfl := Option.some.inj H
          go_wp2
          go_ret
          exact ⟨by first | rfl | (simp; done) | (simp [*]; done), by repeat (first | exact Drawn0.refl _ | apply Drawn0.step)⟩

end Go.Proofs.Ythdkkmeiihbafaa.P
