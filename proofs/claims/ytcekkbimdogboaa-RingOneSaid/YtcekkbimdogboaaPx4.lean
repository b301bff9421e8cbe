/- Each Go function that the laws reach, as a plain function, with the proof that the machine's call comes to what it says; of a law: its row. Made by a program of this seat (wip/hp.py, over the print). -/
import Derived.Test.YtcekkbimdogboaaPx0
import Derived.Test.YtcekkbimdogboaaPx1
import Derived.Test.YtcekkbimdogboaaPx3
namespace Go.Proofs.Ytcekkbimdogboaa.P
open Go.RowKit Go.Proofs.YtcekkbimdogboaaW.PrintWords Go.Proofs.YtcekkbimdogboaaW.PrintLast Go.Proofs.YtcekkbimdogboaaW.PrintMore
attribute [local go_sem] max2_int min2_int max_two min_two max_three min_three max_four min_four   -- for this text's walks alone
set_option linter.unusedVariables false
set_option linter.unusedSimpArgs false

/-! ### gangplanklaw10_works: function 27 -/
def gangplanklaw10_works.f  : Option (Bool) := (some (([(⟨5, 1⟩ : S30), (⟨9, 2⟩ : S30)] : List (S30)) : List (S30))).bind fun y125 => ((ring_Succ.f y125 5).bind fun t128 => (if t128 = 1 then ((ring_Succ.f y125 6).bind fun t129 => (if t129 = 2 then ((ring_Succ.f y125 10).bind fun t130 => (if t130 = 1 then ((ring_Succ.f ([] : List (S30)) 1).bind fun t131 => (if t131 = (-1) then ((ring_Pick.f (([(⟨7, 1⟩ : S39)] : List (S39))) 3).bind fun t135 => (if t135 = 7 then ((ring_Pick.f ([] : List (S39)) 3).bind fun t136 => (if t136 = (-1) then ((ring_Moved.f (([(⟨7, 1⟩ : S39)] : List (S39))) ([] : List (S39)) (([3] : List Int))).bind fun t143 => (some ((t143.length : Int) == 1))) else (some false))) else (some false))) else (some false))) else (some false))) else (some false))) else (some false)))
set_option maxHeartbeats 8000000 in
set_option maxRecDepth 100000 in
theorem gangplanklaw10_works.calls  (r : Bool) (w : World) (h : gangplanklaw10_works.f  = some r) :
    Calls Try.prog 27 #[] w fun e w' => e = .returned (.bool r) ∧ Below w.heap.size w w' := by
  have hu30 := Try.underlying30
  have hu39 := Try.underlying39
  have HB := Aside0.mk (Below.refl w.heap.size w)
  have H : ((some (([(⟨5, 1⟩ : S30), (⟨9, 2⟩ : S30)] : List (S30)) : List (S30))).bind fun y125 => ((ring_Succ.f y125 5).bind fun t128 => (if t128 = 1 then ((ring_Succ.f y125 6).bind fun t129 => (if t129 = 2 then ((ring_Succ.f y125 10).bind fun t130 => (if t130 = 1 then ((ring_Succ.f ([] : List (S30)) 1).bind fun t131 => (if t131 = (-1) then ((ring_Pick.f (([(⟨7, 1⟩ : S39)] : List (S39))) 3).bind fun t135 => (if t135 = 7 then ((ring_Pick.f ([] : List (S39)) 3).bind fun t136 => (if t136 = (-1) then ((ring_Moved.f (([(⟨7, 1⟩ : S39)] : List (S39))) ([] : List (S39)) (([3] : List Int))).bind fun t143 => (some ((t143.length : Int) == 1))) else (some false))) else (some false))) else (some false))) else (some false))) else (some false))) else (some false)))) = some r := h
  clear h
  obtain ⟨y125, hy125⟩ : ∃ y_ : List (S30), y_ = (([(⟨5, 1⟩ : S30), (⟨9, 2⟩ : S30)] : List (S30))) := ⟨_, rfl⟩
  replace H : ((ring_Succ.f y125 5).bind fun t128 => (if t128 = 1 then ((ring_Succ.f y125 6).bind fun t129 => (if t129 = 2 then ((ring_Succ.f y125 10).bind fun t130 => (if t130 = 1 then ((ring_Succ.f ([] : List (S30)) 1).bind fun t131 => (if t131 = (-1) then ((ring_Pick.f (([(⟨7, 1⟩ : S39)] : List (S39))) 3).bind fun t135 => (if t135 = 7 then ((ring_Pick.f ([] : List (S39)) 3).bind fun t136 => (if t136 = (-1) then ((ring_Moved.f (([(⟨7, 1⟩ : S39)] : List (S39))) ([] : List (S39)) (([3] : List Int))).bind fun t143 => (some ((t143.length : Int) == 1))) else (some false))) else (some false))) else (some false))) else (some false))) else (some false))) else (some false))) = some r := by first | (rw [hy125]; with_reducible exact H) | (have H2_ := (Option.bind_some _ _).symm.trans H; rw [hy125]; with_reducible exact H2_) | (have H2_ := (Option.bind_some _ _).symm.trans H; with_reducible exact H2_) | with_reducible exact H | (rw [hy125]; exact H) | exact H
  have Ny125 := Aside0.mk hy125
  clear hy125
  replace H := Option.bind_eq_some_iff.mp H
  obtain ⟨t128, A10, H⟩ := H
  replace H : (if t128 = 1 then ((ring_Succ.f y125 6).bind fun t129 => (if t129 = 2 then ((ring_Succ.f y125 10).bind fun t130 => (if t130 = 1 then ((ring_Succ.f ([] : List (S30)) 1).bind fun t131 => (if t131 = (-1) then ((ring_Pick.f (([(⟨7, 1⟩ : S39)] : List (S39))) 3).bind fun t135 => (if t135 = 7 then ((ring_Pick.f ([] : List (S39)) 3).bind fun t136 => (if t136 = (-1) then ((ring_Moved.f (([(⟨7, 1⟩ : S39)] : List (S39))) ([] : List (S39)) (([3] : List Int))).bind fun t143 => (some ((t143.length : Int) == 1))) else (some false))) else (some false))) else (some false))) else (some false))) else (some false))) else (some false)) = some r := H
  have A1 := Aside0.mk A10
  clear A10
  by_cases c2 : t128 = 1
  · rw [if_pos c2] at H
    have c2b0 : (t128 == 1) = true := beq_iff_eq.mpr c2
    have c2b1 : (t128 != 1) = false := bne_eq_false_iff_eq.mpr c2
    clear c2
    replace H := Option.bind_eq_some_iff.mp H
    obtain ⟨t129, A30, H⟩ := H
    replace H : (if t129 = 2 then ((ring_Succ.f y125 10).bind fun t130 => (if t130 = 1 then ((ring_Succ.f ([] : List (S30)) 1).bind fun t131 => (if t131 = (-1) then ((ring_Pick.f (([(⟨7, 1⟩ : S39)] : List (S39))) 3).bind fun t135 => (if t135 = 7 then ((ring_Pick.f ([] : List (S39)) 3).bind fun t136 => (if t136 = (-1) then ((ring_Moved.f (([(⟨7, 1⟩ : S39)] : List (S39))) ([] : List (S39)) (([3] : List Int))).bind fun t143 => (some ((t143.length : Int) == 1))) else (some false))) else (some false))) else (some false))) else (some false))) else (some false)) = some r := H
    have A3 := Aside0.mk A30
    clear A30
    by_cases c4 : t129 = 2
    · rw [if_pos c4] at H
      have c4b0 : (t129 == 2) = true := beq_iff_eq.mpr c4
      have c4b1 : (t129 != 2) = false := bne_eq_false_iff_eq.mpr c4
      clear c4
      replace H := Option.bind_eq_some_iff.mp H
      obtain ⟨t130, A50, H⟩ := H
      replace H : (if t130 = 1 then ((ring_Succ.f ([] : List (S30)) 1).bind fun t131 => (if t131 = (-1) then ((ring_Pick.f (([(⟨7, 1⟩ : S39)] : List (S39))) 3).bind fun t135 => (if t135 = 7 then ((ring_Pick.f ([] : List (S39)) 3).bind fun t136 => (if t136 = (-1) then ((ring_Moved.f (([(⟨7, 1⟩ : S39)] : List (S39))) ([] : List (S39)) (([3] : List Int))).bind fun t143 => (some ((t143.length : Int) == 1))) else (some false))) else (some false))) else (some false))) else (some false)) = some r := H
      have A5 := Aside0.mk A50
      clear A50
      by_cases c6 : t130 = 1
      · rw [if_pos c6] at H
        have c6b0 : (t130 == 1) = true := beq_iff_eq.mpr c6
        have c6b1 : (t130 != 1) = false := bne_eq_false_iff_eq.mpr c6
        clear c6
        replace H := Option.bind_eq_some_iff.mp H
        obtain ⟨t131, A70, H⟩ := H
        replace H : (if t131 = (-1) then ((ring_Pick.f (([(⟨7, 1⟩ : S39)] : List (S39))) 3).bind fun t135 => (if t135 = 7 then ((ring_Pick.f ([] : List (S39)) 3).bind fun t136 => (if t136 = (-1) then ((ring_Moved.f (([(⟨7, 1⟩ : S39)] : List (S39))) ([] : List (S39)) (([3] : List Int))).bind fun t143 => (some ((t143.length : Int) == 1))) else (some false))) else (some false))) else (some false)) = some r := H
        have A7 := Aside0.mk A70
        clear A70
        by_cases c8 : t131 = (-1)
        · rw [if_pos c8] at H
          have c8b0 : (t131 == (-1)) = true := beq_iff_eq.mpr c8
          have c8b1 : (t131 != (-1)) = false := bne_eq_false_iff_eq.mpr c8
          clear c8
          obtain ⟨y132, hy132⟩ : ∃ y_ : List (S39), y_ = (([(⟨7, 1⟩ : S39)] : List (S39))) := ⟨_, rfl⟩
          replace H : ((ring_Pick.f y132 3).bind fun t135 => (if t135 = 7 then ((ring_Pick.f ([] : List (S39)) 3).bind fun t136 => (if t136 = (-1) then ((ring_Moved.f (([(⟨7, 1⟩ : S39)] : List (S39))) ([] : List (S39)) (([3] : List Int))).bind fun t143 => (some ((t143.length : Int) == 1))) else (some false))) else (some false))) = some r := by first | (rw [hy132]; with_reducible exact H) | (have H2_ := (Option.bind_some _ _).symm.trans H; rw [hy132]; with_reducible exact H2_) | (have H2_ := (Option.bind_some _ _).symm.trans H; with_reducible exact H2_) | with_reducible exact H | (rw [hy132]; exact H) | exact H
          have Ny132 := Aside0.mk hy132
          clear hy132
          replace H := Option.bind_eq_some_iff.mp H
          obtain ⟨t135, A90, H⟩ := H
          replace H : (if t135 = 7 then ((ring_Pick.f ([] : List (S39)) 3).bind fun t136 => (if t136 = (-1) then ((ring_Moved.f (([(⟨7, 1⟩ : S39)] : List (S39))) ([] : List (S39)) (([3] : List Int))).bind fun t143 => (some ((t143.length : Int) == 1))) else (some false))) else (some false)) = some r := H
          have A9 := Aside0.mk A90
          clear A90
          by_cases c10 : t135 = 7
          · rw [if_pos c10] at H
            have c10b0 : (t135 == 7) = true := beq_iff_eq.mpr c10
            have c10b1 : (t135 != 7) = false := bne_eq_false_iff_eq.mpr c10
            clear c10
            replace H := Option.bind_eq_some_iff.mp H
            obtain ⟨t136, A110, H⟩ := H
            replace H : (if t136 = (-1) then ((ring_Moved.f (([(⟨7, 1⟩ : S39)] : List (S39))) ([] : List (S39)) (([3] : List Int))).bind fun t143 => (some ((t143.length : Int) == 1))) else (some false)) = some r := H
            have A11 := Aside0.mk A110
            clear A110
            by_cases c12 : t136 = (-1)
            · rw [if_pos c12] at H
              have c12b0 : (t136 == (-1)) = true := beq_iff_eq.mpr c12
              have c12b1 : (t136 != (-1)) = false := bne_eq_false_iff_eq.mpr c12
              clear c12
              obtain ⟨y137, hy137⟩ : ∃ y_ : List (S39), y_ = (([(⟨7, 1⟩ : S39)] : List (S39))) := ⟨_, rfl⟩
              replace H : ((ring_Moved.f y137 ([] : List (S39)) (([3] : List Int))).bind fun t143 => (some ((t143.length : Int) == 1))) = some r := by first | (rw [hy137]; with_reducible exact H) | (have H2_ := (Option.bind_some _ _).symm.trans H; rw [hy137]; with_reducible exact H2_) | (have H2_ := (Option.bind_some _ _).symm.trans H; with_reducible exact H2_) | with_reducible exact H | (rw [hy137]; exact H) | exact H
              have Ny137 := Aside0.mk hy137
              clear hy137
              obtain ⟨y140, hy140⟩ : ∃ y_ : List Int, y_ = (([3] : List Int)) := ⟨_, rfl⟩
              replace H : ((ring_Moved.f y137 ([] : List (S39)) y140).bind fun t143 => (some ((t143.length : Int) == 1))) = some r := by first | (rw [hy140]; with_reducible exact H) | (have H2_ := (Option.bind_some _ _).symm.trans H; rw [hy140]; with_reducible exact H2_) | (have H2_ := (Option.bind_some _ _).symm.trans H; with_reducible exact H2_) | with_reducible exact H | (rw [hy140]; exact H) | exact H
              have Ny140 := Aside0.mk hy140
              clear hy140
              replace H := Option.bind_eq_some_iff.mp H
              obtain ⟨t143, A130, H⟩ := H
              replace H : (some ((t143.length : Int) == 1)) = some r := H
              have A13 := Aside0.mk A130
              clear A130
              obtain rfl := Option.some.inj H
              go_enter Try.func27, Try.ntmps27
              go_wp2_with (first | ((with_reducible refine gate_dst (N := 4) rfl ?_); (try (refine gate_guard (by rfl) ?_; dsimp only)); refine Kd.R_lit k30 _ 30 ?hg (N := 4) ?hd (xs := ([(⟨5, 1⟩ : S30), (⟨9, 2⟩ : S30)] : List (S30))) (inner := [.int .u64 5, .int .i64 1, .int .u64 9, .int .i64 2]) (ok := fun _ => True) (okp := fun _ => True) ?hr ?hp (fun _ hk => hk) trivial (Below.refl _ _) (Nat.le_refl _) (by simp) ?_; (case hd => rfl); (case hg => rfl); (case hr => first | (go_simp; done) | (go_simp; rfl)); (case hp => exact (Reps.c2 (show Kd.M k30 _ _ _ (⟨5, 1⟩ : S30) [.int .u64 5, .int .i64 1] from (k30_mkM _ _ _ (⟨5, 1⟩ : S30) )) (Reps.c2 (show Kd.M k30 _ _ _ (⟨9, 2⟩ : S30) [.int .u64 9, .int .i64 2] from (k30_mkM _ _ _ (⟨9, 2⟩ : S30) )) (Reps.none _ _)))); intro v126 w14 ho15 hb hg_ hnew_; clear hg_ hnew_; (first | rw [← Ny125.out] at ho15 | (simp only [Int.reduceToNat] at ho15; rw [← Ny125.out] at ho15)); have n0_ := Aside0.mk (Kd.R_lower ho15 (below_size (by repeat (first | (with_reducible first | exact HB.out | apply below_alloc | apply pw_below_drewN | apply below_drew1) | exact HB.out)))); have n1_ := Aside0.mk (below_step (by repeat (first | (with_reducible first | exact HB.out | apply below_alloc | apply pw_below_drewN | apply below_drew1) | exact HB.out)) hb); clear HB; have HO127 := n0_; have HB := n1_; clear n0_ n1_; clear hb ho15; obtain ⟨Ao16, co16, eo16⟩ := Kd.R_slice HO127.out; subst eo16) | ((with_reducible refine gate_callee (f := 28) rfl ?_); refine goesL_ (some 6) rfl rfl Try.func28 (by kernel_rfl) rfl #[.slice Ao16 y125.length co16, .int .u64 5] rfl (by (try simp only [List.map_toArray, List.map_cons, List.map_nil]); first | done | rfl | (simp only [List.length_drop, List.length_take]; rfl)) ?_; (with_reducible refine (ring_Succ.calls _ _ y125 5 t128 _ ?side1 ?side2 A1.out).mono ?_); (case side1 => repeat (first | exact (Kd.R_reads' HO127.out).2.2 | (with_reducible refine Kd.C_alloc ?_ _) | (with_reducible refine Kd.C_drewN ?_ _) | (with_reducible refine Kd.C_drew ?_))); (case side2 => exact (Kd.R_reads' HO127.out).2.1); (try clear A1); rintro e w17 ⟨rfl, hb⟩; refine ⟨_, rfl, ?_⟩; have n0_ := Aside0.mk (Kd.R_below (by (with_reducible repeat (first | apply Kd.R_alloc | apply Kd.R_drewN | apply Kd.R_drew)); exact HO127.out) hb); have n1_ := Aside0.mk (below_step (by repeat (first | (with_reducible first | exact HB.out | apply below_alloc | apply pw_below_drewN | apply below_drew1) | exact HB.out)) hb); clear HO127; clear HB; have HO127 := n0_; have HB := n1_; clear n0_ n1_; (try clear hb); (try clear hb2); (try clear hk); (try clear hi)) | (go_at_call 28; (with_reducible refine (ring_Succ.calls _ _ y125 6 t129 _ ?side1 ?side2 A3.out).mono ?_); (case side1 => repeat (first | exact (Kd.R_reads' HO127.out).2.2 | (with_reducible refine Kd.C_alloc ?_ _) | (with_reducible refine Kd.C_drewN ?_ _) | (with_reducible refine Kd.C_drew ?_))); (case side2 => exact (Kd.R_reads' HO127.out).2.1); (try clear A3); rintro e w18 ⟨rfl, hb⟩; have n0_ := Aside0.mk (Kd.R_below (by (with_reducible repeat (first | apply Kd.R_alloc | apply Kd.R_drewN | apply Kd.R_drew)); exact HO127.out) hb); have n1_ := Aside0.mk (below_step (by repeat (first | (with_reducible first | exact HB.out | apply below_alloc | apply pw_below_drewN | apply below_drew1) | exact HB.out)) hb); clear HO127; clear HB; have HO127 := n0_; have HB := n1_; clear n0_ n1_; (try clear hb); (try clear hb2); (try clear hk); (try clear hi)) | (go_at_call 28; (with_reducible refine (ring_Succ.calls _ _ y125 10 t130 _ ?side1 ?side2 A5.out).mono ?_); (case side1 => repeat (first | exact (Kd.R_reads' HO127.out).2.2 | (with_reducible refine Kd.C_alloc ?_ _) | (with_reducible refine Kd.C_drewN ?_ _) | (with_reducible refine Kd.C_drew ?_))); (case side2 => exact (Kd.R_reads' HO127.out).2.1); (try clear A5); rintro e w19 ⟨rfl, hb⟩; have n0_ := Aside0.mk (Kd.R_below (by (with_reducible repeat (first | apply Kd.R_alloc | apply Kd.R_drewN | apply Kd.R_drew)); exact HO127.out) hb); have n1_ := Aside0.mk (below_step (by repeat (first | (with_reducible first | exact HB.out | apply below_alloc | apply pw_below_drewN | apply below_drew1) | exact HB.out)) hb); clear HO127; clear HB; have HO127 := n0_; have HB := n1_; clear n0_ n1_; (try clear hb); (try clear hb2); (try clear hk); (try clear hi)) | (go_at_call 28; (refine (ring_Succ.calls _ _ ([] : List (S30)) 1 t131 _ ?side1 ?side2 A7.out).mono ?_); (case side1 => exact Kd.C_nil _ _); (case side2 => exact Nat.le_refl _); (try clear A7); rintro e w20 ⟨rfl, hb⟩; have n0_ := Aside0.mk (Kd.R_below (by (with_reducible repeat (first | apply Kd.R_alloc | apply Kd.R_drewN | apply Kd.R_drew)); exact HO127.out) hb); have n1_ := Aside0.mk (below_step (by repeat (first | (with_reducible first | exact HB.out | apply below_alloc | apply pw_below_drewN | apply below_drew1) | exact HB.out)) hb); clear HO127; clear HB; have HO127 := n0_; have HB := n1_; clear n0_ n1_; (try clear hb); (try clear hb2); (try clear hk); (try clear hi)) | ((with_reducible refine gate_dst (N := 24) rfl ?_); (try (refine gate_guard (by rfl) ?_; dsimp only)); refine Kd.R_lit k39 _ 39 ?hg (N := 24) ?hd (xs := ([(⟨7, 1⟩ : S39)] : List (S39))) (inner := [.int .i64 7, .int .i64 1]) (ok := fun _ => True) (okp := fun _ => True) ?hr ?hp (fun _ hk => hk) trivial (Below.refl _ _) (Nat.le_refl _) (by simp) ?_; (case hd => rfl); (case hg => rfl); (case hr => first | (go_simp; done) | (go_simp; rfl)); (case hp => exact (Reps.c2 (show Kd.M k39 _ _ _ (⟨7, 1⟩ : S39) [.int .i64 7, .int .i64 1] from (k39_mkM _ _ _ (⟨7, 1⟩ : S39) )) (Reps.none _ _))); intro v133 w21 ho22 hb hg_ hnew_; clear hg_ hnew_; (first | rw [← Ny132.out] at ho22 | (simp only [Int.reduceToNat] at ho22; rw [← Ny132.out] at ho22)); have n0_ := Aside0.mk (Kd.R_below (by (with_reducible repeat (first | apply Kd.R_alloc | apply Kd.R_drewN | apply Kd.R_drew)); exact HO127.out) hb); have n1_ := Aside0.mk (Kd.R_lower ho22 (below_size (by repeat (first | (with_reducible first | exact HB.out | apply below_alloc | apply pw_below_drewN | apply below_drew1) | exact HB.out)))); have n2_ := Aside0.mk (below_step (by repeat (first | (with_reducible first | exact HB.out | apply below_alloc | apply pw_below_drewN | apply below_drew1) | exact HB.out)) hb); clear HO127; clear HB; have HO127 := n0_; have HO134 := n1_; have HB := n2_; clear n0_ n1_ n2_; clear hb ho22; obtain ⟨Ao23, co23, eo23⟩ := Kd.R_slice HO134.out; subst eo23) | (go_at_call 34; (with_reducible refine (ring_Pick.calls _ _ y132 3 t135 _ ?side1 ?side2 A9.out).mono ?_); (case side1 => repeat (first | exact (Kd.R_reads' HO134.out).2.2 | (with_reducible refine Kd.C_alloc ?_ _) | (with_reducible refine Kd.C_drewN ?_ _) | (with_reducible refine Kd.C_drew ?_))); (case side2 => exact (Kd.R_reads' HO134.out).2.1); (try clear A9); rintro e w24 ⟨rfl, hb⟩; have n0_ := Aside0.mk (Kd.R_below (by (with_reducible repeat (first | apply Kd.R_alloc | apply Kd.R_drewN | apply Kd.R_drew)); exact HO127.out) hb); have n1_ := Aside0.mk (Kd.R_below (by (with_reducible repeat (first | apply Kd.R_alloc | apply Kd.R_drewN | apply Kd.R_drew)); exact HO134.out) hb); have n2_ := Aside0.mk (below_step (by repeat (first | (with_reducible first | exact HB.out | apply below_alloc | apply pw_below_drewN | apply below_drew1) | exact HB.out)) hb); clear HO127; clear HO134; clear HB; have HO127 := n0_; have HO134 := n1_; have HB := n2_; clear n0_ n1_ n2_; (try clear hb); (try clear hb2); (try clear hk); (try clear hi)) | (go_at_call 34; (refine (ring_Pick.calls _ _ ([] : List (S39)) 3 t136 _ ?side1 ?side2 A11.out).mono ?_); (case side1 => exact Kd.C_nil _ _); (case side2 => exact Nat.le_refl _); (try clear A11); rintro e w25 ⟨rfl, hb⟩; have n0_ := Aside0.mk (Kd.R_below (by (with_reducible repeat (first | apply Kd.R_alloc | apply Kd.R_drewN | apply Kd.R_drew)); exact HO127.out) hb); have n1_ := Aside0.mk (Kd.R_below (by (with_reducible repeat (first | apply Kd.R_alloc | apply Kd.R_drewN | apply Kd.R_drew)); exact HO134.out) hb); have n2_ := Aside0.mk (below_step (by repeat (first | (with_reducible first | exact HB.out | apply below_alloc | apply pw_below_drewN | apply below_drew1) | exact HB.out)) hb); clear HO127; clear HO134; clear HB; have HO127 := n0_; have HO134 := n1_; have HB := n2_; clear n0_ n1_ n2_; (try clear hb); (try clear hb2); (try clear hk); (try clear hi)) | ((with_reducible refine gate_dst (N := 34) rfl ?_); (try (refine gate_guard (by rfl) ?_; dsimp only)); refine Kd.R_lit k39 _ 39 ?hg (N := 34) ?hd (xs := ([(⟨7, 1⟩ : S39)] : List (S39))) (inner := [.int .i64 7, .int .i64 1]) (ok := fun _ => True) (okp := fun _ => True) ?hr ?hp (fun _ hk => hk) trivial (Below.refl _ _) (Nat.le_refl _) (by simp) ?_; (case hd => rfl); (case hg => rfl); (case hr => first | (go_simp; done) | (go_simp; rfl)); (case hp => exact (Reps.c2 (show Kd.M k39 _ _ _ (⟨7, 1⟩ : S39) [.int .i64 7, .int .i64 1] from (k39_mkM _ _ _ (⟨7, 1⟩ : S39) )) (Reps.none _ _))); intro v138 w26 ho27 hb hg_ hnew_; clear hg_ hnew_; (first | rw [← Ny137.out] at ho27 | (simp only [Int.reduceToNat] at ho27; rw [← Ny137.out] at ho27)); have n0_ := Aside0.mk (Kd.R_below (by (with_reducible repeat (first | apply Kd.R_alloc | apply Kd.R_drewN | apply Kd.R_drew)); exact HO127.out) hb); have n1_ := Aside0.mk (Kd.R_elder' (by (with_reducible repeat (first | apply Kd.R_alloc | apply Kd.R_drewN | apply Kd.R_drew)); exact HO134.out) (Kd.R_base ho27) hb); have n2_ := Aside0.mk (Kd.R_lower (Kd.R_new' ho27 (Kd.R_lt (by (with_reducible repeat (first | apply Kd.R_alloc | apply Kd.R_drewN | apply Kd.R_drew)); exact HO134.out))) (below_size (by repeat (first | (with_reducible first | exact HB.out | apply below_alloc | apply pw_below_drewN | apply below_drew1) | exact HB.out)))); have n3_ := Aside0.mk (below_step (by repeat (first | (with_reducible first | exact HB.out | apply below_alloc | apply pw_below_drewN | apply below_drew1) | exact HB.out)) hb); clear HO127; clear HO134; clear HB; have HO127 := n0_; have HO134 := n1_; have HO139 := n2_; have HB := n3_; clear n0_ n1_ n2_ n3_; clear hb ho27) | ((with_reducible refine gate_dst (N := 35) rfl ?_); (try (refine gate_guard (by rfl) ?_; dsimp only)); refine Kd.R_lit (Kd.int .u64) _ 28 ?hg (N := 35) ?hd (xs := ([3] : List Int)) (inner := [.int .u64 3]) (ok := fun _ => True) (okp := fun _ => True) ?hr ?hp (fun _ hk => hk) trivial (Below.refl _ _) (Nat.le_refl _) (by simp) ?_; (case hd => rfl); (case hg => rfl); (case hr => first | (go_simp; done) | (go_simp; rfl)); (case hp => exact (Reps.one (show Kd.M (Kd.int .u64) _ _ _ 3 [.int .u64 3] from rfl) (Reps.none _ _))); intro v141 w28 ho29 hb hg_ hnew_; clear hg_ hnew_; (first | rw [← Ny140.out] at ho29 | (simp only [Int.reduceToNat] at ho29; rw [← Ny140.out] at ho29)); have n0_ := Aside0.mk (Kd.R_below (by (with_reducible repeat (first | apply Kd.R_alloc | apply Kd.R_drewN | apply Kd.R_drew)); exact HO127.out) hb); have n1_ := Aside0.mk (Kd.R_below (by (with_reducible repeat (first | apply Kd.R_alloc | apply Kd.R_drewN | apply Kd.R_drew)); exact HO134.out) hb); have n2_ := Aside0.mk (Kd.R_below (by (with_reducible repeat (first | apply Kd.R_alloc | apply Kd.R_drewN | apply Kd.R_drew)); exact HO139.out) hb); have n3_ := Aside0.mk (Kd.R_lower ho29 (below_size (by repeat (first | (with_reducible first | exact HB.out | apply below_alloc | apply pw_below_drewN | apply below_drew1) | exact HB.out)))); have n4_ := Aside0.mk (below_step (by repeat (first | (with_reducible first | exact HB.out | apply below_alloc | apply pw_below_drewN | apply below_drew1) | exact HB.out)) hb); clear HO127; clear HO134; clear HO139; clear HB; have HO127 := n0_; have HO134 := n1_; have HO139 := n2_; have HO142 := n3_; have HB := n4_; clear n0_ n1_ n2_ n3_ n4_; clear hb ho29; obtain ⟨Ao30, co30, eo30⟩ := Kd.R_slice HO139.out; subst eo30; obtain ⟨Ao31, co31, eo31⟩ := Kd.R_slice HO142.out; subst eo31) | (go_at_call 32; (refine (ring_Moved.calls _ _ y137 _ _ ([] : List (S39)) _ _ y140 t143 _ ?side1 ?side2 ?side3 ?side4 ?side5 ?side6 A13.out).mono ?_); (case side1 => repeat (first | exact (Kd.R_reads' HO139.out).2.2 | (with_reducible refine Kd.C_alloc ?_ _) | (with_reducible refine Kd.C_drewN ?_ _) | (with_reducible refine Kd.C_drew ?_))); (case side2 => exact (Kd.R_reads' HO139.out).2.1); (case side3 => exact Kd.C_nil _ _); (case side4 => exact Nat.le_refl _); (case side5 => repeat (first | exact (Kd.R_reads' HO142.out).2.2 | (with_reducible refine Kd.C_alloc ?_ _) | (with_reducible refine Kd.C_drewN ?_ _) | (with_reducible refine Kd.C_drew ?_))); (case side6 => exact (Kd.R_reads' HO142.out).2.1); (try clear A13); rintro e w32 ⟨v144, rfl, ho0, hb⟩; have n0_ := Aside0.mk (Kd.R_below (by (with_reducible repeat (first | apply Kd.R_alloc | apply Kd.R_drewN | apply Kd.R_drew)); exact HO127.out) hb); have n1_ := Aside0.mk (Kd.R_below (by (with_reducible repeat (first | apply Kd.R_alloc | apply Kd.R_drewN | apply Kd.R_drew)); exact HO134.out) hb); have n2_ := Aside0.mk (Kd.R_below (by (with_reducible repeat (first | apply Kd.R_alloc | apply Kd.R_drewN | apply Kd.R_drew)); exact HO139.out) hb); have n3_ := Aside0.mk (Kd.R_below (by (with_reducible repeat (first | apply Kd.R_alloc | apply Kd.R_drewN | apply Kd.R_drew)); exact HO142.out) hb); have n4_ := Aside0.mk (Kd.R_lower ho0 (below_size (by repeat (first | (with_reducible first | exact HB.out | apply below_alloc | apply pw_below_drewN | apply below_drew1) | exact HB.out)))); have n5_ := Aside0.mk (below_step (by repeat (first | (with_reducible first | exact HB.out | apply below_alloc | apply pw_below_drewN | apply below_drew1) | exact HB.out)) hb); clear HO127; clear HO134; clear HO139; clear HO142; clear HB; have HO127 := n0_; have HO134 := n1_; have HO139 := n2_; have HO142 := n3_; have HO145 := n4_; have HB := n5_; clear n0_ n1_ n2_ n3_ n4_ n5_; (try clear hb); (try clear hb2); (try clear hk); (try clear hi); (try clear ho0); obtain ⟨Ao33, co33, eo33⟩ := Kd.R_slice HO145.out; subst eo33))
              go_ret
              exact ⟨by first | rfl | (simp [errW_none, errW_some] <;> rfl) | (simp [*, errW_none, errW_some] <;> rfl), by repeat (first | (with_reducible first | exact HB.out | apply below_alloc | apply pw_below_drewN | apply below_drew1) | exact HB.out)⟩
            · rw [if_neg c12] at H
              have c12b0 : (t136 == (-1)) = false := beq_eq_false_iff_ne.mpr c12
              have c12b1 : (t136 != (-1)) = true := bne_iff_ne.mpr c12
              obtain rfl := Option.some.inj H
              go_enter Try.func27, Try.ntmps27
              go_wp2_with (first | ((with_reducible refine gate_dst (N := 4) rfl ?_); (try (refine gate_guard (by rfl) ?_; dsimp only)); refine Kd.R_lit k30 _ 30 ?hg (N := 4) ?hd (xs := ([(⟨5, 1⟩ : S30), (⟨9, 2⟩ : S30)] : List (S30))) (inner := [.int .u64 5, .int .i64 1, .int .u64 9, .int .i64 2]) (ok := fun _ => True) (okp := fun _ => True) ?hr ?hp (fun _ hk => hk) trivial (Below.refl _ _) (Nat.le_refl _) (by simp) ?_; (case hd => rfl); (case hg => rfl); (case hr => first | (go_simp; done) | (go_simp; rfl)); (case hp => exact (Reps.c2 (show Kd.M k30 _ _ _ (⟨5, 1⟩ : S30) [.int .u64 5, .int .i64 1] from (k30_mkM _ _ _ (⟨5, 1⟩ : S30) )) (Reps.c2 (show Kd.M k30 _ _ _ (⟨9, 2⟩ : S30) [.int .u64 9, .int .i64 2] from (k30_mkM _ _ _ (⟨9, 2⟩ : S30) )) (Reps.none _ _)))); intro v126 w34 ho35 hb hg_ hnew_; clear hg_ hnew_; (first | rw [← Ny125.out] at ho35 | (simp only [Int.reduceToNat] at ho35; rw [← Ny125.out] at ho35)); have n0_ := Aside0.mk (Kd.R_lower ho35 (below_size (by repeat (first | (with_reducible first | exact HB.out | apply below_alloc | apply pw_below_drewN | apply below_drew1) | exact HB.out)))); have n1_ := Aside0.mk (below_step (by repeat (first | (with_reducible first | exact HB.out | apply below_alloc | apply pw_below_drewN | apply below_drew1) | exact HB.out)) hb); clear HB; have HO127 := n0_; have HB := n1_; clear n0_ n1_; clear hb ho35; obtain ⟨Ao36, co36, eo36⟩ := Kd.R_slice HO127.out; subst eo36) | ((with_reducible refine gate_callee (f := 28) rfl ?_); refine goesL_ (some 6) rfl rfl Try.func28 (by kernel_rfl) rfl #[.slice Ao36 y125.length co36, .int .u64 5] rfl (by (try simp only [List.map_toArray, List.map_cons, List.map_nil]); first | done | rfl | (simp only [List.length_drop, List.length_take]; rfl)) ?_; (with_reducible refine (ring_Succ.calls _ _ y125 5 t128 _ ?side1 ?side2 A1.out).mono ?_); (case side1 => repeat (first | exact (Kd.R_reads' HO127.out).2.2 | (with_reducible refine Kd.C_alloc ?_ _) | (with_reducible refine Kd.C_drewN ?_ _) | (with_reducible refine Kd.C_drew ?_))); (case side2 => exact (Kd.R_reads' HO127.out).2.1); (try clear A1); rintro e w37 ⟨rfl, hb⟩; refine ⟨_, rfl, ?_⟩; have n0_ := Aside0.mk (Kd.R_below (by (with_reducible repeat (first | apply Kd.R_alloc | apply Kd.R_drewN | apply Kd.R_drew)); exact HO127.out) hb); have n1_ := Aside0.mk (below_step (by repeat (first | (with_reducible first | exact HB.out | apply below_alloc | apply pw_below_drewN | apply below_drew1) | exact HB.out)) hb); clear HO127; clear HB; have HO127 := n0_; have HB := n1_; clear n0_ n1_; (try clear hb); (try clear hb2); (try clear hk); (try clear hi)) | (go_at_call 28; (with_reducible refine (ring_Succ.calls _ _ y125 6 t129 _ ?side1 ?side2 A3.out).mono ?_); (case side1 => repeat (first | exact (Kd.R_reads' HO127.out).2.2 | (with_reducible refine Kd.C_alloc ?_ _) | (with_reducible refine Kd.C_drewN ?_ _) | (with_reducible refine Kd.C_drew ?_))); (case side2 => exact (Kd.R_reads' HO127.out).2.1); (try clear A3); rintro e w38 ⟨rfl, hb⟩; have n0_ := Aside0.mk (Kd.R_below (by (with_reducible repeat (first | apply Kd.R_alloc | apply Kd.R_drewN | apply Kd.R_drew)); exact HO127.out) hb); have n1_ := Aside0.mk (below_step (by repeat (first | (with_reducible first | exact HB.out | apply below_alloc | apply pw_below_drewN | apply below_drew1) | exact HB.out)) hb); clear HO127; clear HB; have HO127 := n0_; have HB := n1_; clear n0_ n1_; (try clear hb); (try clear hb2); (try clear hk); (try clear hi)) | (go_at_call 28; (with_reducible refine (ring_Succ.calls _ _ y125 10 t130 _ ?side1 ?side2 A5.out).mono ?_); (case side1 => repeat (first | exact (Kd.R_reads' HO127.out).2.2 | (with_reducible refine Kd.C_alloc ?_ _) | (with_reducible refine Kd.C_drewN ?_ _) | (with_reducible refine Kd.C_drew ?_))); (case side2 => exact (Kd.R_reads' HO127.out).2.1); (try clear A5); rintro e w39 ⟨rfl, hb⟩; have n0_ := Aside0.mk (Kd.R_below (by (with_reducible repeat (first | apply Kd.R_alloc | apply Kd.R_drewN | apply Kd.R_drew)); exact HO127.out) hb); have n1_ := Aside0.mk (below_step (by repeat (first | (with_reducible first | exact HB.out | apply below_alloc | apply pw_below_drewN | apply below_drew1) | exact HB.out)) hb); clear HO127; clear HB; have HO127 := n0_; have HB := n1_; clear n0_ n1_; (try clear hb); (try clear hb2); (try clear hk); (try clear hi)) | (go_at_call 28; (refine (ring_Succ.calls _ _ ([] : List (S30)) 1 t131 _ ?side1 ?side2 A7.out).mono ?_); (case side1 => exact Kd.C_nil _ _); (case side2 => exact Nat.le_refl _); (try clear A7); rintro e w40 ⟨rfl, hb⟩; have n0_ := Aside0.mk (Kd.R_below (by (with_reducible repeat (first | apply Kd.R_alloc | apply Kd.R_drewN | apply Kd.R_drew)); exact HO127.out) hb); have n1_ := Aside0.mk (below_step (by repeat (first | (with_reducible first | exact HB.out | apply below_alloc | apply pw_below_drewN | apply below_drew1) | exact HB.out)) hb); clear HO127; clear HB; have HO127 := n0_; have HB := n1_; clear n0_ n1_; (try clear hb); (try clear hb2); (try clear hk); (try clear hi)) | ((with_reducible refine gate_dst (N := 24) rfl ?_); (try (refine gate_guard (by rfl) ?_; dsimp only)); refine Kd.R_lit k39 _ 39 ?hg (N := 24) ?hd (xs := ([(⟨7, 1⟩ : S39)] : List (S39))) (inner := [.int .i64 7, .int .i64 1]) (ok := fun _ => True) (okp := fun _ => True) ?hr ?hp (fun _ hk => hk) trivial (Below.refl _ _) (Nat.le_refl _) (by simp) ?_; (case hd => rfl); (case hg => rfl); (case hr => first | (go_simp; done) | (go_simp; rfl)); (case hp => exact (Reps.c2 (show Kd.M k39 _ _ _ (⟨7, 1⟩ : S39) [.int .i64 7, .int .i64 1] from (k39_mkM _ _ _ (⟨7, 1⟩ : S39) )) (Reps.none _ _))); intro v133 w41 ho42 hb hg_ hnew_; clear hg_ hnew_; (first | rw [← Ny132.out] at ho42 | (simp only [Int.reduceToNat] at ho42; rw [← Ny132.out] at ho42)); have n0_ := Aside0.mk (Kd.R_below (by (with_reducible repeat (first | apply Kd.R_alloc | apply Kd.R_drewN | apply Kd.R_drew)); exact HO127.out) hb); have n1_ := Aside0.mk (Kd.R_lower ho42 (below_size (by repeat (first | (with_reducible first | exact HB.out | apply below_alloc | apply pw_below_drewN | apply below_drew1) | exact HB.out)))); have n2_ := Aside0.mk (below_step (by repeat (first | (with_reducible first | exact HB.out | apply below_alloc | apply pw_below_drewN | apply below_drew1) | exact HB.out)) hb); clear HO127; clear HB; have HO127 := n0_; have HO134 := n1_; have HB := n2_; clear n0_ n1_ n2_; clear hb ho42; obtain ⟨Ao43, co43, eo43⟩ := Kd.R_slice HO134.out; subst eo43) | (go_at_call 34; (with_reducible refine (ring_Pick.calls _ _ y132 3 t135 _ ?side1 ?side2 A9.out).mono ?_); (case side1 => repeat (first | exact (Kd.R_reads' HO134.out).2.2 | (with_reducible refine Kd.C_alloc ?_ _) | (with_reducible refine Kd.C_drewN ?_ _) | (with_reducible refine Kd.C_drew ?_))); (case side2 => exact (Kd.R_reads' HO134.out).2.1); (try clear A9); rintro e w44 ⟨rfl, hb⟩; have n0_ := Aside0.mk (Kd.R_below (by (with_reducible repeat (first | apply Kd.R_alloc | apply Kd.R_drewN | apply Kd.R_drew)); exact HO127.out) hb); have n1_ := Aside0.mk (Kd.R_below (by (with_reducible repeat (first | apply Kd.R_alloc | apply Kd.R_drewN | apply Kd.R_drew)); exact HO134.out) hb); have n2_ := Aside0.mk (below_step (by repeat (first | (with_reducible first | exact HB.out | apply below_alloc | apply pw_below_drewN | apply below_drew1) | exact HB.out)) hb); clear HO127; clear HO134; clear HB; have HO127 := n0_; have HO134 := n1_; have HB := n2_; clear n0_ n1_ n2_; (try clear hb); (try clear hb2); (try clear hk); (try clear hi)) | (go_at_call 34; (refine (ring_Pick.calls _ _ ([] : List (S39)) 3 t136 _ ?side1 ?side2 A11.out).mono ?_); (case side1 => exact Kd.C_nil _ _); (case side2 => exact Nat.le_refl _); (try clear A11); rintro e w45 ⟨rfl, hb⟩; have n0_ := Aside0.mk (Kd.R_below (by (with_reducible repeat (first | apply Kd.R_alloc | apply Kd.R_drewN | apply Kd.R_drew)); exact HO127.out) hb); have n1_ := Aside0.mk (Kd.R_below (by (with_reducible repeat (first | apply Kd.R_alloc | apply Kd.R_drewN | apply Kd.R_drew)); exact HO134.out) hb); have n2_ := Aside0.mk (below_step (by repeat (first | (with_reducible first | exact HB.out | apply below_alloc | apply pw_below_drewN | apply below_drew1) | exact HB.out)) hb); clear HO127; clear HO134; clear HB; have HO127 := n0_; have HO134 := n1_; have HB := n2_; clear n0_ n1_ n2_; (try clear hb); (try clear hb2); (try clear hk); (try clear hi)))
              go_ret
              exact ⟨by first | rfl | (simp [errW_none, errW_some] <;> rfl) | (simp [*, errW_none, errW_some] <;> rfl), by repeat (first | (with_reducible first | exact HB.out | apply below_alloc | apply pw_below_drewN | apply below_drew1) | exact HB.out)⟩
          · rw [if_neg c10] at H
            have c10b0 : (t135 == 7) = false := beq_eq_false_iff_ne.mpr c10
            have c10b1 : (t135 != 7) = true := bne_iff_ne.mpr c10
            obtain rfl := Option.some.inj H
            go_enter Try.func27, Try.ntmps27
            go_wp2_with (first | ((with_reducible refine gate_dst (N := 4) rfl ?_); (try (refine gate_guard (by rfl) ?_; dsimp only)); refine Kd.R_lit k30 _ 30 ?hg (N := 4) ?hd (xs := ([(⟨5, 1⟩ : S30), (⟨9, 2⟩ : S30)] : List (S30))) (inner := [.int .u64 5, .int .i64 1, .int .u64 9, .int .i64 2]) (ok := fun _ => True) (okp := fun _ => True) ?hr ?hp (fun _ hk => hk) trivial (Below.refl _ _) (Nat.le_refl _) (by simp) ?_; (case hd => rfl); (case hg => rfl); (case hr => first | (go_simp; done) | (go_simp; rfl)); (case hp => exact (Reps.c2 (show Kd.M k30 _ _ _ (⟨5, 1⟩ : S30) [.int .u64 5, .int .i64 1] from (k30_mkM _ _ _ (⟨5, 1⟩ : S30) )) (Reps.c2 (show Kd.M k30 _ _ _ (⟨9, 2⟩ : S30) [.int .u64 9, .int .i64 2] from (k30_mkM _ _ _ (⟨9, 2⟩ : S30) )) (Reps.none _ _)))); intro v126 w46 ho47 hb hg_ hnew_; clear hg_ hnew_; (first | rw [← Ny125.out] at ho47 | (simp only [Int.reduceToNat] at ho47; rw [← Ny125.out] at ho47)); have n0_ := Aside0.mk (Kd.R_lower ho47 (below_size (by repeat (first | (with_reducible first | exact HB.out | apply below_alloc | apply pw_below_drewN | apply below_drew1) | exact HB.out)))); have n1_ := Aside0.mk (below_step (by repeat (first | (with_reducible first | exact HB.out | apply below_alloc | apply pw_below_drewN | apply below_drew1) | exact HB.out)) hb); clear HB; have HO127 := n0_; have HB := n1_; clear n0_ n1_; clear hb ho47; obtain ⟨Ao48, co48, eo48⟩ := Kd.R_slice HO127.out; subst eo48) | ((with_reducible refine gate_callee (f := 28) rfl ?_); refine goesL_ (some 6) rfl rfl Try.func28 (by kernel_rfl) rfl #[.slice Ao48 y125.length co48, .int .u64 5] rfl (by (try simp only [List.map_toArray, List.map_cons, List.map_nil]); first | done | rfl | (simp only [List.length_drop, List.length_take]; rfl)) ?_; (with_reducible refine (ring_Succ.calls _ _ y125 5 t128 _ ?side1 ?side2 A1.out).mono ?_); (case side1 => repeat (first | exact (Kd.R_reads' HO127.out).2.2 | (with_reducible refine Kd.C_alloc ?_ _) | (with_reducible refine Kd.C_drewN ?_ _) | (with_reducible refine Kd.C_drew ?_))); (case side2 => exact (Kd.R_reads' HO127.out).2.1); (try clear A1); rintro e w49 ⟨rfl, hb⟩; refine ⟨_, rfl, ?_⟩; have n0_ := Aside0.mk (Kd.R_below (by (with_reducible repeat (first | apply Kd.R_alloc | apply Kd.R_drewN | apply Kd.R_drew)); exact HO127.out) hb); have n1_ := Aside0.mk (below_step (by repeat (first | (with_reducible first | exact HB.out | apply below_alloc | apply pw_below_drewN | apply below_drew1) | exact HB.out)) hb); clear HO127; clear HB; have HO127 := n0_; have HB := n1_; clear n0_ n1_; (try clear hb); (try clear hb2); (try clear hk); (try clear hi)) | (go_at_call 28; (with_reducible refine (ring_Succ.calls _ _ y125 6 t129 _ ?side1 ?side2 A3.out).mono ?_); (case side1 => repeat (first | exact (Kd.R_reads' HO127.out).2.2 | (with_reducible refine Kd.C_alloc ?_ _) | (with_reducible refine Kd.C_drewN ?_ _) | (with_reducible refine Kd.C_drew ?_))); (case side2 => exact (Kd.R_reads' HO127.out).2.1); (try clear A3); rintro e w50 ⟨rfl, hb⟩; have n0_ := Aside0.mk (Kd.R_below (by (with_reducible repeat (first | apply Kd.R_alloc | apply Kd.R_drewN | apply Kd.R_drew)); exact HO127.out) hb); have n1_ := Aside0.mk (below_step (by repeat (first | (with_reducible first | exact HB.out | apply below_alloc | apply pw_below_drewN | apply below_drew1) | exact HB.out)) hb); clear HO127; clear HB; have HO127 := n0_; have HB := n1_; clear n0_ n1_; (try clear hb); (try clear hb2); (try clear hk); (try clear hi)) | (go_at_call 28; (with_reducible refine (ring_Succ.calls _ _ y125 10 t130 _ ?side1 ?side2 A5.out).mono ?_); (case side1 => repeat (first | exact (Kd.R_reads' HO127.out).2.2 | (with_reducible refine Kd.C_alloc ?_ _) | (with_reducible refine Kd.C_drewN ?_ _) | (with_reducible refine Kd.C_drew ?_))); (case side2 => exact (Kd.R_reads' HO127.out).2.1); (try clear A5); rintro e w51 ⟨rfl, hb⟩; have n0_ := Aside0.mk (Kd.R_below (by (with_reducible repeat (first | apply Kd.R_alloc | apply Kd.R_drewN | apply Kd.R_drew)); exact HO127.out) hb); have n1_ := Aside0.mk (below_step (by repeat (first | (with_reducible first | exact HB.out | apply below_alloc | apply pw_below_drewN | apply below_drew1) | exact HB.out)) hb); clear HO127; clear HB; have HO127 := n0_; have HB := n1_; clear n0_ n1_; (try clear hb); (try clear hb2); (try clear hk); (try clear hi)) | (go_at_call 28; (refine (ring_Succ.calls _ _ ([] : List (S30)) 1 t131 _ ?side1 ?side2 A7.out).mono ?_); (case side1 => exact Kd.C_nil _ _); (case side2 => exact Nat.le_refl _); (try clear A7); rintro e w52 ⟨rfl, hb⟩; have n0_ := Aside0.mk (Kd.R_below (by (with_reducible repeat (first | apply Kd.R_alloc | apply Kd.R_drewN | apply Kd.R_drew)); exact HO127.out) hb); have n1_ := Aside0.mk (below_step (by repeat (first | (with_reducible first | exact HB.out | apply below_alloc | apply pw_below_drewN | apply below_drew1) | exact HB.out)) hb); clear HO127; clear HB; have HO127 := n0_; have HB := n1_; clear n0_ n1_; (try clear hb); (try clear hb2); (try clear hk); (try clear hi)) | ((with_reducible refine gate_dst (N := 24) rfl ?_); (try (refine gate_guard (by rfl) ?_; dsimp only)); refine Kd.R_lit k39 _ 39 ?hg (N := 24) ?hd (xs := ([(⟨7, 1⟩ : S39)] : List (S39))) (inner := [.int .i64 7, .int .i64 1]) (ok := fun _ => True) (okp := fun _ => True) ?hr ?hp (fun _ hk => hk) trivial (Below.refl _ _) (Nat.le_refl _) (by simp) ?_; (case hd => rfl); (case hg => rfl); (case hr => first | (go_simp; done) | (go_simp; rfl)); (case hp => exact (Reps.c2 (show Kd.M k39 _ _ _ (⟨7, 1⟩ : S39) [.int .i64 7, .int .i64 1] from (k39_mkM _ _ _ (⟨7, 1⟩ : S39) )) (Reps.none _ _))); intro v133 w53 ho54 hb hg_ hnew_; clear hg_ hnew_; (first | rw [← Ny132.out] at ho54 | (simp only [Int.reduceToNat] at ho54; rw [← Ny132.out] at ho54)); have n0_ := Aside0.mk (Kd.R_below (by (with_reducible repeat (first | apply Kd.R_alloc | apply Kd.R_drewN | apply Kd.R_drew)); exact HO127.out) hb); have n1_ := Aside0.mk (Kd.R_lower ho54 (below_size (by repeat (first | (with_reducible first | exact HB.out | apply below_alloc | apply pw_below_drewN | apply below_drew1) | exact HB.out)))); have n2_ := Aside0.mk (below_step (by repeat (first | (with_reducible first | exact HB.out | apply below_alloc | apply pw_below_drewN | apply below_drew1) | exact HB.out)) hb); clear HO127; clear HB; have HO127 := n0_; have HO134 := n1_; have HB := n2_; clear n0_ n1_ n2_; clear hb ho54; obtain ⟨Ao55, co55, eo55⟩ := Kd.R_slice HO134.out; subst eo55) | (go_at_call 34; (with_reducible refine (ring_Pick.calls _ _ y132 3 t135 _ ?side1 ?side2 A9.out).mono ?_); (case side1 => repeat (first | exact (Kd.R_reads' HO134.out).2.2 | (with_reducible refine Kd.C_alloc ?_ _) | (with_reducible refine Kd.C_drewN ?_ _) | (with_reducible refine Kd.C_drew ?_))); (case side2 => exact (Kd.R_reads' HO134.out).2.1); (try clear A9); rintro e w56 ⟨rfl, hb⟩; have n0_ := Aside0.mk (Kd.R_below (by (with_reducible repeat (first | apply Kd.R_alloc | apply Kd.R_drewN | apply Kd.R_drew)); exact HO127.out) hb); have n1_ := Aside0.mk (Kd.R_below (by (with_reducible repeat (first | apply Kd.R_alloc | apply Kd.R_drewN | apply Kd.R_drew)); exact HO134.out) hb); have n2_ := Aside0.mk (below_step (by repeat (first | (with_reducible first | exact HB.out | apply below_alloc | apply pw_below_drewN | apply below_drew1) | exact HB.out)) hb); clear HO127; clear HO134; clear HB; have HO127 := n0_; have HO134 := n1_; have HB := n2_; clear n0_ n1_ n2_; (try clear hb); (try clear hb2); (try clear hk); (try clear hi)))
            go_ret
            exact ⟨by first | rfl | (simp [errW_none, errW_some] <;> rfl) | (simp [*, errW_none, errW_some] <;> rfl), by repeat (first | (with_reducible first | exact HB.out | apply below_alloc | apply pw_below_drewN | apply below_drew1) | exact HB.out)⟩
        · rw [if_neg c8] at H
          have c8b0 : (t131 == (-1)) = false := beq_eq_false_iff_ne.mpr c8
          have c8b1 : (t131 != (-1)) = true := bne_iff_ne.mpr c8
          obtain rfl := Option.some.inj H
          go_enter Try.func27, Try.ntmps27
          go_wp2_with (first | ((with_reducible refine gate_dst (N := 4) rfl ?_); (try (refine gate_guard (by rfl) ?_; dsimp only)); refine Kd.R_lit k30 _ 30 ?hg (N := 4) ?hd (xs := ([(⟨5, 1⟩ : S30), (⟨9, 2⟩ : S30)] : List (S30))) (inner := [.int .u64 5, .int .i64 1, .int .u64 9, .int .i64 2]) (ok := fun _ => True) (okp := fun _ => True) ?hr ?hp (fun _ hk => hk) trivial (Below.refl _ _) (Nat.le_refl _) (by simp) ?_; (case hd => rfl); (case hg => rfl); (case hr => first | (go_simp; done) | (go_simp; rfl)); (case hp => exact (Reps.c2 (show Kd.M k30 _ _ _ (⟨5, 1⟩ : S30) [.int .u64 5, .int .i64 1] from (k30_mkM _ _ _ (⟨5, 1⟩ : S30) )) (Reps.c2 (show Kd.M k30 _ _ _ (⟨9, 2⟩ : S30) [.int .u64 9, .int .i64 2] from (k30_mkM _ _ _ (⟨9, 2⟩ : S30) )) (Reps.none _ _)))); intro v126 w57 ho58 hb hg_ hnew_; clear hg_ hnew_; (first | rw [← Ny125.out] at ho58 | (simp only [Int.reduceToNat] at ho58; rw [← Ny125.out] at ho58)); have n0_ := Aside0.mk (Kd.R_lower ho58 (below_size (by repeat (first | (with_reducible first | exact HB.out | apply below_alloc | apply pw_below_drewN | apply below_drew1) | exact HB.out)))); have n1_ := Aside0.mk (below_step (by repeat (first | (with_reducible first | exact HB.out | apply below_alloc | apply pw_below_drewN | apply below_drew1) | exact HB.out)) hb); clear HB; have HO127 := n0_; have HB := n1_; clear n0_ n1_; clear hb ho58; obtain ⟨Ao59, co59, eo59⟩ := Kd.R_slice HO127.out; subst eo59) | ((with_reducible refine gate_callee (f := 28) rfl ?_); refine goesL_ (some 6) rfl rfl Try.func28 (by kernel_rfl) rfl #[.slice Ao59 y125.length co59, .int .u64 5] rfl (by (try simp only [List.map_toArray, List.map_cons, List.map_nil]); first | done | rfl | (simp only [List.length_drop, List.length_take]; rfl)) ?_; (with_reducible refine (ring_Succ.calls _ _ y125 5 t128 _ ?side1 ?side2 A1.out).mono ?_); (case side1 => repeat (first | exact (Kd.R_reads' HO127.out).2.2 | (with_reducible refine Kd.C_alloc ?_ _) | (with_reducible refine Kd.C_drewN ?_ _) | (with_reducible refine Kd.C_drew ?_))); (case side2 => exact (Kd.R_reads' HO127.out).2.1); (try clear A1); rintro e w60 ⟨rfl, hb⟩; refine ⟨_, rfl, ?_⟩; have n0_ := Aside0.mk (Kd.R_below (by (with_reducible repeat (first | apply Kd.R_alloc | apply Kd.R_drewN | apply Kd.R_drew)); exact HO127.out) hb); have n1_ := Aside0.mk (below_step (by repeat (first | (with_reducible first | exact HB.out | apply below_alloc | apply pw_below_drewN | apply below_drew1) | exact HB.out)) hb); clear HO127; clear HB; have HO127 := n0_; have HB := n1_; clear n0_ n1_; (try clear hb); (try clear hb2); (try clear hk); (try clear hi)) | (go_at_call 28; (with_reducible refine (ring_Succ.calls _ _ y125 6 t129 _ ?side1 ?side2 A3.out).mono ?_); (case side1 => repeat (first | exact (Kd.R_reads' HO127.out).2.2 | (with_reducible refine Kd.C_alloc ?_ _) | (with_reducible refine Kd.C_drewN ?_ _) | (with_reducible refine Kd.C_drew ?_))); (case side2 => exact (Kd.R_reads' HO127.out).2.1); (try clear A3); rintro e w61 ⟨rfl, hb⟩; have n0_ := Aside0.mk (Kd.R_below (by (with_reducible repeat (first | apply Kd.R_alloc | apply Kd.R_drewN | apply Kd.R_drew)); exact HO127.out) hb); have n1_ := Aside0.mk (below_step (by repeat (first | (with_reducible first | exact HB.out | apply below_alloc | apply pw_below_drewN | apply below_drew1) | exact HB.out)) hb); clear HO127; clear HB; have HO127 := n0_; have HB := n1_; clear n0_ n1_; (try clear hb); (try clear hb2); (try clear hk); (try clear hi)) | (go_at_call 28; (with_reducible refine (ring_Succ.calls _ _ y125 10 t130 _ ?side1 ?side2 A5.out).mono ?_); (case side1 => repeat (first | exact (Kd.R_reads' HO127.out).2.2 | (with_reducible refine Kd.C_alloc ?_ _) | (with_reducible refine Kd.C_drewN ?_ _) | (with_reducible refine Kd.C_drew ?_))); (case side2 => exact (Kd.R_reads' HO127.out).2.1); (try clear A5); rintro e w62 ⟨rfl, hb⟩; have n0_ := Aside0.mk (Kd.R_below (by (with_reducible repeat (first | apply Kd.R_alloc | apply Kd.R_drewN | apply Kd.R_drew)); exact HO127.out) hb); have n1_ := Aside0.mk (below_step (by repeat (first | (with_reducible first | exact HB.out | apply below_alloc | apply pw_below_drewN | apply below_drew1) | exact HB.out)) hb); clear HO127; clear HB; have HO127 := n0_; have HB := n1_; clear n0_ n1_; (try clear hb); (try clear hb2); (try clear hk); (try clear hi)) | (go_at_call 28; (refine (ring_Succ.calls _ _ ([] : List (S30)) 1 t131 _ ?side1 ?side2 A7.out).mono ?_); (case side1 => exact Kd.C_nil _ _); (case side2 => exact Nat.le_refl _); (try clear A7); rintro e w63 ⟨rfl, hb⟩; have n0_ := Aside0.mk (Kd.R_below (by (with_reducible repeat (first | apply Kd.R_alloc | apply Kd.R_drewN | apply Kd.R_drew)); exact HO127.out) hb); have n1_ := Aside0.mk (below_step (by repeat (first | (with_reducible first | exact HB.out | apply below_alloc | apply pw_below_drewN | apply below_drew1) | exact HB.out)) hb); clear HO127; clear HB; have HO127 := n0_; have HB := n1_; clear n0_ n1_; (try clear hb); (try clear hb2); (try clear hk); (try clear hi)))
          go_ret
          exact ⟨by first | rfl | (simp [errW_none, errW_some] <;> rfl) | (simp [*, errW_none, errW_some] <;> rfl), by repeat (first | (with_reducible first | exact HB.out | apply below_alloc | apply pw_below_drewN | apply below_drew1) | exact HB.out)⟩
      · rw [if_neg c6] at H
        have c6b0 : (t130 == 1) = false := beq_eq_false_iff_ne.mpr c6
        have c6b1 : (t130 != 1) = true := bne_iff_ne.mpr c6
        obtain rfl := Option.some.inj H
        go_enter Try.func27, Try.ntmps27
        go_wp2_with (first | ((with_reducible refine gate_dst (N := 4) rfl ?_); (try (refine gate_guard (by rfl) ?_; dsimp only)); refine Kd.R_lit k30 _ 30 ?hg (N := 4) ?hd (xs := ([(⟨5, 1⟩ : S30), (⟨9, 2⟩ : S30)] : List (S30))) (inner := [.int .u64 5, .int .i64 1, .int .u64 9, .int .i64 2]) (ok := fun _ => True) (okp := fun _ => True) ?hr ?hp (fun _ hk => hk) trivial (Below.refl _ _) (Nat.le_refl _) (by simp) ?_; (case hd => rfl); (case hg => rfl); (case hr => first | (go_simp; done) | (go_simp; rfl)); (case hp => exact (Reps.c2 (show Kd.M k30 _ _ _ (⟨5, 1⟩ : S30) [.int .u64 5, .int .i64 1] from (k30_mkM _ _ _ (⟨5, 1⟩ : S30) )) (Reps.c2 (show Kd.M k30 _ _ _ (⟨9, 2⟩ : S30) [.int .u64 9, .int .i64 2] from (k30_mkM _ _ _ (⟨9, 2⟩ : S30) )) (Reps.none _ _)))); intro v126 w64 ho65 hb hg_ hnew_; clear hg_ hnew_; (first | rw [← Ny125.out] at ho65 | (simp only [Int.reduceToNat] at ho65; rw [← Ny125.out] at ho65)); have n0_ := Aside0.mk (Kd.R_lower ho65 (below_size (by repeat (first | (with_reducible first | exact HB.out | apply below_alloc | apply pw_below_drewN | apply below_drew1) | exact HB.out)))); have n1_ := Aside0.mk (below_step (by repeat (first | (with_reducible first | exact HB.out | apply below_alloc | apply pw_below_drewN | apply below_drew1) | exact HB.out)) hb); clear HB; have HO127 := n0_; have HB := n1_; clear n0_ n1_; clear hb ho65; obtain ⟨Ao66, co66, eo66⟩ := Kd.R_slice HO127.out; subst eo66) | ((with_reducible refine gate_callee (f := 28) rfl ?_); refine goesL_ (some 6) rfl rfl Try.func28 (by kernel_rfl) rfl #[.slice Ao66 y125.length co66, .int .u64 5] rfl (by (try simp only [List.map_toArray, List.map_cons, List.map_nil]); first | done | rfl | (simp only [List.length_drop, List.length_take]; rfl)) ?_; (with_reducible refine (ring_Succ.calls _ _ y125 5 t128 _ ?side1 ?side2 A1.out).mono ?_); (case side1 => repeat (first | exact (Kd.R_reads' HO127.out).2.2 | (with_reducible refine Kd.C_alloc ?_ _) | (with_reducible refine Kd.C_drewN ?_ _) | (with_reducible refine Kd.C_drew ?_))); (case side2 => exact (Kd.R_reads' HO127.out).2.1); (try clear A1); rintro e w67 ⟨rfl, hb⟩; refine ⟨_, rfl, ?_⟩; have n0_ := Aside0.mk (Kd.R_below (by (with_reducible repeat (first | apply Kd.R_alloc | apply Kd.R_drewN | apply Kd.R_drew)); exact HO127.out) hb); have n1_ := Aside0.mk (below_step (by repeat (first | (with_reducible first | exact HB.out | apply below_alloc | apply pw_below_drewN | apply below_drew1) | exact HB.out)) hb); clear HO127; clear HB; have HO127 := n0_; have HB := n1_; clear n0_ n1_; (try clear hb); (try clear hb2); (try clear hk); (try clear hi)) | (go_at_call 28; (with_reducible refine (ring_Succ.calls _ _ y125 6 t129 _ ?side1 ?side2 A3.out).mono ?_); (case side1 => repeat (first | exact (Kd.R_reads' HO127.out).2.2 | (with_reducible refine Kd.C_alloc ?_ _) | (with_reducible refine Kd.C_drewN ?_ _) | (with_reducible refine Kd.C_drew ?_))); (case side2 => exact (Kd.R_reads' HO127.out).2.1); (try clear A3); rintro e w68 ⟨rfl, hb⟩; have n0_ := Aside0.mk (Kd.R_below (by (with_reducible repeat (first | apply Kd.R_alloc | apply Kd.R_drewN | apply Kd.R_drew)); exact HO127.out) hb); have n1_ := Aside0.mk (below_step (by repeat (first | (with_reducible first | exact HB.out | apply below_alloc | apply pw_below_drewN | apply below_drew1) | exact HB.out)) hb); clear HO127; clear HB; have HO127 := n0_; have HB := n1_; clear n0_ n1_; (try clear hb); (try clear hb2); (try clear hk); (try clear hi)) | (go_at_call 28; (with_reducible refine (ring_Succ.calls _ _ y125 10 t130 _ ?side1 ?side2 A5.out).mono ?_); (case side1 => repeat (first | exact (Kd.R_reads' HO127.out).2.2 | (with_reducible refine Kd.C_alloc ?_ _) | (with_reducible refine Kd.C_drewN ?_ _) | (with_reducible refine Kd.C_drew ?_))); (case side2 => exact (Kd.R_reads' HO127.out).2.1); (try clear A5); rintro e w69 ⟨rfl, hb⟩; have n0_ := Aside0.mk (Kd.R_below (by (with_reducible repeat (first | apply Kd.R_alloc | apply Kd.R_drewN | apply Kd.R_drew)); exact HO127.out) hb); have n1_ := Aside0.mk (below_step (by repeat (first | (with_reducible first | exact HB.out | apply below_alloc | apply pw_below_drewN | apply below_drew1) | exact HB.out)) hb); clear HO127; clear HB; have HO127 := n0_; have HB := n1_; clear n0_ n1_; (try clear hb); (try clear hb2); (try clear hk); (try clear hi)))
        go_ret
        exact ⟨by first | rfl | (simp [errW_none, errW_some] <;> rfl) | (simp [*, errW_none, errW_some] <;> rfl), by repeat (first | (with_reducible first | exact HB.out | apply below_alloc | apply pw_below_drewN | apply below_drew1) | exact HB.out)⟩
    · rw [if_neg c4] at H
      have c4b0 : (t129 == 2) = false := beq_eq_false_iff_ne.mpr c4
      have c4b1 : (t129 != 2) = true := bne_iff_ne.mpr c4
      obtain rfl := Option.some.inj H
      go_enter Try.func27, Try.ntmps27
      go_wp2_with (first | ((with_reducible refine gate_dst (N := 4) rfl ?_); (try (refine gate_guard (by rfl) ?_; dsimp only)); refine Kd.R_lit k30 _ 30 ?hg (N := 4) ?hd (xs := ([(⟨5, 1⟩ : S30), (⟨9, 2⟩ : S30)] : List (S30))) (inner := [.int .u64 5, .int .i64 1, .int .u64 9, .int .i64 2]) (ok := fun _ => True) (okp := fun _ => True) ?hr ?hp (fun _ hk => hk) trivial (Below.refl _ _) (Nat.le_refl _) (by simp) ?_; (case hd => rfl); (case hg => rfl); (case hr => first | (go_simp; done) | (go_simp; rfl)); (case hp => exact (Reps.c2 (show Kd.M k30 _ _ _ (⟨5, 1⟩ : S30) [.int .u64 5, .int .i64 1] from (k30_mkM _ _ _ (⟨5, 1⟩ : S30) )) (Reps.c2 (show Kd.M k30 _ _ _ (⟨9, 2⟩ : S30) [.int .u64 9, .int .i64 2] from (k30_mkM _ _ _ (⟨9, 2⟩ : S30) )) (Reps.none _ _)))); intro v126 w70 ho71 hb hg_ hnew_; clear hg_ hnew_; (first | rw [← Ny125.out] at ho71 | (simp only [Int.reduceToNat] at ho71; rw [← Ny125.out] at ho71)); have n0_ := Aside0.mk (Kd.R_lower ho71 (below_size (by repeat (first | (with_reducible first | exact HB.out | apply below_alloc | apply pw_below_drewN | apply below_drew1) | exact HB.out)))); have n1_ := Aside0.mk (below_step (by repeat (first | (with_reducible first | exact HB.out | apply below_alloc | apply pw_below_drewN | apply below_drew1) | exact HB.out)) hb); clear HB; have HO127 := n0_; have HB := n1_; clear n0_ n1_; clear hb ho71; obtain ⟨Ao72, co72, eo72⟩ := Kd.R_slice HO127.out; subst eo72) | ((with_reducible refine gate_callee (f := 28) rfl ?_); refine goesL_ (some 6) rfl rfl Try.func28 (by kernel_rfl) rfl #[.slice Ao72 y125.length co72, .int .u64 5] rfl (by (try simp only [List.map_toArray, List.map_cons, List.map_nil]); first | done | rfl | (simp only [List.length_drop, List.length_take]; rfl)) ?_; (with_reducible refine (ring_Succ.calls _ _ y125 5 t128 _ ?side1 ?side2 A1.out).mono ?_); (case side1 => repeat (first | exact (Kd.R_reads' HO127.out).2.2 | (with_reducible refine Kd.C_alloc ?_ _) | (with_reducible refine Kd.C_drewN ?_ _) | (with_reducible refine Kd.C_drew ?_))); (case side2 => exact (Kd.R_reads' HO127.out).2.1); (try clear A1); rintro e w73 ⟨rfl, hb⟩; refine ⟨_, rfl, ?_⟩; have n0_ := Aside0.mk (Kd.R_below (by (with_reducible repeat (first | apply Kd.R_alloc | apply Kd.R_drewN | apply Kd.R_drew)); exact HO127.out) hb); have n1_ := Aside0.mk (below_step (by repeat (first | (with_reducible first | exact HB.out | apply below_alloc | apply pw_below_drewN | apply below_drew1) | exact HB.out)) hb); clear HO127; clear HB; have HO127 := n0_; have HB := n1_; clear n0_ n1_; (try clear hb); (try clear hb2); (try clear hk); (try clear hi)) | (go_at_call 28; (with_reducible refine (ring_Succ.calls _ _ y125 6 t129 _ ?side1 ?side2 A3.out).mono ?_); (case side1 => repeat (first | exact (Kd.R_reads' HO127.out).2.2 | (with_reducible refine Kd.C_alloc ?_ _) | (with_reducible refine Kd.C_drewN ?_ _) | (with_reducible refine Kd.C_drew ?_))); (case side2 => exact (Kd.R_reads' HO127.out).2.1); (try clear A3); rintro e w74 ⟨rfl, hb⟩; have n0_ := Aside0.mk (Kd.R_below (by (with_reducible repeat (first | apply Kd.R_alloc | apply Kd.R_drewN | apply Kd.R_drew)); exact HO127.out) hb); have n1_ := Aside0.mk (below_step (by repeat (first | (with_reducible first | exact HB.out | apply below_alloc | apply pw_below_drewN | apply below_drew1) | exact HB.out)) hb); clear HO127; clear HB; have HO127 := n0_; have HB := n1_; clear n0_ n1_; (try clear hb); (try clear hb2); (try clear hk); (try clear hi)))
      go_ret
      exact ⟨by first | rfl | (simp [errW_none, errW_some] <;> rfl) | (simp [*, errW_none, errW_some] <;> rfl), by repeat (first | (with_reducible first | exact HB.out | apply below_alloc | apply pw_below_drewN | apply below_drew1) | exact HB.out)⟩
  · rw [if_neg c2] at H
    have c2b0 : (t128 == 1) = false := beq_eq_false_iff_ne.mpr c2
    have c2b1 : (t128 != 1) = true := bne_iff_ne.mpr c2
    obtain rfl := Option.some.inj H
    go_enter Try.func27, Try.ntmps27
    go_wp2_with (first | ((with_reducible refine gate_dst (N := 4) rfl ?_); (try (refine gate_guard (by rfl) ?_; dsimp only)); refine Kd.R_lit k30 _ 30 ?hg (N := 4) ?hd (xs := ([(⟨5, 1⟩ : S30), (⟨9, 2⟩ : S30)] : List (S30))) (inner := [.int .u64 5, .int .i64 1, .int .u64 9, .int .i64 2]) (ok := fun _ => True) (okp := fun _ => True) ?hr ?hp (fun _ hk => hk) trivial (Below.refl _ _) (Nat.le_refl _) (by simp) ?_; (case hd => rfl); (case hg => rfl); (case hr => first | (go_simp; done) | (go_simp; rfl)); (case hp => exact (Reps.c2 (show Kd.M k30 _ _ _ (⟨5, 1⟩ : S30) [.int .u64 5, .int .i64 1] from (k30_mkM _ _ _ (⟨5, 1⟩ : S30) )) (Reps.c2 (show Kd.M k30 _ _ _ (⟨9, 2⟩ : S30) [.int .u64 9, .int .i64 2] from (k30_mkM _ _ _ (⟨9, 2⟩ : S30) )) (Reps.none _ _)))); intro v126 w75 ho76 hb hg_ hnew_; clear hg_ hnew_; (first | rw [← Ny125.out] at ho76 | (simp only [Int.reduceToNat] at ho76; rw [← Ny125.out] at ho76)); have n0_ := Aside0.mk (Kd.R_lower ho76 (below_size (by repeat (first | (with_reducible first | exact HB.out | apply below_alloc | apply pw_below_drewN | apply below_drew1) | exact HB.out)))); have n1_ := Aside0.mk (below_step (by repeat (first | (with_reducible first | exact HB.out | apply below_alloc | apply pw_below_drewN | apply below_drew1) | exact HB.out)) hb); clear HB; have HO127 := n0_; have HB := n1_; clear n0_ n1_; clear hb ho76; obtain ⟨Ao77, co77, eo77⟩ := Kd.R_slice HO127.out; subst eo77) | ((with_reducible refine gate_callee (f := 28) rfl ?_); refine goesL_ (some 6) rfl rfl Try.func28 (by kernel_rfl) rfl #[.slice Ao77 y125.length co77, .int .u64 5] rfl (by (try simp only [List.map_toArray, List.map_cons, List.map_nil]); first | done | rfl | (simp only [List.length_drop, List.length_take]; rfl)) ?_; (with_reducible refine (ring_Succ.calls _ _ y125 5 t128 _ ?side1 ?side2 A1.out).mono ?_); (case side1 => repeat (first | exact (Kd.R_reads' HO127.out).2.2 | (with_reducible refine Kd.C_alloc ?_ _) | (with_reducible refine Kd.C_drewN ?_ _) | (with_reducible refine Kd.C_drew ?_))); (case side2 => exact (Kd.R_reads' HO127.out).2.1); (try clear A1); rintro e w78 ⟨rfl, hb⟩; refine ⟨_, rfl, ?_⟩; have n0_ := Aside0.mk (Kd.R_below (by (with_reducible repeat (first | apply Kd.R_alloc | apply Kd.R_drewN | apply Kd.R_drew)); exact HO127.out) hb); have n1_ := Aside0.mk (below_step (by repeat (first | (with_reducible first | exact HB.out | apply below_alloc | apply pw_below_drewN | apply below_drew1) | exact HB.out)) hb); clear HO127; clear HB; have HO127 := n0_; have HB := n1_; clear n0_ n1_; (try clear hb); (try clear hb2); (try clear hk); (try clear hi)))
    go_ret
    exact ⟨by first | rfl | (simp [errW_none, errW_some] <;> rfl) | (simp [*, errW_none, errW_some] <;> rfl), by repeat (first | (with_reducible first | exact HB.out | apply below_alloc | apply pw_below_drewN | apply below_drew1) | exact HB.out)⟩

-- NOT PRINTED: function 88 (api_Backend_88)

-- NOT PRINTED: function 76 (api_Backend_76)

-- NOT PRINTED: function 100 (api_Backend_100)

-- NOT PRINTED: function 109 (api_Backend_109)

-- NOT PRINTED: function 107 (api_Backend_107)

-- NOT PRINTED: function 101 (api_Backend_101)

-- NOT PRINTED: function 89 (api_Backend_89)

-- NOT PRINTED: function 77 (api_Backend_77)

-- NOT PRINTED: function 56 (api_Backend_56)

-- NOT PRINTED: function 78 (api_Backend_1)

/-! ### bk -/
section
open Go.Shelf Go.Proofs.Ytcekkbimdogboaa.Hand
def encBk (x : S39) : List Value := [.int .i64 x.f0, .int .i64 x.f1]
theorem reps_flat2 {R : S39 → List Value → Prop} (hR : ∀ p c, R p c → c = encBk p) : ∀ (xs : List S39) (cs : List Value), Reps R 2 xs cs → cs = xs.flatMap encBk
  | [], cs, h => by have := h.1; simp at this; simp [this]
  | x :: l, cs, h => by
    have h0 := hR _ _ (h.2 0 x rfl)
    have hl := h.1
    rw [Nat.zero_mul, List.drop_zero] at h0
    have ht : Reps R 2 l (cs.drop 2) := ⟨by rw [List.length_drop, hl, List.length_cons, Nat.add_mul, Nat.one_mul, Nat.add_sub_cancel], fun j p hj => by
      have := h.2 (j + 1) p hj
      rw [List.drop_drop, show 2 + j * 2 = (j + 1) * 2 by rw [Nat.add_mul, Nat.one_mul, Nat.add_comm]]
      exact this⟩
    have ih := reps_flat2 hR l _ ht
    rw [List.flatMap_cons, ← h0, ← ih, List.take_append_drop]
theorem reps_of2 {R : S39 → List Value → Prop} (hR : ∀ p, R p (encBk p)) : ∀ (l pre : List S39) (cs : List Value), Reps R 2 pre cs → Reps R 2 (pre ++ l) (cs ++ l.flatMap encBk)
  | [], pre, cs, h => by simpa using h
  | x :: l, pre, cs, h => by
    have e1 : pre ++ x :: l = (pre ++ [x]) ++ l := by simp
    have e2 : cs ++ (x :: l).flatMap encBk = (cs ++ encBk x) ++ l.flatMap encBk := by simp
    rw [e1, e2]
    exact reps_of2 hR l _ _ (h.snoc (hR x) rfl)
theorem R_bk {W : World} {base : Nat} {v : Value} {xs : List S39} (h : W.ownsRow base 39 2 v xs.length (xs.flatMap encBk)) : Kd.R k39 39 W base (fun _ => True) v xs :=
  ⟨fun _ _ => trivial, xs.flatMap encBk, h, by
    have e := reps_of2 (R := (k39).M W base (fun k => True ∧ some k ≠ v.ownBlock)) (fun x => k39_mkM W base _ x) xs [] [] (Reps.none _ _)
    rw [List.nil_append, List.nil_append] at e
    exact e⟩
theorem flat_take2 (xs : List S39) : ∀ i, i ≤ xs.length → (xs.flatMap encBk).take (i * 2) = (xs.take i).flatMap encBk := by
  induction xs with
  | nil => intro i hi; simp
  | cons x l ih =>
    intro i hi
    cases i with
    | zero => simp
    | succ i =>
      have := ih i (by simpa using hi)
      rw [List.take_succ_cons, List.flatMap_cons, List.flatMap_cons, ← this, Nat.add_mul, Nat.one_mul]
      simp [encBk]
theorem own_bk {W : World} {base g c : Nat} {xs : List S39} (h : Kd.R k39 39 W base (fun _ => True) (.slice (some ⟨g, 0, none⟩) xs.length c) xs) :
    W.ownsRow base 39 2 (.slice (some ⟨g, 0, none⟩) xs.length c) xs.length (xs.flatMap encBk) ∧ (∀ t, t < xs.length * 2 → (W.cell? ⟨g, t, none⟩).isSome = true) ∧ ∀ t, W.frozen? ⟨g, t, none⟩ = false := by
  obtain ⟨_, inner, ho, hr⟩ := h
  obtain rfl := reps_flat2 (fun p c h => k39_openM h) xs inner hr
  have ho' : W.ownsRow base 39 2 (.slice (some ⟨g, 0, none⟩) xs.length c) xs.length (xs.flatMap encBk) := ho
  refine ⟨ho', ?_⟩
  obtain ⟨hl, hn | ⟨g', cap', cur, hv, hb, hg, h1, h2, h3, h4⟩⟩ := ho'
  · cases hn.1
  · injection hv with hA _ hc
    injection hA with hA
    injection hA with hA
    subst hA
    refine ⟨fun t ht => ?_, fun t => ?_⟩
    · simp only [World.cell?, hg]
      have : t < cur.size := by rw [h3]; omega
      simp [this]
    · simp only [World.frozen?, hg]
      simp
theorem own_bk_end {W : World} {base g c : Nat} {xs : List S39} (h : W.ownsRow base 39 2 (.slice (some ⟨g, 0, none⟩) xs.length c) xs.length (xs.flatMap encBk)) {i : Nat} (hi : i ≤ xs.length) (us : List Value) :
    Kd.R k39 39 (W.setCells g (i * 2) us) base (fun _ => True) (.slice (some ⟨g, 0, none⟩) (xs.take i).length c) (xs.take i) := by
  have h1 := own_cut h hi
  rw [flat_take2 xs i hi] at h1
  have h2 := own_beyonds us (i * 2) W h1 (Nat.le_refl _)
  have hl : (xs.take i).length = i := by rw [List.length_take]; omega
  exact R_bk (by rw [hl]; exact h2)
end

/-! ### api_Backend_57: function 57 -/
section
open Go.Shelf Go.Proofs.Ytcekkbimdogboaa.Hand
attribute [local go_sem] Oper.semAt_some
theorem val_nums (n k : Nat) (hl : n ≤ 1000000) (h : k < n) : decide ((k : Int) < (n : Int)) = true ∧ (0 : Int) ≤ (k : Int) ∧ (k : Int) < (n : Int) ∧ wrap64 ((k : Int) + 1) = ((k + 1 : Nat) : Int) :=
  ⟨decide_eq_true (by omega), by omega, by omega, by unfold wrap64; omega⟩
theorem val_meas (n k : Nat) (h : k < n) : n - (((k + 1 : Nat) : Int)).toNat < n - ((k : Int)).toNat := by
  rw [Int.toNat_natCast, Int.toNat_natCast]; omega
theorem bk_next (l : List S39) (j : Nat) (h : j < l.length) : l.take (j + 1) = l.take j ++ [l.getD j z39] := by
  rw [List.take_succ_eq_append_getElem h]; simp [h]
set_option maxRecDepth 100000 in
set_option maxHeartbeats 8000000 in
theorem values1_in (n : Nat) (hn : 2 ≤ n) (y Bt n₀ : Nat) (A : Option Addr) (c : Nat) (ps : List S39) (hps : ps.length ≤ 1000000)
    (w : World) (hw : w.heap.size = n₀) (hC : Kd.C k39 w A ps.length ps) (J Jx : List S39 → World → Prop) (B : Nat) (hJ : AbidesFrom B J)
    (hY : ∀ pre x W, J pre W → pre.length < ps.length → YieldAt Fence.wide (n - 1) Try.prog y #[.agg #[.int .i64 x.f0, .int .i64 x.f1]] W fun e W' =>
      (e = .returned (.bool true) ∧ J (pre ++ [x]) W' ∧ Below n₀ W W') ∨ (e = .returned (.bool false) ∧ Jx (pre ++ [x]) W'))
    (W : World) (hB : Below n₀ w W) (ht : Blk W Bt 22 [.slice A ps.length c]) (h0 : J [] W) (hBB : B ≤ W.heap.size) :
    CallsIn Fence.wide n Try.prog 78 #[.func (.yield y) #[] #[], .pointer (some ⟨Bt, 0, none⟩)] W fun e W' => (∃ v, e = .returned v) ∧
      ((∃ ys, ys = ps ∧ J ys W') ∨ (∃ pre, (pre <+: ps) ∧ Jx pre W')) := by
  have hro : Fence.wide.round = none := rfl
  refine callsIn_of_wp Try.func78 rfl trivial ?_ hro
  simp only [Try.ntmps78, List.size_toArray, List.length_cons, List.length_nil, Nat.reduceAdd, Nat.reduceSub, Array.replicate_succ, Array.replicate_zero, List.push_toArray, List.append_toArray, List.nil_append, List.cons_append]
  have z0 : W.cell? ⟨Bt, 0, none⟩ = some (.slice A ps.length c) := ht.cell 0
  have HPS := Lib.hid hps
  have HC := Lib.hid hC
  have HB := Lib.hid hB
  have HW0 := Lib.hid hw
  have HY := Lib.hid hY
  have HJ := Lib.hid hJ
  have H0 := Lib.hid h0
  have HBB := Lib.hid hBB
  have HN := Lib.hid hn
  clear hps hC hB hw ht hY hJ h0 hn hBB
  gi_wp2
  gi_loopw [7] (fun i wr => ∃ (k : Nat), k ≤ ps.length ∧ i = .int .i64 k ∧ J (ps.take k) wr ∧ Below n₀ w wr ∧ W.heap.size ≤ wr.heap.size)
    (fun i _ => ps.length - (intOf i).toNat)
  case atStart => exact ⟨0, Nat.zero_le _, rfl, by simpa using H0.out, HB.out, Nat.le_refl _⟩
  case round =>
    obtain ⟨k, hk', rfl, hJs, hnx, hsz⟩ := hrel
    by_cases hlt : k < ps.length
    · have hBr : Below w.heap.size w wr := by rw [HW0.out]; exact hnx
      obtain ⟨ad, hA, c0, c1⟩ := at_T39 (Kd.C_below HC.out hBr) (k : Int) (by omega) (by omega)
      subst hA
      have htk := bk_next ps k hlt
      rw [show rd_T39 ps (k : Int) = ps.getD k z39 from rfl] at c0 c1
      obtain ⟨b, hb⟩ : ∃ b, ps.getD k z39 = b := ⟨_, rfl⟩
      rw [hb] at c0 c1 htk
      rw [Int.toNat_natCast] at c0 c1
      have hpx : ps.take (k + 1) <+: ps := List.take_prefix _ _
      have hln : (ps.take k).length < ps.length := by rw [List.length_take]; exact Nat.lt_of_le_of_lt (Nat.min_le_left _ _) hlt
      obtain ⟨q1, q2, q3, hwk⟩ := val_nums ps.length k HPS.out hlt
      have hbx := Blk.new wr 39 [.int .i64 b.f0, .int .i64 b.f1]
      have hj1 := HJ.out _ _ _ none hJs (grown_of_below (below_alloc (Below.refl _ wr) (.cells #[.int .i64 b.f0, .int .i64 b.f1] 39)) none) (fun r e => by cases e)
      obtain ⟨fn, tmps, assign, body, hy, hYR⟩ := HY.out _ b _ hj1 hln
      have HB1 := Lib.hid (show Below n₀ w (wr.alloc (.cells #[.int .i64 b.f0, .int .i64 b.f1] 39)) from by rw [← HW0.out] at hnx ⊢; exact below_alloc hnx _)
      have HSZ := Lib.hid (show W.heap.size ≤ (wr.alloc (.cells #[.int .i64 b.f0, .int .i64 b.f1] 39)).heap.size from Nat.le_trans hsz (by simp))
      have HTK := Lib.hid htk
      have HPX := Lib.hid hpx
      have HYR := Lib.hid hYR
      clear hBr htk hb hpx hln hj1 hYR hnx hsz hJs hbx
      gi_wp2
      refine ⟨fun _ => (by have := HN.out; omega), HYR.out.mono ?_⟩
      rintro e W3 (⟨rfl, hJ3, hk3⟩ | ⟨rfl, hJx3⟩)
      · have HJ3 := Lib.hid hJ3
        have HK3 := Lib.hid hk3
        clear hJ3 hk3
        gi_wp2
        go_roundw
        case rel => exact ⟨k + 1, Nat.succ_le_of_lt hlt, by rw [hwk], by rw [HTK.out]; exact HJ3.out, HB1.out.trans HK3.out, Nat.le_trans HSZ.out HK3.out.size⟩
        case measure =>
          rw [hwk]
          exact val_meas _ _ hlt
      · have HJ3 := Lib.hid hJx3
        clear hJx3
        gi_wp2
        refine bodyPost_ret (results_none rfl _ _ _) rfl ?_
        exact ⟨⟨_, rfl⟩, .inr ⟨ps.take k ++ [b], by rw [← HTK.out]; exact HPX.out, HJ3.out⟩⟩
    · obtain rfl : k = ps.length := Nat.le_antisymm hk' (Nat.le_of_not_lt hlt)
      have q1 : decide ((ps.length : Int) < (ps.length : Int)) = false := decide_eq_false (by omega)
      have HJ3 := Lib.hid hJs
      clear hJs hnx hsz
      gi_wp2
      go_end0
      exact ⟨⟨_, rfl⟩, .inl ⟨_, by rw [List.take_length], HJ3.out⟩⟩
theorem values_stops (d : Nat) (hd : 2 ≤ d) (Bt n₀ : Nat) (A : Option Addr) (c : Nat) (ps : List S39) (hps : ps.length ≤ 1000000)
    (w W : World) (hw : w.heap.size = n₀) (hC : Kd.C k39 w A ps.length ps) (hB : Below n₀ w W) (hn : n₀ ≤ W.heap.size) (ht : Blk W Bt 22 [.slice A ps.length c]) :
    SeqStopsK Fence.wide d Try.prog 78 #[.pointer (some ⟨Bt, 0, none⟩)] (fun x : S39 => #[.agg #[.int .i64 x.f0, .int .i64 x.f1]]) (Below n₀) (fun ys => ys = ps) (fun pre => pre <+: ps) ps.length W := fun y J Jx W' hW hJ _ hY h0 =>
  values1_in d hd y Bt n₀ A c ps hps w hw hC J Jx _ hJ hY W' (hB.trans (hW.mono hn)) (ht.below hW) h0 (Nat.le_refl _)
set_option maxHeartbeats 1000000 in
theorem values_any (A : Option Addr) (n c : Nat) (w : World) :
    Calls Try.prog 57 #[.slice A n c] w fun e w' => e = .returned (.func (.func 78) #[] #[.pointer (some ⟨w.heap.size, 0, none⟩)]) ∧ w' = w.alloc (.cells #[.slice A n c] 22) := by
  go_enter Try.func57, Try.ntmps57
  go_wp2
  go_ret
  exact ⟨rfl, rfl⟩
theorem infoBk2 : (Try.prog.info? 39).map (fun i => (i.zero, i.size, i.bytes)) = some (some (.agg #[.int .i64 0, .int .i64 0]), 2, 16) := by kernel_rfl
def bkVs (l : List S39) : List Value := l.flatMap encBk
theorem bkVs_len (l : List S39) : (bkVs l).length = l.length * 2 := by
  induction l with
  | nil => rfl
  | cons x l ih => rw [bkVs, List.flatMap_cons, List.length_append, ← bkVs, ih, List.length_cons]; simp [encBk]; omega
set_option maxRecDepth 100000 in
set_option maxHeartbeats 8000000 in
theorem AppendSeq_bk (n : Nat) (hn : 4 ≤ n) (Bt : Nat) (A : Option Addr) (c : Nat) (ps : List S39) (hps : ps.length ≤ 1000000) (w : World) (hC : Kd.C k39 w A ps.length ps) (ht : Blk w Bt 22 [.slice A ps.length c]) :
    CallsIn Fence.wide n Try.prog 88 #[.slice none 0 0, .func (.func 78) #[] #[.pointer (some ⟨Bt, 0, none⟩)]] w fun e W' => ∃ v, e = .returned v ∧ Kd.R k39 39 W' w.heap.size (fun _ => True) v ps ∧ Below w.heap.size w W' := by
  have hro : Fence.wide.round = none := rfl
  obtain ⟨i0, hi, hz0, hz1, hz2⟩ := info_parts infoBk2
  refine callsIn_of_wp_marks Try.func88 rfl trivial ?_ hro
  simp only [Try.ntmps88, List.size_toArray, List.length_cons, List.length_nil, Nat.reduceAdd, Nat.reduceSub, Array.replicate_succ, Array.replicate_zero, List.push_toArray, List.append_toArray, List.nil_append, List.cons_append]
  gi_wp2
  have b0 := Boxed.new w 22 (.slice none 0 0)
  have hB0 : Below w.heap.size w (w.alloc (.cells #[.slice none 0 0] 22)) := (Below.refl _ w).alloc (Nat.le_refl _) _
  replace ht := ht.alloc (.cells #[.slice none 0 0] 22)
  obtain ⟨W0, hW0⟩ : ∃ W0, (w.alloc (.cells #[.slice none 0 0] 22)) = W0 := ⟨_, rfl⟩
  rw [hW0] at hB0 b0 ht ⊢
  clear hW0
  refine wpIn_rangeFunc_ownH hro (by omega) (gf := 78) (lb := #[.pointer (some ⟨Bt, 0, none⟩)]) rfl trivial (enters_of Try.func78 (by kernel_rfl) rfl)
    (values_stops (n - 1) (by omega) Bt w.heap.size A c ps hps w W0 rfl hC hB0 hB0.size ht) (fun h k => h.trans k) (fun W L o o' hL h1 h2 h3 => belowK_b (w := W0) hB0.size W L o o' hL h1 h2 h3) (Below.refl _ _) (fun _ => rfl)
    (fun pre W => (∃ v, Boxed W w.heap.size 22 v ∧ W.ownsRow w.heap.size 39 2 v pre.length (bkVs pre) ∧ True) ∧ Below w.heap.size w W)
    (fun _ _ _ => False)
    (OwnFrom.and (Own.from (holdsRow_own w.heap.size w.heap.size 22 39 2 (fun pre => pre.length) (fun pre => bkVs pre) (fun pre v => True)) _) (ownFrom_below (Nat.le_refl _) hB0.size))
    (fun _ _ _ _ _ hs _ _ => hs)
    ⟨⟨_, b0, World.ownsRow_nil _ _ _ _, trivial⟩, hB0⟩
    (fun x a' W => ∃ q, w.heap.size ≤ q ∧ Blk W q 39 [.int .i64 x.f0, .int .i64 x.f1] ∧ a' = { tmps := #[.slice none 0 0, .func (.func 78) #[] #[.pointer (some ⟨Bt, 0, none⟩)], .pointer (some ⟨w.heap.size, 0, none⟩), undef, .slice none 0 0, .pointer (some ⟨q, 0, none⟩), .func (.func 78) #[] #[.pointer (some ⟨Bt, 0, none⟩)], .agg #[.int .i64 x.f0, .int .i64 x.f1], undef, undef, undef, undef, undef], defers := [] })
    (fun x a' => OwnFrom.ex fun q => OwnFrom.and (OwnFrom.pure fun _ => w.heap.size ≤ q) (OwnFrom.and (blk_ownFrom _ q 39 (fun _ => [.int .i64 x.f0, .int .i64 x.f1])) (OwnFrom.pure fun _ => _))) ?assign ?body ?done ?stop
  case assign =>
    rintro y pre x W K ⟨⟨v, hv, hrow, _⟩, hB⟩ hK
    gi_wp2
    have hbn := Blk.new W 39 [.int .i64 x.f0, .int .i64 x.f1]
    exact hK _ _ ((KeepsOthers.alloc _ _).from _) ((Below.refl _ W).alloc hB.size _) ⟨⟨v, hv.alloc _, hrow.alloc _, trivial⟩, hB.trans ((Below.refl _ _).alloc hB.size _)⟩ ⟨_, hB.size, hbn, rfl⟩
  case body =>
    rintro y pre x a' W hy ⟨r, hr⟩ ⟨⟨v, hv, hrow, _⟩, hB⟩ ⟨q, hq, hbq, rfl⟩ hlt
    have hc := hv.cell
    have c0 := hbq.cell 0
    have c1 := hbq.cell 1
    have hmx : (100000000 : Nat) < maxLen := by decide
    have HPL := Lib.hid (show pre.length + 1 ≤ 1000000 by omega)
    have hbn := Blk.new W 39 [.int .i64 x.f0, .int .i64 x.f1]
    gi_wp2_with (gi_at_builtin; refine wpListIn_append_own_at _ rfl _ _ 22 rfl w.heap.size 39 i0 (.agg #[.int .i64 0, .int .i64 0]) 2 16 Try.underlying22 hi hz0 hz1 hz2 rfl (by decide) _ _ _ rfl (hrow.alloc _) ⟨W.heap.size, 0, none⟩ 1 1 [.int .i64 x.f0, .int .i64 x.f1] rfl rfl (fun j u hj => by rw [add_plain]; exact (hbn.cell j).trans hj) (by simp [Value.oneCell']) (by have := HPL.out; omega) (by have := HPL.out; omega) (by have := hB.size; simp; omega) ?_; intro v' w1 hown' hgrow _ hat; obtain ⟨g', cap', rfl⟩ := ownsRow_succ hown'; obtain ⟨hv1, hv2, hr2, hk2, hb2⟩ := hv.appended (by decide) hrow hB.size (Nat.le_refl _) hown' hgrow; have hc1 := hv1.cell; have hf1 := hv1.frozen)
    have ek : bkVs (pre ++ [x]) = bkVs pre ++ [.int .i64 x.f0, .int .i64 x.f1] := by simp [bkVs, encBk]
    exact ⟨hk2.from _, hb2, ⟨_, hv2, by rw [ek]; simpa using hr2, trivial⟩, hB.trans hb2⟩
  case done =>
    rintro D ys W hD hys ⟨⟨v, hv, hrow, _⟩, hB⟩ hK
    subst hys
    have hc := hv.cell
    gi_wp2
    refine ⟨by simp, .inl ⟨_, _, rfl, run_takeDeferred hK, ?_⟩⟩
    have hr2 := ownsRow_putObj hrow (.deferred none) hK rfl
    refine ⟨_, results_tmp rfl _ _ _, v, rfl, R_bk hr2, hB.trans (belowK_b (w := w) (Nat.le_refl _) W D _ _ (Nat.le_trans hB0.size hD) hK rfl rfl)⟩
  case stop =>
    rintro D c pre W _ _ h _
    exact h.elim
set_option maxHeartbeats 1000000 in
theorem Collect_bk (Bt : Nat) (A : Option Addr) (c : Nat) (ps : List S39) (hps : ps.length ≤ 1000000) (w : World) (hC : Kd.C k39 w A ps.length ps) (ht : Blk w Bt 22 [.slice A ps.length c]) :
    Calls Try.prog 76 #[.func (.func 78) #[] #[.pointer (some ⟨Bt, 0, none⟩)]] w fun e W' => ∃ v, e = .returned v ∧ Kd.R k39 39 W' w.heap.size (fun _ => True) v ps ∧ Below w.heap.size w W' := by
  have hA := Lib.hid ((callsIn_wide (n := 6)).1 (AppendSeq_bk 6 (by omega) Bt A c ps hps w hC ht))
  clear hC ht hps
  go_enter Try.func76, Try.ntmps76
  go_wp2_with (go_at_call 88; refine hA.out.mono ?_; rintro e w1 ⟨v, rfl, hr, hb⟩; have HR := Lib.hid hr; have HB := Lib.hid hb; clear hr hb)
  go_ret
  exact ⟨v, rfl, HR.out, HB.out⟩
end

-- NOT PRINTED: function 58 (pool_Sorted_1)

/-! ### pool_Sorted: function 38 -/
section
open Go.Sort (grow grow_empty grow_grow alloc_eq_grow)
open Go.Shelf Go.Proofs.Ytcekkbimdogboaa.Hand
def cmpB (x y : S39) : Int := if x.f0 < y.f0 then -1 else if y.f0 < x.f0 then 1 else 0
theorem cmpB_eq (x y : S39) : cmp_Compare_int.f x.f0 y.f0 = some (cmpB x y) := by
  unfold cmp_Compare_int.f cmp_isNaN_int.f cmpB
  by_cases h1 : x.f0 < y.f0
  · simp [h1]
  · by_cases h2 : y.f0 < x.f0 <;> simp [h1, h2]
theorem encBk_len (x : S39) : (encBk x).length = 2 := rfl
theorem encBk_one (x : S39) : ∀ v ∈ encBk x, v.oneCell' = true := fun v hv => by simp [encBk] at hv; rcases hv with rfl | rfl <;> rfl
instance inhBk : Inhabited S39 := ⟨z39⟩
theorem sorted1_any (x y : S39) (W : World) : Calls Try.prog 58 #[.agg #[.int .i64 x.f0, .int .i64 x.f1], .agg #[.int .i64 y.f0, .int .i64 y.f1]] W fun e w' => e = .returned (.int .i64 (cmpB x y)) ∧ ∃ q os', w' = grow (W.drewN q) os' := by
  have hA := fun w => cmp_Compare_int.calls x.f0 y.f0 _ w (cmpB_eq x y)
  generalize cmpB x y = p at hA ⊢
  have HA := Lib.hid hA
  clear hA
  go_enter Try.func58, Try.ntmps58
  go_wp2_with (go_at_call 59; refine (HA.out _).mono ?_; rintro e w1 ⟨rfl, n1, rfl⟩)
  go_ret
  refine ⟨rfl, n1, #[.cells #[.int .i64 x.f0, .int .i64 x.f1] 39, .cells #[.int .i64 y.f0, .int .i64 y.f1] 39], ?_⟩
  rw [alloc_eq_grow, alloc_eq_grow, grow_grow]
  rfl
theorem cmpB_neg (x y : S39) : cmpB x y < 0 ↔ x.f0 < y.f0 := by
  unfold cmpB; split <;> (repeat' split) <;> omega
theorem ltB (x y : S39) : ltOf cmpB x y = decide (x.f0 < y.f0) := by
  unfold ltOf; exact decide_eq_decide.2 (cmpB_neg x y)
theorem swoB : Go.Sort.SWO (ltOf cmpB) where
  irrefl x := by rw [ltB]; simp
  trans x y z h1 h2 := by rw [ltB] at *; simp at *; omega
  ntrans x y z h1 h2 := by rw [ltB] at *; simp at *; omega
/-- A pool in order, as an insertion sort lays it. -/
def insL (l : List S39) : List S39 := (Go.Sort.insertionSort (ltOf cmpB) l.toArray 0 l.length).toList
theorem insL_perm (l : List S39) : (insL l).Perm l := by
  have h := (Go.Sort.insertionSort_holds swoB l.toArray 0 l.length (Nat.zero_le _) (by simp)).1
  obtain ⟨hs, _, hp⟩ := h
  have e1 : (Go.Sort.insertionSort (ltOf cmpB) l.toArray 0 l.length).extract 0 l.length = Go.Sort.insertionSort (ltOf cmpB) l.toArray 0 l.length := by
    have : l.length = (Go.Sort.insertionSort (ltOf cmpB) l.toArray 0 l.length).size := by rw [hs]; simp
    conv => lhs; arg 3; rw [this]
    exact Array.extract_size
  have e2 : l.toArray.extract 0 l.length = l.toArray := by
    have : l.length = l.toArray.size := by simp
    conv => lhs; arg 3; rw [this]
    exact Array.extract_size
  rw [e1, e2] at hp
  exact hp
theorem insL_len (l : List S39) : (insL l).length = l.length := (insL_perm l).length_eq
set_option maxRecDepth 100000 in
set_option maxHeartbeats 4000000 in
theorem stable_small (n cap : Nat) (p : Option Addr) (hn : n < 20) (W : World) (R : World → Prop) (hI : Calls Try.prog 100 #[.slice p n cap, .int .i64 0, .int .i64 (n : Int), .func (.func 58) #[] #[]] W fun e w' => e = .returned (.tuple #[]) ∧ R w') :
    Calls Try.prog 89 #[.slice p n cap, .int .i64 (n : Int), .func (.func 58) #[] #[]] W fun e w' => e = .returned (.tuple #[]) ∧ R w' := by
  have q1 : decide ((20 : Int) ≤ (n : Int)) = false := decide_eq_false (by omega)
  have q2 : decide ((20 : Int) < (n : Int)) = false := decide_eq_false (by omega)
  have HI := Lib.hid hI
  clear hI hn
  go_enter Try.func89, Try.ntmps89
  go_wp2
  refine wp_loop_rounds 1 ?_
  rw [rounds_succ]
  go_wp2_with (go_at_call 100; refine HI.out.mono ?_; rintro e w1 ⟨rfl, hr⟩; have HR := Lib.hid hr; clear hr)
  refine wp_loop_rounds 1 ?_
  rw [rounds_succ]
  go_wp2
  go_end0
  exact ⟨rfl, HR.out⟩
theorem insert_bk (v : Value) (xs : List S39) (hl : xs.length < 20) (n₀ : Nat) (W : World) (hn : n₀ ≤ W.heap.size) (hR : Kd.R k39 39 W n₀ (fun _ => True) v xs) :
    Calls Try.prog 100 #[v, .int .i64 0, .int .i64 (xs.length : Int), .func (.func 58) #[] #[]] W fun e w' => e = .returned (.tuple #[]) ∧ (Kd.R k39 39 w' n₀ (fun _ => True) v (insL xs) ∧ Below n₀ W w') := by
  cases hx : xs with
  | nil =>
    subst hx
    obtain ⟨A, c, rfl⟩ := Kd.R_slice hR
    have hcon := AnyF.insertionSortCmpFunc_none Try.insBk A c (.func (.func 58) #[] #[]) W
    change Calls Try.prog 100 _ _ _ at hcon
    refine hcon.mono ?_
    rintro e w' ⟨rfl, rfl⟩
    have he : insL [] = [] := List.eq_nil_of_length_eq_zero (insL_len [])
    rw [he]
    exact ⟨rfl, hR, Below.refl _ _⟩
  | cons x0 l0 =>
    have hpos : 0 < xs.length := by rw [hx]; simp
    rw [← hx]
    obtain ⟨g, cap, rfl, hg1, hg2, _⟩ := Kd.R_form hR hpos
    obtain ⟨ho', _, _⟩ := own_bk hR
    obtain ⟨hH, _⟩ := holdsK_own encBk_len ho'
    have eg : ∀ args w, (callFunc 58 args).run Try.prog w = .ok (.enter 58 args) w := enters_of Try.func58 (by kernel_rfl) rfl
    have hcon := AnyQ.insertionSortCmpFunc Try.insBk 2 Try.isAgg39 Try.sizeOf39 encBk encBk_len encBk_one cmpB 58 #[] g 0 cap 0 xs.length xs.toArray W eg (fun _ _ _ _ x y => sorted1_any x y _) hH hg2 (Nat.zero_le _) (by simp) (by simp; omega)
    change Calls Try.prog 100 _ _ _ at hcon
    rw [show xs.toArray.size = xs.length from rfl] at hcon
    refine hcon.mono ?_
    rintro e w' ⟨rfl, n, os, rfl⟩
    have h2 := own_sorted encBk_len ho' (insL_len xs) n os
    rw [insL_len] at h2
    have e3 : (insL xs).toArray = Go.Sort.insertionSort (ltOf cmpB) xs.toArray 0 xs.length := by unfold insL; simp
    rw [e3] at h2
    exact ⟨rfl, R_bk (by rw [insL_len]; exact h2), sorted_below _ _ _ _ _ _ _ _ hg1 hn⟩
set_option maxHeartbeats 1000000 in
theorem SortStable_bk (v : Value) (xs : List S39) (hl : xs.length < 20) (n₀ : Nat) (W : World) (hn : n₀ ≤ W.heap.size) (hR : Kd.R k39 39 W n₀ (fun _ => True) v xs) :
    Calls Try.prog 77 #[v, .func (.func 58) #[] #[]] W fun e w' => e = .returned (.tuple #[]) ∧ (Kd.R k39 39 w' n₀ (fun _ => True) v (insL xs) ∧ Below n₀ W w') := by
  obtain ⟨A, c, rfl⟩ := Kd.R_slice hR
  have HI := Lib.hid (stable_small xs.length c A hl W _ (insert_bk _ xs hl n₀ W hn hR))
  clear hR hl hn
  go_enter Try.func77, Try.ntmps77
  go_wp2_with (go_at_call 89; refine HI.out.mono ?_; rintro e w1 ⟨rfl, hr⟩; have HR := Lib.hid hr; clear hr)
  go_end0
  exact ⟨rfl, HR.out⟩
set_option maxHeartbeats 1000000 in
theorem SortedStable_bk (Bt : Nat) (A : Option Addr) (c : Nat) (ps : List S39) (hps : ps.length < 20) (w : World) (hC : Kd.C k39 w A ps.length ps) (ht : Blk w Bt 22 [.slice A ps.length c]) :
    Calls Try.prog 56 #[.func (.func 78) #[] #[.pointer (some ⟨Bt, 0, none⟩)], .func (.func 58) #[] #[]] w fun e W' => ∃ v, e = .returned v ∧ Kd.R k39 39 W' w.heap.size (fun _ => True) v (insL ps) ∧ Below w.heap.size w W' := by
  have hA := Lib.hid (Collect_bk Bt A c ps (by omega) w hC ht)
  have HL := Lib.hid hps
  clear hC ht hps
  go_enter Try.func56, Try.ntmps56
  go_wp2_with (first
    | (go_at_call 76; refine hA.out.mono ?_; rintro e w1 ⟨v, rfl, hr, hb⟩; have HR := Lib.hid hr; have HB := Lib.hid hb; clear hr hb)
    | (go_at_call 77; refine (SortStable_bk v ps HL.out w.heap.size _ HB.out.size HR.out).mono ?_; rintro e w2 ⟨rfl, hr, hb⟩; have HR2 := Lib.hid hr; have HB2 := Lib.hid hb; clear hr hb))
  go_ret
  exact ⟨v, rfl, HR2.out, HB.out.trans HB2.out⟩
set_option maxHeartbeats 1000000 in
theorem Sorted_any (A : Option Addr) (c : Nat) (l : List S39) (hl : l.length < 20) (w : World) (hC : Kd.C k39 w A l.length l) :
    Calls Try.prog 38 #[.slice A l.length c] w fun e w' => ∃ v : Value, e = .returned v ∧ Kd.R k39 39 w' w.heap.size (fun _ => True) v (insL l) ∧ Below w.heap.size w w' := by
  have HS := Lib.hid (SortedStable_bk w.heap.size A c l hl (w.alloc (.cells #[.slice A l.length c] 22)) (Kd.C_alloc hC _) (Blk.new w 22 [.slice A l.length c]))
  have HB0 := Lib.hid (below_alloc (Below.refl w.heap.size w) (.cells #[.slice A l.length c] 22))
  clear hC hl
  go_enter Try.func38, Try.ntmps38
  go_wp2_with (first
    | (go_at_call 57; refine (values_any _ _ _ _).mono ?_; rintro e w1 ⟨rfl, rfl⟩)
    | (go_at_call 56; refine HS.out.mono ?_; rintro e w2 ⟨v, rfl, hr, hb⟩; have HR := Lib.hid (Kd.R_lower hr HB0.out.size); have HB := Lib.hid (HB0.out.trans (hb.mono HB0.out.size)); clear hr hb))
  go_ret
  exact ⟨v, rfl, HR.out, HB.out⟩
def pool_Sorted.f (l0 : List S39) : Option (List S39) := if l0.length < 20 then some (insL l0) else none
theorem pool_Sorted.calls (A0 : Option Addr) (c0 : Nat) (l0 : List S39) (r : List S39) (w : World) (hr0 : Kd.C k39 w A0 l0.length l0) (hc0 : l0.length ≤ c0) (h : pool_Sorted.f l0 = some r) :
    Calls Try.prog 38 #[.slice A0 l0.length c0] w fun e w' => ∃ v0_ : Value, e = .returned v0_ ∧ Kd.R k39 39 w' w.heap.size (fun _ => True) v0_ r ∧ Below w.heap.size w w' := by
  unfold pool_Sorted.f at h
  by_cases hl : l0.length < 20
  · rw [if_pos hl] at h
    obtain rfl := Option.some.inj h
    exact Sorted_any A0 c0 l0 hl w hr0
  · rw [if_neg hl] at h
    exact absurd h (by simp)
end

end Go.Proofs.Ytcekkbimdogboaa.P
