/- Each Go function that the laws reach, as a plain function, with the proof that the machine's call comes to what it says; of a law: its row. Made by a program of this seat (wip/hp.py, over the print). -/
import Derived.Test.YthdkkmeiihbafaaPx0
import Derived.Test.YthdkkmeiihbafaaPx2
import Derived.Test.YthdkkmeiihbafaaPx3
import Derived.Test.YthdkkmeiihbafaaPx4
import Derived.Test.YthdkkmeiihbafaaPx5
import Derived.Test.YthdkkmeiihbafaaPx6
namespace Go.Proofs.Ythdkkmeiihbafaa.P
open Go.RowKit Go.Proofs.YthdkkmeiihbafaaW.PrintWords Go.Proofs.YthdkkmeiihbafaaW.PrintLast Go.Proofs.YthdkkmeiihbafaaW.PrintMore
attribute [local go_sem] max2_int min2_int max_two min_two max_three min_three max_four min_four   -- for this text's walks alone
set_option linter.unusedVariables false
set_option linter.unusedSimpArgs false

/-! ### gangplankref12_Keys: function 47 -/
def gangplankref12_Keys.l0 : Nat → List (S31) → List ByteArray → Int → Option (List ByteArray)
  | 0, _, _, _ => none
  | k + 1, x0, x3, x4 => if x4 < (x0.length : Int) then (if 0 ≤ x4 then (if ((rd_T31 x0 x4).f0) = 1 then (if x3.length < 8796093022208 then (gangplankref12_Keys.l0 k x0 (x3 ++ [(rd_T31 x0 x4).f1]) (wrap64 (x4 + 1))) else (none)) else (gangplankref12_Keys.l0 k x0 x3 (wrap64 (x4 + 1)))) else (none)) else (some x3)
def gangplankref12_Keys.f (k : Nat) (l0 : List (S31)) : Option (List ByteArray) := gangplankref12_Keys.l0 k l0 ([] : List ByteArray) 0
theorem gangplankref12_Keys.mono_l : ∀ k, (∀ y0 y1 y2, LeO (gangplankref12_Keys.l0 k y0 y1 y2) (gangplankref12_Keys.l0 (k + 1) y0 y1 y2))
  | 0 => fun _ _ _ r h => by simp [gangplankref12_Keys.l0] at h
  | k + 1 => by
    have ih0 := gangplankref12_Keys.mono_l k
    · intro y0 y1 y2
      unfold gangplankref12_Keys.l0
      repeat' first
      | (with_reducible exact ih0 _ _ _)
      | (with_reducible exact LeO.refl _)
      | (with_reducible exact LeO.none _)
      | (with_reducible refine LeO.ite ?_ ?_)
      | (with_reducible refine LeO.bind ?_ (fun _ => ?_))
      | exact ih0 _ _ _
      | exact LeO.none _
      | refine LeO.ite ?_ ?_
      | refine LeO.bind ?_ (fun _ => ?_)
theorem gangplankref12_Keys.mono : ∀ a0 k, LeO (gangplankref12_Keys.f k a0) (gangplankref12_Keys.f (k + 1) a0) := by
  intro a0 k
  have ih0 := gangplankref12_Keys.mono_l k
  unfold gangplankref12_Keys.f
  repeat' first
      | (with_reducible exact ih0 _ _ _)
      | (with_reducible exact LeO.refl _)
      | (with_reducible exact LeO.none _)
      | (with_reducible refine LeO.ite ?_ ?_)
      | (with_reducible refine LeO.bind ?_ (fun _ => ?_))
      | exact ih0 _ _ _
      | exact LeO.none _
      | refine LeO.ite ?_ ?_
      | refine LeO.bind ?_ (fun _ => ?_)
set_option maxHeartbeats 8000000 in
set_option maxRecDepth 100000 in
theorem gangplankref12_Keys.calls (k : Nat) (A0 : Option Addr) (c0 : Nat) (l0 : List (S31)) (r : List ByteArray) (w : World) (hr0 : Kd.C k31 w A0 l0.length l0) (hc0 : l0.length ≤ c0) (h : gangplankref12_Keys.f k l0 = some r) :
    Calls Try.prog 47 #[.slice A0 l0.length c0] w fun e w' => ∃ v0_ : Value, e = .returned (v0_) ∧ Kd.R Kd.string 9 w' w.heap.size (fun _ => True) v0_ r ∧ Below w.heap.size w w' := by
  have HR0 := Aside0.mk hr0
  have HC0 := Aside0.mk hc0
  clear hr0 hc0
  have HB := Aside0.mk (Below.refl w.heap.size w)
  have H : (gangplankref12_Keys.l0 k l0 ([] : List ByteArray) 0) = some r := h
  clear h
  have H' := Aside0.mk H
  clear H
  go_enter Try.func47, Try.ntmps47
  go_wp2
  go_loopg [3, 4] k (fun kq v3 v4 w' => ∃ (x3_1 : List ByteArray) (x4_1 : Int), v4 = .int .i64 x4_1 ∧ Aside0 (gangplankref12_Keys.l0 kq l0 x3_1 x4_1 = some r) ∧ Aside0 (kq ≤ k) ∧ Aside0 (Kd.R Kd.string 9 w' w.heap.size (fun _ => True) v3 x3_1) ∧ Aside0 (Below w.heap.size w w'))
  case atStart => exact ⟨(([] : List ByteArray)), (0), (by first | rfl | (simp; done) | (simp [*]; done)), H', ⟨Nat.le_refl _⟩, ⟨by first | exact Kd.R_nil _ _ _ _ _ | exact Kd.N_nil _ _ _ _ _ | exact Kd.V_nil _ _ _ _ _ | exact Kd.Q_nil _ _ _ _ _ | exact Kd.S_nil _ _ _ _ _⟩, ⟨by repeat (first | (with_reducible first | exact HB.out | apply below_alloc | apply pw_below_drewN | apply below_drew1) | exact HB.out)⟩⟩
  case round =>
    clear H'
    obtain ⟨x3_1, x4_1, rfl, HA, HK1, HO_3, HB⟩ := hrel
    cases gk with
    | zero => exact absurd HA.out (by simp [gangplankref12_Keys.l0])
    | succ k1 =>
      have H := HA.out
      clear HA
      simp only [gangplankref12_Keys.l0] at H
      by_cases c2 : x4_1 < (l0.length : Int)
      · rw [if_pos c2] at H
        have c2b0 : decide (x4_1 < (l0.length : Int)) = true := decide_eq_true c2
        clear c2
        by_cases c3 : 0 ≤ x4_1
        · rw [if_pos c3] at H
          have c3b0 : decide (0 ≤ x4_1) = true := decide_eq_true c3
          clear c3
          by_cases c4 : ((rd_T31 l0 x4_1).f0) = 1
          · rw [if_pos c4] at H
            have c4b0 : (((rd_T31 l0 x4_1).f0) == 1) = true := beq_iff_eq.mpr c4
            have c4b1 : (((rd_T31 l0 x4_1).f0) != 1) = false := bne_eq_false_iff_eq.mpr c4
            clear c4
            by_cases c5 : x3_1.length < 8796093022208
            · rw [if_pos c5] at H
              have LMc5 := Aside0.mk c5
              clear c5
              obtain ⟨y210, hy210⟩ : ∃ y_ : List ByteArray, y_ = (x3_1 ++ [(rd_T31 l0 x4_1).f1]) := ⟨_, rfl⟩
              replace H : (gangplankref12_Keys.l0 k1 l0 y210 (wrap64 (x4_1 + 1))) = some r := by first | (rw [hy210]; with_reducible exact H) | (have H2_ := (Option.bind_some _ _).symm.trans H; rw [hy210]; with_reducible exact H2_) | (have H2_ := (Option.bind_some _ _).symm.trans H; with_reducible exact H2_) | with_reducible exact H | (rw [hy210]; exact H) | exact H
              have Ny210 := Aside0.mk hy210
              clear hy210
              have H' := Aside0.mk H
              clear H
              have p208 : 0 ≤ (x4_1 : Int) := of_decide_eq_true (by first | (with_reducible assumption) | assumption)
              have q208 : x4_1 < (l0.length : Int) := of_decide_eq_true (by first | (with_reducible assumption) | assumption)
              obtain ⟨ad208, e208, hx208_0, hx208_1, hx208_2, hx208_3⟩ := at_T31 HR0.out x4_1 p208 q208
              cases e208
              replace hx208_0 := (HB.out.cell (World.block_lt_of_cell? w _ hx208_0)).trans hx208_0
              replace hx208_1 := (HB.out.cell (World.block_lt_of_cell? w _ hx208_1)).trans hx208_1
              replace hx208_2 := (HB.out.cell (World.block_lt_of_cell? w _ hx208_2)).trans hx208_2
              replace hx208_3 := (HB.out.cell (World.block_lt_of_cell? w _ hx208_3)).trans hx208_3
              replace p208 := eq_true p208
              replace q208 := eq_true q208
              have p209 : 0 ≤ (x4_1 : Int) := of_decide_eq_true (by first | (with_reducible assumption) | assumption)
              have q209 : x4_1 < (l0.length : Int) := of_decide_eq_true (by first | (with_reducible assumption) | assumption)
              obtain ⟨ad209, e209, hx209_0, hx209_1, hx209_2, hx209_3⟩ := at_T31 HR0.out x4_1 p209 q209
              obtain rfl : ad208 = ad209 := (by injection e209)
              replace hx209_0 := (HB.out.cell (World.block_lt_of_cell? w _ hx209_0)).trans hx209_0
              replace hx209_1 := (HB.out.cell (World.block_lt_of_cell? w _ hx209_1)).trans hx209_1
              replace hx209_2 := (HB.out.cell (World.block_lt_of_cell? w _ hx209_2)).trans hx209_2
              replace hx209_3 := (HB.out.cell (World.block_lt_of_cell? w _ hx209_3)).trans hx209_3
              replace p209 := eq_true p209
              replace q209 := eq_true q209
              go_wp2_with (first | ((with_reducible refine gate_builtin (b := .append) (xs := #[.tmp 17, .tmp 23]) rfl ?_); at_builtin; refine Kd.R_append Kd.string (w0 := w) w.heap.size rfl (.tmp 17) (.tmp 23) 46 9 (.string ⟨#[]⟩) 16 rfl Try.underlying46 info9 rfl (by decide) (by omega) u3 x3_1 ((rd_T31 l0 x4_1).f1) [.string ((rd_T31 l0 x4_1).f1)] (fun _ => True) (fun _ => False) rfl rfl ?aP (fun _ hk => hk.elim) ?aF ?aO ?aB ?aS ?aL ?_; (case aP => exact rfl); (case aB => exact (by repeat (first | (with_reducible first | exact HB.out | apply below_alloc | apply pw_below_drewN | apply below_drew1) | exact HB.out))); (case aF => exact (fun _ _ => trivial)); (case aO => exact (by (with_reducible repeat (first | apply Kd.R_alloc | apply Kd.R_drewN | apply Kd.R_drew)); exact HO_3.out)); (case aS => exact (below_size (by repeat (first | (with_reducible first | exact HB.out | apply below_alloc | apply pw_below_drewN | apply below_drew1) | exact HB.out)))); (case aL => have := LMc5.out; omega); intro v211 w6 ho hb hg hat; rw [← Ny210.out] at ho; have n0_ := Aside0.mk (hb); have n1_ := Aside0.mk (ho); clear HB; clear HO_3; have HB := n0_; have HO212 := n1_; clear n0_ n1_; clear ho hb hg hat))
              go_roundg k1
              case measure => have := HK1.out; omega
              case rel => exact ⟨(y210), (wrap64 (x4_1 + 1)), (by first | rfl | (simp; done) | (simp [*]; done)), H', ⟨by have := HK1.out; omega⟩, ⟨by (with_reducible repeat (first | apply Kd.R_alloc | apply Kd.R_drewN | apply Kd.R_drew)); exact HO212.out⟩, ⟨by repeat (first | (with_reducible first | exact HB.out | apply below_alloc | apply pw_below_drewN | apply below_drew1) | exact HB.out)⟩⟩
            · rw [if_neg c5] at H
              exact absurd H (by simp)
          · rw [if_neg c4] at H
            have c4b0 : (((rd_T31 l0 x4_1).f0) == 1) = false := beq_eq_false_iff_ne.mpr c4
            have c4b1 : (((rd_T31 l0 x4_1).f0) != 1) = true := bne_iff_ne.mpr c4
            have H' := Aside0.mk H
            clear H
            have p208 : 0 ≤ (x4_1 : Int) := of_decide_eq_true (by first | (with_reducible assumption) | assumption)
            have q208 : x4_1 < (l0.length : Int) := of_decide_eq_true (by first | (with_reducible assumption) | assumption)
            obtain ⟨ad208, e208, hx208_0, hx208_1, hx208_2, hx208_3⟩ := at_T31 HR0.out x4_1 p208 q208
            cases e208
            replace hx208_0 := (HB.out.cell (World.block_lt_of_cell? w _ hx208_0)).trans hx208_0
            replace hx208_1 := (HB.out.cell (World.block_lt_of_cell? w _ hx208_1)).trans hx208_1
            replace hx208_2 := (HB.out.cell (World.block_lt_of_cell? w _ hx208_2)).trans hx208_2
            replace hx208_3 := (HB.out.cell (World.block_lt_of_cell? w _ hx208_3)).trans hx208_3
            replace p208 := eq_true p208
            replace q208 := eq_true q208
            go_wp2
            go_roundg k1
            case measure => have := HK1.out; omega
            case rel => exact ⟨(x3_1), (wrap64 (x4_1 + 1)), (by first | rfl | (simp; done) | (simp [*]; done)), H', ⟨by have := HK1.out; omega⟩, ⟨by (with_reducible repeat (first | apply Kd.R_alloc | apply Kd.R_drewN | apply Kd.R_drew)); exact HO_3.out⟩, ⟨by repeat (first | (with_reducible first | exact HB.out | apply below_alloc | apply pw_below_drewN | apply below_drew1) | exact HB.out)⟩⟩
        · rw [if_neg c3] at H
          exact absurd H (by simp)
      · rw [if_neg c2] at H
        have c2b0 : decide (x4_1 < (l0.length : Int)) = false := decide_eq_false c2
        clear c2
        obtain rfl := Option.some.inj H
        go_wp2
        go_ret
        exact ⟨_, by first | rfl | (simp [errW_none, errW_some] <;> rfl) | (simp [*, errW_none, errW_some] <;> rfl), by (with_reducible repeat (first | apply Kd.R_alloc | apply Kd.R_drewN | apply Kd.R_drew)); exact HO_3.out, by repeat (first | (with_reducible first | exact HB.out | apply below_alloc | apply pw_below_drewN | apply below_drew1) | exact HB.out)⟩

/-! ### gangplankref12_Right: function 48 -/
def gangplankref12_Right.l0 : Nat → List (S31) → Int → Option (Bool)
  | 0, _, _ => none
  | k + 1, x0, x3 => if x3 < (x0.length : Int) then (if 0 ≤ x3 then (if ((rd_T31 x0 x3).f0) = 1 then ((gangplankref11_Find.f k x0 ((rd_T31 x0 x3).f1)).bind fun t215 => (if t215 = x3 then (gangplankref12_Right.l0 k x0 (wrap64 (x3 + 1))) else (some false))) else (gangplankref12_Right.l0 k x0 (wrap64 (x3 + 1)))) else (none)) else (some true)
def gangplankref12_Right.f (k : Nat) (l0 : List (S31)) : Option (Bool) := gangplankref12_Right.l0 k l0 0
theorem gangplankref12_Right.mono_l : ∀ k, (∀ y0 y1, LeO (gangplankref12_Right.l0 k y0 y1) (gangplankref12_Right.l0 (k + 1) y0 y1))
  | 0 => fun _ _ r h => by simp [gangplankref12_Right.l0] at h
  | k + 1 => by
    have ih0 := gangplankref12_Right.mono_l k
    · intro y0 y1
      unfold gangplankref12_Right.l0
      repeat' first
      | (with_reducible exact ih0 _ _)
      | (with_reducible exact gangplankref11_Find.mono _ _ _)
      | (with_reducible exact LeO.refl _)
      | (with_reducible exact LeO.none _)
      | (with_reducible refine LeO.ite ?_ ?_)
      | (with_reducible refine LeO.bind ?_ (fun _ => ?_))
      | exact ih0 _ _
      | exact gangplankref11_Find.mono _ _ _
      | exact LeO.none _
      | refine LeO.ite ?_ ?_
      | refine LeO.bind ?_ (fun _ => ?_)
theorem gangplankref12_Right.mono : ∀ a0 k, LeO (gangplankref12_Right.f k a0) (gangplankref12_Right.f (k + 1) a0) := by
  intro a0 k
  have ih0 := gangplankref12_Right.mono_l k
  unfold gangplankref12_Right.f
  repeat' first
      | (with_reducible exact ih0 _ _)
      | (with_reducible exact gangplankref11_Find.mono _ _ _)
      | (with_reducible exact LeO.refl _)
      | (with_reducible exact LeO.none _)
      | (with_reducible refine LeO.ite ?_ ?_)
      | (with_reducible refine LeO.bind ?_ (fun _ => ?_))
      | exact ih0 _ _
      | exact gangplankref11_Find.mono _ _ _
      | exact LeO.none _
      | refine LeO.ite ?_ ?_
      | refine LeO.bind ?_ (fun _ => ?_)
set_option maxHeartbeats 8000000 in
set_option maxRecDepth 100000 in
theorem gangplankref12_Right.calls (k : Nat) (A0 : Option Addr) (c0 : Nat) (l0 : List (S31)) (r : Bool) (w : World) (hr0 : Kd.C k31 w A0 l0.length l0) (hc0 : l0.length ≤ c0) (h : gangplankref12_Right.f k l0 = some r) :
    Calls Try.prog 48 #[.slice A0 l0.length c0] w fun e w' => e = .returned (.bool r) ∧ Drawn0 w w' := by
  have HR0 := Aside0.mk hr0
  have HC0 := Aside0.mk hc0
  clear hr0 hc0
  have H : (gangplankref12_Right.l0 k l0 0) = some r := h
  clear h
  have H' := Aside0.mk H
  clear H
  go_enter Try.func48, Try.ntmps48
  go_wp2
  go_loopg [3] k (fun kq v3 w' => ∃ (x3_1 : Int), v3 = .int .i64 x3_1 ∧ Aside0 (gangplankref12_Right.l0 kq l0 x3_1 = some r) ∧ Aside0 (kq ≤ k) ∧ Drawn0 w w')
  case atStart => exact ⟨(0), (by first | rfl | (simp; done) | (simp [*]; done)), H', ⟨Nat.le_refl _⟩, by repeat (first | exact Drawn0.refl _ | apply Drawn0.step)⟩
  case round =>
    clear H'
    obtain ⟨x3_1, rfl, HA, HK1, ⟨m1, rfl⟩⟩ := hrel
    cases gk with
    | zero => exact absurd HA.out (by simp [gangplankref12_Right.l0])
    | succ k1 =>
      have H := HA.out
      clear HA
      simp only [gangplankref12_Right.l0] at H
      by_cases c2 : x3_1 < (l0.length : Int)
      · rw [if_pos c2] at H
        have c2b0 : decide (x3_1 < (l0.length : Int)) = true := decide_eq_true c2
        clear c2
        by_cases c3 : 0 ≤ x3_1
        · rw [if_pos c3] at H
          have c3b0 : decide (0 ≤ x3_1) = true := decide_eq_true c3
          clear c3
          by_cases c4 : ((rd_T31 l0 x3_1).f0) = 1
          · rw [if_pos c4] at H
            have c4b0 : (((rd_T31 l0 x3_1).f0) == 1) = true := beq_iff_eq.mpr c4
            have c4b1 : (((rd_T31 l0 x3_1).f0) != 1) = false := bne_eq_false_iff_eq.mpr c4
            clear c4
            replace H := Option.bind_eq_some_iff.mp H
            obtain ⟨t215, A50, H⟩ := H
            replace H : (if t215 = x3_1 then (gangplankref12_Right.l0 k1 l0 (wrap64 (x3_1 + 1))) else (some false)) = some r := H
            have A5 := Aside0.mk A50
            clear A50
            by_cases c6 : t215 = x3_1
            · rw [if_pos c6] at H
              have c6b0 : (t215 == x3_1) = true := beq_iff_eq.mpr c6
              have c6b1 : (t215 != x3_1) = false := bne_eq_false_iff_eq.mpr c6
              clear c6
              have H' := Aside0.mk H
              clear H
              have p213 : 0 ≤ (x3_1 : Int) := of_decide_eq_true (by first | (with_reducible assumption) | assumption)
              have q213 : x3_1 < (l0.length : Int) := of_decide_eq_true (by first | (with_reducible assumption) | assumption)
              obtain ⟨ad213, e213, hx213_0, hx213_1, hx213_2, hx213_3⟩ := at_T31 HR0.out x3_1 p213 q213
              cases e213
              replace p213 := eq_true p213
              replace q213 := eq_true q213
              have p214 : 0 ≤ (x3_1 : Int) := of_decide_eq_true (by first | (with_reducible assumption) | assumption)
              have q214 : x3_1 < (l0.length : Int) := of_decide_eq_true (by first | (with_reducible assumption) | assumption)
              obtain ⟨ad214, e214, hx214_0, hx214_1, hx214_2, hx214_3⟩ := at_T31 HR0.out x3_1 p214 q214
              obtain rfl : ad213 = ad214 := (by injection e214)
              replace p214 := eq_true p214
              replace q214 := eq_true q214
              go_wp2_with (first | (go_at_call 26; (with_reducible refine (gangplankref11_Find.calls k1 _ _ l0 ((rd_T31 l0 x3_1).f1) t215 _ ?side1 ?side2 A5.out).mono ?_); (case side1 => repeat (first | exact HR0.out | (with_reducible refine Kd.C_alloc ?_ _) | (with_reducible refine Kd.C_drewN ?_ _) | (with_reducible refine Kd.C_drew ?_))); (case side2 => exact HC0.out); (try clear A5); rintro e w' ⟨rfl, ⟨nd, rfl⟩⟩))
              go_roundg k1
              case measure => have := HK1.out; omega
              case rel => exact ⟨(wrap64 (x3_1 + 1)), (by first | rfl | (simp; done) | (simp [*]; done)), H', ⟨by have := HK1.out; omega⟩, by repeat (first | exact Drawn0.refl _ | apply Drawn0.step)⟩
            · rw [if_neg c6] at H
              have c6b0 : (t215 == x3_1) = false := beq_eq_false_iff_ne.mpr c6
              have c6b1 : (t215 != x3_1) = true := bne_iff_ne.mpr c6
              obtain rfl := Option.some.inj H
              have p213 : 0 ≤ (x3_1 : Int) := of_decide_eq_true (by first | (with_reducible assumption) | assumption)
              have q213 : x3_1 < (l0.length : Int) := of_decide_eq_true (by first | (with_reducible assumption) | assumption)
              obtain ⟨ad213, e213, hx213_0, hx213_1, hx213_2, hx213_3⟩ := at_T31 HR0.out x3_1 p213 q213
              cases e213
              replace p213 := eq_true p213
              replace q213 := eq_true q213
              have p214 : 0 ≤ (x3_1 : Int) := of_decide_eq_true (by first | (with_reducible assumption) | assumption)
              have q214 : x3_1 < (l0.length : Int) := of_decide_eq_true (by first | (with_reducible assumption) | assumption)
              obtain ⟨ad214, e214, hx214_0, hx214_1, hx214_2, hx214_3⟩ := at_T31 HR0.out x3_1 p214 q214
              obtain rfl : ad213 = ad214 := (by injection e214)
              replace p214 := eq_true p214
              replace q214 := eq_true q214
              go_wp2_with (first | (go_at_call 26; (with_reducible refine (gangplankref11_Find.calls k1 _ _ l0 ((rd_T31 l0 x3_1).f1) t215 _ ?side1 ?side2 A5.out).mono ?_); (case side1 => repeat (first | exact HR0.out | (with_reducible refine Kd.C_alloc ?_ _) | (with_reducible refine Kd.C_drewN ?_ _) | (with_reducible refine Kd.C_drew ?_))); (case side2 => exact HC0.out); (try clear A5); rintro e w' ⟨rfl, ⟨nd, rfl⟩⟩))
              go_ret
              exact ⟨by first | rfl | (simp; done) | (simp [*]; done), by repeat (first | exact Drawn0.refl _ | apply Drawn0.step)⟩
          · rw [if_neg c4] at H
            have c4b0 : (((rd_T31 l0 x3_1).f0) == 1) = false := beq_eq_false_iff_ne.mpr c4
            have c4b1 : (((rd_T31 l0 x3_1).f0) != 1) = true := bne_iff_ne.mpr c4
            have H' := Aside0.mk H
            clear H
            have p213 : 0 ≤ (x3_1 : Int) := of_decide_eq_true (by first | (with_reducible assumption) | assumption)
            have q213 : x3_1 < (l0.length : Int) := of_decide_eq_true (by first | (with_reducible assumption) | assumption)
            obtain ⟨ad213, e213, hx213_0, hx213_1, hx213_2, hx213_3⟩ := at_T31 HR0.out x3_1 p213 q213
            cases e213
            replace p213 := eq_true p213
            replace q213 := eq_true q213
            go_wp2
            go_roundg k1
            case measure => have := HK1.out; omega
            case rel => exact ⟨(wrap64 (x3_1 + 1)), (by first | rfl | (simp; done) | (simp [*]; done)), H', ⟨by have := HK1.out; omega⟩, by repeat (first | exact Drawn0.refl _ | apply Drawn0.step)⟩
        · rw [if_neg c3] at H
          exact absurd H (by simp)
      · rw [if_neg c2] at H
        have c2b0 : decide (x3_1 < (l0.length : Int)) = false := decide_eq_false c2
        clear c2
        obtain rfl := Option.some.inj H
        go_wp2
        go_ret
        exact ⟨by first | rfl | (simp; done) | (simp [*]; done), by repeat (first | exact Drawn0.refl _ | apply Drawn0.step)⟩

/-! ### gangplanklaw12_FlowsTell: function 9 -/
mutual
def gangplanklaw12_FlowsTell.j0 : Nat → List (S31) → ByteArray → Int → Int → Int → Bool → Bool → Option (Bool)
  | 0, _, _, _, _, _, _, _ => none
  | k + 1, x0, x1, x2, x3, x4, x11, x33 => if x33 = true then (some x11) else ((flows_Put.f x0 x1 x2 x3).bind fun bt218 => ((gangplankref12_Put.f k x0 x1 x2 x3).bind fun bt222 => ((flows_Delete.f x0 x1).bind fun bt226 => ((gangplankref12_Delete.f k x0 x1).bind fun bt230 => ((gangplankref11_Same.f k bt218.1 bt222.1).bind fun t234 => (if t234 = true then ((gangplankref11_Same.f k bt226.1 bt230.1).bind fun t235 => (if t235 = true then ((flows_Tidy.f x0).bind fun t236 => ((gangplankref12_Tidy.f k x0).bind fun t239 => ((gangplankref11_Same.f k t236 t239).bind fun t242 => (if t242 = true then ((flows_New.f x4).bind fun t243 => ((gangplankref12_New.f x4).bind fun t246 => ((gangplankref11_Same.f k t243 t246).bind fun t249 => (gangplanklaw12_FlowsTell.j1 k x0 x11 bt218.2 bt222.2 bt226.2 bt230.2 t249)))) else (gangplanklaw12_FlowsTell.j1 k x0 x11 bt218.2 bt222.2 bt226.2 bt230.2 false))))) else (gangplanklaw12_FlowsTell.j1 k x0 x11 bt218.2 bt222.2 bt226.2 bt230.2 false))) else (gangplanklaw12_FlowsTell.j1 k x0 x11 bt218.2 bt222.2 bt226.2 bt230.2 false)))))))
def gangplanklaw12_FlowsTell.j1 : Nat → List (S31) → Bool → Int → Int → Bool → Bool → Bool → Option (Bool)
  | 0, _, _, _, _, _, _, _ => none
  | k + 1, x0, x11, x13, x15, x17, x19, x20 => (flows_Keys.f x0).bind fun t250 => ((gangplankref12_Keys.f k x0).bind fun t253 => ((gangplankref12_Texts.f k t250 t253).bind fun t256 => ((gangplankref12_Right.f k x0).bind fun t257 => (if x11 = true then (if x20 = true then (if t256 = true then (if x13 = x15 then (if (x17 == x19) = true then ((flows_Right.f x0).bind fun t258 => (some (t258 == t257))) else (some false)) else (some false)) else (some false)) else (some false)) else (some false)))))
end
def gangplanklaw12_FlowsTell.f (k : Nat) (l0 : List (S31)) (a1 : ByteArray) (a2 : Int) (a3 : Int) (a4 : Int) : Option (Bool) := (gangplanklaw12_works.f k).bind fun t216 => (if t216 = true then ((gangplanklaw12_few.f k l0).bind fun t217 => (if t217 = true then (gangplanklaw12_FlowsTell.j0 k l0 a1 a2 a3 a4 t216 (decide ((a1.size : Int) > 60))) else (gangplanklaw12_FlowsTell.j0 k l0 a1 a2 a3 a4 t216 true))) else (some false))
theorem gangplanklaw12_FlowsTell.mono_l : ∀ k, (∀ y0 y1 y2 y3 y4 y5 y6, LeO (gangplanklaw12_FlowsTell.j0 k y0 y1 y2 y3 y4 y5 y6) (gangplanklaw12_FlowsTell.j0 (k + 1) y0 y1 y2 y3 y4 y5 y6)) ∧ (∀ y0 y1 y2 y3 y4 y5 y6, LeO (gangplanklaw12_FlowsTell.j1 k y0 y1 y2 y3 y4 y5 y6) (gangplanklaw12_FlowsTell.j1 (k + 1) y0 y1 y2 y3 y4 y5 y6))
  | 0 => ⟨fun _ _ _ _ _ _ _ r h => by simp [gangplanklaw12_FlowsTell.j0] at h, fun _ _ _ _ _ _ _ r h => by simp [gangplanklaw12_FlowsTell.j1] at h⟩
  | k + 1 => by
    obtain ⟨ih0, ih1⟩ := gangplanklaw12_FlowsTell.mono_l k
    refine ⟨?_, ?_⟩
    · intro y0 y1 y2 y3 y4 y5 y6
      unfold gangplanklaw12_FlowsTell.j0
      repeat' first
      | (with_reducible exact ih0 _ _ _ _ _ _ _)
      | (with_reducible exact ih1 _ _ _ _ _ _ _)
      | (with_reducible exact gangplanklaw12_few.mono _ _)
      | (with_reducible exact gangplanklaw12_works.mono _)
      | (with_reducible exact gangplankref11_Same.mono _ _ _)
      | (with_reducible exact gangplankref12_Delete.mono _ _ _)
      | (with_reducible exact gangplankref12_Keys.mono _ _)
      | (with_reducible exact gangplankref12_Put.mono _ _ _ _ _)
      | (with_reducible exact gangplankref12_Right.mono _ _)
      | (with_reducible exact gangplankref12_Texts.mono _ _ _)
      | (with_reducible exact gangplankref12_Tidy.mono _ _)
      | (with_reducible exact LeO.refl _)
      | (with_reducible exact LeO.none _)
      | (with_reducible refine LeO.ite ?_ ?_)
      | (with_reducible refine LeO.bind ?_ (fun _ => ?_))
      | exact ih0 _ _ _ _ _ _ _
      | exact ih1 _ _ _ _ _ _ _
      | exact gangplanklaw12_few.mono _ _
      | exact gangplanklaw12_works.mono _
      | exact gangplankref11_Same.mono _ _ _
      | exact gangplankref12_Delete.mono _ _ _
      | exact gangplankref12_Keys.mono _ _
      | exact gangplankref12_Put.mono _ _ _ _ _
      | exact gangplankref12_Right.mono _ _
      | exact gangplankref12_Texts.mono _ _ _
      | exact gangplankref12_Tidy.mono _ _
      | exact LeO.none _
      | refine LeO.ite ?_ ?_
      | refine LeO.bind ?_ (fun _ => ?_)
    · intro y0 y1 y2 y3 y4 y5 y6
      unfold gangplanklaw12_FlowsTell.j1
      repeat' first
      | (with_reducible exact ih0 _ _ _ _ _ _ _)
      | (with_reducible exact ih1 _ _ _ _ _ _ _)
      | (with_reducible exact gangplanklaw12_few.mono _ _)
      | (with_reducible exact gangplanklaw12_works.mono _)
      | (with_reducible exact gangplankref11_Same.mono _ _ _)
      | (with_reducible exact gangplankref12_Delete.mono _ _ _)
      | (with_reducible exact gangplankref12_Keys.mono _ _)
      | (with_reducible exact gangplankref12_Put.mono _ _ _ _ _)
      | (with_reducible exact gangplankref12_Right.mono _ _)
      | (with_reducible exact gangplankref12_Texts.mono _ _ _)
      | (with_reducible exact gangplankref12_Tidy.mono _ _)
      | (with_reducible exact LeO.refl _)
      | (with_reducible exact LeO.none _)
      | (with_reducible refine LeO.ite ?_ ?_)
      | (with_reducible refine LeO.bind ?_ (fun _ => ?_))
      | exact ih0 _ _ _ _ _ _ _
      | exact ih1 _ _ _ _ _ _ _
      | exact gangplanklaw12_few.mono _ _
      | exact gangplanklaw12_works.mono _
      | exact gangplankref11_Same.mono _ _ _
      | exact gangplankref12_Delete.mono _ _ _
      | exact gangplankref12_Keys.mono _ _
      | exact gangplankref12_Put.mono _ _ _ _ _
      | exact gangplankref12_Right.mono _ _
      | exact gangplankref12_Texts.mono _ _ _
      | exact gangplankref12_Tidy.mono _ _
      | exact LeO.none _
      | refine LeO.ite ?_ ?_
      | refine LeO.bind ?_ (fun _ => ?_)
theorem gangplanklaw12_FlowsTell.mono : ∀ a0 a1 a2 a3 a4 k, LeO (gangplanklaw12_FlowsTell.f k a0 a1 a2 a3 a4) (gangplanklaw12_FlowsTell.f (k + 1) a0 a1 a2 a3 a4) := by
  intro a0 a1 a2 a3 a4 k
  obtain ⟨ih0, ih1⟩ := gangplanklaw12_FlowsTell.mono_l k
  unfold gangplanklaw12_FlowsTell.f
  repeat' first
      | (with_reducible exact ih0 _ _ _ _ _ _ _)
      | (with_reducible exact ih1 _ _ _ _ _ _ _)
      | (with_reducible exact gangplanklaw12_few.mono _ _)
      | (with_reducible exact gangplanklaw12_works.mono _)
      | (with_reducible exact gangplankref11_Same.mono _ _ _)
      | (with_reducible exact gangplankref12_Delete.mono _ _ _)
      | (with_reducible exact gangplankref12_Keys.mono _ _)
      | (with_reducible exact gangplankref12_Put.mono _ _ _ _ _)
      | (with_reducible exact gangplankref12_Right.mono _ _)
      | (with_reducible exact gangplankref12_Texts.mono _ _ _)
      | (with_reducible exact gangplankref12_Tidy.mono _ _)
      | (with_reducible exact LeO.refl _)
      | (with_reducible exact LeO.none _)
      | (with_reducible refine LeO.ite ?_ ?_)
      | (with_reducible refine LeO.bind ?_ (fun _ => ?_))
      | exact ih0 _ _ _ _ _ _ _
      | exact ih1 _ _ _ _ _ _ _
      | exact gangplanklaw12_few.mono _ _
      | exact gangplanklaw12_works.mono _
      | exact gangplankref11_Same.mono _ _ _
      | exact gangplankref12_Delete.mono _ _ _
      | exact gangplankref12_Keys.mono _ _
      | exact gangplankref12_Put.mono _ _ _ _ _
      | exact gangplankref12_Right.mono _ _
      | exact gangplankref12_Texts.mono _ _ _
      | exact gangplankref12_Tidy.mono _ _
      | exact LeO.none _
      | refine LeO.ite ?_ ?_
      | refine LeO.bind ?_ (fun _ => ?_)
set_option maxHeartbeats 8000000 in
set_option maxRecDepth 100000 in
theorem gangplanklaw12_FlowsTell.calls (k : Nat) (A0 : Option Addr) (c0 : Nat) (l0 : List (S31)) (a1 : ByteArray) (a2 : Int) (a3 : Int) (a4 : Int) (r : Bool) (w : World) (hr0 : Kd.C k31 w A0 l0.length l0) (hc0 : l0.length ≤ c0) (h : gangplanklaw12_FlowsTell.f k l0 a1 a2 a3 a4 = some r) :
    Calls Try.prog 9 #[.slice A0 l0.length c0, .string a1, .int .i64 a2, .int .i64 a3, .int .i64 a4] w fun e w' => e = .returned (.bool r) ∧ Below w.heap.size w w' := by
  have HR0 := Aside0.mk hr0
  have HC0 := Aside0.mk hc0
  clear hr0 hc0
  have HB := Aside0.mk (Below.refl w.heap.size w)
  have H : ((gangplanklaw12_works.f k).bind fun t216 => (if t216 = true then ((gangplanklaw12_few.f k l0).bind fun t217 => (if t217 = true then (gangplanklaw12_FlowsTell.j0 k l0 a1 a2 a3 a4 t216 (decide ((a1.size : Int) > 60))) else (gangplanklaw12_FlowsTell.j0 k l0 a1 a2 a3 a4 t216 true))) else (some false))) = some r := h
  clear h
  replace H := Option.bind_eq_some_iff.mp H
  obtain ⟨t216, A60, H⟩ := H
  replace H : (if t216 = true then ((gangplanklaw12_few.f k l0).bind fun t217 => (if t217 = true then (gangplanklaw12_FlowsTell.j0 k l0 a1 a2 a3 a4 t216 (decide ((a1.size : Int) > 60))) else (gangplanklaw12_FlowsTell.j0 k l0 a1 a2 a3 a4 t216 true))) else (some false)) = some r := H
  have A6 := Aside0.mk A60
  clear A60
  by_cases c7 : t216 = true
  · subst c7
    have H1 : ((gangplanklaw12_few.f k l0).bind fun t217 => (if t217 = true then (gangplanklaw12_FlowsTell.j0 k l0 a1 a2 a3 a4 true (decide ((a1.size : Int) > 60))) else (gangplanklaw12_FlowsTell.j0 k l0 a1 a2 a3 a4 true true))) = some r := by first | (rw [if_pos rfl] at H; exact H) | (rw [if_pos trivial] at H; exact H)
    clear H
    have H := H1
    clear H1
    have HC8 := Aside0.mk H
    clear H
    go_enter Try.func9, Try.ntmps9
    go_upto_region 4 with (first | ((with_reducible refine gate_callee (f := 35) rfl ?_); refine goesL_ (some 23) rfl rfl Try.func35 (by kernel_rfl) rfl #[] rfl (by (try simp only [List.map_toArray, List.map_cons, List.map_nil]); first | done | rfl | (simp only [List.length_drop, List.length_take]; rfl)) ?_; (with_reducible refine (gangplanklaw12_works.calls k  true _ A6.out).mono ?_); (try clear A6); rintro e w9 ⟨rfl, hb⟩; refine ⟨_, rfl, ?_⟩; have n0_ := Aside0.mk (below_step (by repeat (first | (with_reducible first | exact HB.out | apply below_alloc | apply pw_below_drewN | apply below_drew1) | exact HB.out)) hb); clear HB; have HB := n0_; clear n0_; (try clear hb); (try clear hb2); (try clear hk); (try clear hi)))
    (try simp only [Act.put, List.setIfInBounds_toArray, List.set_cons_zero, List.set_cons_succ])
    go_cut [33] (fun v33 wc => ∃ (kq : Nat) (x33_7 : Bool), v33 = .bool x33_7 ∧ Aside0 (gangplanklaw12_FlowsTell.j0 kq l0 a1 a2 a3 a4 true x33_7 = some r) ∧ Aside0 (kq ≤ k) ∧ Aside0 (Below w.heap.size w wc))
    case first =>
      have H := HC8.out
      clear HC8
      replace H := Option.bind_eq_some_iff.mp H
      obtain ⟨t217, A100, H⟩ := H
      replace H : (if t217 = true then (gangplanklaw12_FlowsTell.j0 k l0 a1 a2 a3 a4 true (decide ((a1.size : Int) > 60))) else (gangplanklaw12_FlowsTell.j0 k l0 a1 a2 a3 a4 true true)) = some r := H
      have A10 := Aside0.mk A100
      clear A100
      by_cases c11 : t217 = true
      · subst c11
        have H1 : (gangplanklaw12_FlowsTell.j0 k l0 a1 a2 a3 a4 true (decide ((a1.size : Int) > 60))) = some r := by first | (rw [if_pos rfl] at H; exact H) | (rw [if_pos trivial] at H; exact H)
        clear H
        have H := H1
        clear H1
        have H' := Aside0.mk H
        clear H
        go_wp2_with (first | ((with_reducible refine gate_callee (f := 36) rfl ?_); refine goesL_ (some 27) rfl rfl Try.func36 (by kernel_rfl) rfl #[.slice A0 l0.length c0] rfl (by (try simp only [List.map_toArray, List.map_cons, List.map_nil]); first | done | rfl | (simp only [List.length_drop, List.length_take]; rfl)) ?_; (with_reducible refine (gangplanklaw12_few.calls k _ _ l0 true _ ?side1 ?side2 A10.out).mono ?_); (case side1 => repeat (first | exact (Kd.C_below HR0.out HB.out) | (with_reducible refine Kd.C_alloc ?_ _) | (with_reducible refine Kd.C_drewN ?_ _) | (with_reducible refine Kd.C_drew ?_))); (case side2 => exact HC0.out); (try clear A10); rintro e w' ⟨rfl, ⟨nd, rfl⟩⟩; refine ⟨_, rfl, ?_⟩))
        go_meet
        case rel => exact ⟨_, (decide ((a1.size : Int) > 60)), (by first | rfl | (simp; done) | (simp [*]; done)), H', ⟨by first | omega | exact Nat.le_refl _⟩, ⟨by repeat (first | (with_reducible first | exact HB.out | apply below_alloc | apply pw_below_drewN | apply below_drew1) | exact HB.out)⟩⟩
      · replace c11 := Bool.eq_false_iff.mpr c11
        subst c11
        have H1 : (gangplanklaw12_FlowsTell.j0 k l0 a1 a2 a3 a4 true true) = some r := by rw [if_neg (show ¬ (false = true) by decide)] at H; exact H
        clear H
        have H := H1
        clear H1
        have H' := Aside0.mk H
        clear H
        go_wp2_with (first | ((with_reducible refine gate_callee (f := 36) rfl ?_); refine goesL_ (some 27) rfl rfl Try.func36 (by kernel_rfl) rfl #[.slice A0 l0.length c0] rfl (by (try simp only [List.map_toArray, List.map_cons, List.map_nil]); first | done | rfl | (simp only [List.length_drop, List.length_take]; rfl)) ?_; (with_reducible refine (gangplanklaw12_few.calls k _ _ l0 false _ ?side1 ?side2 A10.out).mono ?_); (case side1 => repeat (first | exact (Kd.C_below HR0.out HB.out) | (with_reducible refine Kd.C_alloc ?_ _) | (with_reducible refine Kd.C_drewN ?_ _) | (with_reducible refine Kd.C_drew ?_))); (case side2 => exact HC0.out); (try clear A10); rintro e w' ⟨rfl, ⟨nd, rfl⟩⟩; refine ⟨_, rfl, ?_⟩))
        go_meet
        case rel => exact ⟨_, (true), (by first | rfl | (simp; done) | (simp [*]; done)), H', ⟨by first | omega | exact Nat.le_refl _⟩, ⟨by repeat (first | (with_reducible first | exact HB.out | apply below_alloc | apply pw_below_drewN | apply below_drew1) | exact HB.out)⟩⟩
    case rest =>
      clear HC8
      try clear c1
      try clear p2
      try clear c3
      try clear c7
      try clear c9
      try clear c11
      obtain ⟨kq, x33_7, rfl, HA, HJ7, HB⟩ := hcut
      cases kq with
      | zero => exact absurd HA.out (by simp [gangplanklaw12_FlowsTell.j0])
      | succ kj7 =>
        have H := HA.out
        clear HA
        simp only [gangplanklaw12_FlowsTell.j0] at H
        by_cases c12 : x33_7 = true
        · subst c12
          have H1 : (some true) = some r := by first | (rw [if_pos rfl] at H; exact H) | (rw [if_pos trivial] at H; exact H)
          clear H
          have H := H1
          clear H1
          obtain rfl := Option.some.inj H
          go_wp2
          go_ret
          exact ⟨by first | rfl | (simp [errW_none, errW_some] <;> rfl) | (simp [*, errW_none, errW_some] <;> rfl), by repeat (first | (with_reducible first | exact HB.out | apply below_alloc | apply pw_below_drewN | apply below_drew1) | exact HB.out)⟩
        · replace c12 := Bool.eq_false_iff.mpr c12
          subst c12
          have H1 : ((flows_Put.f l0 a1 a2 a3).bind fun bt218 => ((gangplankref12_Put.f kj7 l0 a1 a2 a3).bind fun bt222 => ((flows_Delete.f l0 a1).bind fun bt226 => ((gangplankref12_Delete.f kj7 l0 a1).bind fun bt230 => ((gangplankref11_Same.f kj7 bt218.1 bt222.1).bind fun t234 => (if t234 = true then ((gangplankref11_Same.f kj7 bt226.1 bt230.1).bind fun t235 => (if t235 = true then ((flows_Tidy.f l0).bind fun t236 => ((gangplankref12_Tidy.f kj7 l0).bind fun t239 => ((gangplankref11_Same.f kj7 t236 t239).bind fun t242 => (if t242 = true then ((flows_New.f a4).bind fun t243 => ((gangplankref12_New.f a4).bind fun t246 => ((gangplankref11_Same.f kj7 t243 t246).bind fun t249 => (gangplanklaw12_FlowsTell.j1 kj7 l0 true bt218.2 bt222.2 bt226.2 bt230.2 t249)))) else (gangplanklaw12_FlowsTell.j1 kj7 l0 true bt218.2 bt222.2 bt226.2 bt230.2 false))))) else (gangplanklaw12_FlowsTell.j1 kj7 l0 true bt218.2 bt222.2 bt226.2 bt230.2 false))) else (gangplanklaw12_FlowsTell.j1 kj7 l0 true bt218.2 bt222.2 bt226.2 bt230.2 false))))))) = some r := by rw [if_neg (show ¬ (false = true) by decide)] at H; exact H
          clear H
          have H := H1
          clear H1
          replace H := Option.bind_eq_some_iff.mp H
          obtain ⟨⟨t218, t221⟩, A130, H⟩ := H
          replace H : ((gangplankref12_Put.f kj7 l0 a1 a2 a3).bind fun bt222 => ((flows_Delete.f l0 a1).bind fun bt226 => ((gangplankref12_Delete.f kj7 l0 a1).bind fun bt230 => ((gangplankref11_Same.f kj7 t218 bt222.1).bind fun t234 => (if t234 = true then ((gangplankref11_Same.f kj7 bt226.1 bt230.1).bind fun t235 => (if t235 = true then ((flows_Tidy.f l0).bind fun t236 => ((gangplankref12_Tidy.f kj7 l0).bind fun t239 => ((gangplankref11_Same.f kj7 t236 t239).bind fun t242 => (if t242 = true then ((flows_New.f a4).bind fun t243 => ((gangplankref12_New.f a4).bind fun t246 => ((gangplankref11_Same.f kj7 t243 t246).bind fun t249 => (gangplanklaw12_FlowsTell.j1 kj7 l0 true t221 bt222.2 bt226.2 bt230.2 t249)))) else (gangplanklaw12_FlowsTell.j1 kj7 l0 true t221 bt222.2 bt226.2 bt230.2 false))))) else (gangplanklaw12_FlowsTell.j1 kj7 l0 true t221 bt222.2 bt226.2 bt230.2 false))) else (gangplanklaw12_FlowsTell.j1 kj7 l0 true t221 bt222.2 bt226.2 bt230.2 false)))))) = some r := H
          have A13 := Aside0.mk A130
          clear A130
          replace H := Option.bind_eq_some_iff.mp H
          obtain ⟨⟨t222, t225⟩, A140, H⟩ := H
          replace H : ((flows_Delete.f l0 a1).bind fun bt226 => ((gangplankref12_Delete.f kj7 l0 a1).bind fun bt230 => ((gangplankref11_Same.f kj7 t218 t222).bind fun t234 => (if t234 = true then ((gangplankref11_Same.f kj7 bt226.1 bt230.1).bind fun t235 => (if t235 = true then ((flows_Tidy.f l0).bind fun t236 => ((gangplankref12_Tidy.f kj7 l0).bind fun t239 => ((gangplankref11_Same.f kj7 t236 t239).bind fun t242 => (if t242 = true then ((flows_New.f a4).bind fun t243 => ((gangplankref12_New.f a4).bind fun t246 => ((gangplankref11_Same.f kj7 t243 t246).bind fun t249 => (gangplanklaw12_FlowsTell.j1 kj7 l0 true t221 t225 bt226.2 bt230.2 t249)))) else (gangplanklaw12_FlowsTell.j1 kj7 l0 true t221 t225 bt226.2 bt230.2 false))))) else (gangplanklaw12_FlowsTell.j1 kj7 l0 true t221 t225 bt226.2 bt230.2 false))) else (gangplanklaw12_FlowsTell.j1 kj7 l0 true t221 t225 bt226.2 bt230.2 false))))) = some r := H
          have A14 := Aside0.mk A140
          clear A140
          replace H := Option.bind_eq_some_iff.mp H
          obtain ⟨⟨t226, t229⟩, A150, H⟩ := H
          replace H : ((gangplankref12_Delete.f kj7 l0 a1).bind fun bt230 => ((gangplankref11_Same.f kj7 t218 t222).bind fun t234 => (if t234 = true then ((gangplankref11_Same.f kj7 t226 bt230.1).bind fun t235 => (if t235 = true then ((flows_Tidy.f l0).bind fun t236 => ((gangplankref12_Tidy.f kj7 l0).bind fun t239 => ((gangplankref11_Same.f kj7 t236 t239).bind fun t242 => (if t242 = true then ((flows_New.f a4).bind fun t243 => ((gangplankref12_New.f a4).bind fun t246 => ((gangplankref11_Same.f kj7 t243 t246).bind fun t249 => (gangplanklaw12_FlowsTell.j1 kj7 l0 true t221 t225 t229 bt230.2 t249)))) else (gangplanklaw12_FlowsTell.j1 kj7 l0 true t221 t225 t229 bt230.2 false))))) else (gangplanklaw12_FlowsTell.j1 kj7 l0 true t221 t225 t229 bt230.2 false))) else (gangplanklaw12_FlowsTell.j1 kj7 l0 true t221 t225 t229 bt230.2 false)))) = some r := H
          have A15 := Aside0.mk A150
          clear A150
          replace H := Option.bind_eq_some_iff.mp H
          obtain ⟨⟨t230, t233⟩, A160, H⟩ := H
          replace H : ((gangplankref11_Same.f kj7 t218 t222).bind fun t234 => (if t234 = true then ((gangplankref11_Same.f kj7 t226 t230).bind fun t235 => (if t235 = true then ((flows_Tidy.f l0).bind fun t236 => ((gangplankref12_Tidy.f kj7 l0).bind fun t239 => ((gangplankref11_Same.f kj7 t236 t239).bind fun t242 => (if t242 = true then ((flows_New.f a4).bind fun t243 => ((gangplankref12_New.f a4).bind fun t246 => ((gangplankref11_Same.f kj7 t243 t246).bind fun t249 => (gangplanklaw12_FlowsTell.j1 kj7 l0 true t221 t225 t229 t233 t249)))) else (gangplanklaw12_FlowsTell.j1 kj7 l0 true t221 t225 t229 t233 false))))) else (gangplanklaw12_FlowsTell.j1 kj7 l0 true t221 t225 t229 t233 false))) else (gangplanklaw12_FlowsTell.j1 kj7 l0 true t221 t225 t229 t233 false))) = some r := H
          have A16 := Aside0.mk A160
          clear A160
          have HC17 := Aside0.mk H
          clear H
          go_upto_region 10 with (first | ((with_reducible refine gate_callee (f := 37) rfl ?_); refine goesL_ (some 40) rfl rfl Try.func37 (by kernel_rfl) rfl #[.slice A0 l0.length c0, .string a1, .int .i64 a2, .int .i64 a3] rfl (by (try simp only [List.map_toArray, List.map_cons, List.map_nil]); first | done | rfl | (simp only [List.length_drop, List.length_take]; rfl)) ?_; (with_reducible refine (flows_Put.calls (fun k_ => k_ < w.heap.size) _ _ l0 a1 a2 a3 t218 t221 _ ?side1 A13.out).mono ?_); (case side1 => exact Kd.V_mk HC0.out (Kd.F_below (Kd.C_F k31_heap HR0.out) (by repeat (first | (with_reducible first | exact HB.out | apply below_alloc | apply pw_below_drewN | apply below_drew1) | exact HB.out)))); (try clear A13); rintro e w18 ⟨v219, rfl, ho0, hb⟩; refine ⟨_, rfl, ?_⟩; have n0_ := Aside0.mk (Kd.V_lower (Kd.V_mono (ok' := fun k_ => True) ho0 (fun k_ hk_ => trivial)) (below_size (by repeat (first | (with_reducible first | exact HB.out | apply below_alloc | apply pw_below_drewN | apply below_drew1) | exact HB.out)))); have n1_ := Aside0.mk (below_step (by repeat (first | (with_reducible first | exact HB.out | apply below_alloc | apply pw_below_drewN | apply below_drew1) | exact HB.out)) hb); clear HB; have HO220 := n0_; have HB := n1_; clear n0_ n1_; (try clear hb); (try clear hb2); (try clear hk); (try clear hi); (try clear ho0)) | ((with_reducible refine gate_callee (f := 38) rfl ?_); refine goesL_ (some 48) rfl rfl Try.func38 (by kernel_rfl) rfl #[.slice A0 l0.length c0, .string a1, .int .i64 a2, .int .i64 a3] rfl (by (try simp only [List.map_toArray, List.map_cons, List.map_nil]); first | done | rfl | (simp only [List.length_drop, List.length_take]; rfl)) ?_; (with_reducible refine (gangplankref12_Put.calls kj7 (fun k_ => k_ < w.heap.size) _ _ l0 a1 a2 a3 t222 t225 _ ?side1 A14.out).mono ?_); (case side1 => exact Kd.V_mk HC0.out (Kd.F_below (Kd.C_F k31_heap HR0.out) (by repeat (first | (with_reducible first | exact HB.out | apply below_alloc | apply pw_below_drewN | apply below_drew1) | exact HB.out)))); (try clear A14); rintro e w19 ⟨v223, rfl, ho0, hb⟩; refine ⟨_, rfl, ?_⟩; have n0_ := Aside0.mk (Kd.V_below (by (with_reducible repeat (first | apply Kd.V_alloc | apply Kd.V_drewN | apply Kd.V_drew)); exact HO220.out) hb); have n1_ := Aside0.mk (Kd.V_lower (Kd.V_mono (ok' := fun k_ => True) ho0 (fun k_ hk_ => trivial)) (below_size (by repeat (first | (with_reducible first | exact HB.out | apply below_alloc | apply pw_below_drewN | apply below_drew1) | exact HB.out)))); have n2_ := Aside0.mk (below_step (by repeat (first | (with_reducible first | exact HB.out | apply below_alloc | apply pw_below_drewN | apply below_drew1) | exact HB.out)) hb); clear HO220; clear HB; have HO220 := n0_; have HO224 := n1_; have HB := n2_; clear n0_ n1_ n2_; (try clear hb); (try clear hb2); (try clear hk); (try clear hi); (try clear ho0)) | ((with_reducible refine gate_callee (f := 39) rfl ?_); refine goesL_ (some 54) rfl rfl Try.func39 (by kernel_rfl) rfl #[.slice A0 l0.length c0, .string a1] rfl (by (try simp only [List.map_toArray, List.map_cons, List.map_nil]); first | done | rfl | (simp only [List.length_drop, List.length_take]; rfl)) ?_; (with_reducible refine (flows_Delete.calls (fun k_ => k_ < w.heap.size) _ _ l0 a1 t226 t229 _ ?side1 A15.out).mono ?_); (case side1 => exact Kd.V_mk HC0.out (Kd.F_below (Kd.C_F k31_heap HR0.out) (by repeat (first | (with_reducible first | exact HB.out | apply below_alloc | apply pw_below_drewN | apply below_drew1) | exact HB.out)))); (try clear A15); rintro e w20 ⟨v227, rfl, ho0, hb⟩; refine ⟨_, rfl, ?_⟩; have n0_ := Aside0.mk (Kd.V_below (by (with_reducible repeat (first | apply Kd.V_alloc | apply Kd.V_drewN | apply Kd.V_drew)); exact HO220.out) hb); have n1_ := Aside0.mk (Kd.V_below (by (with_reducible repeat (first | apply Kd.V_alloc | apply Kd.V_drewN | apply Kd.V_drew)); exact HO224.out) hb); have n2_ := Aside0.mk (Kd.V_lower (Kd.V_mono (ok' := fun k_ => True) ho0 (fun k_ hk_ => trivial)) (below_size (by repeat (first | (with_reducible first | exact HB.out | apply below_alloc | apply pw_below_drewN | apply below_drew1) | exact HB.out)))); have n3_ := Aside0.mk (below_step (by repeat (first | (with_reducible first | exact HB.out | apply below_alloc | apply pw_below_drewN | apply below_drew1) | exact HB.out)) hb); clear HO220; clear HO224; clear HB; have HO220 := n0_; have HO224 := n1_; have HO228 := n2_; have HB := n3_; clear n0_ n1_ n2_ n3_; (try clear hb); (try clear hb2); (try clear hk); (try clear hi); (try clear ho0)) | ((with_reducible refine gate_callee (f := 40) rfl ?_); refine goesL_ (some 60) rfl rfl Try.func40 (by kernel_rfl) rfl #[.slice A0 l0.length c0, .string a1] rfl (by (try simp only [List.map_toArray, List.map_cons, List.map_nil]); first | done | rfl | (simp only [List.length_drop, List.length_take]; rfl)) ?_; (with_reducible refine (gangplankref12_Delete.calls kj7 (fun k_ => k_ < w.heap.size) _ _ l0 a1 t230 t233 _ ?side1 A16.out).mono ?_); (case side1 => exact Kd.V_mk HC0.out (Kd.F_below (Kd.C_F k31_heap HR0.out) (by repeat (first | (with_reducible first | exact HB.out | apply below_alloc | apply pw_below_drewN | apply below_drew1) | exact HB.out)))); (try clear A16); rintro e w21 ⟨v231, rfl, ho0, hb⟩; refine ⟨_, rfl, ?_⟩; have n0_ := Aside0.mk (Kd.V_below (by (with_reducible repeat (first | apply Kd.V_alloc | apply Kd.V_drewN | apply Kd.V_drew)); exact HO220.out) hb); have n1_ := Aside0.mk (Kd.V_below (by (with_reducible repeat (first | apply Kd.V_alloc | apply Kd.V_drewN | apply Kd.V_drew)); exact HO224.out) hb); have n2_ := Aside0.mk (Kd.V_below (by (with_reducible repeat (first | apply Kd.V_alloc | apply Kd.V_drewN | apply Kd.V_drew)); exact HO228.out) hb); have n3_ := Aside0.mk (Kd.V_lower (Kd.V_mono (ok' := fun k_ => True) ho0 (fun k_ hk_ => trivial)) (below_size (by repeat (first | (with_reducible first | exact HB.out | apply below_alloc | apply pw_below_drewN | apply below_drew1) | exact HB.out)))); have n4_ := Aside0.mk (below_step (by repeat (first | (with_reducible first | exact HB.out | apply below_alloc | apply pw_below_drewN | apply below_drew1) | exact HB.out)) hb); clear HO220; clear HO224; clear HO228; clear HB; have HO220 := n0_; have HO224 := n1_; have HO228 := n2_; have HO232 := n3_; have HB := n4_; clear n0_ n1_ n2_ n3_ n4_; (try clear hb); (try clear hb2); (try clear hk); (try clear hi); (try clear ho0)))
          (try simp only [Act.put, List.setIfInBounds_toArray, List.set_cons_zero, List.set_cons_succ])
          go_cut [20] (fun v20 wc => ∃ (kq : Nat) (x20_16 : Bool), v20 = .bool x20_16 ∧ Aside0 (gangplanklaw12_FlowsTell.j1 kq l0 true t221 t225 t229 t233 x20_16 = some r) ∧ Aside0 (kq ≤ kj7) ∧ Aside0 (Below w.heap.size w wc))
          case first =>
            have H := HC17.out
            clear HC17
            replace H := Option.bind_eq_some_iff.mp H
            obtain ⟨t234, A220, H⟩ := H
            replace H : (if t234 = true then ((gangplankref11_Same.f kj7 t226 t230).bind fun t235 => (if t235 = true then ((flows_Tidy.f l0).bind fun t236 => ((gangplankref12_Tidy.f kj7 l0).bind fun t239 => ((gangplankref11_Same.f kj7 t236 t239).bind fun t242 => (if t242 = true then ((flows_New.f a4).bind fun t243 => ((gangplankref12_New.f a4).bind fun t246 => ((gangplankref11_Same.f kj7 t243 t246).bind fun t249 => (gangplanklaw12_FlowsTell.j1 kj7 l0 true t221 t225 t229 t233 t249)))) else (gangplanklaw12_FlowsTell.j1 kj7 l0 true t221 t225 t229 t233 false))))) else (gangplanklaw12_FlowsTell.j1 kj7 l0 true t221 t225 t229 t233 false))) else (gangplanklaw12_FlowsTell.j1 kj7 l0 true t221 t225 t229 t233 false)) = some r := H
            have A22 := Aside0.mk A220
            clear A220
            by_cases c23 : t234 = true
            · subst c23
              have H1 : ((gangplankref11_Same.f kj7 t226 t230).bind fun t235 => (if t235 = true then ((flows_Tidy.f l0).bind fun t236 => ((gangplankref12_Tidy.f kj7 l0).bind fun t239 => ((gangplankref11_Same.f kj7 t236 t239).bind fun t242 => (if t242 = true then ((flows_New.f a4).bind fun t243 => ((gangplankref12_New.f a4).bind fun t246 => ((gangplankref11_Same.f kj7 t243 t246).bind fun t249 => (gangplanklaw12_FlowsTell.j1 kj7 l0 true t221 t225 t229 t233 t249)))) else (gangplanklaw12_FlowsTell.j1 kj7 l0 true t221 t225 t229 t233 false))))) else (gangplanklaw12_FlowsTell.j1 kj7 l0 true t221 t225 t229 t233 false))) = some r := by first | (rw [if_pos rfl] at H; exact H) | (rw [if_pos trivial] at H; exact H)
              clear H
              have H := H1
              clear H1
              replace H := Option.bind_eq_some_iff.mp H
              obtain ⟨t235, A240, H⟩ := H
              replace H : (if t235 = true then ((flows_Tidy.f l0).bind fun t236 => ((gangplankref12_Tidy.f kj7 l0).bind fun t239 => ((gangplankref11_Same.f kj7 t236 t239).bind fun t242 => (if t242 = true then ((flows_New.f a4).bind fun t243 => ((gangplankref12_New.f a4).bind fun t246 => ((gangplankref11_Same.f kj7 t243 t246).bind fun t249 => (gangplanklaw12_FlowsTell.j1 kj7 l0 true t221 t225 t229 t233 t249)))) else (gangplanklaw12_FlowsTell.j1 kj7 l0 true t221 t225 t229 t233 false))))) else (gangplanklaw12_FlowsTell.j1 kj7 l0 true t221 t225 t229 t233 false)) = some r := H
              have A24 := Aside0.mk A240
              clear A240
              by_cases c25 : t235 = true
              · subst c25
                have H1 : ((flows_Tidy.f l0).bind fun t236 => ((gangplankref12_Tidy.f kj7 l0).bind fun t239 => ((gangplankref11_Same.f kj7 t236 t239).bind fun t242 => (if t242 = true then ((flows_New.f a4).bind fun t243 => ((gangplankref12_New.f a4).bind fun t246 => ((gangplankref11_Same.f kj7 t243 t246).bind fun t249 => (gangplanklaw12_FlowsTell.j1 kj7 l0 true t221 t225 t229 t233 t249)))) else (gangplanklaw12_FlowsTell.j1 kj7 l0 true t221 t225 t229 t233 false))))) = some r := by first | (rw [if_pos rfl] at H; exact H) | (rw [if_pos trivial] at H; exact H)
                clear H
                have H := H1
                clear H1
                replace H := Option.bind_eq_some_iff.mp H
                obtain ⟨t236, A260, H⟩ := H
                replace H : ((gangplankref12_Tidy.f kj7 l0).bind fun t239 => ((gangplankref11_Same.f kj7 t236 t239).bind fun t242 => (if t242 = true then ((flows_New.f a4).bind fun t243 => ((gangplankref12_New.f a4).bind fun t246 => ((gangplankref11_Same.f kj7 t243 t246).bind fun t249 => (gangplanklaw12_FlowsTell.j1 kj7 l0 true t221 t225 t229 t233 t249)))) else (gangplanklaw12_FlowsTell.j1 kj7 l0 true t221 t225 t229 t233 false)))) = some r := H
                have A26 := Aside0.mk A260
                clear A260
                replace H := Option.bind_eq_some_iff.mp H
                obtain ⟨t239, A270, H⟩ := H
                replace H : ((gangplankref11_Same.f kj7 t236 t239).bind fun t242 => (if t242 = true then ((flows_New.f a4).bind fun t243 => ((gangplankref12_New.f a4).bind fun t246 => ((gangplankref11_Same.f kj7 t243 t246).bind fun t249 => (gangplanklaw12_FlowsTell.j1 kj7 l0 true t221 t225 t229 t233 t249)))) else (gangplanklaw12_FlowsTell.j1 kj7 l0 true t221 t225 t229 t233 false))) = some r := H
                have A27 := Aside0.mk A270
                clear A270
                replace H := Option.bind_eq_some_iff.mp H
                obtain ⟨t242, A280, H⟩ := H
                replace H : (if t242 = true then ((flows_New.f a4).bind fun t243 => ((gangplankref12_New.f a4).bind fun t246 => ((gangplankref11_Same.f kj7 t243 t246).bind fun t249 => (gangplanklaw12_FlowsTell.j1 kj7 l0 true t221 t225 t229 t233 t249)))) else (gangplanklaw12_FlowsTell.j1 kj7 l0 true t221 t225 t229 t233 false)) = some r := H
                have A28 := Aside0.mk A280
                clear A280
                by_cases c29 : t242 = true
                · subst c29
                  have H1 : ((flows_New.f a4).bind fun t243 => ((gangplankref12_New.f a4).bind fun t246 => ((gangplankref11_Same.f kj7 t243 t246).bind fun t249 => (gangplanklaw12_FlowsTell.j1 kj7 l0 true t221 t225 t229 t233 t249)))) = some r := by first | (rw [if_pos rfl] at H; exact H) | (rw [if_pos trivial] at H; exact H)
                  clear H
                  have H := H1
                  clear H1
                  replace H := Option.bind_eq_some_iff.mp H
                  obtain ⟨t243, A300, H⟩ := H
                  replace H : ((gangplankref12_New.f a4).bind fun t246 => ((gangplankref11_Same.f kj7 t243 t246).bind fun t249 => (gangplanklaw12_FlowsTell.j1 kj7 l0 true t221 t225 t229 t233 t249))) = some r := H
                  have A30 := Aside0.mk A300
                  clear A300
                  replace H := Option.bind_eq_some_iff.mp H
                  obtain ⟨t246, A310, H⟩ := H
                  replace H : ((gangplankref11_Same.f kj7 t243 t246).bind fun t249 => (gangplanklaw12_FlowsTell.j1 kj7 l0 true t221 t225 t229 t233 t249)) = some r := H
                  have A31 := Aside0.mk A310
                  clear A310
                  replace H := Option.bind_eq_some_iff.mp H
                  obtain ⟨t249, A320, H⟩ := H
                  replace H : (gangplanklaw12_FlowsTell.j1 kj7 l0 true t221 t225 t229 t233 t249) = some r := H
                  have A32 := Aside0.mk A320
                  clear A320
                  have H' := Aside0.mk H
                  clear H
                  obtain ⟨Ao33, co33, eo33⟩ := Kd.V_slice HO220.out
                  subst eo33
                  obtain ⟨Ao34, co34, eo34⟩ := Kd.V_slice HO224.out
                  subst eo34
                  go_wp2_with (first | ((with_reducible refine gate_callee (f := 24) rfl ?_); refine goesL_ (some 65) rfl rfl Try.func24 (by kernel_rfl) rfl #[.slice Ao33 t218.length co33, .slice Ao34 t222.length co34] rfl (by (try simp only [List.map_toArray, List.map_cons, List.map_nil]); first | done | rfl | (simp only [List.length_drop, List.length_take]; rfl)) ?_; (with_reducible refine (gangplankref11_Same.calls kj7 _ _ t218 _ _ t222 true _ ?side1 ?side2 ?side3 ?side4 A22.out).mono ?_); (case side1 => repeat (first | exact (Kd.V_reads' HO220.out).2.2 | (with_reducible refine Kd.C_alloc ?_ _) | (with_reducible refine Kd.C_drewN ?_ _) | (with_reducible refine Kd.C_drew ?_))); (case side2 => exact (Kd.V_reads' HO220.out).2.1); (case side3 => repeat (first | exact (Kd.V_reads' HO224.out).2.2 | (with_reducible refine Kd.C_alloc ?_ _) | (with_reducible refine Kd.C_drewN ?_ _) | (with_reducible refine Kd.C_drew ?_))); (case side4 => exact (Kd.V_reads' HO224.out).2.1); (try clear A22); rintro e w' ⟨rfl, ⟨nd, rfl⟩⟩; refine ⟨_, rfl, ?_⟩; obtain ⟨Ao35, co35, eo35⟩ := Kd.V_slice HO228.out; subst eo35; obtain ⟨Ao36, co36, eo36⟩ := Kd.V_slice HO232.out; subst eo36) | (go_at_call 24; (with_reducible refine (gangplankref11_Same.calls kj7 _ _ t226 _ _ t230 true _ ?side1 ?side2 ?side3 ?side4 A24.out).mono ?_); (case side1 => repeat (first | exact (Kd.V_reads' HO228.out).2.2 | (with_reducible refine Kd.C_alloc ?_ _) | (with_reducible refine Kd.C_drewN ?_ _) | (with_reducible refine Kd.C_drew ?_))); (case side2 => exact (Kd.V_reads' HO228.out).2.1); (case side3 => repeat (first | exact (Kd.V_reads' HO232.out).2.2 | (with_reducible refine Kd.C_alloc ?_ _) | (with_reducible refine Kd.C_drewN ?_ _) | (with_reducible refine Kd.C_drew ?_))); (case side4 => exact (Kd.V_reads' HO232.out).2.1); (try clear A24); rintro e w' ⟨rfl, ⟨nd, rfl⟩⟩) | (go_at_call 41; (with_reducible refine (flows_Tidy.calls _ _ l0 t236 _ ?side1 ?side2 A26.out).mono ?_); (case side1 => repeat (first | exact (Kd.C_below HR0.out (by repeat (first | (with_reducible first | exact HB.out | apply below_alloc | apply pw_below_drewN | apply below_drew1) | exact HB.out))) | (with_reducible refine Kd.C_alloc ?_ _) | (with_reducible refine Kd.C_drewN ?_ _) | (with_reducible refine Kd.C_drew ?_))); (case side2 => exact HC0.out); (try clear A26); rintro e w37 ⟨v237, rfl, ho0, hb⟩; have n0_ := Aside0.mk (Kd.V_elder' (by (with_reducible repeat (first | apply Kd.V_alloc | apply Kd.V_drewN | apply Kd.V_drew)); exact HO220.out) (Kd.R_base ho0) hb); have n1_ := Aside0.mk (Kd.V_elder' (by (with_reducible repeat (first | apply Kd.V_alloc | apply Kd.V_drewN | apply Kd.V_drew)); exact HO224.out) (Kd.R_base ho0) hb); have n2_ := Aside0.mk (Kd.V_elder' (by (with_reducible repeat (first | apply Kd.V_alloc | apply Kd.V_drewN | apply Kd.V_drew)); exact HO228.out) (Kd.R_base ho0) hb); have n3_ := Aside0.mk (Kd.V_elder' (by (with_reducible repeat (first | apply Kd.V_alloc | apply Kd.V_drewN | apply Kd.V_drew)); exact HO232.out) (Kd.R_base ho0) hb); have n4_ := Aside0.mk (Kd.R_lower ho0 (below_size (by repeat (first | (with_reducible first | exact HB.out | apply below_alloc | apply pw_below_drewN | apply below_drew1) | exact HB.out)))); have n5_ := Aside0.mk (below_step (by repeat (first | (with_reducible first | exact HB.out | apply below_alloc | apply pw_below_drewN | apply below_drew1) | exact HB.out)) hb); clear HO220; clear HO224; clear HO228; clear HO232; clear HB; have HO220 := n0_; have HO224 := n1_; have HO228 := n2_; have HO232 := n3_; have HO238 := n4_; have HB := n5_; clear n0_ n1_ n2_ n3_ n4_ n5_; (try clear hb); (try clear hb2); (try clear hk); (try clear hi); (try clear ho0)) | (go_at_call 42; (with_reducible refine (gangplankref12_Tidy.calls kj7 _ _ l0 t239 _ ?side1 ?side2 A27.out).mono ?_); (case side1 => repeat (first | exact (Kd.C_below HR0.out HB.out) | (with_reducible refine Kd.C_alloc ?_ _) | (with_reducible refine Kd.C_drewN ?_ _) | (with_reducible refine Kd.C_drew ?_))); (case side2 => exact HC0.out); (try clear A27); rintro e w38 ⟨v240, rfl, ho0, hb⟩; have n0_ := Aside0.mk (Kd.V_below (by (with_reducible repeat (first | apply Kd.V_alloc | apply Kd.V_drewN | apply Kd.V_drew)); exact HO220.out) hb); have n1_ := Aside0.mk (Kd.V_below (by (with_reducible repeat (first | apply Kd.V_alloc | apply Kd.V_drewN | apply Kd.V_drew)); exact HO224.out) hb); have n2_ := Aside0.mk (Kd.V_below (by (with_reducible repeat (first | apply Kd.V_alloc | apply Kd.V_drewN | apply Kd.V_drew)); exact HO228.out) hb); have n3_ := Aside0.mk (Kd.V_below (by (with_reducible repeat (first | apply Kd.V_alloc | apply Kd.V_drewN | apply Kd.V_drew)); exact HO232.out) hb); have n4_ := Aside0.mk (Kd.R_below (by (with_reducible repeat (first | apply Kd.R_alloc | apply Kd.R_drewN | apply Kd.R_drew)); exact HO238.out) hb); have n5_ := Aside0.mk (Kd.V_lower (Kd.V_mono (ok' := fun k_ => some k_ ≠ (v237 : Value).ownBlock) ho0 (fun k_ hk_ => (Kd.fresh' (Kd.R_lt (by (with_reducible repeat (first | apply Kd.R_alloc | apply Kd.R_drewN | apply Kd.R_drew)); exact HO238.out)) k_ hk_))) (below_size (by repeat (first | (with_reducible first | exact HB.out | apply below_alloc | apply pw_below_drewN | apply below_drew1) | exact HB.out)))); have n6_ := Aside0.mk (below_step (by repeat (first | (with_reducible first | exact HB.out | apply below_alloc | apply pw_below_drewN | apply below_drew1) | exact HB.out)) hb); clear HO220; clear HO224; clear HO228; clear HO232; clear HO238; clear HB; have HO220 := n0_; have HO224 := n1_; have HO228 := n2_; have HO232 := n3_; have HO238 := n4_; have HO241 := n5_; have HB := n6_; clear n0_ n1_ n2_ n3_ n4_ n5_ n6_; (try clear hb); (try clear hb2); (try clear hk); (try clear hi); (try clear ho0); obtain ⟨Ao39, co39, eo39⟩ := Kd.R_slice HO238.out; subst eo39; obtain ⟨Ao40, co40, eo40⟩ := Kd.V_slice HO241.out; subst eo40) | (go_at_call 24; (with_reducible refine (gangplankref11_Same.calls kj7 _ _ t236 _ _ t239 true _ ?side1 ?side2 ?side3 ?side4 A28.out).mono ?_); (case side1 => repeat (first | exact (Kd.R_reads' HO238.out).2.2 | (with_reducible refine Kd.C_alloc ?_ _) | (with_reducible refine Kd.C_drewN ?_ _) | (with_reducible refine Kd.C_drew ?_))); (case side2 => exact (Kd.R_reads' HO238.out).2.1); (case side3 => repeat (first | exact (Kd.V_reads' HO241.out).2.2 | (with_reducible refine Kd.C_alloc ?_ _) | (with_reducible refine Kd.C_drewN ?_ _) | (with_reducible refine Kd.C_drew ?_))); (case side4 => exact (Kd.V_reads' HO241.out).2.1); (try clear A28); rintro e w' ⟨rfl, ⟨nd, rfl⟩⟩) | (go_at_call 43; (with_reducible refine (flows_New.calls a4 t243 _ A30.out).mono ?_); (try clear A30); rintro e w41 ⟨v244, rfl, ho0, hb⟩; have n0_ := Aside0.mk (Kd.V_elder' (by (with_reducible repeat (first | apply Kd.V_alloc | apply Kd.V_drewN | apply Kd.V_drew)); exact HO220.out) (Kd.R_base ho0) hb); have n1_ := Aside0.mk (Kd.V_elder' (by (with_reducible repeat (first | apply Kd.V_alloc | apply Kd.V_drewN | apply Kd.V_drew)); exact HO224.out) (Kd.R_base ho0) hb); have n2_ := Aside0.mk (Kd.V_elder' (by (with_reducible repeat (first | apply Kd.V_alloc | apply Kd.V_drewN | apply Kd.V_drew)); exact HO228.out) (Kd.R_base ho0) hb); have n3_ := Aside0.mk (Kd.V_elder' (by (with_reducible repeat (first | apply Kd.V_alloc | apply Kd.V_drewN | apply Kd.V_drew)); exact HO232.out) (Kd.R_base ho0) hb); have n4_ := Aside0.mk (Kd.R_elder' (by (with_reducible repeat (first | apply Kd.R_alloc | apply Kd.R_drewN | apply Kd.R_drew)); exact HO238.out) (Kd.R_base ho0) hb); have n5_ := Aside0.mk (Kd.V_elder' (by (with_reducible repeat (first | apply Kd.V_alloc | apply Kd.V_drewN | apply Kd.V_drew)); exact HO241.out) (Kd.R_base ho0) hb); have n6_ := Aside0.mk (Kd.R_lower (Kd.R_new' ho0 (Kd.R_lt (by (with_reducible repeat (first | apply Kd.R_alloc | apply Kd.R_drewN | apply Kd.R_drew)); exact HO238.out))) (below_size (by repeat (first | (with_reducible first | exact HB.out | apply below_alloc | apply pw_below_drewN | apply below_drew1) | exact HB.out)))); have n7_ := Aside0.mk (below_step (by repeat (first | (with_reducible first | exact HB.out | apply below_alloc | apply pw_below_drewN | apply below_drew1) | exact HB.out)) hb); clear HO220; clear HO224; clear HO228; clear HO232; clear HO238; clear HO241; clear HB; have HO220 := n0_; have HO224 := n1_; have HO228 := n2_; have HO232 := n3_; have HO238 := n4_; have HO241 := n5_; have HO245 := n6_; have HB := n7_; clear n0_ n1_ n2_ n3_ n4_ n5_ n6_ n7_; (try clear hb); (try clear hb2); (try clear hk); (try clear hi); (try clear ho0)) | (go_at_call 44; (with_reducible refine (gangplankref12_New.calls a4 t246 _ A31.out).mono ?_); (try clear A31); rintro e w42 ⟨v247, rfl, ho0, hb⟩; have n0_ := Aside0.mk (Kd.V_elder' (by (with_reducible repeat (first | apply Kd.V_alloc | apply Kd.V_drewN | apply Kd.V_drew)); exact HO220.out) (Kd.R_base ho0) hb); have n1_ := Aside0.mk (Kd.V_elder' (by (with_reducible repeat (first | apply Kd.V_alloc | apply Kd.V_drewN | apply Kd.V_drew)); exact HO224.out) (Kd.R_base ho0) hb); have n2_ := Aside0.mk (Kd.V_elder' (by (with_reducible repeat (first | apply Kd.V_alloc | apply Kd.V_drewN | apply Kd.V_drew)); exact HO228.out) (Kd.R_base ho0) hb); have n3_ := Aside0.mk (Kd.V_elder' (by (with_reducible repeat (first | apply Kd.V_alloc | apply Kd.V_drewN | apply Kd.V_drew)); exact HO232.out) (Kd.R_base ho0) hb); have n4_ := Aside0.mk (Kd.R_elder' (by (with_reducible repeat (first | apply Kd.R_alloc | apply Kd.R_drewN | apply Kd.R_drew)); exact HO238.out) (Kd.R_base ho0) hb); have n5_ := Aside0.mk (Kd.V_elder' (by (with_reducible repeat (first | apply Kd.V_alloc | apply Kd.V_drewN | apply Kd.V_drew)); exact HO241.out) (Kd.R_base ho0) hb); have n6_ := Aside0.mk (Kd.R_elder' (by (with_reducible repeat (first | apply Kd.R_alloc | apply Kd.R_drewN | apply Kd.R_drew)); exact HO245.out) (Kd.R_base ho0) hb); have n7_ := Aside0.mk (Kd.R_lower (Kd.R_new' (Kd.R_new' ho0 (Kd.R_lt (by (with_reducible repeat (first | apply Kd.R_alloc | apply Kd.R_drewN | apply Kd.R_drew)); exact HO238.out))) (Kd.R_lt (by (with_reducible repeat (first | apply Kd.R_alloc | apply Kd.R_drewN | apply Kd.R_drew)); exact HO245.out))) (below_size (by repeat (first | (with_reducible first | exact HB.out | apply below_alloc | apply pw_below_drewN | apply below_drew1) | exact HB.out)))); have n8_ := Aside0.mk (below_step (by repeat (first | (with_reducible first | exact HB.out | apply below_alloc | apply pw_below_drewN | apply below_drew1) | exact HB.out)) hb); clear HO220; clear HO224; clear HO228; clear HO232; clear HO238; clear HO241; clear HO245; clear HB; have HO220 := n0_; have HO224 := n1_; have HO228 := n2_; have HO232 := n3_; have HO238 := n4_; have HO241 := n5_; have HO245 := n6_; have HO248 := n7_; have HB := n8_; clear n0_ n1_ n2_ n3_ n4_ n5_ n6_ n7_ n8_; (try clear hb); (try clear hb2); (try clear hk); (try clear hi); (try clear ho0); obtain ⟨Ao43, co43, eo43⟩ := Kd.R_slice HO245.out; subst eo43; obtain ⟨Ao44, co44, eo44⟩ := Kd.R_slice HO248.out; subst eo44) | (go_at_call 24; (with_reducible refine (gangplankref11_Same.calls kj7 _ _ t243 _ _ t246 t249 _ ?side1 ?side2 ?side3 ?side4 A32.out).mono ?_); (case side1 => repeat (first | exact (Kd.R_reads' HO245.out).2.2 | (with_reducible refine Kd.C_alloc ?_ _) | (with_reducible refine Kd.C_drewN ?_ _) | (with_reducible refine Kd.C_drew ?_))); (case side2 => exact (Kd.R_reads' HO245.out).2.1); (case side3 => repeat (first | exact (Kd.R_reads' HO248.out).2.2 | (with_reducible refine Kd.C_alloc ?_ _) | (with_reducible refine Kd.C_drewN ?_ _) | (with_reducible refine Kd.C_drew ?_))); (case side4 => exact (Kd.R_reads' HO248.out).2.1); (try clear A32); rintro e w' ⟨rfl, ⟨nd, rfl⟩⟩))
                  go_meet
                  case rel => exact ⟨_, (t249), (by first | rfl | (simp; done) | (simp [*]; done)), H', ⟨by have := HJ7.out; first | omega | exact Nat.le_refl _⟩, ⟨by repeat (first | (with_reducible first | exact HB.out | apply below_alloc | apply pw_below_drewN | apply below_drew1) | exact HB.out)⟩⟩
                · replace c29 := Bool.eq_false_iff.mpr c29
                  subst c29
                  have H1 : (gangplanklaw12_FlowsTell.j1 kj7 l0 true t221 t225 t229 t233 false) = some r := by rw [if_neg (show ¬ (false = true) by decide)] at H; exact H
                  clear H
                  have H := H1
                  clear H1
                  have H' := Aside0.mk H
                  clear H
                  obtain ⟨Ao45, co45, eo45⟩ := Kd.V_slice HO220.out
                  subst eo45
                  obtain ⟨Ao46, co46, eo46⟩ := Kd.V_slice HO224.out
                  subst eo46
                  go_wp2_with (first | ((with_reducible refine gate_callee (f := 24) rfl ?_); refine goesL_ (some 65) rfl rfl Try.func24 (by kernel_rfl) rfl #[.slice Ao45 t218.length co45, .slice Ao46 t222.length co46] rfl (by (try simp only [List.map_toArray, List.map_cons, List.map_nil]); first | done | rfl | (simp only [List.length_drop, List.length_take]; rfl)) ?_; (with_reducible refine (gangplankref11_Same.calls kj7 _ _ t218 _ _ t222 true _ ?side1 ?side2 ?side3 ?side4 A22.out).mono ?_); (case side1 => repeat (first | exact (Kd.V_reads' HO220.out).2.2 | (with_reducible refine Kd.C_alloc ?_ _) | (with_reducible refine Kd.C_drewN ?_ _) | (with_reducible refine Kd.C_drew ?_))); (case side2 => exact (Kd.V_reads' HO220.out).2.1); (case side3 => repeat (first | exact (Kd.V_reads' HO224.out).2.2 | (with_reducible refine Kd.C_alloc ?_ _) | (with_reducible refine Kd.C_drewN ?_ _) | (with_reducible refine Kd.C_drew ?_))); (case side4 => exact (Kd.V_reads' HO224.out).2.1); (try clear A22); rintro e w' ⟨rfl, ⟨nd, rfl⟩⟩; refine ⟨_, rfl, ?_⟩; obtain ⟨Ao47, co47, eo47⟩ := Kd.V_slice HO228.out; subst eo47; obtain ⟨Ao48, co48, eo48⟩ := Kd.V_slice HO232.out; subst eo48) | (go_at_call 24; (with_reducible refine (gangplankref11_Same.calls kj7 _ _ t226 _ _ t230 true _ ?side1 ?side2 ?side3 ?side4 A24.out).mono ?_); (case side1 => repeat (first | exact (Kd.V_reads' HO228.out).2.2 | (with_reducible refine Kd.C_alloc ?_ _) | (with_reducible refine Kd.C_drewN ?_ _) | (with_reducible refine Kd.C_drew ?_))); (case side2 => exact (Kd.V_reads' HO228.out).2.1); (case side3 => repeat (first | exact (Kd.V_reads' HO232.out).2.2 | (with_reducible refine Kd.C_alloc ?_ _) | (with_reducible refine Kd.C_drewN ?_ _) | (with_reducible refine Kd.C_drew ?_))); (case side4 => exact (Kd.V_reads' HO232.out).2.1); (try clear A24); rintro e w' ⟨rfl, ⟨nd, rfl⟩⟩) | (go_at_call 41; (with_reducible refine (flows_Tidy.calls _ _ l0 t236 _ ?side1 ?side2 A26.out).mono ?_); (case side1 => repeat (first | exact (Kd.C_below HR0.out (by repeat (first | (with_reducible first | exact HB.out | apply below_alloc | apply pw_below_drewN | apply below_drew1) | exact HB.out))) | (with_reducible refine Kd.C_alloc ?_ _) | (with_reducible refine Kd.C_drewN ?_ _) | (with_reducible refine Kd.C_drew ?_))); (case side2 => exact HC0.out); (try clear A26); rintro e w49 ⟨v237, rfl, ho0, hb⟩; have n0_ := Aside0.mk (Kd.V_elder' (by (with_reducible repeat (first | apply Kd.V_alloc | apply Kd.V_drewN | apply Kd.V_drew)); exact HO220.out) (Kd.R_base ho0) hb); have n1_ := Aside0.mk (Kd.V_elder' (by (with_reducible repeat (first | apply Kd.V_alloc | apply Kd.V_drewN | apply Kd.V_drew)); exact HO224.out) (Kd.R_base ho0) hb); have n2_ := Aside0.mk (Kd.V_elder' (by (with_reducible repeat (first | apply Kd.V_alloc | apply Kd.V_drewN | apply Kd.V_drew)); exact HO228.out) (Kd.R_base ho0) hb); have n3_ := Aside0.mk (Kd.V_elder' (by (with_reducible repeat (first | apply Kd.V_alloc | apply Kd.V_drewN | apply Kd.V_drew)); exact HO232.out) (Kd.R_base ho0) hb); have n4_ := Aside0.mk (Kd.R_lower ho0 (below_size (by repeat (first | (with_reducible first | exact HB.out | apply below_alloc | apply pw_below_drewN | apply below_drew1) | exact HB.out)))); have n5_ := Aside0.mk (below_step (by repeat (first | (with_reducible first | exact HB.out | apply below_alloc | apply pw_below_drewN | apply below_drew1) | exact HB.out)) hb); clear HO220; clear HO224; clear HO228; clear HO232; clear HB; have HO220 := n0_; have HO224 := n1_; have HO228 := n2_; have HO232 := n3_; have HO238 := n4_; have HB := n5_; clear n0_ n1_ n2_ n3_ n4_ n5_; (try clear hb); (try clear hb2); (try clear hk); (try clear hi); (try clear ho0)) | (go_at_call 42; (with_reducible refine (gangplankref12_Tidy.calls kj7 _ _ l0 t239 _ ?side1 ?side2 A27.out).mono ?_); (case side1 => repeat (first | exact (Kd.C_below HR0.out HB.out) | (with_reducible refine Kd.C_alloc ?_ _) | (with_reducible refine Kd.C_drewN ?_ _) | (with_reducible refine Kd.C_drew ?_))); (case side2 => exact HC0.out); (try clear A27); rintro e w50 ⟨v240, rfl, ho0, hb⟩; have n0_ := Aside0.mk (Kd.V_below (by (with_reducible repeat (first | apply Kd.V_alloc | apply Kd.V_drewN | apply Kd.V_drew)); exact HO220.out) hb); have n1_ := Aside0.mk (Kd.V_below (by (with_reducible repeat (first | apply Kd.V_alloc | apply Kd.V_drewN | apply Kd.V_drew)); exact HO224.out) hb); have n2_ := Aside0.mk (Kd.V_below (by (with_reducible repeat (first | apply Kd.V_alloc | apply Kd.V_drewN | apply Kd.V_drew)); exact HO228.out) hb); have n3_ := Aside0.mk (Kd.V_below (by (with_reducible repeat (first | apply Kd.V_alloc | apply Kd.V_drewN | apply Kd.V_drew)); exact HO232.out) hb); have n4_ := Aside0.mk (Kd.R_below (by (with_reducible repeat (first | apply Kd.R_alloc | apply Kd.R_drewN | apply Kd.R_drew)); exact HO238.out) hb); have n5_ := Aside0.mk (Kd.V_lower (Kd.V_mono (ok' := fun k_ => some k_ ≠ (v237 : Value).ownBlock) ho0 (fun k_ hk_ => (Kd.fresh' (Kd.R_lt (by (with_reducible repeat (first | apply Kd.R_alloc | apply Kd.R_drewN | apply Kd.R_drew)); exact HO238.out)) k_ hk_))) (below_size (by repeat (first | (with_reducible first | exact HB.out | apply below_alloc | apply pw_below_drewN | apply below_drew1) | exact HB.out)))); have n6_ := Aside0.mk (below_step (by repeat (first | (with_reducible first | exact HB.out | apply below_alloc | apply pw_below_drewN | apply below_drew1) | exact HB.out)) hb); clear HO220; clear HO224; clear HO228; clear HO232; clear HO238; clear HB; have HO220 := n0_; have HO224 := n1_; have HO228 := n2_; have HO232 := n3_; have HO238 := n4_; have HO241 := n5_; have HB := n6_; clear n0_ n1_ n2_ n3_ n4_ n5_ n6_; (try clear hb); (try clear hb2); (try clear hk); (try clear hi); (try clear ho0); obtain ⟨Ao51, co51, eo51⟩ := Kd.R_slice HO238.out; subst eo51; obtain ⟨Ao52, co52, eo52⟩ := Kd.V_slice HO241.out; subst eo52) | (go_at_call 24; (with_reducible refine (gangplankref11_Same.calls kj7 _ _ t236 _ _ t239 false _ ?side1 ?side2 ?side3 ?side4 A28.out).mono ?_); (case side1 => repeat (first | exact (Kd.R_reads' HO238.out).2.2 | (with_reducible refine Kd.C_alloc ?_ _) | (with_reducible refine Kd.C_drewN ?_ _) | (with_reducible refine Kd.C_drew ?_))); (case side2 => exact (Kd.R_reads' HO238.out).2.1); (case side3 => repeat (first | exact (Kd.V_reads' HO241.out).2.2 | (with_reducible refine Kd.C_alloc ?_ _) | (with_reducible refine Kd.C_drewN ?_ _) | (with_reducible refine Kd.C_drew ?_))); (case side4 => exact (Kd.V_reads' HO241.out).2.1); (try clear A28); rintro e w' ⟨rfl, ⟨nd, rfl⟩⟩))
                  go_meet
                  case rel => exact ⟨_, (false), (by first | rfl | (simp; done) | (simp [*]; done)), H', ⟨by have := HJ7.out; first | omega | exact Nat.le_refl _⟩, ⟨by repeat (first | (with_reducible first | exact HB.out | apply below_alloc | apply pw_below_drewN | apply below_drew1) | exact HB.out)⟩⟩
              · replace c25 := Bool.eq_false_iff.mpr c25
                subst c25
                have H1 : (gangplanklaw12_FlowsTell.j1 kj7 l0 true t221 t225 t229 t233 false) = some r := by rw [if_neg (show ¬ (false = true) by decide)] at H; exact H
                clear H
                have H := H1
                clear H1
                have H' := Aside0.mk H
                clear H
                obtain ⟨Ao53, co53, eo53⟩ := Kd.V_slice HO220.out
                subst eo53
                obtain ⟨Ao54, co54, eo54⟩ := Kd.V_slice HO224.out
                subst eo54
                go_wp2_with (first | ((with_reducible refine gate_callee (f := 24) rfl ?_); refine goesL_ (some 65) rfl rfl Try.func24 (by kernel_rfl) rfl #[.slice Ao53 t218.length co53, .slice Ao54 t222.length co54] rfl (by (try simp only [List.map_toArray, List.map_cons, List.map_nil]); first | done | rfl | (simp only [List.length_drop, List.length_take]; rfl)) ?_; (with_reducible refine (gangplankref11_Same.calls kj7 _ _ t218 _ _ t222 true _ ?side1 ?side2 ?side3 ?side4 A22.out).mono ?_); (case side1 => repeat (first | exact (Kd.V_reads' HO220.out).2.2 | (with_reducible refine Kd.C_alloc ?_ _) | (with_reducible refine Kd.C_drewN ?_ _) | (with_reducible refine Kd.C_drew ?_))); (case side2 => exact (Kd.V_reads' HO220.out).2.1); (case side3 => repeat (first | exact (Kd.V_reads' HO224.out).2.2 | (with_reducible refine Kd.C_alloc ?_ _) | (with_reducible refine Kd.C_drewN ?_ _) | (with_reducible refine Kd.C_drew ?_))); (case side4 => exact (Kd.V_reads' HO224.out).2.1); (try clear A22); rintro e w' ⟨rfl, ⟨nd, rfl⟩⟩; refine ⟨_, rfl, ?_⟩; obtain ⟨Ao55, co55, eo55⟩ := Kd.V_slice HO228.out; subst eo55; obtain ⟨Ao56, co56, eo56⟩ := Kd.V_slice HO232.out; subst eo56) | (go_at_call 24; (with_reducible refine (gangplankref11_Same.calls kj7 _ _ t226 _ _ t230 false _ ?side1 ?side2 ?side3 ?side4 A24.out).mono ?_); (case side1 => repeat (first | exact (Kd.V_reads' HO228.out).2.2 | (with_reducible refine Kd.C_alloc ?_ _) | (with_reducible refine Kd.C_drewN ?_ _) | (with_reducible refine Kd.C_drew ?_))); (case side2 => exact (Kd.V_reads' HO228.out).2.1); (case side3 => repeat (first | exact (Kd.V_reads' HO232.out).2.2 | (with_reducible refine Kd.C_alloc ?_ _) | (with_reducible refine Kd.C_drewN ?_ _) | (with_reducible refine Kd.C_drew ?_))); (case side4 => exact (Kd.V_reads' HO232.out).2.1); (try clear A24); rintro e w' ⟨rfl, ⟨nd, rfl⟩⟩))
                go_meet
                case rel => exact ⟨_, (false), (by first | rfl | (simp; done) | (simp [*]; done)), H', ⟨by have := HJ7.out; first | omega | exact Nat.le_refl _⟩, ⟨by repeat (first | (with_reducible first | exact HB.out | apply below_alloc | apply pw_below_drewN | apply below_drew1) | exact HB.out)⟩⟩
            · replace c23 := Bool.eq_false_iff.mpr c23
              subst c23
              have H1 : (gangplanklaw12_FlowsTell.j1 kj7 l0 true t221 t225 t229 t233 false) = some r := by rw [if_neg (show ¬ (false = true) by decide)] at H; exact H
              clear H
              have H := H1
              clear H1
              have H' := Aside0.mk H
              clear H
              obtain ⟨Ao57, co57, eo57⟩ := Kd.V_slice HO220.out
              subst eo57
              obtain ⟨Ao58, co58, eo58⟩ := Kd.V_slice HO224.out
              subst eo58
              go_wp2_with (first | ((with_reducible refine gate_callee (f := 24) rfl ?_); refine goesL_ (some 65) rfl rfl Try.func24 (by kernel_rfl) rfl #[.slice Ao57 t218.length co57, .slice Ao58 t222.length co58] rfl (by (try simp only [List.map_toArray, List.map_cons, List.map_nil]); first | done | rfl | (simp only [List.length_drop, List.length_take]; rfl)) ?_; (with_reducible refine (gangplankref11_Same.calls kj7 _ _ t218 _ _ t222 false _ ?side1 ?side2 ?side3 ?side4 A22.out).mono ?_); (case side1 => repeat (first | exact (Kd.V_reads' HO220.out).2.2 | (with_reducible refine Kd.C_alloc ?_ _) | (with_reducible refine Kd.C_drewN ?_ _) | (with_reducible refine Kd.C_drew ?_))); (case side2 => exact (Kd.V_reads' HO220.out).2.1); (case side3 => repeat (first | exact (Kd.V_reads' HO224.out).2.2 | (with_reducible refine Kd.C_alloc ?_ _) | (with_reducible refine Kd.C_drewN ?_ _) | (with_reducible refine Kd.C_drew ?_))); (case side4 => exact (Kd.V_reads' HO224.out).2.1); (try clear A22); rintro e w' ⟨rfl, ⟨nd, rfl⟩⟩; refine ⟨_, rfl, ?_⟩))
              go_meet
              case rel => exact ⟨_, (false), (by first | rfl | (simp; done) | (simp [*]; done)), H', ⟨by have := HJ7.out; first | omega | exact Nat.le_refl _⟩, ⟨by repeat (first | (with_reducible first | exact HB.out | apply below_alloc | apply pw_below_drewN | apply below_drew1) | exact HB.out)⟩⟩
          case rest =>
            clear HC17
            try clear c1
            try clear c2
            try clear p2
            try clear c3
            try clear c4
            try clear c7
            try clear c9
            try clear c11
            try clear c12
            try clear c23
            try clear c24
            try clear c25
            try clear c29
            try clear c35
            try clear c36
            try clear c37
            try clear c38
            try clear c39
            try clear c40
            try clear p2
            obtain ⟨kq, x20_16, rfl, HA, HJ16, HB⟩ := hcut
            cases kq with
            | zero => exact absurd HA.out (by simp [gangplanklaw12_FlowsTell.j1])
            | succ kj16 =>
              have H := HA.out
              clear HA
              simp only [gangplanklaw12_FlowsTell.j1] at H
              replace H := Option.bind_eq_some_iff.mp H
              obtain ⟨t250, A590, H⟩ := H
              replace H : ((gangplankref12_Keys.f kj16 l0).bind fun t253 => ((gangplankref12_Texts.f kj16 t250 t253).bind fun t256 => ((gangplankref12_Right.f kj16 l0).bind fun t257 => (if true = true then (if x20_16 = true then (if t256 = true then (if t221 = t225 then (if (t229 == t233) = true then ((flows_Right.f l0).bind fun t258 => (some (t258 == t257))) else (some false)) else (some false)) else (some false)) else (some false)) else (some false))))) = some r := H
              have A59 := Aside0.mk A590
              clear A590
              replace H := Option.bind_eq_some_iff.mp H
              obtain ⟨t253, A600, H⟩ := H
              replace H : ((gangplankref12_Texts.f kj16 t250 t253).bind fun t256 => ((gangplankref12_Right.f kj16 l0).bind fun t257 => (if true = true then (if x20_16 = true then (if t256 = true then (if t221 = t225 then (if (t229 == t233) = true then ((flows_Right.f l0).bind fun t258 => (some (t258 == t257))) else (some false)) else (some false)) else (some false)) else (some false)) else (some false)))) = some r := H
              have A60 := Aside0.mk A600
              clear A600
              replace H := Option.bind_eq_some_iff.mp H
              obtain ⟨t256, A610, H⟩ := H
              replace H : ((gangplankref12_Right.f kj16 l0).bind fun t257 => (if true = true then (if x20_16 = true then (if t256 = true then (if t221 = t225 then (if (t229 == t233) = true then ((flows_Right.f l0).bind fun t258 => (some (t258 == t257))) else (some false)) else (some false)) else (some false)) else (some false)) else (some false))) = some r := H
              have A61 := Aside0.mk A610
              clear A610
              replace H := Option.bind_eq_some_iff.mp H
              obtain ⟨t257, A620, H⟩ := H
              replace H : (if true = true then (if x20_16 = true then (if t256 = true then (if t221 = t225 then (if (t229 == t233) = true then ((flows_Right.f l0).bind fun t258 => (some (t258 == t257))) else (some false)) else (some false)) else (some false)) else (some false)) else (some false)) = some r := H
              have A62 := Aside0.mk A620
              clear A620
              by_cases c63 : true = true
              · skip
                have H1 : (if x20_16 = true then (if t256 = true then (if t221 = t225 then (if (t229 == t233) = true then ((flows_Right.f l0).bind fun t258 => (some (t258 == t257))) else (some false)) else (some false)) else (some false)) else (some false)) = some r := by first | (rw [if_pos rfl] at H; exact H) | (rw [if_pos trivial] at H; exact H)
                clear H
                have H := H1
                clear H1
                by_cases c64 : x20_16 = true
                · subst c64
                  have H1 : (if t256 = true then (if t221 = t225 then (if (t229 == t233) = true then ((flows_Right.f l0).bind fun t258 => (some (t258 == t257))) else (some false)) else (some false)) else (some false)) = some r := by first | (rw [if_pos rfl] at H; exact H) | (rw [if_pos trivial] at H; exact H)
                  clear H
                  have H := H1
                  clear H1
                  by_cases c65 : t256 = true
                  · subst c65
                    have H1 : (if t221 = t225 then (if (t229 == t233) = true then ((flows_Right.f l0).bind fun t258 => (some (t258 == t257))) else (some false)) else (some false)) = some r := by first | (rw [if_pos rfl] at H; exact H) | (rw [if_pos trivial] at H; exact H)
                    clear H
                    have H := H1
                    clear H1
                    by_cases c66 : t221 = t225
                    · rw [if_pos c66] at H
                      have c66b0 : (t221 == t225) = true := beq_iff_eq.mpr c66
                      have c66b1 : (t221 != t225) = false := bne_eq_false_iff_eq.mpr c66
                      clear c66
                      by_cases c67 : (t229 == t233) = true
                      · rw [if_pos c67] at H
                        have c67b0 : (t229 == t233) = true := c67
                        (try (have c67b1 : decide (t229 = t233) = true := by simpa using c67))
                        (try (have c67b2 : (t229 == t233) = true := by simpa using c67))
                        clear c67
                        replace H := Option.bind_eq_some_iff.mp H
                        obtain ⟨t258, A680, H⟩ := H
                        replace H : (some (t258 == t257)) = some r := H
                        have A68 := Aside0.mk A680
                        clear A680
                        obtain rfl := Option.some.inj H
                        go_wp2_with (first | ((with_reducible refine gate_callee (f := 46) rfl ?_); refine goesL_ (some 86) rfl rfl Try.func46 (by kernel_rfl) rfl #[.slice A0 l0.length c0] rfl (by (try simp only [List.map_toArray, List.map_cons, List.map_nil]); first | done | rfl | (simp only [List.length_drop, List.length_take]; rfl)) ?_; (with_reducible refine (flows_Keys.calls _ _ l0 t250 _ ?side1 ?side2 A59.out).mono ?_); (case side1 => repeat (first | exact (Kd.C_below HR0.out HB.out) | (with_reducible refine Kd.C_alloc ?_ _) | (with_reducible refine Kd.C_drewN ?_ _) | (with_reducible refine Kd.C_drew ?_))); (case side2 => exact HC0.out); (try clear A59); rintro e w69 ⟨v251, rfl, ho0, hb⟩; refine ⟨_, rfl, ?_⟩; have n0_ := Aside0.mk (Kd.R_lower ho0 (below_size (by repeat (first | (with_reducible first | exact HB.out | apply below_alloc | apply pw_below_drewN | apply below_drew1) | exact HB.out)))); have n1_ := Aside0.mk (below_step (by repeat (first | (with_reducible first | exact HB.out | apply below_alloc | apply pw_below_drewN | apply below_drew1) | exact HB.out)) hb); clear HB; have HO252 := n0_; have HB := n1_; clear n0_ n1_; (try clear hb); (try clear hb2); (try clear hk); (try clear hi); (try clear ho0)) | ((with_reducible refine gate_callee (f := 47) rfl ?_); refine goesL_ (some 88) rfl rfl Try.func47 (by kernel_rfl) rfl #[.slice A0 l0.length c0] rfl (by (try simp only [List.map_toArray, List.map_cons, List.map_nil]); first | done | rfl | (simp only [List.length_drop, List.length_take]; rfl)) ?_; (with_reducible refine (gangplankref12_Keys.calls kj16 _ _ l0 t253 _ ?side1 ?side2 A60.out).mono ?_); (case side1 => repeat (first | exact (Kd.C_below HR0.out HB.out) | (with_reducible refine Kd.C_alloc ?_ _) | (with_reducible refine Kd.C_drewN ?_ _) | (with_reducible refine Kd.C_drew ?_))); (case side2 => exact HC0.out); (try clear A60); rintro e w70 ⟨v254, rfl, ho0, hb⟩; refine ⟨_, rfl, ?_⟩; have n0_ := Aside0.mk (Kd.R_elder' (by (with_reducible repeat (first | apply Kd.R_alloc | apply Kd.R_drewN | apply Kd.R_drew)); exact HO252.out) (Kd.R_base ho0) hb); have n1_ := Aside0.mk (Kd.R_lower (Kd.R_new' ho0 (Kd.R_lt (by (with_reducible repeat (first | apply Kd.R_alloc | apply Kd.R_drewN | apply Kd.R_drew)); exact HO252.out))) (below_size (by repeat (first | (with_reducible first | exact HB.out | apply below_alloc | apply pw_below_drewN | apply below_drew1) | exact HB.out)))); have n2_ := Aside0.mk (below_step (by repeat (first | (with_reducible first | exact HB.out | apply below_alloc | apply pw_below_drewN | apply below_drew1) | exact HB.out)) hb); clear HO252; clear HB; have HO252 := n0_; have HO255 := n1_; have HB := n2_; clear n0_ n1_ n2_; (try clear hb); (try clear hb2); (try clear hk); (try clear hi); (try clear ho0); obtain ⟨Ao71, co71, eo71⟩ := Kd.R_slice HO252.out; subst eo71; obtain ⟨Ao72, co72, eo72⟩ := Kd.R_slice HO255.out; subst eo72) | ((with_reducible refine gate_callee (f := 45) rfl ?_); refine goesL_ (some 89) rfl rfl Try.func45 (by kernel_rfl) rfl #[.slice Ao71 t250.length co71, .slice Ao72 t253.length co72] rfl (by (try simp only [List.map_toArray, List.map_cons, List.map_nil]); first | done | rfl | (simp only [List.length_drop, List.length_take]; rfl)) ?_; (with_reducible refine (gangplankref12_Texts.calls kj16 _ _ t250 _ _ t253 true _ ?side1 ?side2 ?side3 ?side4 A61.out).mono ?_); (case side1 => repeat (first | exact (Kd.R_reads' HO252.out).2.2 | (with_reducible refine Kd.C_alloc ?_ _) | (with_reducible refine Kd.C_drewN ?_ _) | (with_reducible refine Kd.C_drew ?_))); (case side2 => exact (Kd.R_reads' HO252.out).2.1); (case side3 => repeat (first | exact (Kd.R_reads' HO255.out).2.2 | (with_reducible refine Kd.C_alloc ?_ _) | (with_reducible refine Kd.C_drewN ?_ _) | (with_reducible refine Kd.C_drew ?_))); (case side4 => exact (Kd.R_reads' HO255.out).2.1); (try clear A61); rintro e w' ⟨rfl, ⟨nd, rfl⟩⟩; refine ⟨_, rfl, ?_⟩) | ((with_reducible refine gate_callee (f := 48) rfl ?_); refine goesL_ (some 91) rfl rfl Try.func48 (by kernel_rfl) rfl #[.slice A0 l0.length c0] rfl (by (try simp only [List.map_toArray, List.map_cons, List.map_nil]); first | done | rfl | (simp only [List.length_drop, List.length_take]; rfl)) ?_; (with_reducible refine (gangplankref12_Right.calls kj16 _ _ l0 t257 _ ?side1 ?side2 A62.out).mono ?_); (case side1 => repeat (first | exact (Kd.C_below HR0.out (by repeat (first | (with_reducible first | exact HB.out | apply below_alloc | apply pw_below_drewN | apply below_drew1) | exact HB.out))) | (with_reducible refine Kd.C_alloc ?_ _) | (with_reducible refine Kd.C_drewN ?_ _) | (with_reducible refine Kd.C_drew ?_))); (case side2 => exact HC0.out); (try clear A62); rintro e w' ⟨rfl, ⟨nd, rfl⟩⟩; refine ⟨_, rfl, ?_⟩) | (go_at_call 49; (with_reducible refine (flows_Right.calls _ _ l0 t258 _ ?side1 ?side2 A68.out).mono ?_); (case side1 => repeat (first | exact (Kd.C_below HR0.out (by repeat (first | (with_reducible first | exact HB.out | apply below_alloc | apply pw_below_drewN | apply below_drew1) | exact HB.out))) | (with_reducible refine Kd.C_alloc ?_ _) | (with_reducible refine Kd.C_drewN ?_ _) | (with_reducible refine Kd.C_drew ?_))); (case side2 => exact HC0.out); (try clear A68); rintro e w73 ⟨rfl, hb⟩; have n0_ := Aside0.mk (Kd.R_below (by (with_reducible repeat (first | apply Kd.R_alloc | apply Kd.R_drewN | apply Kd.R_drew)); exact HO252.out) hb); have n1_ := Aside0.mk (Kd.R_below (by (with_reducible repeat (first | apply Kd.R_alloc | apply Kd.R_drewN | apply Kd.R_drew)); exact HO255.out) hb); have n2_ := Aside0.mk (below_step (by repeat (first | (with_reducible first | exact HB.out | apply below_alloc | apply pw_below_drewN | apply below_drew1) | exact HB.out)) hb); clear HO252; clear HO255; clear HB; have HO252 := n0_; have HO255 := n1_; have HB := n2_; clear n0_ n1_ n2_; (try clear hb); (try clear hb2); (try clear hk); (try clear hi)))
                        go_ret
                        exact ⟨by first | rfl | (simp [errW_none, errW_some] <;> rfl) | (simp [*, errW_none, errW_some] <;> rfl), by repeat (first | (with_reducible first | exact HB.out | apply below_alloc | apply pw_below_drewN | apply below_drew1) | exact HB.out)⟩
                      · rw [if_neg c67] at H
                        have c67b0 : (t229 == t233) = false := by simpa using c67
                        (try (have c67b1 : decide (t229 = t233) = false := by simpa using c67))
                        (try (have c67b2 : (t229 == t233) = false := by simpa using c67))
                        (try (have c67b3 : ¬ (t229 = t233) := by simpa using c67))
                        clear c67
                        obtain rfl := Option.some.inj H
                        go_wp2_with (first | ((with_reducible refine gate_callee (f := 46) rfl ?_); refine goesL_ (some 86) rfl rfl Try.func46 (by kernel_rfl) rfl #[.slice A0 l0.length c0] rfl (by (try simp only [List.map_toArray, List.map_cons, List.map_nil]); first | done | rfl | (simp only [List.length_drop, List.length_take]; rfl)) ?_; (with_reducible refine (flows_Keys.calls _ _ l0 t250 _ ?side1 ?side2 A59.out).mono ?_); (case side1 => repeat (first | exact (Kd.C_below HR0.out HB.out) | (with_reducible refine Kd.C_alloc ?_ _) | (with_reducible refine Kd.C_drewN ?_ _) | (with_reducible refine Kd.C_drew ?_))); (case side2 => exact HC0.out); (try clear A59); rintro e w74 ⟨v251, rfl, ho0, hb⟩; refine ⟨_, rfl, ?_⟩; have n0_ := Aside0.mk (Kd.R_lower ho0 (below_size (by repeat (first | (with_reducible first | exact HB.out | apply below_alloc | apply pw_below_drewN | apply below_drew1) | exact HB.out)))); have n1_ := Aside0.mk (below_step (by repeat (first | (with_reducible first | exact HB.out | apply below_alloc | apply pw_below_drewN | apply below_drew1) | exact HB.out)) hb); clear HB; have HO252 := n0_; have HB := n1_; clear n0_ n1_; (try clear hb); (try clear hb2); (try clear hk); (try clear hi); (try clear ho0)) | ((with_reducible refine gate_callee (f := 47) rfl ?_); refine goesL_ (some 88) rfl rfl Try.func47 (by kernel_rfl) rfl #[.slice A0 l0.length c0] rfl (by (try simp only [List.map_toArray, List.map_cons, List.map_nil]); first | done | rfl | (simp only [List.length_drop, List.length_take]; rfl)) ?_; (with_reducible refine (gangplankref12_Keys.calls kj16 _ _ l0 t253 _ ?side1 ?side2 A60.out).mono ?_); (case side1 => repeat (first | exact (Kd.C_below HR0.out HB.out) | (with_reducible refine Kd.C_alloc ?_ _) | (with_reducible refine Kd.C_drewN ?_ _) | (with_reducible refine Kd.C_drew ?_))); (case side2 => exact HC0.out); (try clear A60); rintro e w75 ⟨v254, rfl, ho0, hb⟩; refine ⟨_, rfl, ?_⟩; have n0_ := Aside0.mk (Kd.R_elder' (by (with_reducible repeat (first | apply Kd.R_alloc | apply Kd.R_drewN | apply Kd.R_drew)); exact HO252.out) (Kd.R_base ho0) hb); have n1_ := Aside0.mk (Kd.R_lower (Kd.R_new' ho0 (Kd.R_lt (by (with_reducible repeat (first | apply Kd.R_alloc | apply Kd.R_drewN | apply Kd.R_drew)); exact HO252.out))) (below_size (by repeat (first | (with_reducible first | exact HB.out | apply below_alloc | apply pw_below_drewN | apply below_drew1) | exact HB.out)))); have n2_ := Aside0.mk (below_step (by repeat (first | (with_reducible first | exact HB.out | apply below_alloc | apply pw_below_drewN | apply below_drew1) | exact HB.out)) hb); clear HO252; clear HB; have HO252 := n0_; have HO255 := n1_; have HB := n2_; clear n0_ n1_ n2_; (try clear hb); (try clear hb2); (try clear hk); (try clear hi); (try clear ho0); obtain ⟨Ao76, co76, eo76⟩ := Kd.R_slice HO252.out; subst eo76; obtain ⟨Ao77, co77, eo77⟩ := Kd.R_slice HO255.out; subst eo77) | ((with_reducible refine gate_callee (f := 45) rfl ?_); refine goesL_ (some 89) rfl rfl Try.func45 (by kernel_rfl) rfl #[.slice Ao76 t250.length co76, .slice Ao77 t253.length co77] rfl (by (try simp only [List.map_toArray, List.map_cons, List.map_nil]); first | done | rfl | (simp only [List.length_drop, List.length_take]; rfl)) ?_; (with_reducible refine (gangplankref12_Texts.calls kj16 _ _ t250 _ _ t253 true _ ?side1 ?side2 ?side3 ?side4 A61.out).mono ?_); (case side1 => repeat (first | exact (Kd.R_reads' HO252.out).2.2 | (with_reducible refine Kd.C_alloc ?_ _) | (with_reducible refine Kd.C_drewN ?_ _) | (with_reducible refine Kd.C_drew ?_))); (case side2 => exact (Kd.R_reads' HO252.out).2.1); (case side3 => repeat (first | exact (Kd.R_reads' HO255.out).2.2 | (with_reducible refine Kd.C_alloc ?_ _) | (with_reducible refine Kd.C_drewN ?_ _) | (with_reducible refine Kd.C_drew ?_))); (case side4 => exact (Kd.R_reads' HO255.out).2.1); (try clear A61); rintro e w' ⟨rfl, ⟨nd, rfl⟩⟩; refine ⟨_, rfl, ?_⟩) | ((with_reducible refine gate_callee (f := 48) rfl ?_); refine goesL_ (some 91) rfl rfl Try.func48 (by kernel_rfl) rfl #[.slice A0 l0.length c0] rfl (by (try simp only [List.map_toArray, List.map_cons, List.map_nil]); first | done | rfl | (simp only [List.length_drop, List.length_take]; rfl)) ?_; (with_reducible refine (gangplankref12_Right.calls kj16 _ _ l0 t257 _ ?side1 ?side2 A62.out).mono ?_); (case side1 => repeat (first | exact (Kd.C_below HR0.out (by repeat (first | (with_reducible first | exact HB.out | apply below_alloc | apply pw_below_drewN | apply below_drew1) | exact HB.out))) | (with_reducible refine Kd.C_alloc ?_ _) | (with_reducible refine Kd.C_drewN ?_ _) | (with_reducible refine Kd.C_drew ?_))); (case side2 => exact HC0.out); (try clear A62); rintro e w' ⟨rfl, ⟨nd, rfl⟩⟩; refine ⟨_, rfl, ?_⟩))
                        go_ret
                        exact ⟨by first | rfl | (simp [errW_none, errW_some] <;> rfl) | (simp [*, errW_none, errW_some] <;> rfl), by repeat (first | (with_reducible first | exact HB.out | apply below_alloc | apply pw_below_drewN | apply below_drew1) | exact HB.out)⟩
                    · rw [if_neg c66] at H
                      have c66b0 : (t221 == t225) = false := beq_eq_false_iff_ne.mpr c66
                      have c66b1 : (t221 != t225) = true := bne_iff_ne.mpr c66
                      obtain rfl := Option.some.inj H
                      go_wp2_with (first | ((with_reducible refine gate_callee (f := 46) rfl ?_); refine goesL_ (some 86) rfl rfl Try.func46 (by kernel_rfl) rfl #[.slice A0 l0.length c0] rfl (by (try simp only [List.map_toArray, List.map_cons, List.map_nil]); first | done | rfl | (simp only [List.length_drop, List.length_take]; rfl)) ?_; (with_reducible refine (flows_Keys.calls _ _ l0 t250 _ ?side1 ?side2 A59.out).mono ?_); (case side1 => repeat (first | exact (Kd.C_below HR0.out HB.out) | (with_reducible refine Kd.C_alloc ?_ _) | (with_reducible refine Kd.C_drewN ?_ _) | (with_reducible refine Kd.C_drew ?_))); (case side2 => exact HC0.out); (try clear A59); rintro e w78 ⟨v251, rfl, ho0, hb⟩; refine ⟨_, rfl, ?_⟩; have n0_ := Aside0.mk (Kd.R_lower ho0 (below_size (by repeat (first | (with_reducible first | exact HB.out | apply below_alloc | apply pw_below_drewN | apply below_drew1) | exact HB.out)))); have n1_ := Aside0.mk (below_step (by repeat (first | (with_reducible first | exact HB.out | apply below_alloc | apply pw_below_drewN | apply below_drew1) | exact HB.out)) hb); clear HB; have HO252 := n0_; have HB := n1_; clear n0_ n1_; (try clear hb); (try clear hb2); (try clear hk); (try clear hi); (try clear ho0)) | ((with_reducible refine gate_callee (f := 47) rfl ?_); refine goesL_ (some 88) rfl rfl Try.func47 (by kernel_rfl) rfl #[.slice A0 l0.length c0] rfl (by (try simp only [List.map_toArray, List.map_cons, List.map_nil]); first | done | rfl | (simp only [List.length_drop, List.length_take]; rfl)) ?_; (with_reducible refine (gangplankref12_Keys.calls kj16 _ _ l0 t253 _ ?side1 ?side2 A60.out).mono ?_); (case side1 => repeat (first | exact (Kd.C_below HR0.out HB.out) | (with_reducible refine Kd.C_alloc ?_ _) | (with_reducible refine Kd.C_drewN ?_ _) | (with_reducible refine Kd.C_drew ?_))); (case side2 => exact HC0.out); (try clear A60); rintro e w79 ⟨v254, rfl, ho0, hb⟩; refine ⟨_, rfl, ?_⟩; have n0_ := Aside0.mk (Kd.R_elder' (by (with_reducible repeat (first | apply Kd.R_alloc | apply Kd.R_drewN | apply Kd.R_drew)); exact HO252.out) (Kd.R_base ho0) hb); have n1_ := Aside0.mk (Kd.R_lower (Kd.R_new' ho0 (Kd.R_lt (by (with_reducible repeat (first | apply Kd.R_alloc | apply Kd.R_drewN | apply Kd.R_drew)); exact HO252.out))) (below_size (by repeat (first | (with_reducible first | exact HB.out | apply below_alloc | apply pw_below_drewN | apply below_drew1) | exact HB.out)))); have n2_ := Aside0.mk (below_step (by repeat (first | (with_reducible first | exact HB.out | apply below_alloc | apply pw_below_drewN | apply below_drew1) | exact HB.out)) hb); clear HO252; clear HB; have HO252 := n0_; have HO255 := n1_; have HB := n2_; clear n0_ n1_ n2_; (try clear hb); (try clear hb2); (try clear hk); (try clear hi); (try clear ho0); obtain ⟨Ao80, co80, eo80⟩ := Kd.R_slice HO252.out; subst eo80; obtain ⟨Ao81, co81, eo81⟩ := Kd.R_slice HO255.out; subst eo81) | ((with_reducible refine gate_callee (f := 45) rfl ?_); refine goesL_ (some 89) rfl rfl Try.func45 (by kernel_rfl) rfl #[.slice Ao80 t250.length co80, .slice Ao81 t253.length co81] rfl (by (try simp only [List.map_toArray, List.map_cons, List.map_nil]); first | done | rfl | (simp only [List.length_drop, List.length_take]; rfl)) ?_; (with_reducible refine (gangplankref12_Texts.calls kj16 _ _ t250 _ _ t253 true _ ?side1 ?side2 ?side3 ?side4 A61.out).mono ?_); (case side1 => repeat (first | exact (Kd.R_reads' HO252.out).2.2 | (with_reducible refine Kd.C_alloc ?_ _) | (with_reducible refine Kd.C_drewN ?_ _) | (with_reducible refine Kd.C_drew ?_))); (case side2 => exact (Kd.R_reads' HO252.out).2.1); (case side3 => repeat (first | exact (Kd.R_reads' HO255.out).2.2 | (with_reducible refine Kd.C_alloc ?_ _) | (with_reducible refine Kd.C_drewN ?_ _) | (with_reducible refine Kd.C_drew ?_))); (case side4 => exact (Kd.R_reads' HO255.out).2.1); (try clear A61); rintro e w' ⟨rfl, ⟨nd, rfl⟩⟩; refine ⟨_, rfl, ?_⟩) | ((with_reducible refine gate_callee (f := 48) rfl ?_); refine goesL_ (some 91) rfl rfl Try.func48 (by kernel_rfl) rfl #[.slice A0 l0.length c0] rfl (by (try simp only [List.map_toArray, List.map_cons, List.map_nil]); first | done | rfl | (simp only [List.length_drop, List.length_take]; rfl)) ?_; (with_reducible refine (gangplankref12_Right.calls kj16 _ _ l0 t257 _ ?side1 ?side2 A62.out).mono ?_); (case side1 => repeat (first | exact (Kd.C_below HR0.out (by repeat (first | (with_reducible first | exact HB.out | apply below_alloc | apply pw_below_drewN | apply below_drew1) | exact HB.out))) | (with_reducible refine Kd.C_alloc ?_ _) | (with_reducible refine Kd.C_drewN ?_ _) | (with_reducible refine Kd.C_drew ?_))); (case side2 => exact HC0.out); (try clear A62); rintro e w' ⟨rfl, ⟨nd, rfl⟩⟩; refine ⟨_, rfl, ?_⟩))
                      go_ret
                      exact ⟨by first | rfl | (simp [errW_none, errW_some] <;> rfl) | (simp [*, errW_none, errW_some] <;> rfl), by repeat (first | (with_reducible first | exact HB.out | apply below_alloc | apply pw_below_drewN | apply below_drew1) | exact HB.out)⟩
                  · replace c65 := Bool.eq_false_iff.mpr c65
                    subst c65
                    have H1 : (some false) = some r := by rw [if_neg (show ¬ (false = true) by decide)] at H; exact H
                    clear H
                    have H := H1
                    clear H1
                    obtain rfl := Option.some.inj H
                    go_wp2_with (first | ((with_reducible refine gate_callee (f := 46) rfl ?_); refine goesL_ (some 86) rfl rfl Try.func46 (by kernel_rfl) rfl #[.slice A0 l0.length c0] rfl (by (try simp only [List.map_toArray, List.map_cons, List.map_nil]); first | done | rfl | (simp only [List.length_drop, List.length_take]; rfl)) ?_; (with_reducible refine (flows_Keys.calls _ _ l0 t250 _ ?side1 ?side2 A59.out).mono ?_); (case side1 => repeat (first | exact (Kd.C_below HR0.out HB.out) | (with_reducible refine Kd.C_alloc ?_ _) | (with_reducible refine Kd.C_drewN ?_ _) | (with_reducible refine Kd.C_drew ?_))); (case side2 => exact HC0.out); (try clear A59); rintro e w82 ⟨v251, rfl, ho0, hb⟩; refine ⟨_, rfl, ?_⟩; have n0_ := Aside0.mk (Kd.R_lower ho0 (below_size (by repeat (first | (with_reducible first | exact HB.out | apply below_alloc | apply pw_below_drewN | apply below_drew1) | exact HB.out)))); have n1_ := Aside0.mk (below_step (by repeat (first | (with_reducible first | exact HB.out | apply below_alloc | apply pw_below_drewN | apply below_drew1) | exact HB.out)) hb); clear HB; have HO252 := n0_; have HB := n1_; clear n0_ n1_; (try clear hb); (try clear hb2); (try clear hk); (try clear hi); (try clear ho0)) | ((with_reducible refine gate_callee (f := 47) rfl ?_); refine goesL_ (some 88) rfl rfl Try.func47 (by kernel_rfl) rfl #[.slice A0 l0.length c0] rfl (by (try simp only [List.map_toArray, List.map_cons, List.map_nil]); first | done | rfl | (simp only [List.length_drop, List.length_take]; rfl)) ?_; (with_reducible refine (gangplankref12_Keys.calls kj16 _ _ l0 t253 _ ?side1 ?side2 A60.out).mono ?_); (case side1 => repeat (first | exact (Kd.C_below HR0.out HB.out) | (with_reducible refine Kd.C_alloc ?_ _) | (with_reducible refine Kd.C_drewN ?_ _) | (with_reducible refine Kd.C_drew ?_))); (case side2 => exact HC0.out); (try clear A60); rintro e w83 ⟨v254, rfl, ho0, hb⟩; refine ⟨_, rfl, ?_⟩; have n0_ := Aside0.mk (Kd.R_elder' (by (with_reducible repeat (first | apply Kd.R_alloc | apply Kd.R_drewN | apply Kd.R_drew)); exact HO252.out) (Kd.R_base ho0) hb); have n1_ := Aside0.mk (Kd.R_lower (Kd.R_new' ho0 (Kd.R_lt (by (with_reducible repeat (first | apply Kd.R_alloc | apply Kd.R_drewN | apply Kd.R_drew)); exact HO252.out))) (below_size (by repeat (first | (with_reducible first | exact HB.out | apply below_alloc | apply pw_below_drewN | apply below_drew1) | exact HB.out)))); have n2_ := Aside0.mk (below_step (by repeat (first | (with_reducible first | exact HB.out | apply below_alloc | apply pw_below_drewN | apply below_drew1) | exact HB.out)) hb); clear HO252; clear HB; have HO252 := n0_; have HO255 := n1_; have HB := n2_; clear n0_ n1_ n2_; (try clear hb); (try clear hb2); (try clear hk); (try clear hi); (try clear ho0); obtain ⟨Ao84, co84, eo84⟩ := Kd.R_slice HO252.out; subst eo84; obtain ⟨Ao85, co85, eo85⟩ := Kd.R_slice HO255.out; subst eo85) | ((with_reducible refine gate_callee (f := 45) rfl ?_); refine goesL_ (some 89) rfl rfl Try.func45 (by kernel_rfl) rfl #[.slice Ao84 t250.length co84, .slice Ao85 t253.length co85] rfl (by (try simp only [List.map_toArray, List.map_cons, List.map_nil]); first | done | rfl | (simp only [List.length_drop, List.length_take]; rfl)) ?_; (with_reducible refine (gangplankref12_Texts.calls kj16 _ _ t250 _ _ t253 false _ ?side1 ?side2 ?side3 ?side4 A61.out).mono ?_); (case side1 => repeat (first | exact (Kd.R_reads' HO252.out).2.2 | (with_reducible refine Kd.C_alloc ?_ _) | (with_reducible refine Kd.C_drewN ?_ _) | (with_reducible refine Kd.C_drew ?_))); (case side2 => exact (Kd.R_reads' HO252.out).2.1); (case side3 => repeat (first | exact (Kd.R_reads' HO255.out).2.2 | (with_reducible refine Kd.C_alloc ?_ _) | (with_reducible refine Kd.C_drewN ?_ _) | (with_reducible refine Kd.C_drew ?_))); (case side4 => exact (Kd.R_reads' HO255.out).2.1); (try clear A61); rintro e w' ⟨rfl, ⟨nd, rfl⟩⟩; refine ⟨_, rfl, ?_⟩) | ((with_reducible refine gate_callee (f := 48) rfl ?_); refine goesL_ (some 91) rfl rfl Try.func48 (by kernel_rfl) rfl #[.slice A0 l0.length c0] rfl (by (try simp only [List.map_toArray, List.map_cons, List.map_nil]); first | done | rfl | (simp only [List.length_drop, List.length_take]; rfl)) ?_; (with_reducible refine (gangplankref12_Right.calls kj16 _ _ l0 t257 _ ?side1 ?side2 A62.out).mono ?_); (case side1 => repeat (first | exact (Kd.C_below HR0.out (by repeat (first | (with_reducible first | exact HB.out | apply below_alloc | apply pw_below_drewN | apply below_drew1) | exact HB.out))) | (with_reducible refine Kd.C_alloc ?_ _) | (with_reducible refine Kd.C_drewN ?_ _) | (with_reducible refine Kd.C_drew ?_))); (case side2 => exact HC0.out); (try clear A62); rintro e w' ⟨rfl, ⟨nd, rfl⟩⟩; refine ⟨_, rfl, ?_⟩))
                    go_ret
                    exact ⟨by first | rfl | (simp [errW_none, errW_some] <;> rfl) | (simp [*, errW_none, errW_some] <;> rfl), by repeat (first | (with_reducible first | exact HB.out | apply below_alloc | apply pw_below_drewN | apply below_drew1) | exact HB.out)⟩
                · replace c64 := Bool.eq_false_iff.mpr c64
                  subst c64
                  have H1 : (some false) = some r := by rw [if_neg (show ¬ (false = true) by decide)] at H; exact H
                  clear H
                  have H := H1
                  clear H1
                  obtain rfl := Option.some.inj H
                  go_wp2_with (first | ((with_reducible refine gate_callee (f := 46) rfl ?_); refine goesL_ (some 86) rfl rfl Try.func46 (by kernel_rfl) rfl #[.slice A0 l0.length c0] rfl (by (try simp only [List.map_toArray, List.map_cons, List.map_nil]); first | done | rfl | (simp only [List.length_drop, List.length_take]; rfl)) ?_; (with_reducible refine (flows_Keys.calls _ _ l0 t250 _ ?side1 ?side2 A59.out).mono ?_); (case side1 => repeat (first | exact (Kd.C_below HR0.out HB.out) | (with_reducible refine Kd.C_alloc ?_ _) | (with_reducible refine Kd.C_drewN ?_ _) | (with_reducible refine Kd.C_drew ?_))); (case side2 => exact HC0.out); (try clear A59); rintro e w86 ⟨v251, rfl, ho0, hb⟩; refine ⟨_, rfl, ?_⟩; have n0_ := Aside0.mk (Kd.R_lower ho0 (below_size (by repeat (first | (with_reducible first | exact HB.out | apply below_alloc | apply pw_below_drewN | apply below_drew1) | exact HB.out)))); have n1_ := Aside0.mk (below_step (by repeat (first | (with_reducible first | exact HB.out | apply below_alloc | apply pw_below_drewN | apply below_drew1) | exact HB.out)) hb); clear HB; have HO252 := n0_; have HB := n1_; clear n0_ n1_; (try clear hb); (try clear hb2); (try clear hk); (try clear hi); (try clear ho0)) | ((with_reducible refine gate_callee (f := 47) rfl ?_); refine goesL_ (some 88) rfl rfl Try.func47 (by kernel_rfl) rfl #[.slice A0 l0.length c0] rfl (by (try simp only [List.map_toArray, List.map_cons, List.map_nil]); first | done | rfl | (simp only [List.length_drop, List.length_take]; rfl)) ?_; (with_reducible refine (gangplankref12_Keys.calls kj16 _ _ l0 t253 _ ?side1 ?side2 A60.out).mono ?_); (case side1 => repeat (first | exact (Kd.C_below HR0.out HB.out) | (with_reducible refine Kd.C_alloc ?_ _) | (with_reducible refine Kd.C_drewN ?_ _) | (with_reducible refine Kd.C_drew ?_))); (case side2 => exact HC0.out); (try clear A60); rintro e w87 ⟨v254, rfl, ho0, hb⟩; refine ⟨_, rfl, ?_⟩; have n0_ := Aside0.mk (Kd.R_elder' (by (with_reducible repeat (first | apply Kd.R_alloc | apply Kd.R_drewN | apply Kd.R_drew)); exact HO252.out) (Kd.R_base ho0) hb); have n1_ := Aside0.mk (Kd.R_lower (Kd.R_new' ho0 (Kd.R_lt (by (with_reducible repeat (first | apply Kd.R_alloc | apply Kd.R_drewN | apply Kd.R_drew)); exact HO252.out))) (below_size (by repeat (first | (with_reducible first | exact HB.out | apply below_alloc | apply pw_below_drewN | apply below_drew1) | exact HB.out)))); have n2_ := Aside0.mk (below_step (by repeat (first | (with_reducible first | exact HB.out | apply below_alloc | apply pw_below_drewN | apply below_drew1) | exact HB.out)) hb); clear HO252; clear HB; have HO252 := n0_; have HO255 := n1_; have HB := n2_; clear n0_ n1_ n2_; (try clear hb); (try clear hb2); (try clear hk); (try clear hi); (try clear ho0); obtain ⟨Ao88, co88, eo88⟩ := Kd.R_slice HO252.out; subst eo88; obtain ⟨Ao89, co89, eo89⟩ := Kd.R_slice HO255.out; subst eo89) | ((with_reducible refine gate_callee (f := 45) rfl ?_); refine goesL_ (some 89) rfl rfl Try.func45 (by kernel_rfl) rfl #[.slice Ao88 t250.length co88, .slice Ao89 t253.length co89] rfl (by (try simp only [List.map_toArray, List.map_cons, List.map_nil]); first | done | rfl | (simp only [List.length_drop, List.length_take]; rfl)) ?_; (with_reducible refine (gangplankref12_Texts.calls kj16 _ _ t250 _ _ t253 t256 _ ?side1 ?side2 ?side3 ?side4 A61.out).mono ?_); (case side1 => repeat (first | exact (Kd.R_reads' HO252.out).2.2 | (with_reducible refine Kd.C_alloc ?_ _) | (with_reducible refine Kd.C_drewN ?_ _) | (with_reducible refine Kd.C_drew ?_))); (case side2 => exact (Kd.R_reads' HO252.out).2.1); (case side3 => repeat (first | exact (Kd.R_reads' HO255.out).2.2 | (with_reducible refine Kd.C_alloc ?_ _) | (with_reducible refine Kd.C_drewN ?_ _) | (with_reducible refine Kd.C_drew ?_))); (case side4 => exact (Kd.R_reads' HO255.out).2.1); (try clear A61); rintro e w' ⟨rfl, ⟨nd, rfl⟩⟩; refine ⟨_, rfl, ?_⟩) | ((with_reducible refine gate_callee (f := 48) rfl ?_); refine goesL_ (some 91) rfl rfl Try.func48 (by kernel_rfl) rfl #[.slice A0 l0.length c0] rfl (by (try simp only [List.map_toArray, List.map_cons, List.map_nil]); first | done | rfl | (simp only [List.length_drop, List.length_take]; rfl)) ?_; (with_reducible refine (gangplankref12_Right.calls kj16 _ _ l0 t257 _ ?side1 ?side2 A62.out).mono ?_); (case side1 => repeat (first | exact (Kd.C_below HR0.out (by repeat (first | (with_reducible first | exact HB.out | apply below_alloc | apply pw_below_drewN | apply below_drew1) | exact HB.out))) | (with_reducible refine Kd.C_alloc ?_ _) | (with_reducible refine Kd.C_drewN ?_ _) | (with_reducible refine Kd.C_drew ?_))); (case side2 => exact HC0.out); (try clear A62); rintro e w' ⟨rfl, ⟨nd, rfl⟩⟩; refine ⟨_, rfl, ?_⟩))
                  go_ret
                  exact ⟨by first | rfl | (simp [errW_none, errW_some] <;> rfl) | (simp [*, errW_none, errW_some] <;> rfl), by repeat (first | (with_reducible first | exact HB.out | apply below_alloc | apply pw_below_drewN | apply below_drew1) | exact HB.out)⟩
              · exact absurd rfl c63
  · replace c7 := Bool.eq_false_iff.mpr c7
    subst c7
    have H1 : (some false) = some r := by rw [if_neg (show ¬ (false = true) by decide)] at H; exact H
    clear H
    have H := H1
    clear H1
    obtain rfl := Option.some.inj H
    go_enter Try.func9, Try.ntmps9
    go_wp2_with (first | ((with_reducible refine gate_callee (f := 35) rfl ?_); refine goesL_ (some 23) rfl rfl Try.func35 (by kernel_rfl) rfl #[] rfl (by (try simp only [List.map_toArray, List.map_cons, List.map_nil]); first | done | rfl | (simp only [List.length_drop, List.length_take]; rfl)) ?_; (with_reducible refine (gangplanklaw12_works.calls k  false _ A6.out).mono ?_); (try clear A6); rintro e w94 ⟨rfl, hb⟩; refine ⟨_, rfl, ?_⟩; have n0_ := Aside0.mk (below_step (by repeat (first | (with_reducible first | exact HB.out | apply below_alloc | apply pw_below_drewN | apply below_drew1) | exact HB.out)) hb); clear HB; have HB := n0_; clear n0_; (try clear hb); (try clear hb2); (try clear hk); (try clear hi)))
    go_ret
    exact ⟨by first | rfl | (simp [errW_none, errW_some] <;> rfl) | (simp [*, errW_none, errW_some] <;> rfl), by repeat (first | (with_reducible first | exact HB.out | apply below_alloc | apply pw_below_drewN | apply below_drew1) | exact HB.out)⟩

/-- THE PURE STATEMENT of gangplanklaw12_FlowsTell. -/
def gangplanklaw12_FlowsTell.Pure : Prop := ∀ (l0 : List (S31)) (a1 : ByteArray) (a2 : Int) (a3 : Int) (a4 : Int), (l0.length ≤ maxLen) → ((∀ x ∈ l0, okS31 x)) → (a1.size ≤ 140737488351232) → ((Lit.int .i64 a2).wf = true) → ((Lit.int .i64 a3).wf = true) → ((Lit.int .i64 a4).wf = true) → ∃ k, gangplanklaw12_FlowsTell.f k l0 a1 a2 a3 a4 = some true

end Go.Proofs.Ythdkkmeiihbafaa.P
