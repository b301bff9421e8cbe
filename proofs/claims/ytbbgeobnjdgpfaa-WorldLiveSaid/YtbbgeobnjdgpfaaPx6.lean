/- Each Go function that the laws reach, as a plain function, with the proof that the machine's call comes to what it says; of a law: its row. Made by a program of this seat (wip/hp.py, over the print). -/
import Derived.Test.YtbbgeobnjdgpfaaPx0
import Derived.Test.YtbbgeobnjdgpfaaPx1
import Derived.Test.YtbbgeobnjdgpfaaPx3
namespace Go.Proofs.Ytbbgeobnjdgpfaa.P
open Go.RowKit Go.Proofs.YtbbgeobnjdgpfaaW.PrintWords Go.Proofs.YtbbgeobnjdgpfaaW.PrintLast Go.Proofs.YtbbgeobnjdgpfaaW.PrintMore
attribute [local go_sem] max2_int min2_int max_two min_two max_three min_three max_four min_four   -- for this text's walks alone
set_option linter.unusedVariables false
set_option linter.unusedSimpArgs false

/-! ### gangplankref12_Texts: function 26 -/
def gangplankref12_Texts.l0 : Nat → List ByteArray → List ByteArray → Int → Option (Bool)
  | 0, _, _, _ => none
  | k + 1, x0, x1, x5 => if x5 < (x0.length : Int) then (if 0 ≤ x5 then (if x5 < (x1.length : Int) then (if (rdOf ByteArray.empty x0 x5).toList = (rdOf ByteArray.empty x1 x5).toList then (gangplankref12_Texts.l0 k x0 x1 (wrap64 (x5 + 1))) else (some false)) else (none)) else (none)) else (some true)
def gangplankref12_Texts.f (k : Nat) (l0 : List ByteArray) (l1 : List ByteArray) : Option (Bool) := if (l0.length : Int) = (l1.length : Int) then (gangplankref12_Texts.l0 k l0 l1 0) else (some false)
theorem gangplankref12_Texts.mono_l : ∀ k, (∀ y0 y1 y2, LeO (gangplankref12_Texts.l0 k y0 y1 y2) (gangplankref12_Texts.l0 (k + 1) y0 y1 y2))
  | 0 => fun _ _ _ r h => by simp [gangplankref12_Texts.l0] at h
  | k + 1 => by
    have ih0 := gangplankref12_Texts.mono_l k
    · intro y0 y1 y2
      unfold gangplankref12_Texts.l0
      repeat' first
      | (with_reducible exact ih0 _ _ _)
      | (with_reducible exact LeO.refl _)
      | (with_reducible exact LeO.none _)
      | (with_reducible refine LeO.ite ?_ ?_)
      | (with_reducible refine LeO.bind ?_ (fun _ => ?_))
      | exact ih0 _ _ _
      | exact LeO.none _
      | refine LeO.ite ?_ ?_
      | refine LeO.bind ?_ (fun _ => ?_)
theorem gangplankref12_Texts.mono : ∀ a0 a1 k, LeO (gangplankref12_Texts.f k a0 a1) (gangplankref12_Texts.f (k + 1) a0 a1) := by
  intro a0 a1 k
  have ih0 := gangplankref12_Texts.mono_l k
  unfold gangplankref12_Texts.f
  repeat' first
      | (with_reducible exact ih0 _ _ _)
      | (with_reducible exact LeO.refl _)
      | (with_reducible exact LeO.none _)
      | (with_reducible refine LeO.ite ?_ ?_)
      | (with_reducible refine LeO.bind ?_ (fun _ => ?_))
      | exact ih0 _ _ _
      | exact LeO.none _
      | refine LeO.ite ?_ ?_
      | refine LeO.bind ?_ (fun _ => ?_)
set_option maxHeartbeats 8000000 in
set_option maxRecDepth 100000 in
theorem gangplankref12_Texts.calls (k : Nat) (A0 : Option Addr) (c0 : Nat) (l0 : List ByteArray) (A1 : Option Addr) (c1 : Nat) (l1 : List ByteArray) (r : Bool) (w : World) (hr0 : Kd.C Kd.string w A0 l0.length l0) (hc0 : l0.length ≤ c0) (hr1 : Kd.C Kd.string w A1 l1.length l1) (hc1 : l1.length ≤ c1) (h : gangplankref12_Texts.f k l0 l1 = some r) :
    Calls Try.prog 26 #[.slice A0 l0.length c0, .slice A1 l1.length c1] w fun e w' => e = .returned (.bool r) ∧ Drawn0 w w' := by
  have HR0 := Aside0.mk hr0
  have HC0 := Aside0.mk hc0
  clear hr0 hc0
  have HR1 := Aside0.mk hr1
  have HC1 := Aside0.mk hc1
  clear hr1 hc1
  have H : (if (l0.length : Int) = (l1.length : Int) then (gangplankref12_Texts.l0 k l0 l1 0) else (some false)) = some r := h
  clear h
  by_cases c3 : (l0.length : Int) = (l1.length : Int)
  · rw [if_pos c3] at H
    have c3b0 : ((l0.length : Int) == (l1.length : Int)) = true := beq_iff_eq.mpr c3
    have c3b1 : ((l0.length : Int) != (l1.length : Int)) = false := bne_eq_false_iff_eq.mpr c3
    have c3b2 : (l0.length == l1.length) = true := by first | simpa using c3 | (simp at c3 ⊢; omega)
    clear c3
    have H' := Aside0.mk H
    clear H
    go_enter Try.func26, Try.ntmps26
    go_wp2
    repeat (go_quiet (fail); try go_wp2)
    go_loopg [5] k (fun kq v5 w' => ∃ (x5_1 : Int), v5 = .int .i64 x5_1 ∧ Aside0 (gangplankref12_Texts.l0 kq l0 l1 x5_1 = some r) ∧ Aside0 (kq ≤ k) ∧ Drawn0 w w')
    case atStart => exact ⟨(0), (by first | rfl | (simp; done) | (simp [*]; done)), H', ⟨Nat.le_refl _⟩, by repeat (first | exact Drawn0.refl _ | apply Drawn0.step)⟩
    case round =>
      clear H'
      try clear c1
      try clear c2
      try clear p2
      try clear c3
      try clear c3b0
      try clear c3b1
      try clear c3b2
      obtain ⟨x5_1, rfl, HA, HK1, ⟨m1, rfl⟩⟩ := hrel
      cases gk with
      | zero => exact absurd HA.out (by simp [gangplankref12_Texts.l0])
      | succ k1 =>
        have H := HA.out
        clear HA
        simp only [gangplankref12_Texts.l0] at H
        by_cases c4 : x5_1 < (l0.length : Int)
        · rw [if_pos c4] at H
          have c4b0 : decide (x5_1 < (l0.length : Int)) = true := decide_eq_true c4
          clear c4
          by_cases c5 : 0 ≤ x5_1
          · rw [if_pos c5] at H
            have c5b0 : decide (0 ≤ x5_1) = true := decide_eq_true c5
            clear c5
            by_cases c6 : x5_1 < (l1.length : Int)
            · rw [if_pos c6] at H
              have c6b0 : decide (x5_1 < (l1.length : Int)) = true := decide_eq_true c6
              clear c6
              by_cases c7 : (rdOf ByteArray.empty l0 x5_1).toList = (rdOf ByteArray.empty l1 x5_1).toList
              · rw [if_pos c7] at H
                have c7b0 : ((rdOf ByteArray.empty l0 x5_1).toList == (rdOf ByteArray.empty l1 x5_1).toList) = true := beq_iff_eq.mpr c7
                have c7b1 : ((rdOf ByteArray.empty l0 x5_1).toList != (rdOf ByteArray.empty l1 x5_1).toList) = false := bne_eq_false_iff_eq.mpr c7
                clear c7
                have H' := Aside0.mk H
                clear H
                have p147 : 0 ≤ (x5_1 : Int) := of_decide_eq_true (by first | (with_reducible assumption) | assumption)
                have q147 : x5_1 < (l0.length : Int) := of_decide_eq_true (by first | (with_reducible assumption) | assumption)
                obtain ⟨ad147, e147, hx147_0⟩ := Kd.at_string HR0.out x5_1 p147 q147
                cases e147
                replace p147 := eq_true p147
                replace q147 := eq_true q147
                have p148 : 0 ≤ (x5_1 : Int) := of_decide_eq_true (by first | (with_reducible assumption) | assumption)
                have q148 : x5_1 < (l1.length : Int) := of_decide_eq_true (by first | (with_reducible assumption) | assumption)
                obtain ⟨ad148, e148, hx148_0⟩ := Kd.at_string HR1.out x5_1 p148 q148
                cases e148
                replace p148 := eq_true p148
                replace q148 := eq_true q148
                go_wp2
                repeat (go_quiet (fail); try go_wp2)
                go_roundg k1
                case measure => have := HK1.out; omega
                case rel => exact ⟨(wrap64 (x5_1 + 1)), (by first | rfl | (simp; done) | (simp [*]; done)), H', ⟨by have := HK1.out; omega⟩, by repeat (first | exact Drawn0.refl _ | apply Drawn0.step)⟩
              · rw [if_neg c7] at H
                have c7b0 : ((rdOf ByteArray.empty l0 x5_1).toList == (rdOf ByteArray.empty l1 x5_1).toList) = false := beq_eq_false_iff_ne.mpr c7
                have c7b1 : ((rdOf ByteArray.empty l0 x5_1).toList != (rdOf ByteArray.empty l1 x5_1).toList) = true := bne_iff_ne.mpr c7
                obtain rfl := Option.some.inj H
                have p147 : 0 ≤ (x5_1 : Int) := of_decide_eq_true (by first | (with_reducible assumption) | assumption)
                have q147 : x5_1 < (l0.length : Int) := of_decide_eq_true (by first | (with_reducible assumption) | assumption)
                obtain ⟨ad147, e147, hx147_0⟩ := Kd.at_string HR0.out x5_1 p147 q147
                cases e147
                replace p147 := eq_true p147
                replace q147 := eq_true q147
                have p148 : 0 ≤ (x5_1 : Int) := of_decide_eq_true (by first | (with_reducible assumption) | assumption)
                have q148 : x5_1 < (l1.length : Int) := of_decide_eq_true (by first | (with_reducible assumption) | assumption)
                obtain ⟨ad148, e148, hx148_0⟩ := Kd.at_string HR1.out x5_1 p148 q148
                cases e148
                replace p148 := eq_true p148
                replace q148 := eq_true q148
                go_wp2
                repeat (go_quiet (fail); try go_wp2)
                go_ret
                exact ⟨by first | rfl | (simp; done) | (simp [*]; done), by repeat (first | exact Drawn0.refl _ | apply Drawn0.step)⟩
            · rw [if_neg c6] at H
              exact absurd H (by simp)
          · rw [if_neg c5] at H
            exact absurd H (by simp)
        · rw [if_neg c4] at H
          have c4b0 : decide (x5_1 < (l0.length : Int)) = false := decide_eq_false c4
          clear c4
          obtain rfl := Option.some.inj H
          go_wp2
          repeat (go_quiet (fail); try go_wp2)
          go_ret
          exact ⟨by first | rfl | (simp; done) | (simp [*]; done), by repeat (first | exact Drawn0.refl _ | apply Drawn0.step)⟩
  · rw [if_neg c3] at H
    have c3b0 : ((l0.length : Int) == (l1.length : Int)) = false := beq_eq_false_iff_ne.mpr c3
    have c3b1 : ((l0.length : Int) != (l1.length : Int)) = true := bne_iff_ne.mpr c3
    have c3b2 : (l0.length == l1.length) = false := by first | simpa using c3 | (simp at c3 ⊢; omega)
    obtain rfl := Option.some.inj H
    go_enter Try.func26, Try.ntmps26
    go_wp2
    repeat (go_quiet (fail); try go_wp2)
    go_ret
    exact ⟨by first | rfl | (simp; done) | (simp [*]; done), by repeat (first | exact Drawn0.refl _ | apply Drawn0.step)⟩

/-! ### gangplankref12_Keys: function 51 -/
def gangplankref12_Keys.l0 : Nat → List (S95) → List ByteArray → Int → Option (List ByteArray)
  | 0, _, _, _ => none
  | k + 1, x0, x3, x4 => if x4 < (x0.length : Int) then (if 0 ≤ x4 then (if ((rd_T95 x0 x4).f0) = 1 then (if x3.length < 8796093022208 then (gangplankref12_Keys.l0 k x0 (x3 ++ [(rd_T95 x0 x4).f1]) (wrap64 (x4 + 1))) else (none)) else (gangplankref12_Keys.l0 k x0 x3 (wrap64 (x4 + 1)))) else (none)) else (some x3)
def gangplankref12_Keys.f (k : Nat) (l0 : List (S95)) : Option (List ByteArray) := gangplankref12_Keys.l0 k l0 ([] : List ByteArray) 0
theorem gangplankref12_Keys.mono_l : ∀ k, (∀ y0 y1 y2, LeO (gangplankref12_Keys.l0 k y0 y1 y2) (gangplankref12_Keys.l0 (k + 1) y0 y1 y2))
  | 0 => fun _ _ _ r h => by simp [gangplankref12_Keys.l0] at h
  | k + 1 => by
    have ih0 := gangplankref12_Keys.mono_l k
    · intro y0 y1 y2
      unfold gangplankref12_Keys.l0
      repeat' first
      | (with_reducible exact ih0 _ _ _)
      | (with_reducible exact LeO.refl _)
      | (with_reducible exact LeO.none _)
      | (with_reducible refine LeO.ite ?_ ?_)
      | (with_reducible refine LeO.bind ?_ (fun _ => ?_))
      | exact ih0 _ _ _
      | exact LeO.none _
      | refine LeO.ite ?_ ?_
      | refine LeO.bind ?_ (fun _ => ?_)
theorem gangplankref12_Keys.mono : ∀ a0 k, LeO (gangplankref12_Keys.f k a0) (gangplankref12_Keys.f (k + 1) a0) := by
  intro a0 k
  have ih0 := gangplankref12_Keys.mono_l k
  unfold gangplankref12_Keys.f
  repeat' first
      | (with_reducible exact ih0 _ _ _)
      | (with_reducible exact LeO.refl _)
      | (with_reducible exact LeO.none _)
      | (with_reducible refine LeO.ite ?_ ?_)
      | (with_reducible refine LeO.bind ?_ (fun _ => ?_))
      | exact ih0 _ _ _
      | exact LeO.none _
      | refine LeO.ite ?_ ?_
      | refine LeO.bind ?_ (fun _ => ?_)
set_option maxHeartbeats 8000000 in
set_option maxRecDepth 100000 in
theorem gangplankref12_Keys.calls (k : Nat) (A0 : Option Addr) (c0 : Nat) (l0 : List (S95)) (r : List ByteArray) (w : World) (hr0 : Kd.C k95 w A0 l0.length l0) (hc0 : l0.length ≤ c0) (h : gangplankref12_Keys.f k l0 = some r) :
    Calls Try.prog 51 #[.slice A0 l0.length c0] w fun e w' => ∃ v0_ : Value, e = .returned (v0_) ∧ Kd.R Kd.string 9 w' w.heap.size (fun _ => True) v0_ r ∧ Below w.heap.size w w' := by
  have HR0 := Aside0.mk hr0
  have HC0 := Aside0.mk hc0
  clear hr0 hc0
  have HB := Aside0.mk (Below.refl w.heap.size w)
  have H : (gangplankref12_Keys.l0 k l0 ([] : List ByteArray) 0) = some r := h
  clear h
  have H' := Aside0.mk H
  clear H
  go_enter Try.func51, Try.ntmps51
  go_wp2
  go_loopg [3, 4] k (fun kq v3 v4 w' => ∃ (x3_1 : List ByteArray) (x4_1 : Int), v4 = .int .i64 x4_1 ∧ Aside0 (gangplankref12_Keys.l0 kq l0 x3_1 x4_1 = some r) ∧ Aside0 (kq ≤ k) ∧ Aside0 (Kd.R Kd.string 9 w' w.heap.size (fun _ => True) v3 x3_1) ∧ Aside0 (Below w.heap.size w w'))
  case atStart => exact ⟨(([] : List ByteArray)), (0), (by first | rfl | (simp; done) | (simp [*]; done)), H', ⟨Nat.le_refl _⟩, ⟨by first | exact Kd.R_nil _ _ _ _ _ | exact Kd.N_nil _ _ _ _ _ | exact Kd.V_nil _ _ _ _ _ | exact Kd.Q_nil _ _ _ _ _ | exact Kd.S_nil _ _ _ _ _⟩, ⟨by repeat (first | (with_reducible first | exact HB.out | apply below_alloc | apply pw_below_drewN | apply below_drew1) | exact HB.out)⟩⟩
  case round =>
    clear H'
    obtain ⟨x3_1, x4_1, rfl, HA, HK1, HO_3, HB⟩ := hrel
    cases gk with
    | zero => exact absurd HA.out (by simp [gangplankref12_Keys.l0])
    | succ k1 =>
      have H := HA.out
      clear HA
      simp only [gangplankref12_Keys.l0] at H
      by_cases c2 : x4_1 < (l0.length : Int)
      · rw [if_pos c2] at H
        have c2b0 : decide (x4_1 < (l0.length : Int)) = true := decide_eq_true c2
        clear c2
        by_cases c3 : 0 ≤ x4_1
        · rw [if_pos c3] at H
          have c3b0 : decide (0 ≤ x4_1) = true := decide_eq_true c3
          clear c3
          by_cases c4 : ((rd_T95 l0 x4_1).f0) = 1
          · rw [if_pos c4] at H
            have c4b0 : (((rd_T95 l0 x4_1).f0) == 1) = true := beq_iff_eq.mpr c4
            have c4b1 : (((rd_T95 l0 x4_1).f0) != 1) = false := bne_eq_false_iff_eq.mpr c4
            clear c4
            by_cases c5 : x3_1.length < 8796093022208
            · rw [if_pos c5] at H
              have LMc5 := Aside0.mk c5
              clear c5
              obtain ⟨y151, hy151⟩ : ∃ y_ : List ByteArray, y_ = (x3_1 ++ [(rd_T95 l0 x4_1).f1]) := ⟨_, rfl⟩
              replace H : (gangplankref12_Keys.l0 k1 l0 y151 (wrap64 (x4_1 + 1))) = some r := by first | (rw [hy151]; with_reducible exact H) | (have H2_ := (Option.bind_some _ _).symm.trans H; rw [hy151]; with_reducible exact H2_) | (have H2_ := (Option.bind_some _ _).symm.trans H; with_reducible exact H2_) | with_reducible exact H | (rw [hy151]; exact H) | exact H
              have Ny151 := Aside0.mk hy151
              clear hy151
              have H' := Aside0.mk H
              clear H
              have p149 : 0 ≤ (x4_1 : Int) := of_decide_eq_true (by first | (with_reducible assumption) | assumption)
              have q149 : x4_1 < (l0.length : Int) := of_decide_eq_true (by first | (with_reducible assumption) | assumption)
              obtain ⟨ad149, e149, hx149_0, hx149_1, hx149_2, hx149_3⟩ := at_T95 HR0.out x4_1 p149 q149
              cases e149
              replace hx149_0 := (HB.out.cell (World.block_lt_of_cell? w _ hx149_0)).trans hx149_0
              replace hx149_1 := (HB.out.cell (World.block_lt_of_cell? w _ hx149_1)).trans hx149_1
              replace hx149_2 := (HB.out.cell (World.block_lt_of_cell? w _ hx149_2)).trans hx149_2
              replace hx149_3 := (HB.out.cell (World.block_lt_of_cell? w _ hx149_3)).trans hx149_3
              replace p149 := eq_true p149
              replace q149 := eq_true q149
              have p150 : 0 ≤ (x4_1 : Int) := of_decide_eq_true (by first | (with_reducible assumption) | assumption)
              have q150 : x4_1 < (l0.length : Int) := of_decide_eq_true (by first | (with_reducible assumption) | assumption)
              obtain ⟨ad150, e150, hx150_0, hx150_1, hx150_2, hx150_3⟩ := at_T95 HR0.out x4_1 p150 q150
              obtain rfl : ad149 = ad150 := (by injection e150)
              replace hx150_0 := (HB.out.cell (World.block_lt_of_cell? w _ hx150_0)).trans hx150_0
              replace hx150_1 := (HB.out.cell (World.block_lt_of_cell? w _ hx150_1)).trans hx150_1
              replace hx150_2 := (HB.out.cell (World.block_lt_of_cell? w _ hx150_2)).trans hx150_2
              replace hx150_3 := (HB.out.cell (World.block_lt_of_cell? w _ hx150_3)).trans hx150_3
              replace p150 := eq_true p150
              replace q150 := eq_true q150
              go_wp2_with (first | ((with_reducible refine gate_builtin (b := .append) (xs := #[.tmp 17, .tmp 23]) rfl ?_); at_builtin; refine Kd.R_append Kd.string (w0 := w) w.heap.size rfl (.tmp 17) (.tmp 23) 49 9 (.string ⟨#[]⟩) 16 rfl Try.underlying49 info9 rfl (by decide) (by omega) u3 x3_1 ((rd_T95 l0 x4_1).f1) [.string ((rd_T95 l0 x4_1).f1)] (fun _ => True) (fun _ => False) rfl rfl ?aP (fun _ hk => hk.elim) ?aF ?aO ?aB ?aS ?aL ?_; (case aP => exact rfl); (case aB => exact (by repeat (first | (with_reducible first | exact HB.out | apply below_alloc | apply pw_below_drewN | apply below_drew1) | exact HB.out))); (case aF => exact (fun _ _ => trivial)); (case aO => exact (by (with_reducible repeat (first | apply Kd.R_alloc | apply Kd.R_drewN | apply Kd.R_drew)); exact HO_3.out)); (case aS => exact (below_size (by repeat (first | (with_reducible first | exact HB.out | apply below_alloc | apply pw_below_drewN | apply below_drew1) | exact HB.out)))); (case aL => have := LMc5.out; omega); intro v152 w6 ho hb hg hat; rw [← Ny151.out] at ho; have n0_ := Aside0.mk (hb); have n1_ := Aside0.mk (ho); clear HB; clear HO_3; have HB := n0_; have HO153 := n1_; clear n0_ n1_; clear ho hb hg hat))
              go_roundg k1
              case measure => have := HK1.out; omega
              case rel => exact ⟨(y151), (wrap64 (x4_1 + 1)), (by first | rfl | (simp; done) | (simp [*]; done)), H', ⟨by have := HK1.out; omega⟩, ⟨by (with_reducible repeat (first | apply Kd.R_alloc | apply Kd.R_drewN | apply Kd.R_drew)); exact HO153.out⟩, ⟨by repeat (first | (with_reducible first | exact HB.out | apply below_alloc | apply pw_below_drewN | apply below_drew1) | exact HB.out)⟩⟩
            · rw [if_neg c5] at H
              exact absurd H (by simp)
          · rw [if_neg c4] at H
            have c4b0 : (((rd_T95 l0 x4_1).f0) == 1) = false := beq_eq_false_iff_ne.mpr c4
            have c4b1 : (((rd_T95 l0 x4_1).f0) != 1) = true := bne_iff_ne.mpr c4
            have H' := Aside0.mk H
            clear H
            have p149 : 0 ≤ (x4_1 : Int) := of_decide_eq_true (by first | (with_reducible assumption) | assumption)
            have q149 : x4_1 < (l0.length : Int) := of_decide_eq_true (by first | (with_reducible assumption) | assumption)
            obtain ⟨ad149, e149, hx149_0, hx149_1, hx149_2, hx149_3⟩ := at_T95 HR0.out x4_1 p149 q149
            cases e149
            replace hx149_0 := (HB.out.cell (World.block_lt_of_cell? w _ hx149_0)).trans hx149_0
            replace hx149_1 := (HB.out.cell (World.block_lt_of_cell? w _ hx149_1)).trans hx149_1
            replace hx149_2 := (HB.out.cell (World.block_lt_of_cell? w _ hx149_2)).trans hx149_2
            replace hx149_3 := (HB.out.cell (World.block_lt_of_cell? w _ hx149_3)).trans hx149_3
            replace p149 := eq_true p149
            replace q149 := eq_true q149
            go_wp2
            go_roundg k1
            case measure => have := HK1.out; omega
            case rel => exact ⟨(x3_1), (wrap64 (x4_1 + 1)), (by first | rfl | (simp; done) | (simp [*]; done)), H', ⟨by have := HK1.out; omega⟩, ⟨by (with_reducible repeat (first | apply Kd.R_alloc | apply Kd.R_drewN | apply Kd.R_drew)); exact HO_3.out⟩, ⟨by repeat (first | (with_reducible first | exact HB.out | apply below_alloc | apply pw_below_drewN | apply below_drew1) | exact HB.out)⟩⟩
        · rw [if_neg c3] at H
          exact absurd H (by simp)
      · rw [if_neg c2] at H
        have c2b0 : decide (x4_1 < (l0.length : Int)) = false := decide_eq_false c2
        clear c2
        obtain rfl := Option.some.inj H
        go_wp2
        go_ret
        exact ⟨_, by first | rfl | (simp [errW_none, errW_some] <;> rfl) | (simp [*, errW_none, errW_some] <;> rfl), by (with_reducible repeat (first | apply Kd.R_alloc | apply Kd.R_drewN | apply Kd.R_drew)); exact HO_3.out, by repeat (first | (with_reducible first | exact HB.out | apply below_alloc | apply pw_below_drewN | apply below_drew1) | exact HB.out)⟩

/-! ### gangplankref18_World_Live: function 27 -/
section
open Go.Shelf Go.Proofs.Ytbbgeobnjdgpfaa.Hand
/-- Tables in memory, row after row, behind block g: each lies in blocks that are ok. -/
structure Tab (W : World) (ok : Nat → Prop) (g : Nat) (ts : List (List S95)) : Prop where
  ex : ∃ vals : List Value, Blk W g 56 vals ∧ ts.length ≤ vals.length ∧ ∀ j, j < ts.length → ∃ v, vals[j]? = some v ∧ Kd.V k95 95 W 0 ok v (ts.getD j [])
theorem Tab.below {W W' : World} {ok : Nat → Prop} {g : Nat} {ts : List (List S95)} (h : Tab W ok g ts) (hb : Below W.heap.size W W') : Tab W' ok g ts := by
  obtain ⟨vals, hB, hl, hv⟩ := h.ex
  refine ⟨vals, hB.below hb, hl, fun j hj => ?_⟩
  obtain ⟨v, h1, h2⟩ := hv j hj
  exact ⟨v, h1, Kd.V_below h2 hb⟩
theorem Tab.step {W W' : World} {ok : Nat → Prop} {g : Nat} {ts : List (List S95)} (h : Tab W ok g ts) (hg : W'.heap[g]? = W.heap[g]?) (hk : ∀ k, ok k → k < W.heap.size → W'.heap[k]? = W.heap[k]?) : Tab W' ok g ts := by
  obtain ⟨vals, hB, hl, hv⟩ := h.ex
  refine ⟨vals, hg.trans hB, hl, fun j hj => ?_⟩
  obtain ⟨v, h1, h2⟩ := hv j hj
  exact ⟨v, h1, Kd.V_step h2 hk⟩
theorem Tab.blk {W : World} {ok : Nat → Prop} {g : Nat} {ts : List (List S95)} (h : Tab W ok g ts) : ∃ vals, Blk W g 56 vals := by
  obtain ⟨vals, hB, _⟩ := h.ex
  exact ⟨vals, hB⟩
theorem Tab.at {W : World} {ok : Nat → Prop} {g : Nat} {ts : List (List S95)} (h : Tab W ok g ts) (k : Nat) (hk : k < ts.length) : ∃ A c, W.cell? ⟨g, k, none⟩ = some (.slice A (ts.getD k []).length c) ∧ Kd.V k95 95 W 0 ok (.slice A (ts.getD k []).length c) (ts.getD k []) := by
  obtain ⟨vals, hB, hl, hv⟩ := h.ex
  obtain ⟨v, h1, h2⟩ := hv k hk
  obtain ⟨A, c, rfl⟩ := Kd.V_slice h2
  exact ⟨A, c, (hB.cell k).trans h1, h2⟩
theorem Tab.set {W : World} {ok : Nat → Prop} {g : Nat} {ts : List (List S95)} (h : Tab W ok g ts) (hg : ∀ k, ok k → k ≠ g) (k : Nat) (hk : k < ts.length) (v : Value) (l : List S95) (hv : Kd.V k95 95 W 0 ok v l) : Tab (W.setCell ⟨g, k, none⟩ v) ok g (ts.set k l) := by
  obtain ⟨vals, hB, hl, hs⟩ := h.ex
  refine ⟨vals.set k v, blk_putL hB k v, by simpa using hl, fun j hj => ?_⟩
  rw [List.length_set] at hj
  by_cases hjk : j = k
  · subst hjk
    refine ⟨v, by rw [List.getElem?_set_self (by omega)], ?_⟩
    rw [List.getD_eq_getElem?_getD, List.getElem?_set_self hk]
    exact Kd.V_far hv (fun i hi => hg i hi) _
  · obtain ⟨u, h1, h2⟩ := hs j hj
    refine ⟨u, by rw [List.getElem?_set_ne (fun e => hjk e.symm)]; exact h1, ?_⟩
    rw [List.getD_eq_getElem?_getD, List.getElem?_set_ne (fun e => hjk e.symm), ← List.getD_eq_getElem?_getD]
    exact Kd.V_far h2 (fun i hi => hg i hi) _
theorem Tab.C {W : World} {ok : Nat → Prop} {g : Nat} {ts : List (List S95)} (h : Tab W ok g ts) (hl : ts.length ≤ 9223372036854775807) : Kd.C (Kd.slice 95 k95) W (some ⟨g, 0, none⟩) ts.length ts := by
  refine ⟨rfl, hl, fun _ => ⟨_, rfl, fun j l hj => ?_⟩⟩
  have hjl : j < ts.length := (List.getElem?_eq_some_iff.1 hj).1
  obtain ⟨A, c, h1, h2⟩ := h.at j hjl
  have e : ts.getD j [] = l := by rw [List.getD_eq_getElem?_getD, hj]; rfl
  rw [e] at h1 h2
  obtain ⟨_, h3, h4⟩ := Kd.V_reads' h2
  refine ⟨[.slice A l.length c], rfl, ⟨A, c, rfl, h3, h4⟩, fun i u hi => ?_⟩
  obtain ⟨rfl, rfl⟩ : i = 0 ∧ u = .slice A l.length c := by
    cases i with
    | zero => exact ⟨rfl, (Option.some.inj hi).symm⟩
    | succ i => simp at hi
  rw [show (Kd.slice 95 k95).sz = 1 from rfl, Nat.mul_one, Nat.add_zero]
  show W.cell? (Addr.add ⟨g, 0, none⟩ j) = _
  rw [add_plain]
  exact h1
theorem Tab.of_R {W : World} {N g n c : Nat} {ok : Nat → Prop} {ts : List (List S95)} (h : Kd.R (Kd.slice 95 k95) 56 W N (fun _ => True) (.slice (some ⟨g, 0, none⟩) n c) ts) (hn : 0 < ts.length) (hok : ∀ k cells, W.heap[k]? = some (.cells cells 95 (0, 0)) → ok k) : Tab W ok g ts := by
  obtain ⟨g', cap, he, _, _, cells, hc⟩ := Kd.R_form h hn
  injection he with he _ _
  injection he with he
  injection he with he
  subst he
  have hB : Blk W g 56 cells.toList := by unfold Blk; rw [Array.toArray_toList]; exact hc
  obtain ⟨hnl, _, _⟩ := Kd.R_reads' h
  have hcell : ∀ j, j < ts.length → ∃ v, cells.toList[j]? = some v ∧ Kd.V k95 95 W 0 ok v (ts.getD j []) := by
    intro j hj
    obtain ⟨cs, hcl, hM, hcc, _⟩ := Kd.R_elem h ([] : List S95) (j : Int) (by omega) (by omega)
    obtain ⟨v, rfl, hR⟩ := hM
    have h1 := hcc 0 v rfl
    rw [show (Kd.slice 95 k95).sz = 1 from rfl, Nat.mul_one, Nat.add_zero, Int.toNat_natCast] at h1
    rw [Int.toNat_natCast] at hR
    refine ⟨v, (hB.cell j).symm.trans h1, Kd.V_mono (Kd.R_V (Kd.R_bound hR)) (fun k hk => ?_)⟩
    obtain ⟨_, _, _, q, hq, cl, hcl⟩ := hk
    have : q = 95 := by have h0 : q ∈ [(95 : Nat)] := hq; simpa using h0
    subst this
    exact hok k cl hcl
  refine ⟨cells.toList, hB, ?_, hcell⟩
  by_cases hz : ts.length ≤ cells.toList.length
  · exact hz
  · obtain ⟨v, h1, _⟩ := hcell (ts.length - 1) (by omega)
    have := (List.getElem?_eq_some_iff.1 h1).1
    omega
set_option maxRecDepth 100000 in
set_option maxHeartbeats 8000000 in
theorem refLive_any (g : Nat) (A : Option Addr) (c K : Nat) (ts : List (List S95)) (kl : List S95 → List ByteArray) (hts : ts.length ≤ 1000) (hk : ∀ l ∈ ts, gangplankref12_Keys.f K l = some (kl l)) (hb : (ts.flatMap kl).length ≤ 1000000) (W : World) (h11 : W.cell? ⟨g, 11, none⟩ = some (.slice A ts.length c)) (hC : Kd.C (Kd.slice 95 k95) W A ts.length ts) :
    Calls Try.prog 27 #[.pointer (some ⟨g, 0, none⟩)] W fun r W' => ∃ v, r = .returned v ∧ Kd.R Kd.string 9 W' W.heap.size (fun _ => True) v (ts.flatMap kl) ∧ Below W.heap.size W W' := by
  have HTS := Lib.hid hts
  have HKL := Lib.hid hk
  have HBD := Lib.hid hb
  have HC := Lib.hid hC
  have H11 := Lib.hid h11
  clear hts hk hb hC h11
  go_enter Try.func27, Try.ntmps27
  go_wp2
  go_loopw [3, 4] (fun l i wr => ∃ k : Nat, k ≤ ts.length ∧ i = .int .i64 k ∧ Kd.R Kd.string 9 wr W.heap.size (fun _ => True) l ((ts.take k).flatMap kl) ∧ Below W.heap.size W wr) (fun _ i _ => ts.length - (intOf i).toNat)
  case atStart => exact ⟨0, Nat.zero_le _, rfl, Kd.R_nil _ _ _ _ _, Below.refl _ _⟩
  case round =>
    obtain ⟨k, hk, rfl, hr, hb⟩ := hrel
    obtain ⟨lv, hlv⟩ : ∃ lv, u3 = lv := ⟨_, rfl⟩
    subst hlv
    have z11 := pw_cell_below hb H11.out
    by_cases hlt : k < ts.length
    · obtain ⟨ad, cc, hA, _, hK, hc0⟩ := Kd.C_get (Kd.C_below HC.out hb) ([] : List S95) k (by omega) (by omega)
      subst hA
      obtain ⟨A0, c0, rfl, l0, g0⟩ := hK
      have z0 := hc0 0 _ rfl
      rw [show (Kd.slice 95 k95).sz = 1 from rfl, Nat.mul_one, Nat.add_zero] at z0
      simp only [Int.toNat_natCast] at z0 g0 l0
      have hmem : ts.getD k [] ∈ ts := by rw [List.getD_eq_getElem?_getD, List.getElem?_eq_getElem hlt]; exact List.getElem_mem hlt
      have hkk := HKL.out _ hmem
      have hnext : (ts.take (k + 1)).flatMap kl = (ts.take k).flatMap kl ++ kl (ts.getD k []) := by
        rw [List.take_succ_eq_append_getElem hlt, List.flatMap_append]
        simp [hlt]
      have hle : ((ts.take (k + 1)).flatMap kl).length ≤ 1000000 := by
        refine Nat.le_trans ?_ HBD.out
        conv => rhs; rw [← List.take_append_drop (k + 1) ts, List.flatMap_append, List.length_append]
        omega
      obtain ⟨tk, hTk⟩ : ∃ tk, ts.getD k [] = tk := ⟨_, rfl⟩
      rw [hTk] at z0 g0 l0 hkk hnext
      rw [hnext, List.length_append] at hle
      obtain ⟨kk, hKk⟩ : ∃ kk, kl tk = kk := ⟨_, rfl⟩
      rw [hKk] at hkk hnext hle
      have p1 : decide ((k : Int) < (ts.length : Int)) = true := decide_eq_true (by omega)
      have p2 : (0 : Int) ≤ (k : Int) := by omega
      have p3 : (k : Int) < (ts.length : Int) := by omega
      have hw : wrap64 ((k : Int) + 1) = ((k + 1 : Nat) : Int) := by have := HTS.out; unfold wrap64; omega
      have HR := Lib.hid hr
      have HB := Lib.hid hb
      have HKK := Lib.hid hkk
      have HNX := Lib.hid hnext
      have HLE := Lib.hid hle
      have HL0 := Lib.hid l0
      have HG0 := Lib.hid g0
      clear hr hb hkk hnext hle l0 g0 hmem hTk hKk hc0
      go_wp2_with (first
        | (go_at_call 51; refine (gangplankref12_Keys.calls K A0 c0 tk kk _ HG0.out HL0.out HKK.out).mono ?_; rintro r w1 ⟨v0, rfl, hr2, hb2⟩; obtain ⟨A2, c2, rfl⟩ := Kd.R_slice hr2; have HR1 := Lib.hid (Kd.R_below HR.out hb2); have HV1 := Lib.hid hr2; have HB1 := Lib.hid (HB.out.trans (hb2.mono HB.out.size)); clear hr2 hb2)
        | (at_builtin; refine Kd.R_append_row Value.string (⟨#[]⟩ : ByteArray) (w0 := _) W.heap.size rfl (.tmp 14) (.tmp 22) 49 9 (.string ⟨#[]⟩) 16 rfl Try.underlying49 infoStr rfl (by omega) u3 ((ts.take k).flatMap kl) kk A2 kk.length c2 (fun _ => True) rfl rfl (fun _ _ => trivial) HR1.out (Kd.R_reads' HV1.out).2.2 (Below.refl _ _) HB1.out.size (by have := HLE.out; omega) ?_; intro pv2 w4 hl2 hb2 hg2 _; have HL4 := Lib.hid hl2; have HB4 := Lib.hid (pw_below_grown HB1.out _ HB1.out.size hg2 (Kd.R_base HR1.out)); clear hl2 hb2 hg2))
      go_roundw
      case rel => exact ⟨k + 1, by omega, by rw [hw], by rw [HNX.out]; exact HL4.out, HB4.out⟩
      case measure =>
        rw [hw]
        show ts.length - (((k + 1 : Nat) : Int)).toNat < ts.length - ((k : Int)).toNat
        rw [Int.toNat_natCast, Int.toNat_natCast]
        omega
    · obtain rfl : ts.length = k := by omega
      have p1 : decide ((ts.length : Int) < (ts.length : Int)) = false := decide_eq_false (by omega)
      have HR := Lib.hid hr
      have HB := Lib.hid hb
      clear hr hb
      go_wp2
      go_ret
      exact ⟨_, rfl, by have h := HR.out; rw [List.take_length] at h; exact h, HB.out⟩
end

/-! ### gangplankref08_Ints: function 28 -/
def gangplankref08_Ints.l0 : Nat → List Int → List Int → Int → Option (Bool)
  | 0, _, _, _ => none
  | k + 1, x0, x1, x5 => if x5 < (x0.length : Int) then (if 0 ≤ x5 then (if x5 < (x1.length : Int) then (if (rd x0 x5) = (rd x1 x5) then (gangplankref08_Ints.l0 k x0 x1 (wrap64 (x5 + 1))) else (some false)) else (none)) else (none)) else (some true)
def gangplankref08_Ints.f (k : Nat) (l0 : List Int) (l1 : List Int) : Option (Bool) := if (l0.length : Int) = (l1.length : Int) then (gangplankref08_Ints.l0 k l0 l1 0) else (some false)
theorem gangplankref08_Ints.mono_l : ∀ k, (∀ y0 y1 y2, LeO (gangplankref08_Ints.l0 k y0 y1 y2) (gangplankref08_Ints.l0 (k + 1) y0 y1 y2))
  | 0 => fun _ _ _ r h => by simp [gangplankref08_Ints.l0] at h
  | k + 1 => by
    have ih0 := gangplankref08_Ints.mono_l k
    · intro y0 y1 y2
      unfold gangplankref08_Ints.l0
      repeat' first
      | (with_reducible exact ih0 _ _ _)
      | (with_reducible exact LeO.refl _)
      | (with_reducible exact LeO.none _)
      | (with_reducible refine LeO.ite ?_ ?_)
      | (with_reducible refine LeO.bind ?_ (fun _ => ?_))
      | exact ih0 _ _ _
      | exact LeO.none _
      | refine LeO.ite ?_ ?_
      | refine LeO.bind ?_ (fun _ => ?_)
theorem gangplankref08_Ints.mono : ∀ a0 a1 k, LeO (gangplankref08_Ints.f k a0 a1) (gangplankref08_Ints.f (k + 1) a0 a1) := by
  intro a0 a1 k
  have ih0 := gangplankref08_Ints.mono_l k
  unfold gangplankref08_Ints.f
  repeat' first
      | (with_reducible exact ih0 _ _ _)
      | (with_reducible exact LeO.refl _)
      | (with_reducible exact LeO.none _)
      | (with_reducible refine LeO.ite ?_ ?_)
      | (with_reducible refine LeO.bind ?_ (fun _ => ?_))
      | exact ih0 _ _ _
      | exact LeO.none _
      | refine LeO.ite ?_ ?_
      | refine LeO.bind ?_ (fun _ => ?_)
set_option maxHeartbeats 8000000 in
set_option maxRecDepth 100000 in
theorem gangplankref08_Ints.calls (k : Nat) (A0 : Option Addr) (c0 : Nat) (l0 : List Int) (A1 : Option Addr) (c1 : Nat) (l1 : List Int) (r : Bool) (w : World) (hr0 : Kd.C (Kd.int .i64) w A0 l0.length l0) (hc0 : l0.length ≤ c0) (hr1 : Kd.C (Kd.int .i64) w A1 l1.length l1) (hc1 : l1.length ≤ c1) (h : gangplankref08_Ints.f k l0 l1 = some r) :
    Calls Try.prog 28 #[.slice A0 l0.length c0, .slice A1 l1.length c1] w fun e w' => e = .returned (.bool r) ∧ Drawn0 w w' := by
  have HR0 := Aside0.mk hr0
  have HC0 := Aside0.mk hc0
  clear hr0 hc0
  have HR1 := Aside0.mk hr1
  have HC1 := Aside0.mk hc1
  clear hr1 hc1
  have H : (if (l0.length : Int) = (l1.length : Int) then (gangplankref08_Ints.l0 k l0 l1 0) else (some false)) = some r := h
  clear h
  by_cases c3 : (l0.length : Int) = (l1.length : Int)
  · rw [if_pos c3] at H
    have c3b0 : ((l0.length : Int) == (l1.length : Int)) = true := beq_iff_eq.mpr c3
    have c3b1 : ((l0.length : Int) != (l1.length : Int)) = false := bne_eq_false_iff_eq.mpr c3
    have c3b2 : (l0.length == l1.length) = true := by first | simpa using c3 | (simp at c3 ⊢; omega)
    clear c3
    have H' := Aside0.mk H
    clear H
    go_enter Try.func28, Try.ntmps28
    go_wp2
    repeat (go_quiet (fail); try go_wp2)
    go_loopg [5] k (fun kq v5 w' => ∃ (x5_1 : Int), v5 = .int .i64 x5_1 ∧ Aside0 (gangplankref08_Ints.l0 kq l0 l1 x5_1 = some r) ∧ Aside0 (kq ≤ k) ∧ Drawn0 w w')
    case atStart => exact ⟨(0), (by first | rfl | (simp; done) | (simp [*]; done)), H', ⟨Nat.le_refl _⟩, by repeat (first | exact Drawn0.refl _ | apply Drawn0.step)⟩
    case round =>
      clear H'
      try clear c1
      try clear c2
      try clear p2
      try clear c3
      try clear c3b0
      try clear c3b1
      try clear c3b2
      obtain ⟨x5_1, rfl, HA, HK1, ⟨m1, rfl⟩⟩ := hrel
      cases gk with
      | zero => exact absurd HA.out (by simp [gangplankref08_Ints.l0])
      | succ k1 =>
        have H := HA.out
        clear HA
        simp only [gangplankref08_Ints.l0] at H
        by_cases c4 : x5_1 < (l0.length : Int)
        · rw [if_pos c4] at H
          have c4b0 : decide (x5_1 < (l0.length : Int)) = true := decide_eq_true c4
          clear c4
          by_cases c5 : 0 ≤ x5_1
          · rw [if_pos c5] at H
            have c5b0 : decide (0 ≤ x5_1) = true := decide_eq_true c5
            clear c5
            by_cases c6 : x5_1 < (l1.length : Int)
            · rw [if_pos c6] at H
              have c6b0 : decide (x5_1 < (l1.length : Int)) = true := decide_eq_true c6
              clear c6
              by_cases c7 : (rd l0 x5_1) = (rd l1 x5_1)
              · rw [if_pos c7] at H
                have c7b0 : ((rd l0 x5_1) == (rd l1 x5_1)) = true := beq_iff_eq.mpr c7
                have c7b1 : ((rd l0 x5_1) != (rd l1 x5_1)) = false := bne_eq_false_iff_eq.mpr c7
                clear c7
                have H' := Aside0.mk H
                clear H
                have p154 : 0 ≤ (x5_1 : Int) := of_decide_eq_true (by first | (with_reducible assumption) | assumption)
                have q154 : x5_1 < (l0.length : Int) := of_decide_eq_true (by first | (with_reducible assumption) | assumption)
                obtain ⟨ad154, e154, hx154_0⟩ := Kd.at_int HR0.out x5_1 p154 q154
                cases e154
                replace p154 := eq_true p154
                replace q154 := eq_true q154
                have p155 : 0 ≤ (x5_1 : Int) := of_decide_eq_true (by first | (with_reducible assumption) | assumption)
                have q155 : x5_1 < (l1.length : Int) := of_decide_eq_true (by first | (with_reducible assumption) | assumption)
                obtain ⟨ad155, e155, hx155_0⟩ := Kd.at_int HR1.out x5_1 p155 q155
                cases e155
                replace p155 := eq_true p155
                replace q155 := eq_true q155
                go_wp2
                repeat (go_quiet (fail); try go_wp2)
                go_roundg k1
                case measure => have := HK1.out; omega
                case rel => exact ⟨(wrap64 (x5_1 + 1)), (by first | rfl | (simp; done) | (simp [*]; done)), H', ⟨by have := HK1.out; omega⟩, by repeat (first | exact Drawn0.refl _ | apply Drawn0.step)⟩
              · rw [if_neg c7] at H
                have c7b0 : ((rd l0 x5_1) == (rd l1 x5_1)) = false := beq_eq_false_iff_ne.mpr c7
                have c7b1 : ((rd l0 x5_1) != (rd l1 x5_1)) = true := bne_iff_ne.mpr c7
                obtain rfl := Option.some.inj H
                have p154 : 0 ≤ (x5_1 : Int) := of_decide_eq_true (by first | (with_reducible assumption) | assumption)
                have q154 : x5_1 < (l0.length : Int) := of_decide_eq_true (by first | (with_reducible assumption) | assumption)
                obtain ⟨ad154, e154, hx154_0⟩ := Kd.at_int HR0.out x5_1 p154 q154
                cases e154
                replace p154 := eq_true p154
                replace q154 := eq_true q154
                have p155 : 0 ≤ (x5_1 : Int) := of_decide_eq_true (by first | (with_reducible assumption) | assumption)
                have q155 : x5_1 < (l1.length : Int) := of_decide_eq_true (by first | (with_reducible assumption) | assumption)
                obtain ⟨ad155, e155, hx155_0⟩ := Kd.at_int HR1.out x5_1 p155 q155
                cases e155
                replace p155 := eq_true p155
                replace q155 := eq_true q155
                go_wp2
                repeat (go_quiet (fail); try go_wp2)
                go_ret
                exact ⟨by first | rfl | (simp; done) | (simp [*]; done), by repeat (first | exact Drawn0.refl _ | apply Drawn0.step)⟩
            · rw [if_neg c6] at H
              exact absurd H (by simp)
          · rw [if_neg c5] at H
            exact absurd H (by simp)
        · rw [if_neg c4] at H
          have c4b0 : decide (x5_1 < (l0.length : Int)) = false := decide_eq_false c4
          clear c4
          obtain rfl := Option.some.inj H
          go_wp2
          repeat (go_quiet (fail); try go_wp2)
          go_ret
          exact ⟨by first | rfl | (simp; done) | (simp [*]; done), by repeat (first | exact Drawn0.refl _ | apply Drawn0.step)⟩
  · rw [if_neg c3] at H
    have c3b0 : ((l0.length : Int) == (l1.length : Int)) = false := beq_eq_false_iff_ne.mpr c3
    have c3b1 : ((l0.length : Int) != (l1.length : Int)) = true := bne_iff_ne.mpr c3
    have c3b2 : (l0.length == l1.length) = false := by first | simpa using c3 | (simp at c3 ⊢; omega)
    obtain rfl := Option.some.inj H
    go_enter Try.func28, Try.ntmps28
    go_wp2
    repeat (go_quiet (fail); try go_wp2)
    go_ret
    exact ⟨by first | rfl | (simp; done) | (simp [*]; done), by repeat (first | exact Drawn0.refl _ | apply Drawn0.step)⟩

end Go.Proofs.Ytbbgeobnjdgpfaa.P
