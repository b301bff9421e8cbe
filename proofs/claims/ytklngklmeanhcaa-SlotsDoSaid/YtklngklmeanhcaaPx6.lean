/- Each Go function that the laws reach, as a plain function, with the proof that the machine's call comes to what it says; of a law: its row. Made by a program of this seat (wip/hp.py, over the print). -/
import Derived.Test.YtklngklmeanhcaaPx0
import Derived.Test.YtklngklmeanhcaaPx5
namespace Go.Proofs.Ytklngklmeanhcaa.P
open Go.RowKit Go.Proofs.YtklngklmeanhcaaW.PrintWords Go.Proofs.YtklngklmeanhcaaW.PrintLast Go.Proofs.YtklngklmeanhcaaW.PrintMore
attribute [local go_sem] max2_int min2_int max_two min_two max_three min_three max_four min_four   -- for this text's walks alone
set_option linter.unusedVariables false
set_option linter.unusedSimpArgs false

/-! ### gangplankref02_Join: function 129 -/
def gangplankref02_Join.l0 : Nat → Int → ByteArray → Int → Option (Int)
  | 0, _, _, _ => none
  | k + 1, x0, x1, x5 => if x5 < (x1.size : Int) then (if 0 ≤ x5 then ((gangplankref02_Next.f x0 (bt x1 x5)).bind fun t154 => (gangplankref02_Join.l0 k t154 x1 (wrap64 (x5 + 1)))) else (none)) else (some x0)
def gangplankref02_Join.f (k : Nat) (a0 : Int) (a1 : ByteArray) : Option (Int) := gangplankref02_Join.l0 k a0 a1 0
theorem gangplankref02_Join.mono_l : ∀ k, (∀ y0 y1 y2, LeO (gangplankref02_Join.l0 k y0 y1 y2) (gangplankref02_Join.l0 (k + 1) y0 y1 y2))
  | 0 => fun _ _ _ r h => by simp [gangplankref02_Join.l0] at h
  | k + 1 => by
    have ih0 := gangplankref02_Join.mono_l k
    · intro y0 y1 y2
      unfold gangplankref02_Join.l0
      repeat' first
      | (with_reducible exact ih0 _ _ _)
      | (with_reducible exact LeO.refl _)
      | (with_reducible exact LeO.none _)
      | (with_reducible refine LeO.ite ?_ ?_)
      | (with_reducible refine LeO.bind ?_ (fun _ => ?_))
      | exact ih0 _ _ _
      | exact LeO.none _
      | refine LeO.ite ?_ ?_
      | refine LeO.bind ?_ (fun _ => ?_)
theorem gangplankref02_Join.mono : ∀ a0 a1 k, LeO (gangplankref02_Join.f k a0 a1) (gangplankref02_Join.f (k + 1) a0 a1) := by
  intro a0 a1 k
  have ih0 := gangplankref02_Join.mono_l k
  unfold gangplankref02_Join.f
  repeat' first
      | (with_reducible exact ih0 _ _ _)
      | (with_reducible exact LeO.refl _)
      | (with_reducible exact LeO.none _)
      | (with_reducible refine LeO.ite ?_ ?_)
      | (with_reducible refine LeO.bind ?_ (fun _ => ?_))
      | exact ih0 _ _ _
      | exact LeO.none _
      | refine LeO.ite ?_ ?_
      | refine LeO.bind ?_ (fun _ => ?_)
set_option maxHeartbeats 8000000 in
set_option maxRecDepth 100000 in
theorem gangplankref02_Join.calls (k : Nat) (a0 : Int) (a1 : ByteArray) (r : Int) (w : World) (h : gangplankref02_Join.f k a0 a1 = some r) :
    Calls Try.prog 129 #[.int .u64 a0, .string a1] w fun e w' => e = .returned (.int .u64 r) ∧ Drawn0 w w' := by
  have H : (gangplankref02_Join.l0 k a0 a1 0) = some r := h
  clear h
  have H' := Aside0.mk H
  clear H
  go_enter Try.func129, Try.ntmps129
  go_wp2
  go_loopg [0, 5] k (fun kq v0 v5 w' => ∃ (x0_1 : Int) (x5_1 : Int), v0 = .int .u64 x0_1 ∧ v5 = .int .i64 x5_1 ∧ Aside0 (gangplankref02_Join.l0 kq x0_1 a1 x5_1 = some r) ∧ Aside0 (kq ≤ k) ∧ Drawn0 w w')
  case atStart => exact ⟨(a0), (0), (by first | rfl | (simp; done) | (simp [*]; done)), (by first | rfl | (simp; done) | (simp [*]; done)), H', ⟨Nat.le_refl _⟩, by repeat (first | exact Drawn0.refl _ | apply Drawn0.step)⟩
  case round =>
    clear H'
    try clear c1
    try clear p2
    obtain ⟨x0_1, x5_1, rfl, rfl, HA, HK1, ⟨m1, rfl⟩⟩ := hrel
    cases gk with
    | zero => exact absurd HA.out (by simp [gangplankref02_Join.l0])
    | succ k1 =>
      have H := HA.out
      clear HA
      simp only [gangplankref02_Join.l0] at H
      by_cases c3 : x5_1 < (a1.size : Int)
      · rw [if_pos c3] at H
        have c3b0 : decide (x5_1 < (a1.size : Int)) = true := decide_eq_true c3
        clear c3
        by_cases c4 : 0 ≤ x5_1
        · rw [if_pos c4] at H
          have c4b0 : decide (0 ≤ x5_1) = true := decide_eq_true c4
          clear c4
          replace H := Option.bind_eq_some_iff.mp H
          obtain ⟨t154, A60, H⟩ := H
          replace H : (gangplankref02_Join.l0 k1 t154 a1 (wrap64 (x5_1 + 1))) = some r := H
          have A6 := Aside0.mk A60
          clear A60
          have H' := Aside0.mk H
          clear H
          have p5 : 0 ≤ (x5_1 : Int) := of_decide_eq_true (by first | (with_reducible assumption) | assumption)
          have q5 : x5_1 < (a1.size : Int) := of_decide_eq_true (by first | (with_reducible assumption) | assumption)
          have hx5 := bt_at a1 x5_1
          replace p5 := eq_true p5
          replace q5 := eq_true q5
          go_wp2_with (first | ((with_reducible refine gate_callee (f := 144) rfl ?_); refine goesL_ (some 16) rfl rfl Try.func144 (by kernel_rfl) rfl #[.int .u64 x0_1, .int .u8 (bt a1 x5_1)] rfl (by (try simp only [List.map_toArray, List.map_cons, List.map_nil]); first | done | rfl | (simp only [List.length_drop, List.length_take]; rfl)) ?_; (with_reducible refine (gangplankref02_Next.calls x0_1 (bt a1 x5_1) t154 _ A6.out).mono ?_); (try clear A6); rintro e w' ⟨rfl, ⟨nd, rfl⟩⟩; refine ⟨_, rfl, ?_⟩))
          go_roundg k1
          case measure => have := HK1.out; omega
          case rel => exact ⟨(t154), (wrap64 (x5_1 + 1)), (by first | rfl | (simp; done) | (simp [*]; done)), (by first | rfl | (simp; done) | (simp [*]; done)), H', ⟨by have := HK1.out; omega⟩, by repeat (first | exact Drawn0.refl _ | apply Drawn0.step)⟩
        · rw [if_neg c4] at H
          exact absurd H (by simp)
      · rw [if_neg c3] at H
        have c3b0 : decide (x5_1 < (a1.size : Int)) = false := decide_eq_false c3
        clear c3
        obtain rfl := Option.some.inj H
        go_wp2
        go_ret
        exact ⟨by first | rfl | (simp; done) | (simp [*]; done), by repeat (first | exact Drawn0.refl _ | apply Drawn0.step)⟩

/-! ### gangplankref02_Sum: function 113 -/
def gangplankref02_Sum.f (k : Nat) (a0 : ByteArray) : Option (Int) := (gangplankref02_Join.f k 14695981039346656037 a0).bind fun t155 => (some t155)
theorem gangplankref02_Sum.mono : ∀ a0 k, LeO (gangplankref02_Sum.f k a0) (gangplankref02_Sum.f (k + 1) a0) := by
  intro a0 k
  unfold gangplankref02_Sum.f
  repeat' first
      | (with_reducible exact gangplankref02_Join.mono _ _ _)
      | (with_reducible exact LeO.refl _)
      | (with_reducible exact LeO.none _)
      | (with_reducible refine LeO.ite ?_ ?_)
      | (with_reducible refine LeO.bind ?_ (fun _ => ?_))
      | exact gangplankref02_Join.mono _ _ _
      | exact LeO.none _
      | refine LeO.ite ?_ ?_
      | refine LeO.bind ?_ (fun _ => ?_)
set_option maxHeartbeats 8000000 in
set_option maxRecDepth 100000 in
theorem gangplankref02_Sum.calls (k : Nat) (a0 : ByteArray) (r : Int) (w : World) (h : gangplankref02_Sum.f k a0 = some r) :
    Calls Try.prog 113 #[.string a0] w fun e w' => e = .returned (.int .u64 r) ∧ Drawn0 w w' := by
  have H : ((gangplankref02_Join.f k 14695981039346656037 a0).bind fun t155 => (some t155)) = some r := h
  clear h
  replace H := Option.bind_eq_some_iff.mp H
  obtain ⟨t155, A20, H⟩ := H
  replace H : (some t155) = some r := H
  have A2 := Aside0.mk A20
  clear A20
  obtain rfl := Option.some.inj H
  go_enter Try.func113, Try.ntmps113
  go_wp2_with (first | ((with_reducible refine gate_callee (f := 129) rfl ?_); refine goesL_ (some 4) rfl rfl Try.func129 (by kernel_rfl) rfl #[.int .u64 14695981039346656037, .string a0] rfl (by (try simp only [List.map_toArray, List.map_cons, List.map_nil]); first | done | rfl | (simp only [List.length_drop, List.length_take]; rfl)) ?_; (with_reducible refine (gangplankref02_Join.calls k 14695981039346656037 a0 t155 _ A2.out).mono ?_); (try clear A2); rintro e w' ⟨rfl, ⟨nd, rfl⟩⟩; refine ⟨_, rfl, ?_⟩))
  go_ret
  exact ⟨by first | rfl | (simp; done) | (simp [*]; done), by repeat (first | exact Drawn0.refl _ | apply Drawn0.step)⟩

/-! ### gangplankref01_Put: function 114 -/
mutual
def gangplankref01_Put.j0 : Nat → Int → Int → Bool → Option (ByteArray)
  | 0, _, _, _ => none
  | k + 1, x0, x1, x12 => if x12 = true then (some (⟨#[]⟩ : ByteArray)) else (gangplankref01_Put.l0 k x0 x1 (⟨#[]⟩ : ByteArray) 0)
def gangplankref01_Put.l0 : Nat → Int → Int → ByteArray → Int → Option (ByteArray)
  | 0, _, _, _, _ => none
  | k + 1, x0, x1, x5, x6 => if x6 < x1 then ((some (([(Int.tmod x0 256) % 256] : List Int) : List Int)).bind fun y156 => (if (strOfNums y156).size + x5.size ≤ 9223372036854775807 then (gangplankref01_Put.l0 k (IntKind.u64.wrap (Int.tdiv x0 256)) x1 ((strOfNums y156) ++ x5) (wrap64 (x6 + 1))) else (none))) else (some x5)
end
def gangplankref01_Put.f (k : Nat) (a0 : Int) (a1 : Int) : Option (ByteArray) := if a1 < 1 then (gangplankref01_Put.j0 k a0 a1 true) else (gangplankref01_Put.j0 k a0 a1 (decide (a1 > 8)))
theorem gangplankref01_Put.mono_l : ∀ k, (∀ y0 y1 y2, LeO (gangplankref01_Put.j0 k y0 y1 y2) (gangplankref01_Put.j0 (k + 1) y0 y1 y2)) ∧ (∀ y0 y1 y2 y3, LeO (gangplankref01_Put.l0 k y0 y1 y2 y3) (gangplankref01_Put.l0 (k + 1) y0 y1 y2 y3))
  | 0 => ⟨fun _ _ _ r h => by simp [gangplankref01_Put.j0] at h, fun _ _ _ _ r h => by simp [gangplankref01_Put.l0] at h⟩
  | k + 1 => by
    obtain ⟨ih0, ih1⟩ := gangplankref01_Put.mono_l k
    refine ⟨?_, ?_⟩
    · intro y0 y1 y2
      unfold gangplankref01_Put.j0
      repeat' first
      | (with_reducible exact ih0 _ _ _)
      | (with_reducible exact ih1 _ _ _ _)
      | (with_reducible exact LeO.refl _)
      | (with_reducible exact LeO.none _)
      | (with_reducible refine LeO.ite ?_ ?_)
      | (with_reducible refine LeO.bind ?_ (fun _ => ?_))
      | exact ih0 _ _ _
      | exact ih1 _ _ _ _
      | exact LeO.none _
      | refine LeO.ite ?_ ?_
      | refine LeO.bind ?_ (fun _ => ?_)
    · intro y0 y1 y2 y3
      unfold gangplankref01_Put.l0
      repeat' first
      | (with_reducible exact ih0 _ _ _)
      | (with_reducible exact ih1 _ _ _ _)
      | (with_reducible exact LeO.refl _)
      | (with_reducible exact LeO.none _)
      | (with_reducible refine LeO.ite ?_ ?_)
      | (with_reducible refine LeO.bind ?_ (fun _ => ?_))
      | exact ih0 _ _ _
      | exact ih1 _ _ _ _
      | exact LeO.none _
      | refine LeO.ite ?_ ?_
      | refine LeO.bind ?_ (fun _ => ?_)
theorem gangplankref01_Put.mono : ∀ a0 a1 k, LeO (gangplankref01_Put.f k a0 a1) (gangplankref01_Put.f (k + 1) a0 a1) := by
  intro a0 a1 k
  obtain ⟨ih0, ih1⟩ := gangplankref01_Put.mono_l k
  unfold gangplankref01_Put.f
  repeat' first
      | (with_reducible exact ih0 _ _ _)
      | (with_reducible exact ih1 _ _ _ _)
      | (with_reducible exact LeO.refl _)
      | (with_reducible exact LeO.none _)
      | (with_reducible refine LeO.ite ?_ ?_)
      | (with_reducible refine LeO.bind ?_ (fun _ => ?_))
      | exact ih0 _ _ _
      | exact ih1 _ _ _ _
      | exact LeO.none _
      | refine LeO.ite ?_ ?_
      | refine LeO.bind ?_ (fun _ => ?_)
set_option maxHeartbeats 8000000 in
set_option maxRecDepth 100000 in
theorem gangplankref01_Put.calls (k : Nat) (a0 : Int) (a1 : Int) (r : ByteArray) (w : World) (h : gangplankref01_Put.f k a0 a1 = some r) :
    Calls Try.prog 114 #[.int .u64 a0, .int .i64 a1] w fun e w' => e = .returned (.string r) ∧ Below w.heap.size w w' := by
  have HB := Aside0.mk (Below.refl w.heap.size w)
  have H : (if a1 < 1 then (gangplankref01_Put.j0 k a0 a1 true) else (gangplankref01_Put.j0 k a0 a1 (decide (a1 > 8)))) = some r := h
  clear h
  have HC3 := Aside0.mk H
  clear H
  go_enter Try.func114, Try.ntmps114
  go_upto_region 1 with (fail)
  go_cut [12] (fun v12 wc => ∃ (kq : Nat) (x12_2 : Bool), v12 = .bool x12_2 ∧ Aside0 (gangplankref01_Put.j0 kq a0 a1 x12_2 = some r) ∧ Aside0 (kq ≤ k) ∧ Aside0 (Below w.heap.size w wc))
  case first =>
    have H := HC3.out
    clear HC3
    by_cases c4 : a1 < 1
    · rw [if_pos c4] at H
      have c4b0 : decide (a1 < 1) = true := decide_eq_true c4
      clear c4
      (first | rw [c4b0] | (simp only [i64_w, i32_w]; rw [c4b0]) | skip)
      have H' := Aside0.mk H
      clear H
      go_wp2
      go_meet
      case rel => exact ⟨_, (true), (by first | rfl | (simp; done) | (simp [*]; done)), H', ⟨by first | omega | exact Nat.le_refl _⟩, ⟨by repeat (first | (with_reducible first | exact HB.out | apply below_alloc | apply pw_below_drewN | apply below_drew1) | exact HB.out)⟩⟩
    · rw [if_neg c4] at H
      have c4b0 : decide (a1 < 1) = false := decide_eq_false c4
      clear c4
      (first | rw [c4b0] | (simp only [i64_w, i32_w]; rw [c4b0]) | skip)
      have H' := Aside0.mk H
      clear H
      go_wp2
      go_meet
      case rel => exact ⟨_, (decide (a1 > 8)), (by first | rfl | (simp; done) | (simp [*]; done)), H', ⟨by first | omega | exact Nat.le_refl _⟩, ⟨by repeat (first | (with_reducible first | exact HB.out | apply below_alloc | apply pw_below_drewN | apply below_drew1) | exact HB.out)⟩⟩
  case rest =>
    clear HC3
    try clear c1
    try clear p2
    try clear c4
    try clear c4b0
    obtain ⟨kq, x12_2, rfl, HA, HJ2, HB⟩ := hcut
    cases kq with
    | zero => exact absurd HA.out (by simp [gangplankref01_Put.j0])
    | succ kj2 =>
      have H := HA.out
      clear HA
      simp only [gangplankref01_Put.j0] at H
      by_cases c5 : x12_2 = true
      · subst c5
        have H1 : (some (⟨#[]⟩ : ByteArray)) = some r := by first | (rw [if_pos rfl] at H; exact H) | (rw [if_pos trivial] at H; exact H)
        clear H
        have H := H1
        clear H1
        obtain rfl := Option.some.inj H
        go_wp2
        go_ret
        exact ⟨by first | rfl | (simp [errW_none, errW_some] <;> rfl) | (simp [*, errW_none, errW_some] <;> rfl), by repeat (first | (with_reducible first | exact HB.out | apply below_alloc | apply pw_below_drewN | apply below_drew1) | exact HB.out)⟩
      · replace c5 := Bool.eq_false_iff.mpr c5
        subst c5
        have H1 : (gangplankref01_Put.l0 kj2 a0 a1 (⟨#[]⟩ : ByteArray) 0) = some r := by rw [if_neg (show ¬ (false = true) by decide)] at H; exact H
        clear H
        have H := H1
        clear H1
        have H' := Aside0.mk H
        clear H
        go_wp2
        go_loopg [0, 5, 6] kj2 (fun kq v0 v5 v6 w' => ∃ (x0_2 : Int) (x5_2 : ByteArray) (x6_2 : Int), v0 = .int .u64 x0_2 ∧ v5 = .string x5_2 ∧ v6 = .int .i64 x6_2 ∧ Aside0 (gangplankref01_Put.l0 kq x0_2 a1 x5_2 x6_2 = some r) ∧ Aside0 (kq ≤ kj2) ∧ Aside0 (Below w.heap.size w w'))
        case atStart => exact ⟨(a0), ((⟨#[]⟩ : ByteArray)), (0), (by first | rfl | (simp; done) | (simp [*]; done)), (by first | rfl | (simp; done) | (simp [*]; done)), (by first | rfl | (simp; done) | (simp [*]; done)), H', ⟨Nat.le_refl _⟩, ⟨by repeat (first | (with_reducible first | exact HB.out | apply below_alloc | apply pw_below_drewN | apply below_drew1) | exact HB.out)⟩⟩
        case round =>
          clear H'
          try clear c1
          try clear p2
          try clear c4
          try clear c4b0
          try clear c5
          try clear p2
          obtain ⟨x0_2, x5_2, x6_2, rfl, rfl, rfl, HA, HK2, HB⟩ := hrel
          cases gk with
          | zero => exact absurd HA.out (by simp [gangplankref01_Put.l0])
          | succ k2 =>
            have H := HA.out
            clear HA
            simp only [gangplankref01_Put.l0] at H
            by_cases c6 : x6_2 < a1
            · rw [if_pos c6] at H
              have c6b0 : decide (x6_2 < a1) = true := decide_eq_true c6
              clear c6
              obtain ⟨y156, hy156⟩ : ∃ y_ : List Int, y_ = (([(Int.tmod x0_2 256) % 256] : List Int)) := ⟨_, rfl⟩
              replace H : (if (strOfNums y156).size + x5_2.size ≤ 9223372036854775807 then (gangplankref01_Put.l0 k2 (IntKind.u64.wrap (Int.tdiv x0_2 256)) a1 ((strOfNums y156) ++ x5_2) (wrap64 (x6_2 + 1))) else (none)) = some r := by first | (rw [hy156]; with_reducible exact H) | (have H2_ := (Option.bind_some _ _).symm.trans H; rw [hy156]; with_reducible exact H2_) | (have H2_ := (Option.bind_some _ _).symm.trans H; with_reducible exact H2_) | with_reducible exact H | (rw [hy156]; exact H) | exact H
              have Ny156 := Aside0.mk hy156
              clear hy156
              by_cases c7 : (strOfNums y156).size + x5_2.size ≤ 9223372036854775807
              · rw [if_pos c7] at H
                have c7b0 := eq_true c7
                have c7b1 : decide ((strOfNums y156).size + x5_2.size ≤ 9223372036854775807) = true := decide_eq_true c7
                try have c7b2 : (9223372036854775807 < (strOfNums y156).size + x5_2.size) = False := eq_false (Nat.not_lt.2 c7)
                have H' := Aside0.mk H
                clear H
                go_wp2_with (first | ((with_reducible refine gate_dst (N := 21) rfl ?_); refine Kd.R_lit (Kd.int .u8) _ 5 ?hg (N := 21) ?hd (xs := ([(Int.tmod x0_2 256) % 256] : List Int)) (inner := [.int .u8 ((Int.tmod x0_2 256) % 256)]) (ok := fun _ => True) (okp := fun _ => True) ?hr ?hp (fun _ hk => hk) trivial (Below.refl _ _) (Nat.le_refl _) (by simp) ?_; (case hd => rfl); (case hg => rfl); (case hr => first | (go_simp; done) | (go_simp; rfl)); (case hp => exact (Reps.one (show Kd.M (Kd.int .u8) _ _ _ ((Int.tmod x0_2 256) % 256) [.int .u8 ((Int.tmod x0_2 256) % 256)] from rfl) (Reps.none _ _))); intro v157 w8 ho9 hb hg_ hnew_; clear hg_ hnew_; (first | rw [← Ny156.out] at ho9 | (simp only [Int.reduceToNat] at ho9; rw [← Ny156.out] at ho9)); have n0_ := Aside0.mk (Kd.R_lower ho9 (below_size (by repeat (first | (with_reducible first | exact HB.out | apply below_alloc | apply pw_below_drewN | apply below_drew1) | exact HB.out)))); have n1_ := Aside0.mk (below_step (by repeat (first | (with_reducible first | exact HB.out | apply below_alloc | apply pw_below_drewN | apply below_drew1) | exact HB.out)) hb); clear HB; have HO158 := n0_; have HB := n1_; clear n0_ n1_; clear hb ho9; have hcv10 := own_string (P := Try.prog) Try.underlying166 Try.underlying5 Try.underlying9 (Kd.own_of_R HO158.out)))
                go_roundg k2
                case measure => have := HJ2.out; have := HK2.out; omega
                case rel => exact ⟨(IntKind.u64.wrap (Int.tdiv x0_2 256)), ((strOfNums y156) ++ x5_2), (wrap64 (x6_2 + 1)), (by first | rfl | (simp; done) | (simp [*]; done)), (by first | rfl | (simp; done) | (simp [*]; done)), (by first | rfl | (simp; done) | (simp [*]; done)), H', ⟨by have := HJ2.out; have := HK2.out; omega⟩, ⟨by repeat (first | (with_reducible first | exact HB.out | apply below_alloc | apply pw_below_drewN | apply below_drew1) | exact HB.out)⟩⟩
              · rw [if_neg c7] at H
                exact absurd H (by simp)
            · rw [if_neg c6] at H
              have c6b0 : decide (x6_2 < a1) = false := decide_eq_false c6
              clear c6
              obtain rfl := Option.some.inj H
              go_wp2
              go_ret
              exact ⟨by first | rfl | (simp [errW_none, errW_some] <;> rfl) | (simp [*, errW_none, errW_some] <;> rfl), by repeat (first | (with_reducible first | exact HB.out | apply below_alloc | apply pw_below_drewN | apply below_drew1) | exact HB.out)⟩

/-! ### gangplankref09_Hash: function 91 -/
def gangplankref09_Hash.f (k : Nat) (a0 : Int) (a1 : Int) : Option (Int) := (gangplankref01_Put.f k (IntKind.u64.wrap (a0)) 4).bind fun t159 => ((gangplankref01_Put.f k (IntKind.u64.wrap (a1)) 2).bind fun t160 => (if t159.size + t160.size ≤ 9223372036854775807 then (if (t159 ++ t160).size + 4 ≤ 9223372036854775807 then ((gangplankref02_Sum.f k ((t159 ++ t160) ++ (⟨#[0, 0, 0, 0]⟩ : ByteArray))).bind fun t161 => (some t161)) else (none)) else (none)))
theorem gangplankref09_Hash.mono : ∀ a0 a1 k, LeO (gangplankref09_Hash.f k a0 a1) (gangplankref09_Hash.f (k + 1) a0 a1) := by
  intro a0 a1 k
  unfold gangplankref09_Hash.f
  repeat' first
      | (with_reducible exact gangplankref01_Put.mono _ _ _)
      | (with_reducible exact gangplankref02_Sum.mono _ _)
      | (with_reducible exact LeO.refl _)
      | (with_reducible exact LeO.none _)
      | (with_reducible refine LeO.ite ?_ ?_)
      | (with_reducible refine LeO.bind ?_ (fun _ => ?_))
      | exact gangplankref01_Put.mono _ _ _
      | exact gangplankref02_Sum.mono _ _
      | exact LeO.none _
      | refine LeO.ite ?_ ?_
      | refine LeO.bind ?_ (fun _ => ?_)
set_option maxHeartbeats 8000000 in
set_option maxRecDepth 100000 in
theorem gangplankref09_Hash.calls (k : Nat) (a0 : Int) (a1 : Int) (r : Int) (w : World) (h : gangplankref09_Hash.f k a0 a1 = some r) :
    Calls Try.prog 91 #[.int .i64 a0, .int .i64 a1] w fun e w' => e = .returned (.int .u64 r) ∧ Below w.heap.size w w' := by
  have HB := Aside0.mk (Below.refl w.heap.size w)
  have H : ((gangplankref01_Put.f k (IntKind.u64.wrap (a0)) 4).bind fun t159 => ((gangplankref01_Put.f k (IntKind.u64.wrap (a1)) 2).bind fun t160 => (if t159.size + t160.size ≤ 9223372036854775807 then (if (t159 ++ t160).size + 4 ≤ 9223372036854775807 then ((gangplankref02_Sum.f k ((t159 ++ t160) ++ (⟨#[0, 0, 0, 0]⟩ : ByteArray))).bind fun t161 => (some t161)) else (none)) else (none)))) = some r := h
  clear h
  replace H := Option.bind_eq_some_iff.mp H
  obtain ⟨t159, A30, H⟩ := H
  replace H : ((gangplankref01_Put.f k (IntKind.u64.wrap (a1)) 2).bind fun t160 => (if t159.size + t160.size ≤ 9223372036854775807 then (if (t159 ++ t160).size + 4 ≤ 9223372036854775807 then ((gangplankref02_Sum.f k ((t159 ++ t160) ++ (⟨#[0, 0, 0, 0]⟩ : ByteArray))).bind fun t161 => (some t161)) else (none)) else (none))) = some r := H
  have A3 := Aside0.mk A30
  clear A30
  replace H := Option.bind_eq_some_iff.mp H
  obtain ⟨t160, A40, H⟩ := H
  replace H : (if t159.size + t160.size ≤ 9223372036854775807 then (if (t159 ++ t160).size + 4 ≤ 9223372036854775807 then ((gangplankref02_Sum.f k ((t159 ++ t160) ++ (⟨#[0, 0, 0, 0]⟩ : ByteArray))).bind fun t161 => (some t161)) else (none)) else (none)) = some r := H
  have A4 := Aside0.mk A40
  clear A40
  by_cases c5 : t159.size + t160.size ≤ 9223372036854775807
  · rw [if_pos c5] at H
    have c5b0 := eq_true c5
    have c5b1 : decide (t159.size + t160.size ≤ 9223372036854775807) = true := decide_eq_true c5
    try have c5b2 : (9223372036854775807 < t159.size + t160.size) = False := eq_false (Nat.not_lt.2 c5)
    by_cases c6 : (t159 ++ t160).size + 4 ≤ 9223372036854775807
    · rw [if_pos c6] at H
      have c6b0 := eq_true c6
      have c6b1 : decide ((t159 ++ t160).size + 4 ≤ 9223372036854775807) = true := decide_eq_true c6
      try have c6b2 : (9223372036854775807 < (t159 ++ t160).size + 4) = False := eq_false (Nat.not_lt.2 c6)
      have c6b3 : (9223372036854775807 < t159.size + t160.size + 4) = False := by simpa only [ByteArray.size_append] using c6b2
      replace H := Option.bind_eq_some_iff.mp H
      obtain ⟨t161, A70, H⟩ := H
      replace H : (some t161) = some r := H
      have A7 := Aside0.mk A70
      clear A70
      obtain rfl := Option.some.inj H
      go_enter Try.func91, Try.ntmps91
      go_wp2_with (first | ((with_reducible refine gate_callee (f := 114) rfl ?_); refine goesL_ (some 7) rfl rfl Try.func114 (by kernel_rfl) rfl #[.int .u64 (IntKind.u64.wrap (a0)), .int .i64 4] rfl (by (try simp only [List.map_toArray, List.map_cons, List.map_nil]); first | done | rfl | (simp only [List.length_drop, List.length_take]; rfl)) ?_; (with_reducible refine (gangplankref01_Put.calls k (IntKind.u64.wrap (a0)) 4 t159 _ A3.out).mono ?_); (try clear A3); rintro e w8 ⟨rfl, hb⟩; refine ⟨_, rfl, ?_⟩; have n0_ := Aside0.mk (below_step (by repeat (first | (with_reducible first | exact HB.out | apply below_alloc | apply pw_below_drewN | apply below_drew1) | exact HB.out)) hb); clear HB; have HB := n0_; clear n0_; (try clear hb); (try clear hb2); (try clear hk); (try clear hi)) | ((with_reducible refine gate_callee (f := 114) rfl ?_); refine goesL_ (some 10) rfl rfl Try.func114 (by kernel_rfl) rfl #[.int .u64 (IntKind.u64.wrap (a1)), .int .i64 2] rfl (by (try simp only [List.map_toArray, List.map_cons, List.map_nil]); first | done | rfl | (simp only [List.length_drop, List.length_take]; rfl)) ?_; (with_reducible refine (gangplankref01_Put.calls k (IntKind.u64.wrap (a1)) 2 t160 _ A4.out).mono ?_); (try clear A4); rintro e w9 ⟨rfl, hb⟩; refine ⟨_, rfl, ?_⟩; have n0_ := Aside0.mk (below_step (by repeat (first | (with_reducible first | exact HB.out | apply below_alloc | apply pw_below_drewN | apply below_drew1) | exact HB.out)) hb); clear HB; have HB := n0_; clear n0_; (try clear hb); (try clear hb2); (try clear hk); (try clear hi)) | ((with_reducible refine gate_callee (f := 113) rfl ?_); refine goesL_ (some 13) rfl rfl Try.func113 (by kernel_rfl) rfl #[.string ((t159 ++ t160) ++ (⟨#[0, 0, 0, 0]⟩ : ByteArray))] rfl (by (try simp only [List.map_toArray, List.map_cons, List.map_nil]); first | done | rfl | (simp only [List.length_drop, List.length_take]; rfl)) ?_; (with_reducible refine (gangplankref02_Sum.calls k ((t159 ++ t160) ++ (⟨#[0, 0, 0, 0]⟩ : ByteArray)) t161 _ A7.out).mono ?_); (try clear A7); rintro e w' ⟨rfl, ⟨nd, rfl⟩⟩; refine ⟨_, rfl, ?_⟩))
      go_ret
      exact ⟨by first | rfl | (simp [errW_none, errW_some] <;> rfl) | (simp [*, errW_none, errW_some] <;> rfl), by repeat (first | (with_reducible first | exact HB.out | apply below_alloc | apply pw_below_drewN | apply below_drew1) | exact HB.out)⟩
    · rw [if_neg c6] at H
      exact absurd H (by simp)
  · rw [if_neg c5] at H
    exact absurd H (by simp)

/-! ### gangplankref09_Less: function 130 -/
def gangplankref09_Less.f (a0_0 : Int) (a0_1 : Int) (a1_0 : Int) (a1_1 : Int) : Option (Bool) := if a0_0 < a1_0 then (some true) else (if a0_0 = a1_0 then (some (decide (a0_1 < a1_1))) else (some false))
set_option maxHeartbeats 8000000 in
set_option maxRecDepth 100000 in
theorem gangplankref09_Less.calls (a0_0 : Int) (a0_1 : Int) (a1_0 : Int) (a1_1 : Int) (r : Bool) (w : World) (h : gangplankref09_Less.f a0_0 a0_1 a1_0 a1_1 = some r) :
    Calls Try.prog 130 #[.agg #[.int .u64 a0_0, .int .i64 a0_1], .agg #[.int .u64 a1_0, .int .i64 a1_1]] w fun e w' => e = .returned (.bool r) ∧ Below w.heap.size w w' := by
  have hu124 := Try.underlying124
  have HB := Aside0.mk (Below.refl w.heap.size w)
  have H : (if a0_0 < a1_0 then (some true) else (if a0_0 = a1_0 then (some (decide (a0_1 < a1_1))) else (some false))) = some r := h
  clear h
  by_cases c3 : a0_0 < a1_0
  · rw [if_pos c3] at H
    have c3b0 : decide (a0_0 < a1_0) = true := decide_eq_true c3
    clear c3
    obtain rfl := Option.some.inj H
    go_enter Try.func130, Try.ntmps130
    go_wp2_with (first | ((with_reducible refine gate_dst (N := 2) rfl ?_); refine box_event ?hg (N := 2) ?hd (cs := #[.int .u64 a0_0, .int .i64 a0_1]) (t := 124) ?hr ?_; (case hd => rfl); (case hg => rfl); (case hr => first | (go_simp; done) | (go_simp; rfl)); intro gb162 hg w4 hbox hb; have n0_ := Aside0.mk (below_step (by repeat (first | (with_reducible first | exact HB.out | apply below_alloc | apply pw_below_drewN | apply below_drew1) | exact HB.out)) hb); have n1_ := Aside0.mk (hbox); have n2_ := Aside0.mk ((by rw [hg]; exact (below_size (by repeat (first | (with_reducible first | exact HB.out | apply below_alloc | apply pw_below_drewN | apply below_drew1) | exact HB.out))) : w.heap.size ≤ gb162)); have n3_ := Aside0.mk ((by rw [hg]; exact (below_size (by repeat (first | (with_reducible first | exact HB.out | apply below_alloc | apply pw_below_drewN | apply below_drew1) | exact HB.out))) : w.heap.size ≤ gb162)); clear HB; have HB := n0_; have BK162 := n1_; have GW162 := n2_; have GE162 := n3_; clear n0_ n1_ n2_ n3_; clear hb hbox hg) | ((with_reducible refine gate_dst (N := 3) rfl ?_); refine box_event ?hg (N := 3) ?hd (cs := #[.int .u64 a1_0, .int .i64 a1_1]) (t := 124) ?hr ?_; (case hd => rfl); (case hg => rfl); (case hr => first | (go_simp; done) | (go_simp; rfl)); intro gb163 hg w5 hbox hb; have n0_ := Aside0.mk (blk_below (g := gb162) (o := .cells #[.int .u64 a0_0, .int .i64 a0_1] 124 (0, 0)) (by (with_reducible repeat (first | refine blk_drewN ?_ _ | refine blk_drew ?_ | refine blk_alloc ?_ _)); exact BK162.out) hb); have n1_ := Aside0.mk (below_step (by repeat (first | (with_reducible first | exact HB.out | apply below_alloc | apply pw_below_drewN | apply below_drew1 | refine below_set ?_ GE162.out) | exact HB.out)) hb); have n2_ := Aside0.mk (hbox); have n3_ := Aside0.mk ((by rw [hg]; exact (below_size (by repeat (first | (with_reducible first | exact HB.out | apply below_alloc | apply pw_below_drewN | apply below_drew1 | refine below_set ?_ GE162.out) | exact HB.out))) : w.heap.size ≤ gb163)); have n4_ := Aside0.mk ((by rw [hg]; exact (below_size (by repeat (first | (with_reducible first | exact HB.out | apply below_alloc | apply pw_below_drewN | apply below_drew1 | refine below_set ?_ GE162.out) | exact HB.out))) : w.heap.size ≤ gb163)); have n5_ := Aside0.mk ((by rw [hg]; exact Nat.ne_of_lt (blk_lt (g := gb162) (o := .cells #[.int .u64 a0_0, .int .i64 a0_1] 124 (0, 0)) (by (with_reducible repeat (first | refine blk_drewN ?_ _ | refine blk_drew ?_ | refine blk_alloc ?_ _)); exact BK162.out)) : gb162 ≠ gb163)); have n6_ := Aside0.mk ((by rw [hg]; exact Nat.ne_of_gt (blk_lt (g := gb162) (o := .cells #[.int .u64 a0_0, .int .i64 a0_1] 124 (0, 0)) (by (with_reducible repeat (first | refine blk_drewN ?_ _ | refine blk_drew ?_ | refine blk_alloc ?_ _)); exact BK162.out)) : gb163 ≠ gb162)); clear BK162; clear HB; have BK162 := n0_; have HB := n1_; have BK163 := n2_; have GW163 := n3_; have GE163 := n4_; have NB162_163 := n5_; have NB163_162 := n6_; clear n0_ n1_ n2_ n3_ n4_ n5_ n6_; clear hb hbox hg; have hnb6 := NB162_163.out; have hnc6 := NB163_162.out; have hcz7_0 : w5.cell? ⟨gb162, 0, none⟩ = some (.int .u64 a0_0) := (blk_cell BK162.out 0).trans rfl; have hcz7_1 : w5.cell? ⟨gb162, 1, none⟩ = some (.int .i64 a0_1) := (blk_cell BK162.out 1).trans rfl; have hfz7_0 := blk_frozen BK162.out 0; have hfz7_1 := blk_frozen BK162.out 1; have hcz8_0 : w5.cell? ⟨gb163, 0, none⟩ = some (.int .u64 a1_0) := (blk_cell BK163.out 0).trans rfl; have hcz8_1 : w5.cell? ⟨gb163, 1, none⟩ = some (.int .i64 a1_1) := (blk_cell BK163.out 1).trans rfl; have hfz8_0 := blk_frozen BK163.out 0; have hfz8_1 := blk_frozen BK163.out 1))
    go_ret
    exact ⟨by first | rfl | (simp [errW_none, errW_some] <;> rfl) | (simp [*, errW_none, errW_some] <;> rfl), by repeat (first | (with_reducible first | exact HB.out | apply below_alloc | apply pw_below_drewN | apply below_drew1 | refine below_set ?_ GE162.out | refine below_set ?_ GE163.out) | exact HB.out)⟩
  · rw [if_neg c3] at H
    have c3b0 : decide (a0_0 < a1_0) = false := decide_eq_false c3
    clear c3
    by_cases c9 : a0_0 = a1_0
    · rw [if_pos c9] at H
      have c9b0 : (a0_0 == a1_0) = true := beq_iff_eq.mpr c9
      have c9b1 : (a0_0 != a1_0) = false := bne_eq_false_iff_eq.mpr c9
      clear c9
      obtain rfl := Option.some.inj H
      go_enter Try.func130, Try.ntmps130
      go_wp2_with (first | ((with_reducible refine gate_dst (N := 2) rfl ?_); refine box_event ?hg (N := 2) ?hd (cs := #[.int .u64 a0_0, .int .i64 a0_1]) (t := 124) ?hr ?_; (case hd => rfl); (case hg => rfl); (case hr => first | (go_simp; done) | (go_simp; rfl)); intro gb162 hg w10 hbox hb; have n0_ := Aside0.mk (below_step (by repeat (first | (with_reducible first | exact HB.out | apply below_alloc | apply pw_below_drewN | apply below_drew1) | exact HB.out)) hb); have n1_ := Aside0.mk (hbox); have n2_ := Aside0.mk ((by rw [hg]; exact (below_size (by repeat (first | (with_reducible first | exact HB.out | apply below_alloc | apply pw_below_drewN | apply below_drew1) | exact HB.out))) : w.heap.size ≤ gb162)); have n3_ := Aside0.mk ((by rw [hg]; exact (below_size (by repeat (first | (with_reducible first | exact HB.out | apply below_alloc | apply pw_below_drewN | apply below_drew1) | exact HB.out))) : w.heap.size ≤ gb162)); clear HB; have HB := n0_; have BK162 := n1_; have GW162 := n2_; have GE162 := n3_; clear n0_ n1_ n2_ n3_; clear hb hbox hg) | ((with_reducible refine gate_dst (N := 3) rfl ?_); refine box_event ?hg (N := 3) ?hd (cs := #[.int .u64 a1_0, .int .i64 a1_1]) (t := 124) ?hr ?_; (case hd => rfl); (case hg => rfl); (case hr => first | (go_simp; done) | (go_simp; rfl)); intro gb163 hg w11 hbox hb; have n0_ := Aside0.mk (blk_below (g := gb162) (o := .cells #[.int .u64 a0_0, .int .i64 a0_1] 124 (0, 0)) (by (with_reducible repeat (first | refine blk_drewN ?_ _ | refine blk_drew ?_ | refine blk_alloc ?_ _)); exact BK162.out) hb); have n1_ := Aside0.mk (below_step (by repeat (first | (with_reducible first | exact HB.out | apply below_alloc | apply pw_below_drewN | apply below_drew1 | refine below_set ?_ GE162.out) | exact HB.out)) hb); have n2_ := Aside0.mk (hbox); have n3_ := Aside0.mk ((by rw [hg]; exact (below_size (by repeat (first | (with_reducible first | exact HB.out | apply below_alloc | apply pw_below_drewN | apply below_drew1 | refine below_set ?_ GE162.out) | exact HB.out))) : w.heap.size ≤ gb163)); have n4_ := Aside0.mk ((by rw [hg]; exact (below_size (by repeat (first | (with_reducible first | exact HB.out | apply below_alloc | apply pw_below_drewN | apply below_drew1 | refine below_set ?_ GE162.out) | exact HB.out))) : w.heap.size ≤ gb163)); have n5_ := Aside0.mk ((by rw [hg]; exact Nat.ne_of_lt (blk_lt (g := gb162) (o := .cells #[.int .u64 a0_0, .int .i64 a0_1] 124 (0, 0)) (by (with_reducible repeat (first | refine blk_drewN ?_ _ | refine blk_drew ?_ | refine blk_alloc ?_ _)); exact BK162.out)) : gb162 ≠ gb163)); have n6_ := Aside0.mk ((by rw [hg]; exact Nat.ne_of_gt (blk_lt (g := gb162) (o := .cells #[.int .u64 a0_0, .int .i64 a0_1] 124 (0, 0)) (by (with_reducible repeat (first | refine blk_drewN ?_ _ | refine blk_drew ?_ | refine blk_alloc ?_ _)); exact BK162.out)) : gb163 ≠ gb162)); clear BK162; clear HB; have BK162 := n0_; have HB := n1_; have BK163 := n2_; have GW163 := n3_; have GE163 := n4_; have NB162_163 := n5_; have NB163_162 := n6_; clear n0_ n1_ n2_ n3_ n4_ n5_ n6_; clear hb hbox hg; have hnb12 := NB162_163.out; have hnc12 := NB163_162.out; have hcz13_0 : w11.cell? ⟨gb162, 0, none⟩ = some (.int .u64 a0_0) := (blk_cell BK162.out 0).trans rfl; have hcz13_1 : w11.cell? ⟨gb162, 1, none⟩ = some (.int .i64 a0_1) := (blk_cell BK162.out 1).trans rfl; have hfz13_0 := blk_frozen BK162.out 0; have hfz13_1 := blk_frozen BK162.out 1; have hcz14_0 : w11.cell? ⟨gb163, 0, none⟩ = some (.int .u64 a1_0) := (blk_cell BK163.out 0).trans rfl; have hcz14_1 : w11.cell? ⟨gb163, 1, none⟩ = some (.int .i64 a1_1) := (blk_cell BK163.out 1).trans rfl; have hfz14_0 := blk_frozen BK163.out 0; have hfz14_1 := blk_frozen BK163.out 1))
      go_ret
      exact ⟨by first | rfl | (simp [errW_none, errW_some] <;> rfl) | (simp [*, errW_none, errW_some] <;> rfl), by repeat (first | (with_reducible first | exact HB.out | apply below_alloc | apply pw_below_drewN | apply below_drew1 | refine below_set ?_ GE162.out | refine below_set ?_ GE163.out) | exact HB.out)⟩
    · rw [if_neg c9] at H
      have c9b0 : (a0_0 == a1_0) = false := beq_eq_false_iff_ne.mpr c9
      have c9b1 : (a0_0 != a1_0) = true := bne_iff_ne.mpr c9
      obtain rfl := Option.some.inj H
      go_enter Try.func130, Try.ntmps130
      go_wp2_with (first | ((with_reducible refine gate_dst (N := 2) rfl ?_); refine box_event ?hg (N := 2) ?hd (cs := #[.int .u64 a0_0, .int .i64 a0_1]) (t := 124) ?hr ?_; (case hd => rfl); (case hg => rfl); (case hr => first | (go_simp; done) | (go_simp; rfl)); intro gb162 hg w15 hbox hb; have n0_ := Aside0.mk (below_step (by repeat (first | (with_reducible first | exact HB.out | apply below_alloc | apply pw_below_drewN | apply below_drew1) | exact HB.out)) hb); have n1_ := Aside0.mk (hbox); have n2_ := Aside0.mk ((by rw [hg]; exact (below_size (by repeat (first | (with_reducible first | exact HB.out | apply below_alloc | apply pw_below_drewN | apply below_drew1) | exact HB.out))) : w.heap.size ≤ gb162)); have n3_ := Aside0.mk ((by rw [hg]; exact (below_size (by repeat (first | (with_reducible first | exact HB.out | apply below_alloc | apply pw_below_drewN | apply below_drew1) | exact HB.out))) : w.heap.size ≤ gb162)); clear HB; have HB := n0_; have BK162 := n1_; have GW162 := n2_; have GE162 := n3_; clear n0_ n1_ n2_ n3_; clear hb hbox hg) | ((with_reducible refine gate_dst (N := 3) rfl ?_); refine box_event ?hg (N := 3) ?hd (cs := #[.int .u64 a1_0, .int .i64 a1_1]) (t := 124) ?hr ?_; (case hd => rfl); (case hg => rfl); (case hr => first | (go_simp; done) | (go_simp; rfl)); intro gb163 hg w16 hbox hb; have n0_ := Aside0.mk (blk_below (g := gb162) (o := .cells #[.int .u64 a0_0, .int .i64 a0_1] 124 (0, 0)) (by (with_reducible repeat (first | refine blk_drewN ?_ _ | refine blk_drew ?_ | refine blk_alloc ?_ _)); exact BK162.out) hb); have n1_ := Aside0.mk (below_step (by repeat (first | (with_reducible first | exact HB.out | apply below_alloc | apply pw_below_drewN | apply below_drew1 | refine below_set ?_ GE162.out) | exact HB.out)) hb); have n2_ := Aside0.mk (hbox); have n3_ := Aside0.mk ((by rw [hg]; exact (below_size (by repeat (first | (with_reducible first | exact HB.out | apply below_alloc | apply pw_below_drewN | apply below_drew1 | refine below_set ?_ GE162.out) | exact HB.out))) : w.heap.size ≤ gb163)); have n4_ := Aside0.mk ((by rw [hg]; exact (below_size (by repeat (first | (with_reducible first | exact HB.out | apply below_alloc | apply pw_below_drewN | apply below_drew1 | refine below_set ?_ GE162.out) | exact HB.out))) : w.heap.size ≤ gb163)); have n5_ := Aside0.mk ((by rw [hg]; exact Nat.ne_of_lt (blk_lt (g := gb162) (o := .cells #[.int .u64 a0_0, .int .i64 a0_1] 124 (0, 0)) (by (with_reducible repeat (first | refine blk_drewN ?_ _ | refine blk_drew ?_ | refine blk_alloc ?_ _)); exact BK162.out)) : gb162 ≠ gb163)); have n6_ := Aside0.mk ((by rw [hg]; exact Nat.ne_of_gt (blk_lt (g := gb162) (o := .cells #[.int .u64 a0_0, .int .i64 a0_1] 124 (0, 0)) (by (with_reducible repeat (first | refine blk_drewN ?_ _ | refine blk_drew ?_ | refine blk_alloc ?_ _)); exact BK162.out)) : gb163 ≠ gb162)); clear BK162; clear HB; have BK162 := n0_; have HB := n1_; have BK163 := n2_; have GW163 := n3_; have GE163 := n4_; have NB162_163 := n5_; have NB163_162 := n6_; clear n0_ n1_ n2_ n3_ n4_ n5_ n6_; clear hb hbox hg; have hnb17 := NB162_163.out; have hnc17 := NB163_162.out; have hcz18_0 : w16.cell? ⟨gb162, 0, none⟩ = some (.int .u64 a0_0) := (blk_cell BK162.out 0).trans rfl; have hcz18_1 : w16.cell? ⟨gb162, 1, none⟩ = some (.int .i64 a0_1) := (blk_cell BK162.out 1).trans rfl; have hfz18_0 := blk_frozen BK162.out 0; have hfz18_1 := blk_frozen BK162.out 1; have hcz19_0 : w16.cell? ⟨gb163, 0, none⟩ = some (.int .u64 a1_0) := (blk_cell BK163.out 0).trans rfl; have hcz19_1 : w16.cell? ⟨gb163, 1, none⟩ = some (.int .i64 a1_1) := (blk_cell BK163.out 1).trans rfl; have hfz19_0 := blk_frozen BK163.out 0; have hfz19_1 := blk_frozen BK163.out 1))
      go_ret
      exact ⟨by first | rfl | (simp [errW_none, errW_some] <;> rfl) | (simp [*, errW_none, errW_some] <;> rfl), by repeat (first | (with_reducible first | exact HB.out | apply below_alloc | apply pw_below_drewN | apply below_drew1 | refine below_set ?_ GE162.out | refine below_set ?_ GE163.out) | exact HB.out)⟩

end Go.Proofs.Ytklngklmeanhcaa.P
