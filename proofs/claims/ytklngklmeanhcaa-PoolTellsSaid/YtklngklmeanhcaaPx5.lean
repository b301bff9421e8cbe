/- Each Go function that the laws reach, as a plain function, with the proof that the machine's call comes to what it says; of a law: its row. Made by a program of this seat (wip/hp.py, over the print). -/
import Derived.Test.YtklngklmeanhcaaPx0
import Derived.Test.YtklngklmeanhcaaPx1
import Derived.Test.YtklngklmeanhcaaPx2
import Derived.Test.YtklngklmeanhcaaPx4
namespace Go.Proofs.Ytklngklmeanhcaa.P
open Go.RowKit Go.Proofs.YtklngklmeanhcaaW.PrintWords Go.Proofs.YtklngklmeanhcaaW.PrintLast Go.Proofs.YtklngklmeanhcaaW.PrintMore
attribute [local go_sem] max2_int min2_int max_two min_two max_three min_three max_four min_four   -- for this text's walks alone
set_option linter.unusedVariables false
set_option linter.unusedSimpArgs false

attribute [local go_sem high] eqA56
/-! ### gangplankref08_Ints: function 40 -/
def gangplankref08_Ints.l0 : Nat → List Int → List Int → Int → Option (Bool)
  | 0, _, _, _ => none
  | k + 1, x0, x1, x5 => if x5 < (x0.length : Int) then (if 0 ≤ x5 then (if x5 < (x1.length : Int) then (if (rd x0 x5) = (rd x1 x5) then (gangplankref08_Ints.l0 k x0 x1 (wrap64 (x5 + 1))) else (some false)) else (none)) else (none)) else (some true)
def gangplankref08_Ints.f (k : Nat) (l0 : List Int) (l1 : List Int) : Option (Bool) := if (l0.length : Int) = (l1.length : Int) then (gangplankref08_Ints.l0 k l0 l1 0) else (some false)
theorem gangplankref08_Ints.mono_l : ∀ k, (∀ y0 y1 y2, LeO (gangplankref08_Ints.l0 k y0 y1 y2) (gangplankref08_Ints.l0 (k + 1) y0 y1 y2))
  | 0 => fun _ _ _ r h => by simp [gangplankref08_Ints.l0] at h
  | k + 1 => by
    have ih0 := gangplankref08_Ints.mono_l k
    · intro y0 y1 y2
      unfold gangplankref08_Ints.l0
      repeat' first
      | (with_reducible exact ih0 _ _ _)
      | (with_reducible exact LeO.refl _)
      | (with_reducible exact LeO.none _)
      | (with_reducible refine LeO.ite ?_ ?_)
      | (with_reducible refine LeO.bind ?_ (fun _ => ?_))
      | exact ih0 _ _ _
      | exact LeO.none _
      | refine LeO.ite ?_ ?_
      | refine LeO.bind ?_ (fun _ => ?_)
theorem gangplankref08_Ints.mono : ∀ a0 a1 k, LeO (gangplankref08_Ints.f k a0 a1) (gangplankref08_Ints.f (k + 1) a0 a1) := by
  intro a0 a1 k
  have ih0 := gangplankref08_Ints.mono_l k
  unfold gangplankref08_Ints.f
  repeat' first
      | (with_reducible exact ih0 _ _ _)
      | (with_reducible exact LeO.refl _)
      | (with_reducible exact LeO.none _)
      | (with_reducible refine LeO.ite ?_ ?_)
      | (with_reducible refine LeO.bind ?_ (fun _ => ?_))
      | exact ih0 _ _ _
      | exact LeO.none _
      | refine LeO.ite ?_ ?_
      | refine LeO.bind ?_ (fun _ => ?_)
set_option maxHeartbeats 8000000 in
set_option maxRecDepth 100000 in
theorem gangplankref08_Ints.calls (k : Nat) (A0 : Option Addr) (c0 : Nat) (l0 : List Int) (A1 : Option Addr) (c1 : Nat) (l1 : List Int) (r : Bool) (w : World) (hr0 : Kd.C (Kd.int .i64) w A0 l0.length l0) (hc0 : l0.length ≤ c0) (hr1 : Kd.C (Kd.int .i64) w A1 l1.length l1) (hc1 : l1.length ≤ c1) (h : gangplankref08_Ints.f k l0 l1 = some r) :
    Calls Try.prog 40 #[.slice A0 l0.length c0, .slice A1 l1.length c1] w fun e w' => e = .returned (.bool r) ∧ Drawn0 w w' := by
  have HR0 := Aside0.mk hr0
  have HC0 := Aside0.mk hc0
  clear hr0 hc0
  have HR1 := Aside0.mk hr1
  have HC1 := Aside0.mk hc1
  clear hr1 hc1
  have H : (if (l0.length : Int) = (l1.length : Int) then (gangplankref08_Ints.l0 k l0 l1 0) else (some false)) = some r := h
  clear h
  by_cases c3 : (l0.length : Int) = (l1.length : Int)
  · rw [if_pos c3] at H
    have c3b0 : ((l0.length : Int) == (l1.length : Int)) = true := beq_iff_eq.mpr c3
    have c3b1 : ((l0.length : Int) != (l1.length : Int)) = false := bne_eq_false_iff_eq.mpr c3
    have c3b2 : (l0.length == l1.length) = true := by first | simpa using c3 | (simp at c3 ⊢; omega)
    clear c3
    have H' := Aside0.mk H
    clear H
    go_enter Try.func40, Try.ntmps40
    go_wp2
    repeat (go_quiet (fail); try go_wp2)
    go_loopg [5] k (fun kq v5 w' => ∃ (x5_1 : Int), v5 = .int .i64 x5_1 ∧ Aside0 (gangplankref08_Ints.l0 kq l0 l1 x5_1 = some r) ∧ Aside0 (kq ≤ k) ∧ Drawn0 w w')
    case atStart => exact ⟨(0), (by first | rfl | (simp; done) | (simp [*]; done)), H', ⟨Nat.le_refl _⟩, by repeat (first | exact Drawn0.refl _ | apply Drawn0.step)⟩
    case round =>
      clear H'
      try clear c1
      try clear p2
      try clear c3
      try clear c3b0
      try clear c3b1
      try clear c3b2
      obtain ⟨x5_1, rfl, HA, HK1, ⟨m1, rfl⟩⟩ := hrel
      cases gk with
      | zero => exact absurd HA.out (by simp [gangplankref08_Ints.l0])
      | succ k1 =>
        have H := HA.out
        clear HA
        simp only [gangplankref08_Ints.l0] at H
        by_cases c4 : x5_1 < (l0.length : Int)
        · rw [if_pos c4] at H
          have c4b0 : decide (x5_1 < (l0.length : Int)) = true := decide_eq_true c4
          clear c4
          by_cases c5 : 0 ≤ x5_1
          · rw [if_pos c5] at H
            have c5b0 : decide (0 ≤ x5_1) = true := decide_eq_true c5
            clear c5
            by_cases c6 : x5_1 < (l1.length : Int)
            · rw [if_pos c6] at H
              have c6b0 : decide (x5_1 < (l1.length : Int)) = true := decide_eq_true c6
              clear c6
              by_cases c7 : (rd l0 x5_1) = (rd l1 x5_1)
              · rw [if_pos c7] at H
                have c7b0 : ((rd l0 x5_1) == (rd l1 x5_1)) = true := beq_iff_eq.mpr c7
                have c7b1 : ((rd l0 x5_1) != (rd l1 x5_1)) = false := bne_eq_false_iff_eq.mpr c7
                clear c7
                have H' := Aside0.mk H
                clear H
                have p105 : 0 ≤ (x5_1 : Int) := of_decide_eq_true (by first | (with_reducible assumption) | assumption)
                have q105 : x5_1 < (l0.length : Int) := of_decide_eq_true (by first | (with_reducible assumption) | assumption)
                obtain ⟨ad105, e105, hx105_0⟩ := Kd.at_int HR0.out x5_1 p105 q105
                cases e105
                replace p105 := eq_true p105
                replace q105 := eq_true q105
                have p106 : 0 ≤ (x5_1 : Int) := of_decide_eq_true (by first | (with_reducible assumption) | assumption)
                have q106 : x5_1 < (l1.length : Int) := of_decide_eq_true (by first | (with_reducible assumption) | assumption)
                obtain ⟨ad106, e106, hx106_0⟩ := Kd.at_int HR1.out x5_1 p106 q106
                cases e106
                replace p106 := eq_true p106
                replace q106 := eq_true q106
                go_wp2
                repeat (go_quiet (fail); try go_wp2)
                go_roundg k1
                case measure => have := HK1.out; omega
                case rel => exact ⟨(wrap64 (x5_1 + 1)), (by first | rfl | (simp; done) | (simp [*]; done)), H', ⟨by have := HK1.out; omega⟩, by repeat (first | exact Drawn0.refl _ | apply Drawn0.step)⟩
              · rw [if_neg c7] at H
                have c7b0 : ((rd l0 x5_1) == (rd l1 x5_1)) = false := beq_eq_false_iff_ne.mpr c7
                have c7b1 : ((rd l0 x5_1) != (rd l1 x5_1)) = true := bne_iff_ne.mpr c7
                obtain rfl := Option.some.inj H
                have p105 : 0 ≤ (x5_1 : Int) := of_decide_eq_true (by first | (with_reducible assumption) | assumption)
                have q105 : x5_1 < (l0.length : Int) := of_decide_eq_true (by first | (with_reducible assumption) | assumption)
                obtain ⟨ad105, e105, hx105_0⟩ := Kd.at_int HR0.out x5_1 p105 q105
                cases e105
                replace p105 := eq_true p105
                replace q105 := eq_true q105
                have p106 : 0 ≤ (x5_1 : Int) := of_decide_eq_true (by first | (with_reducible assumption) | assumption)
                have q106 : x5_1 < (l1.length : Int) := of_decide_eq_true (by first | (with_reducible assumption) | assumption)
                obtain ⟨ad106, e106, hx106_0⟩ := Kd.at_int HR1.out x5_1 p106 q106
                cases e106
                replace p106 := eq_true p106
                replace q106 := eq_true q106
                go_wp2
                repeat (go_quiet (fail); try go_wp2)
                go_ret
                exact ⟨by first | rfl | (simp; done) | (simp [*]; done), by repeat (first | exact Drawn0.refl _ | apply Drawn0.step)⟩
            · rw [if_neg c6] at H
              exact absurd H (by simp)
          · rw [if_neg c5] at H
            exact absurd H (by simp)
        · rw [if_neg c4] at H
          have c4b0 : decide (x5_1 < (l0.length : Int)) = false := decide_eq_false c4
          clear c4
          obtain rfl := Option.some.inj H
          go_wp2
          repeat (go_quiet (fail); try go_wp2)
          go_ret
          exact ⟨by first | rfl | (simp; done) | (simp [*]; done), by repeat (first | exact Drawn0.refl _ | apply Drawn0.step)⟩
  · rw [if_neg c3] at H
    have c3b0 : ((l0.length : Int) == (l1.length : Int)) = false := beq_eq_false_iff_ne.mpr c3
    have c3b1 : ((l0.length : Int) != (l1.length : Int)) = true := bne_iff_ne.mpr c3
    have c3b2 : (l0.length == l1.length) = false := by first | simpa using c3 | (simp at c3 ⊢; omega)
    obtain rfl := Option.some.inj H
    go_enter Try.func40, Try.ntmps40
    go_wp2
    repeat (go_quiet (fail); try go_wp2)
    go_ret
    exact ⟨by first | rfl | (simp; done) | (simp [*]; done), by repeat (first | exact Drawn0.refl _ | apply Drawn0.step)⟩

/-! ### cmp_Less_int: function 108 -/
def cmp_Less_int.f (a0 : Int) (a1 : Int) : Option (Bool) := (cmp_isNaN_int.f a0).bind fun t107 => (if t107 = true then ((cmp_isNaN_int.f a1).bind fun t108 => (if t108 = true then (some (decide (a0 < a1))) else (some true))) else (some (decide (a0 < a1))))
set_option maxHeartbeats 8000000 in
set_option maxRecDepth 100000 in
theorem cmp_Less_int.calls (a0 : Int) (a1 : Int) (r : Bool) (w : World) (h : cmp_Less_int.f a0 a1 = some r) :
    Calls Try.prog 108 #[.int .i64 a0, .int .i64 a1] w fun e w' => e = .returned (.bool r) ∧ Drawn0 w w' := by
  have H : ((cmp_isNaN_int.f a0).bind fun t107 => (if t107 = true then ((cmp_isNaN_int.f a1).bind fun t108 => (if t108 = true then (some (decide (a0 < a1))) else (some true))) else (some (decide (a0 < a1))))) = some r := h
  clear h
  replace H := Option.bind_eq_some_iff.mp H
  obtain ⟨t107, A30, H⟩ := H
  replace H : (if t107 = true then ((cmp_isNaN_int.f a1).bind fun t108 => (if t108 = true then (some (decide (a0 < a1))) else (some true))) else (some (decide (a0 < a1)))) = some r := H
  have A3 := Aside0.mk A30
  clear A30
  by_cases c4 : t107 = true
  · subst c4
    have H1 : ((cmp_isNaN_int.f a1).bind fun t108 => (if t108 = true then (some (decide (a0 < a1))) else (some true))) = some r := by first | (rw [if_pos rfl] at H; exact H) | (rw [if_pos trivial] at H; exact H)
    clear H
    have H := H1
    clear H1
    replace H := Option.bind_eq_some_iff.mp H
    obtain ⟨t108, A50, H⟩ := H
    replace H : (if t108 = true then (some (decide (a0 < a1))) else (some true)) = some r := H
    have A5 := Aside0.mk A50
    clear A50
    by_cases c6 : t108 = true
    · subst c6
      have H1 : (some (decide (a0 < a1))) = some r := by first | (rw [if_pos rfl] at H; exact H) | (rw [if_pos trivial] at H; exact H)
      clear H
      have H := H1
      clear H1
      obtain rfl := Option.some.inj H
      go_enter Try.func108, Try.ntmps108
      go_wp2_with (first | ((with_reducible refine gate_callee (f := 86) rfl ?_); refine goesL_ (some 6) rfl rfl Try.func86 (by kernel_rfl) rfl #[.int .i64 a0] rfl (by (try simp only [List.map_toArray, List.map_cons, List.map_nil]); first | done | rfl | (simp only [List.length_drop, List.length_take]; rfl)) ?_; (with_reducible refine (cmp_isNaN_int.calls a0 true _ A3.out).mono ?_); (try clear A3); rintro e w' ⟨rfl, ⟨nd, rfl⟩⟩; refine ⟨_, rfl, ?_⟩) | (go_at_call 86; (with_reducible refine (cmp_isNaN_int.calls a1 true _ A5.out).mono ?_); (try clear A5); rintro e w' ⟨rfl, ⟨nd, rfl⟩⟩))
      go_ret
      exact ⟨by first | rfl | (simp; done) | (simp [*]; done), by repeat (first | exact Drawn0.refl _ | apply Drawn0.step)⟩
    · replace c6 := Bool.eq_false_iff.mpr c6
      subst c6
      have H1 : (some true) = some r := by rw [if_neg (show ¬ (false = true) by decide)] at H; exact H
      clear H
      have H := H1
      clear H1
      obtain rfl := Option.some.inj H
      go_enter Try.func108, Try.ntmps108
      go_wp2_with (first | ((with_reducible refine gate_callee (f := 86) rfl ?_); refine goesL_ (some 6) rfl rfl Try.func86 (by kernel_rfl) rfl #[.int .i64 a0] rfl (by (try simp only [List.map_toArray, List.map_cons, List.map_nil]); first | done | rfl | (simp only [List.length_drop, List.length_take]; rfl)) ?_; (with_reducible refine (cmp_isNaN_int.calls a0 true _ A3.out).mono ?_); (try clear A3); rintro e w' ⟨rfl, ⟨nd, rfl⟩⟩; refine ⟨_, rfl, ?_⟩) | (go_at_call 86; (with_reducible refine (cmp_isNaN_int.calls a1 false _ A5.out).mono ?_); (try clear A5); rintro e w' ⟨rfl, ⟨nd, rfl⟩⟩))
      go_ret
      exact ⟨by first | rfl | (simp; done) | (simp [*]; done), by repeat (first | exact Drawn0.refl _ | apply Drawn0.step)⟩
  · replace c4 := Bool.eq_false_iff.mpr c4
    subst c4
    have H1 : (some (decide (a0 < a1))) = some r := by rw [if_neg (show ¬ (false = true) by decide)] at H; exact H
    clear H
    have H := H1
    clear H1
    obtain rfl := Option.some.inj H
    go_enter Try.func108, Try.ntmps108
    go_wp2_with (first | ((with_reducible refine gate_callee (f := 86) rfl ?_); refine goesL_ (some 6) rfl rfl Try.func86 (by kernel_rfl) rfl #[.int .i64 a0] rfl (by (try simp only [List.map_toArray, List.map_cons, List.map_nil]); first | done | rfl | (simp only [List.length_drop, List.length_take]; rfl)) ?_; (with_reducible refine (cmp_isNaN_int.calls a0 false _ A3.out).mono ?_); (try clear A3); rintro e w' ⟨rfl, ⟨nd, rfl⟩⟩; refine ⟨_, rfl, ?_⟩))
    go_ret
    exact ⟨by first | rfl | (simp; done) | (simp [*]; done), by repeat (first | exact Drawn0.refl _ | apply Drawn0.step)⟩

-- NOT PRINTED: function 126 (slices_xorshift_Next)

/-! ### pool_Gone: function 41 -/
section
open Go.Shelf Go.Proofs.Ytklngklmeanhcaa.Hand Go.Maps Go.Sort
theorem key_int (x : Int) (hx : (Lit.int .i64 x).wf = true) : WideAt.IsKeyLit (.int .i64 x) := (int_keyed Try.underlying3 : Keyed Try.prog 3).key (keyOf_int_mk (P := Try.prog) Try.underlying3 hx)
theorem has_seen (ids : List Int) (hw : ∀ y ∈ ids, (Lit.int .i64 y).wf = true) (x : Int) : has (seenD ids) (.int .i64 x) = decide (x ∈ ids) := by
  unfold seenD setOf
  rw [has_fold _ _ _ _ isMap_empty (fun y hy => by obtain ⟨a, ha, rfl⟩ := List.mem_map.1 hy; exact key_int a (hw a ha))]
  rw [Bool.eq_iff_iff]
  simp [has, Lit.sameKey]
/-- A map without some ids. -/
def delD (D : DataW Unit) (l : List Int) : DataW Unit := l.foldl (fun m x => m.del (.int .i64 x)) D
theorem delD_snoc (D : DataW Unit) (l : List Int) (x : Int) : delD D (l ++ [x]) = (delD D l).del (.int .i64 x) := by unfold delD; rw [List.foldl_append]; rfl
theorem has_delD (x : Int) : ∀ (l : List Int) (D : DataW Unit), has (delD D l) (.int .i64 x) = (has D (.int .i64 x) && !decide (x ∈ l))
  | [], D => by simp [delD]
  | y :: l, D => by
    have ih := has_delD x l (D.del (.int .i64 y))
    have e : delD D (y :: l) = delD (D.del (.int .i64 y)) l := rfl
    rw [e, ih]
    by_cases h : x = y
    · subst h; rw [has_del_same]; simp
    · rw [has_del_other (fun e : Lit.int .i64 x = .int .i64 y => h (by injection e))]
      simp [h]
/-- Ids met so far, when a map is ranged over. -/
def CollI (D0 : DataW Unit) (left : Lit → Bool) (ss : List Int) : Prop := ss.Nodup ∧ ∀ x, x ∈ ss ↔ (has D0 (.int .i64 x) = true ∧ left (.int .i64 x) = false)
theorem CollI.start (D0 : DataW Unit) : CollI D0 (has D0) [] := ⟨List.nodup_nil, fun x => by cases has D0 (.int .i64 x) <;> simp⟩
theorem CollI.step {D0 : DataW Unit} {left : Lit → Bool} {ss : List Int} (h : CollI D0 left ss) {x : Int} {y : DataW Unit} (hlk : left (.int .i64 x) = true) (hat : ∀ zd, D0.atKey (.int .i64 x) zd = y) : CollI D0 (fun z => left z && !z.sameKey (.int .i64 x)) (ss ++ [x]) := by
  have hhas : has D0 (.int .i64 x) = true := has_true_of_atKey hat
  have hnew : x ∉ ss := fun hx => by have := ((h.2 x).1 hx).2; rw [hlk] at this; cases this
  refine ⟨List.nodup_append.2 ⟨h.1, by simp, fun a ha b hb => by simp at hb; subst hb; exact fun e => hnew (e ▸ ha)⟩, fun y => ?_⟩
  by_cases hy : y = x
  · subst hy; simp [hhas, Lit.sameKey]
  · simp [h.2 y, hy, Lit.sameKey]
/-- What is in the one and not in the other, each once. -/
def onceL : List Int → List Int
  | [] => []
  | x :: l => if x ∈ onceL l then onceL l else x :: onceL l
theorem mem_once (y : Int) : ∀ l, y ∈ onceL l ↔ y ∈ l
  | [] => Iff.rfl
  | x :: l => by
    have ih := mem_once y l
    unfold onceL
    by_cases h : x ∈ onceL l
    · rw [if_pos h, List.mem_cons, ih]
      exact ⟨.inr, fun h1 => h1.elim (fun e => by subst e; exact ih.1 h) id⟩
    · rw [if_neg h, List.mem_cons, List.mem_cons, ih]
theorem nodup_once : ∀ l, (onceL l).Nodup
  | [] => List.nodup_nil
  | x :: l => by
    unfold onceL
    by_cases h : x ∈ onceL l
    · rw [if_pos h]; exact nodup_once l
    · rw [if_neg h]; exact List.nodup_cons.2 ⟨h, nodup_once l⟩
def goneL (a b : List S56) : List Int := ((onceL (idsL a)).filter fun x => !decide (x ∈ idsL b)).mergeSort fun x y => decide (x ≤ y)
theorem sortI_perm {l l' : List Int} (h : l.Perm l') : (l.mergeSort fun x y => decide (x ≤ y)) = l'.mergeSort fun x y => decide (x ≤ y) := by
  have s : ∀ l : List Int, (l.mergeSort fun x y => decide (x ≤ y)).Pairwise (fun x y => decide (x ≤ y) = true) := fun l => List.pairwise_mergeSort (fun a b c h1 h2 => by simp at *; omega) (fun a b => by simp; omega) l
  exact List.Perm.eq_of_pairwise (le := fun x y : Int => decide (x ≤ y) = true) (fun a b _ _ h1 h2 => by simp at h1 h2; omega) (s l) (s l') ((List.mergeSort_perm _ _).trans (h.trans (List.mergeSort_perm _ _).symm))
theorem gone_of (a b : List S56) (ss : List Int) (h1 : ss.Nodup) (h2 : ∀ x, x ∈ ss ↔ (x ∈ idsL a ∧ x ∉ idsL b)) : (ss.mergeSort fun x y => decide (x ≤ y)) = goneL a b := by
  refine sortI_perm ((List.perm_ext_iff_of_nodup h1 ((nodup_once _).filter _)).2 fun x => ?_)
  rw [h2, List.mem_filter, mem_once]
  simp
theorem stopG {p : Prop} (h : Go.RowKit.Hid p) : p := h
theorem gone_nums (n k : Nat) (hl : n ≤ 1000000) (h : k < n) : decide ((k : Int) < (n : Int)) = true ∧ (0 : Int) ≤ (k : Int) ∧ (k : Int) < (n : Int) ∧ wrap64 ((k : Int) + 1) = ((k + 1 : Nat) : Int) ∧ k < maxLen := check_nums n k hl h
set_option maxRecDepth 100000 in
set_option maxHeartbeats 8000000 in
theorem Gone_any (A1 A2 : Option Addr) (c1 c2 : Nat) (p q : List S56) (hp : p.length ≤ 1000000) (hq : q.length ≤ 1000000) (hwp : idsWf p = true) (hwq : idsWf q = true) (w : World) (hC1 : Kd.C k56 w A1 p.length p) (hC2 : Kd.C k56 w A2 q.length q) :
    Calls Try.prog 41 #[.slice A1 p.length c1, .slice A2 q.length c2] w fun e w' => ∃ v, e = .returned v ∧ Kd.R (Kd.int .i64) 3 w' w.heap.size (fun _ => True) v (goneL p q) ∧ Below w.heap.size w w' := by
  have hmm := @run_makeMap Try.prog
  have HC1 := Lib.hid hC1
  have HC2 := Lib.hid hC2
  have HP := Lib.hid hp
  have HQ := Lib.hid hq
  have HWP := Lib.hid hwp
  have HWQ := Lib.hid hwq
  clear hC1 hC2 hp hq hwp hwq
  have hown0 := World.ownsMap_made w Try.prog 3 (plainElem (H := Unit) Try.prog 4)
  have hb0 := below_alloc (Below.refl w.heap.size w) (.map #[] 0)
  have HO0 := Lib.hid hown0
  have HB0 := Lib.hid hb0
  clear hown0 hb0
  go_enter Try.func41, Try.ntmps41
  go_wp2
  go_loopw [15] (fun i wr => ∃ (k : Nat), k ≤ p.length ∧ i = .int .i64 k ∧ Aside0 (wr.ownsMap Try.prog 3 (plainElem Try.prog 4) w.heap.size k (seenD (idsL (p.take k)))) ∧ Aside0 (Below w.heap.size w wr))
    (fun i _ => p.length - (intOf i).toNat)
  case atStart => exact ⟨0, Nat.zero_le _, rfl, ⟨HO0.out⟩, ⟨HB0.out⟩⟩
  case round =>
    obtain ⟨k, hk, rfl, HO, HBr⟩ := hrel
    by_cases hlt : k < p.length
    · obtain ⟨ad, hA, c0, c1⟩ := at_T56 (Kd.C_below HC1.out HBr.out) (k : Int) (by omega) (by omega)
      subst hA
      have hid := idsL_take p k hlt
      rw [show rd_T56 p (k : Int) = p.getD k z56 from rfl] at c0 c1
      have hbw : (Lit.int .i64 (p.getD k z56).f0).wf = true := List.all_eq_true.1 HWP.out (p.getD k z56) (by simp [hlt])
      obtain ⟨b, hb⟩ : ∃ b, p.getD k z56 = b := ⟨_, rfl⟩
      rw [hb] at c0 c1 hbw hid
      rw [Int.toNat_natCast] at c0 c1
      obtain ⟨q1, q2, q3, hwk, hkm⟩ := check_nums p.length k HP.out hlt
      have HBW := Lib.hid HBr.out
      have HID := Lib.hid hid
      have HWB := Lib.hid hbw
      have HKM := Lib.hid hkm
      clear hb HBr hid hbw hkm
      obtain ⟨b0, b1⟩ := b
      go_upto_region 5 with (fail)
      have hbx := Blk.new wr 56 [.int .i64 b0, .int .i64 b1]
      have hb1 := below_alloc HBW.out (.cells #[.int .i64 b0, .int .i64 b1] 56)
      have ho1 := HO.out.alloc (.cells #[.int .i64 b0, .int .i64 b1] 56)
      obtain ⟨g5, hg5⟩ : ∃ g5, wr.heap.size = g5 := ⟨_, rfl⟩
      obtain ⟨W1, hW1⟩ : ∃ W1, (wr.alloc (.cells #[.int .i64 b0, .int .i64 b1] 56)) = W1 := ⟨_, rfl⟩
      rw [hg5] at hbx ⊢
      rw [hW1] at hbx hb1 ho1 ⊢
      clear hg5 hW1 c0 c1 HBW HO
      have c0 : W1.cell? ⟨g5, 0, none⟩ = some (.int .i64 b0) := hbx.cell 0
      have hkey := keyOf_int_mk (P := Try.prog) Try.underlying3 HWB.out
      have HB1 := Lib.hid hb1
      have HO1 := Lib.hid ho1
      have HKEY := Lib.hid hkey
      clear hb1 ho1 hbx hkey
      go_wp2_with (at_mapUpdate; refine wpList_mapUpdate_own _ rfl _ _ _ 87 rfl 3 4 (int_keyed Try.underlying3) Try.underlying87 (plainElem Try.prog 4) w.heap.size k _ rfl HO1.out HKM.out _ _ _ rfl rfl HKEY.out _ [] (plainElem_bool Try.underlying4 true) ?_; intro w4 hown4 hgrow4; have HO4 := Aside0.mk (show w4.ownsMap Try.prog 3 (plainElem Try.prog 4) w.heap.size (k + 1) (seenD (idsL (p.take (k + 1)))) from by rw [HID.out, seenD_snoc]; exact hown4); have HB4 := Aside0.mk (HB1.out.grown hgrow4 HB1.out.size (fun k e => by cases e; exact Nat.le_refl _)); clear hown4 hgrow4)
      go_roundw
      case rel => exact ⟨k + 1, Nat.succ_le_of_lt hlt, by rw [hwk], HO4, HB4⟩
      case measure =>
        rw [hwk]
        exact check_meas _ _ hlt
    · obtain rfl : k = p.length := Nat.le_antisymm hk (Nat.le_of_not_lt hlt)
      have q1 : decide ((p.length : Int) < (p.length : Int)) = false := decide_eq_false (by omega)
      have ho := HO.out
      rw [List.take_length] at ho
      have HO1 := Lib.hid ho
      have HB1 := Lib.hid HBr.out
      clear ho HO HBr
      go_wp2
      go_loopw [25] (fun i wr => ∃ (j : Nat), j ≤ q.length ∧ i = .int .i64 j ∧ Aside0 (wr.ownsMap Try.prog 3 (plainElem Try.prog 4) w.heap.size p.length (delD (seenD (idsL p)) (idsL (q.take j)))) ∧ Aside0 (Below w.heap.size w wr))
        (fun i _ => q.length - (intOf i).toNat)
      case atStart => exact ⟨0, Nat.zero_le _, rfl, ⟨HO1.out⟩, ⟨HB1.out⟩⟩
      case round =>
        obtain ⟨j, hj, rfl, HO, HBr⟩ := hrel
        by_cases hlt : j < q.length
        · obtain ⟨ad, hA, c0, c1⟩ := at_T56 (Kd.C_below HC2.out HBr.out) (j : Int) (by omega) (by omega)
          subst hA
          have hid := idsL_take q j hlt
          rw [show rd_T56 q (j : Int) = q.getD j z56 from rfl] at c0 c1
          have hbw : (Lit.int .i64 (q.getD j z56).f0).wf = true := List.all_eq_true.1 HWQ.out (q.getD j z56) (by simp [hlt])
          obtain ⟨b, hb⟩ : ∃ b, q.getD j z56 = b := ⟨_, rfl⟩
          rw [hb] at c0 c1 hbw hid
          rw [Int.toNat_natCast] at c0 c1
          clear q1
          obtain ⟨q1, q2, q3, hwk, hkm⟩ := check_nums q.length j HQ.out hlt
          have HBW := Lib.hid HBr.out
          have HID := Lib.hid hid
          have HWB := Lib.hid hbw
          clear hb HBr hid hbw hkm
          obtain ⟨b0, b1⟩ := b
          go_upto_region 10 with (fail)
          have hbx := Blk.new wr 56 [.int .i64 b0, .int .i64 b1]
          have hb1 := below_alloc HBW.out (.cells #[.int .i64 b0, .int .i64 b1] 56)
          have ho1 := HO.out.alloc (.cells #[.int .i64 b0, .int .i64 b1] 56)
          obtain ⟨g5, hg5⟩ : ∃ g5, wr.heap.size = g5 := ⟨_, rfl⟩
          obtain ⟨W1, hW1⟩ : ∃ W1, (wr.alloc (.cells #[.int .i64 b0, .int .i64 b1] 56)) = W1 := ⟨_, rfl⟩
          rw [hg5] at hbx ⊢
          rw [hW1] at hbx hb1 ho1 ⊢
          clear hg5 hW1 c0 c1 HBW HO
          have c0 : W1.cell? ⟨g5, 0, none⟩ = some (.int .i64 b0) := hbx.cell 0
          have hkey := keyOf_int_mk (P := Try.prog) Try.underlying3 HWB.out
          have HB2 := Lib.hid hb1
          have HO2 := Lib.hid ho1
          have HKEY := Lib.hid hkey
          clear hb1 ho1 hbx hkey
          go_wp2_with (at_delete; refine wpList_delete_own _ rfl _ _ 87 3 rfl 4 (int_keyed Try.underlying3) Try.underlying87 _ w.heap.size p.length _ rfl HO2.out _ _ rfl HKEY.out ?_; intro w4 hown4 hturn4; have HO4 := Aside0.mk (show w4.ownsMap Try.prog 3 (plainElem Try.prog 4) w.heap.size p.length (delD (seenD (idsL p)) (idsL (q.take (j + 1)))) from by rw [HID.out, delD_snoc]; exact hown4); have HB4 := Aside0.mk (HB2.out.grown hturn4.grown HB2.out.size (fun k e => by cases e; exact Nat.le_refl _)); clear hown4 hturn4)
          go_roundw
          case rel => exact ⟨j + 1, Nat.succ_le_of_lt hlt, by rw [hwk], HO4, HB4⟩
          case measure =>
            rw [hwk]
            exact check_meas _ _ hlt
        · obtain rfl : j = q.length := Nat.le_antisymm hj (Nat.le_of_not_lt hlt)
          have q2 : decide ((q.length : Int) < (q.length : Int)) = false := decide_eq_false (by omega)
          have ho := HO.out
          rw [List.take_length] at ho
          obtain ⟨D0, hD0⟩ : ∃ D0, delD (seenD (idsL p)) (idsL q) = D0 := ⟨_, rfl⟩
          rw [hD0] at ho
          have HD := Lib.hid hD0
          have HO2 := Lib.hid ho
          have HB2 := Lib.hid HBr.out
          clear ho HO HBr hD0
          go_wp2_with (at_range; refine wpList_range_own _ rfl _ 87 rfl 3 4 (int_keyed Try.underlying3) Try.underlying87 _ w.heap.size p.length _ rfl HO2.out ?_; intro w0 hrg0 hg0 hs0; have HRG := Lib.hid hrg0; have HG0 := Lib.hid hg0; have HS0 := Lib.hid hs0; clear hrg0 hg0 hs0)
          go_frame
          have hsz := HO2.out.size_le
          have HSZ := Lib.hid hsz
          have hb3 := HB2.out.grown HG0.out HB2.out.size (fun j hj => by cases hj)
          have HB3 := Lib.hid hb3
          clear hsz hb3
          obtain ⟨r0, hr0⟩ : ∃ r0, wr.heap.size = r0 := ⟨_, rfl⟩
          have HRB := Lib.hid (show w.heap.size ≤ r0 from by rw [← hr0]; exact HB2.out.size)
          rw [hr0] at HRG HS0 ⊢
          clear hr0
          go_loopw [10] (fun v w3 => ∃ (left : Lit → Bool) (cnt : Nat) (ss : List Int), Aside0 (w3.ranges Try.prog 3 (plainElem Try.prog 4) w.heap.size r0 p.length D0 left cnt) ∧ Aside0 (ss.length + cnt ≤ p.length) ∧ Aside0 (r0 + 1 ≤ w3.heap.size) ∧ Aside0 (w3.ownsRow (r0 + 1) 3 1 v ss.length (ss.map (Value.int .i64))) ∧ Aside0 (CollI D0 left ss) ∧ Aside0 (Below w.heap.size w w3))
            (fun _ w3 => w3.rangeLeft w.heap.size r0)
          case atStart => exact ⟨_, _, [], ⟨HRG.out⟩, ⟨by have := HSZ.out; simpa using this⟩, ⟨Nat.le_of_eq HS0.out.symm⟩, ⟨World.ownsRow_nil _ _ _ _⟩, ⟨CollI.start D0⟩, ⟨HB3.out⟩⟩
          case round =>
            obtain ⟨left, cnt, ss, HR, HCS, HSI, HROW, HCO, HBE⟩ := hrel
            have infoI : (Try.prog.info? 3).map (fun i => (i.zero, i.size, i.bytes)) = some (some (.int .i64 0), 1, 8) := by kernel_rfl
            obtain ⟨i0, hi, hz0, hz1, hz2⟩ := info_parts infoI
            clear infoI
            go_wp2_with (at_next; refine wpList_next_ranges _ rfl _ rfl 3 (int_keyed Try.underlying3) (plainElem Try.prog 4) (Value.int .i64) Value.bool (fun key kl h => by obtain ⟨x, hx, _⟩ := Maps.keyOf_int_inv Try.underlying3 h; exact ⟨x, hx⟩) (fun v y h => by obtain ⟨y', hy, _⟩ := plainElem_bool_inv Try.underlying4 h; exact ⟨y', hy⟩) w.heap.size r0 p.length D0 left cnt rfl HR.out (fun hc0 hl0 => stopG ?_) (fun x c kl yd w4 cnt2 hkey hlk hv hat hrg2 hlt2 hgr hsz2 hen => stopG ?_))
            · refine Lib.hid ?_
              have hmem : ∀ x, x ∈ ss ↔ (x ∈ idsL p ∧ x ∉ idsL q) := fun x => by
                rw [HCO.out.2 x, hl0, ← HD.out, has_delD, has_seen _ (fun y hy => by obtain ⟨b, hb, rfl⟩ := List.mem_map.1 hy; exact List.all_eq_true.1 HWP.out b hb)]
                simp
              have hgo := gone_of p q ss HCO.out.1 hmem
              have HGO := Lib.hid hgo
              have HBEE := Lib.hid HBE.out
              have HRW := Lib.hid HROW.out
              have hlen := HCS.out
              have hp6 := HP.out
              have hl6 : ss.length < 4611686018427387904 := by omega
              have HL6 := Lib.hid hl6
              clear hgo hmem hl0 HCO HCS HR hlen hp6 hl6 HROW HBE
              rcases HRW.out.2 with ⟨hv, hn⟩ | ⟨g, cap, cur, hv, hbase, hbb, h1, h2, h3, h4⟩
              · subst hv
                go_wp2_with (go_at_call 70; refine (Any.slices_Sort_int_none Try.srtI none 0 _).mono ?_; rintro e w6 ⟨rfl, rfl⟩)
                go_ret
                have hss : ss = [] := List.length_eq_zero_iff.1 (by first | exact hn.1 | exact hn | omega)
                refine ⟨_, rfl, ?_, HBEE.out⟩
                rw [← HGO.out, hss, List.mergeSort_nil]
                exact Kd.R_nil _ _ _ _ _
              · subst hv
                have hgl : g < wr.heap.size := (Array.getElem?_eq_some_iff.1 hbb).1
                have hH : Holds (Value.int .i64) wr g 0 ss.toArray := holds_of_blockI hbb (by simpa using h4)
                have HH := Lib.hid (Any.slices_Sort_int Try.srtI g 0 cap ss wr hH hgl HL6.out)
                go_wp2_with (go_at_call 70; refine HH.out.mono ?_; rintro e w6 ⟨rfl, nn, os, rfl⟩)
                go_ret
                have hts : (ss.mergeSort fun x y => decide (x ≤ y)).length = ss.length := List.length_mergeSort _
                have hrow := ownsRow_sortedI (n := nn) (os := os) hts hbase hbb h1 h2 h3
                have hbg : w.heap.size ≤ g := Nat.le_trans HRB.out (Nat.le_trans (Nat.le_succ r0) hbase)
                refine ⟨_, rfl, ?_, HBEE.out.grown (grownBy_sortedI _) HBEE.out.size (fun j hj => by cases hj; exact hbg)⟩
                rw [← HGO.out]
                rw [← hts] at hrow
                have hR : Kd.R (Kd.int .i64) 3 (grow (putRow (Value.int .i64) (Sort.ahead wr nn) g 0 (ss.mergeSort fun x y => decide (x ≤ y)).toArray) os) w.heap.size (fun _ => True) (.slice (some ⟨g, 0, none⟩) (ss.mergeSort fun x y => decide (x ≤ y)).length cap) (ss.mergeSort fun x y => decide (x ≤ y)) := Kd.R_lower (Kd.R_of_own hrow (fun _ _ => trivial)) (Nat.le_trans HRB.out (Nat.le_succ r0))
                rw [hts] at hR
                exact hR
            · refine Lib.hid ?_
              have HRG2 := Lib.hid hrg2
              have HLT2 := Lib.hid hlt2
              obtain ⟨x', ex, rfl, _⟩ := Maps.keyOf_int_inv Try.underlying3 hkey
              obtain rfl : x = x' := by injection ex
              have hrow2 := HROW.out.kept hgr (Or.inr (row_ne_iter HROW.out HR.out).symm)
              have hco := HCO.out.step hlk hat
              have hsi : r0 + 1 ≤ w4.heap.size := by rw [hsz2]; exact HSI.out
              have hbe := HBE.out.grown hgr HBE.out.size (fun j hj => by cases hj; exact HRB.out)
              have hcs : ss.length + 1 + cnt2 ≤ p.length := by have := HCS.out; omega
              have hp6 := HP.out
              have hl63 : ss.length + 1 ≤ maxLen := by unfold maxLen; omega
              have hl47 : (ss.length + 1) * 8 ≤ 140737488355328 := by omega
              have HROW2 := Lib.hid hrow2
              have HCO2 := Lib.hid hco
              have HSI2 := Lib.hid hsi
              have HBE2 := Lib.hid hbe
              have HCS2 := Lib.hid hcs
              have HL63 := Lib.hid hl63
              have HL47 := Lib.hid hl47
              clear hrow2 hco hsi hbe hcs hp6 hl63 hl47 hlt2 hrg2 hkey hlk hat ex hgr hsz2
              go_wp2_with (at_builtin; refine wpList_append_own _ rfl _ _ 62 rfl (r0 + 1) 3 i0 (.int .i64 0) 1 8 Try.underlying62 hi hz0 hz1 hz2 rfl (by decide) _ _ _ rfl (HROW2.out.alloc _) ⟨w4.heap.size, 0, none⟩ 1 1 [.int .i64 x] rfl rfl (cell_one_new _ _ _) (by simp [Value.oneCell']) HL63.out HL47.out (Nat.le_trans HSI2.out (by simp)) ?_; intro v' w5 hown' hg5 hnil5; have HOW := Lib.hid hown'; have HG5 := Lib.hid hg5; clear hown' hg5 hnil5; go_frame)
              have hlow : w.heap.size < r0 + 1 := Nat.lt_succ_of_le HRB.out
              have hrg3 := (HRG2.out.alloc (.cells #[.int .i64 x] 3)).kept HG5.out (row_ne_low HROW2.out hlow) (row_ne_low HROW2.out (Nat.lt_succ_self r0))
              have HRG3 := Aside0.mk hrg3
              have HSI3 := Aside0.mk (show r0 + 1 ≤ w5.heap.size from Nat.le_trans HSI2.out (Nat.le_trans (by simp) HG5.out.size))
              have HBE3 := Aside0.mk (((HBE2.out.alloc HBE2.out.size (.cells #[.int .i64 x] 3)).grown HG5.out (Nat.le_trans HBE2.out.size (by simp)) (fun j hj => Nat.le_trans (Nat.le_of_lt hlow) (HROW2.out.lt j hj).1)))
              clear hrg3 hlow
              go_roundw
              case rel => exact ⟨_, cnt2, ss ++ [x], HRG3, ⟨by have := HCS2.out; rw [List.length_append, List.length_singleton]; exact this⟩, HSI3, ⟨by have := HOW.out; simpa using this⟩, ⟨HCO2.out⟩, HBE3⟩
              case measure => rw [HRG3.out.left_eq, HR.out.left_eq]; exact HLT2.out
def pool_Gone.f (l0 : List S56) (l1 : List S56) : Option (List Int) := if (l0.length ≤ 1000000 ∧ l1.length ≤ 1000000) ∧ idsWf l0 = true ∧ idsWf l1 = true then some (goneL l0 l1) else none
theorem pool_Gone.calls (A0 : Option Addr) (c0 : Nat) (l0 : List S56) (A1 : Option Addr) (c1 : Nat) (l1 : List S56) (r : List Int) (w : World) (hr0 : Kd.C k56 w A0 l0.length l0) (hc0 : l0.length ≤ c0) (hr1 : Kd.C k56 w A1 l1.length l1) (hc1 : l1.length ≤ c1) (h : pool_Gone.f l0 l1 = some r) :
    Calls Try.prog 41 #[.slice A0 l0.length c0, .slice A1 l1.length c1] w fun e w' => ∃ v0_ : Value, e = .returned v0_ ∧ Kd.R (Kd.int .i64) 3 w' w.heap.size (fun _ => True) v0_ r ∧ Below w.heap.size w w' := by
  unfold pool_Gone.f at h
  by_cases hl : (l0.length ≤ 1000000 ∧ l1.length ≤ 1000000) ∧ idsWf l0 = true ∧ idsWf l1 = true
  · rw [if_pos hl] at h
    obtain rfl := Option.some.inj h
    exact Gone_any A0 A1 c0 c1 l0 l1 hl.1.1 hl.1.2 hl.2.1 hl.2.2 w hr0 hr1
  · rw [if_neg hl] at h
    exact absurd h (by simp)
end

/-! ### api_Backend_71: function 71 -/
def api_Backend_71.l0 : Nat → List (S56) → List (S56) → Int → Int → Option (Bool)
  | 0, _, _, _, _ => none
  | k + 1, x0, x1, x12, x13 => if x13 < x12 then (if 0 ≤ x13 then (if x13 < (x0.length : Int) then (if x13 < (x1.length : Int) then (if (!(((rd_T56 x0 x13).f0) == ((rd_T56 x1 x13).f0)) || (!(((rd_T56 x0 x13).f1) == ((rd_T56 x1 x13).f1)))) = true then (some false) else (api_Backend_71.l0 k x0 x1 x12 (wrap64 (x13 + 1)))) else (none)) else (none)) else (none)) else (some true)
def api_Backend_71.f (k : Nat) (l0 : List (S56)) (l1 : List (S56)) : Option (Bool) := if (l0.length : Int) = (l1.length : Int) then (api_Backend_71.l0 k l0 l1 (l0.length : Int) 0) else (some false)
theorem api_Backend_71.mono_l : ∀ k, (∀ y0 y1 y2 y3, LeO (api_Backend_71.l0 k y0 y1 y2 y3) (api_Backend_71.l0 (k + 1) y0 y1 y2 y3))
  | 0 => fun _ _ _ _ r h => by simp [api_Backend_71.l0] at h
  | k + 1 => by
    have ih0 := api_Backend_71.mono_l k
    · intro y0 y1 y2 y3
      unfold api_Backend_71.l0
      repeat' first
      | (with_reducible exact ih0 _ _ _ _)
      | (with_reducible exact LeO.refl _)
      | (with_reducible exact LeO.none _)
      | (with_reducible refine LeO.ite ?_ ?_)
      | (with_reducible refine LeO.bind ?_ (fun _ => ?_))
      | exact ih0 _ _ _ _
      | exact LeO.none _
      | refine LeO.ite ?_ ?_
      | refine LeO.bind ?_ (fun _ => ?_)
theorem api_Backend_71.mono : ∀ a0 a1 k, LeO (api_Backend_71.f k a0 a1) (api_Backend_71.f (k + 1) a0 a1) := by
  intro a0 a1 k
  have ih0 := api_Backend_71.mono_l k
  unfold api_Backend_71.f
  repeat' first
      | (with_reducible exact ih0 _ _ _ _)
      | (with_reducible exact LeO.refl _)
      | (with_reducible exact LeO.none _)
      | (with_reducible refine LeO.ite ?_ ?_)
      | (with_reducible refine LeO.bind ?_ (fun _ => ?_))
      | exact ih0 _ _ _ _
      | exact LeO.none _
      | refine LeO.ite ?_ ?_
      | refine LeO.bind ?_ (fun _ => ?_)
set_option maxHeartbeats 8000000 in
set_option maxRecDepth 100000 in
theorem api_Backend_71.calls (k : Nat) (A0 : Option Addr) (c0 : Nat) (l0 : List (S56)) (A1 : Option Addr) (c1 : Nat) (l1 : List (S56)) (r : Bool) (w : World) (hr0 : Kd.C k56 w A0 l0.length l0) (hc0 : l0.length ≤ c0) (hr1 : Kd.C k56 w A1 l1.length l1) (hc1 : l1.length ≤ c1) (h : api_Backend_71.f k l0 l1 = some r) :
    Calls Try.prog 71 #[.slice A0 l0.length c0, .slice A1 l1.length c1] w fun e w' => e = .returned (.bool r) ∧ Drawn0 w w' := by
  have hu56 := Try.underlying56
  have HR0 := Aside0.mk hr0
  have HC0 := Aside0.mk hc0
  clear hr0 hc0
  have HR1 := Aside0.mk hr1
  have HC1 := Aside0.mk hc1
  clear hr1 hc1
  have H : (if (l0.length : Int) = (l1.length : Int) then (api_Backend_71.l0 k l0 l1 (l0.length : Int) 0) else (some false)) = some r := h
  clear h
  by_cases c3 : (l0.length : Int) = (l1.length : Int)
  · rw [if_pos c3] at H
    have c3b0 : ((l0.length : Int) == (l1.length : Int)) = true := beq_iff_eq.mpr c3
    have c3b1 : ((l0.length : Int) != (l1.length : Int)) = false := bne_eq_false_iff_eq.mpr c3
    have c3b2 : (l0.length == l1.length) = true := by first | simpa using c3 | (simp at c3 ⊢; omega)
    clear c3
    have H' := Aside0.mk H
    clear H
    go_enter Try.func71, Try.ntmps71
    go_wp2
    repeat (go_quiet (fail); try go_wp2)
    go_loopg [13] k (fun kq v13 w' => ∃ (x13_1 : Int), v13 = .int .i64 x13_1 ∧ Aside0 (api_Backend_71.l0 kq l0 l1 (l0.length : Int) x13_1 = some r) ∧ Aside0 (kq ≤ k) ∧ Drawn0 w w')
    case atStart => exact ⟨(0), (by first | rfl | (simp; done) | (simp [*]; done)), H', ⟨Nat.le_refl _⟩, by repeat (first | exact Drawn0.refl _ | apply Drawn0.step)⟩
    case round =>
      clear H'
      try clear c1
      try clear p2
      try clear c3
      try clear c3b0
      try clear c3b1
      try clear c3b2
      obtain ⟨x13_1, rfl, HA, HK1, ⟨m1, rfl⟩⟩ := hrel
      cases gk with
      | zero => exact absurd HA.out (by simp [api_Backend_71.l0])
      | succ k1 =>
        have H := HA.out
        clear HA
        simp only [api_Backend_71.l0] at H
        by_cases c4 : x13_1 < (l0.length : Int)
        · rw [if_pos c4] at H
          have c4b0 : decide (x13_1 < (l0.length : Int)) = true := decide_eq_true c4
          clear c4
          by_cases c5 : 0 ≤ x13_1
          · rw [if_pos c5] at H
            have c5b0 : decide (0 ≤ x13_1) = true := decide_eq_true c5
            clear c5
            by_cases c6 : x13_1 < (l0.length : Int)
            · rw [if_pos c6] at H
              have c6b0 : decide (x13_1 < (l0.length : Int)) = true := decide_eq_true c6
              clear c6
              by_cases c7 : x13_1 < (l1.length : Int)
              · rw [if_pos c7] at H
                have c7b0 : decide (x13_1 < (l1.length : Int)) = true := decide_eq_true c7
                clear c7
                by_cases c8 : (!(((rd_T56 l0 x13_1).f0) == ((rd_T56 l1 x13_1).f0)) || (!(((rd_T56 l0 x13_1).f1) == ((rd_T56 l1 x13_1).f1)))) = true
                · rw [if_pos c8] at H
                  have c8b0 : (!(((rd_T56 l0 x13_1).f0) == ((rd_T56 l1 x13_1).f0)) || (!(((rd_T56 l0 x13_1).f1) == ((rd_T56 l1 x13_1).f1)))) = true := c8
                  clear c8
                  obtain rfl := Option.some.inj H
                  have p109 : 0 ≤ (x13_1 : Int) := of_decide_eq_true (by first | (with_reducible assumption) | assumption)
                  have q109 : x13_1 < (l0.length : Int) := of_decide_eq_true (by first | (with_reducible assumption) | assumption)
                  obtain ⟨ad109, e109, hx109_0, hx109_1⟩ := at_T56 HR0.out x13_1 p109 q109
                  cases e109
                  replace p109 := eq_true p109
                  replace q109 := eq_true q109
                  have p110 : 0 ≤ (x13_1 : Int) := of_decide_eq_true (by first | (with_reducible assumption) | assumption)
                  have q110 : x13_1 < (l1.length : Int) := of_decide_eq_true (by first | (with_reducible assumption) | assumption)
                  obtain ⟨ad110, e110, hx110_0, hx110_1⟩ := at_T56 HR1.out x13_1 p110 q110
                  cases e110
                  replace p110 := eq_true p110
                  replace q110 := eq_true q110
                  go_wp2
                  repeat (go_quiet (fail); try go_wp2)
                  go_ret
                  exact ⟨by first | rfl | (simp; done) | (simp [*]; done), by repeat (first | exact Drawn0.refl _ | apply Drawn0.step)⟩
                · rw [if_neg c8] at H
                  have c8b0 : (!(((rd_T56 l0 x13_1).f0) == ((rd_T56 l1 x13_1).f0)) || (!(((rd_T56 l0 x13_1).f1) == ((rd_T56 l1 x13_1).f1)))) = false := by simpa using c8
                  clear c8
                  have H' := Aside0.mk H
                  clear H
                  have p109 : 0 ≤ (x13_1 : Int) := of_decide_eq_true (by first | (with_reducible assumption) | assumption)
                  have q109 : x13_1 < (l0.length : Int) := of_decide_eq_true (by first | (with_reducible assumption) | assumption)
                  obtain ⟨ad109, e109, hx109_0, hx109_1⟩ := at_T56 HR0.out x13_1 p109 q109
                  cases e109
                  replace p109 := eq_true p109
                  replace q109 := eq_true q109
                  have p110 : 0 ≤ (x13_1 : Int) := of_decide_eq_true (by first | (with_reducible assumption) | assumption)
                  have q110 : x13_1 < (l1.length : Int) := of_decide_eq_true (by first | (with_reducible assumption) | assumption)
                  obtain ⟨ad110, e110, hx110_0, hx110_1⟩ := at_T56 HR1.out x13_1 p110 q110
                  cases e110
                  replace p110 := eq_true p110
                  replace q110 := eq_true q110
                  go_wp2
                  repeat (go_quiet (fail); try go_wp2)
                  go_roundg k1
                  case measure => have := HK1.out; omega
                  case rel => exact ⟨(wrap64 (x13_1 + 1)), (by first | rfl | (simp; done) | (simp [*]; done)), H', ⟨by have := HK1.out; omega⟩, by repeat (first | exact Drawn0.refl _ | apply Drawn0.step)⟩
              · rw [if_neg c7] at H
                exact absurd H (by simp)
            · rw [if_neg c6] at H
              exact absurd H (by simp)
          · rw [if_neg c5] at H
            exact absurd H (by simp)
        · rw [if_neg c4] at H
          have c4b0 : decide (x13_1 < (l0.length : Int)) = false := decide_eq_false c4
          clear c4
          obtain rfl := Option.some.inj H
          go_wp2
          repeat (go_quiet (fail); try go_wp2)
          go_ret
          exact ⟨by first | rfl | (simp; done) | (simp [*]; done), by repeat (first | exact Drawn0.refl _ | apply Drawn0.step)⟩
  · rw [if_neg c3] at H
    have c3b0 : ((l0.length : Int) == (l1.length : Int)) = false := beq_eq_false_iff_ne.mpr c3
    have c3b1 : ((l0.length : Int) != (l1.length : Int)) = true := bne_iff_ne.mpr c3
    have c3b2 : (l0.length == l1.length) = false := by first | simpa using c3 | (simp at c3 ⊢; omega)
    obtain rfl := Option.some.inj H
    go_enter Try.func71, Try.ntmps71
    go_wp2
    repeat (go_quiet (fail); try go_wp2)
    go_ret
    exact ⟨by first | rfl | (simp; done) | (simp [*]; done), by repeat (first | exact Drawn0.refl _ | apply Drawn0.step)⟩

/-! ### pool_Same: function 45 -/
def pool_Same.f (k : Nat) (l0 : List (S56)) (l1 : List (S56)) : Option (Bool) := (api_Backend_71.f k l0 l1).bind fun t111 => (some t111)
theorem pool_Same.mono : ∀ a0 a1 k, LeO (pool_Same.f k a0 a1) (pool_Same.f (k + 1) a0 a1) := by
  intro a0 a1 k
  unfold pool_Same.f
  repeat' first
      | (with_reducible exact api_Backend_71.mono _ _ _)
      | (with_reducible exact LeO.refl _)
      | (with_reducible exact LeO.none _)
      | (with_reducible refine LeO.ite ?_ ?_)
      | (with_reducible refine LeO.bind ?_ (fun _ => ?_))
      | exact api_Backend_71.mono _ _ _
      | exact LeO.none _
      | refine LeO.ite ?_ ?_
      | refine LeO.bind ?_ (fun _ => ?_)
set_option maxHeartbeats 8000000 in
set_option maxRecDepth 100000 in
theorem pool_Same.calls (k : Nat) (A0 : Option Addr) (c0 : Nat) (l0 : List (S56)) (A1 : Option Addr) (c1 : Nat) (l1 : List (S56)) (r : Bool) (w : World) (hr0 : Kd.C k56 w A0 l0.length l0) (hc0 : l0.length ≤ c0) (hr1 : Kd.C k56 w A1 l1.length l1) (hc1 : l1.length ≤ c1) (h : pool_Same.f k l0 l1 = some r) :
    Calls Try.prog 45 #[.slice A0 l0.length c0, .slice A1 l1.length c1] w fun e w' => e = .returned (.bool r) ∧ Drawn0 w w' := by
  have HR0 := Aside0.mk hr0
  have HC0 := Aside0.mk hc0
  clear hr0 hc0
  have HR1 := Aside0.mk hr1
  have HC1 := Aside0.mk hc1
  clear hr1 hc1
  have H : ((api_Backend_71.f k l0 l1).bind fun t111 => (some t111)) = some r := h
  clear h
  replace H := Option.bind_eq_some_iff.mp H
  obtain ⟨t111, A30, H⟩ := H
  replace H : (some t111) = some r := H
  have A3 := Aside0.mk A30
  clear A30
  obtain rfl := Option.some.inj H
  go_enter Try.func45, Try.ntmps45
  go_wp2_with (first | ((with_reducible refine gate_callee (f := 71) rfl ?_); refine goesL_ (some 7) rfl rfl Try.func71 (by kernel_rfl) rfl #[.slice A0 l0.length c0, .slice A1 l1.length c1] rfl (by (try simp only [List.map_toArray, List.map_cons, List.map_nil]); first | done | rfl | (simp only [List.length_drop, List.length_take]; rfl)) ?_; (with_reducible refine (api_Backend_71.calls k _ _ l0 _ _ l1 t111 _ ?side1 ?side2 ?side3 ?side4 A3.out).mono ?_); (case side1 => repeat (first | exact HR0.out | (with_reducible refine Kd.C_alloc ?_ _) | (with_reducible refine Kd.C_drewN ?_ _) | (with_reducible refine Kd.C_drew ?_))); (case side2 => exact HC0.out); (case side3 => repeat (first | exact HR1.out | (with_reducible refine Kd.C_alloc ?_ _) | (with_reducible refine Kd.C_drewN ?_ _) | (with_reducible refine Kd.C_drew ?_))); (case side4 => exact HC1.out); (try clear A3); rintro e w' ⟨rfl, ⟨nd, rfl⟩⟩; refine ⟨_, rfl, ?_⟩))
  go_ret
  exact ⟨by first | rfl | (simp; done) | (simp [*]; done), by repeat (first | exact Drawn0.refl _ | apply Drawn0.step)⟩

end Go.Proofs.Ytklngklmeanhcaa.P
