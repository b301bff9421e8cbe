/- Each Go function that the laws reach, as a plain function, with the proof that the machine's call comes to what it says; of a law: its row. Made by a program of this seat (wip/hp.py, over the print). -/
import Derived.Test.YtklngklmeanhcaaPx0
import Derived.Test.YtklngklmeanhcaaPx1
import Derived.Test.YtklngklmeanhcaaPx4
namespace Go.Proofs.Ytklngklmeanhcaa.P
open Go.RowKit Go.Proofs.YtklngklmeanhcaaW.PrintWords Go.Proofs.YtklngklmeanhcaaW.PrintLast Go.Proofs.YtklngklmeanhcaaW.PrintMore
attribute [local go_sem] max2_int min2_int max_two min_two max_three min_three max_four min_four   -- for this text's walks alone
set_option linter.unusedVariables false
set_option linter.unusedSimpArgs false

/-! ### gangplankref16_New: function 17 -/
def gangplankref16_New.f (a0 : Int) : Option ((List (S84))) := if 0 ≤ (mx 0 (mn a0 8)) then (if (mx 0 (mn a0 8) : Int).toNat ≤ 8796093022208 then (some (List.replicate (mx 0 (mn a0 8) : Int).toNat z84)) else (none)) else (none)
set_option maxHeartbeats 8000000 in
set_option maxRecDepth 100000 in
theorem gangplankref16_New.calls (a0 : Int) (r : List (S84)) (w : World) (h : gangplankref16_New.f a0 = some r) :
    Calls Try.prog 17 #[.int .i64 a0] w fun e w' => ∃ v0_ : Value, e = .returned (v0_) ∧ Kd.S k84 84 w' w.heap.size (fun _ => True) v0_ r ∧ Below w.heap.size w w' := by
  have HB := Aside0.mk (Below.refl w.heap.size w)
  have H : (if 0 ≤ (mx 0 (mn a0 8)) then (if (mx 0 (mn a0 8) : Int).toNat ≤ 8796093022208 then (some (List.replicate (mx 0 (mn a0 8) : Int).toNat z84)) else (none)) else (none)) = some r := h
  clear h
  obtain ⟨ji2, hji2⟩ : ∃ j_ : Int, (mn a0 8) = j_ := ⟨_, rfl⟩
  replace H : (if 0 ≤ (mx 0 (ji2)) then (if (mx 0 (ji2) : Int).toNat ≤ 8796093022208 then (some (List.replicate (mx 0 (ji2) : Int).toNat z84)) else (none)) else (none)) = some r := by first | (rw [hji2] at H; exact H) | (simp only [hji2] at H ⊢; exact H)
  (try (have hji2h : ji2 ≤ 8 := by (rw [← hji2]; unfold mn; (repeat' split) <;> omega)))
  (try (have hji2g : ji2 ≤ 64 := by omega))
  have hji2_ : (if 8 < a0 then 8 else a0) = ji2 := hji2
  obtain ⟨ji3, hji3⟩ : ∃ j_ : Int, (mx 0 (ji2)) = j_ := ⟨_, rfl⟩
  replace H : (if 0 ≤ (ji3) then (if (ji3 : Int).toNat ≤ 8796093022208 then (some (List.replicate (ji3 : Int).toNat z84)) else (none)) else (none)) = some r := by first | (rw [hji3] at H; exact H) | (simp only [hji3] at H ⊢; exact H)
  have hji3_ : (if 0 < (ji2) then (ji2) else 0) = ji3 := hji3
  by_cases c4 : 0 ≤ (ji3)
  · rw [if_pos c4] at H
    have c4b0 := eq_true c4
    have c4b1 : decide (0 ≤ (ji3)) = true := decide_eq_true c4
    clear c4
    by_cases c5 : (ji3 : Int).toNat ≤ 8796093022208
    · rw [if_pos c5] at H
      have c5b0 := eq_true c5
      have c5b1 : decide ((ji3 : Int).toNat ≤ 8796093022208) = true := decide_eq_true c5
      clear c5
      obtain ⟨y122, hy122⟩ : ∃ y_ : List (S84), y_ = (List.replicate (ji3 : Int).toNat z84) := ⟨_, rfl⟩
      replace H : (some y122) = some r := by first | (rw [hy122]; with_reducible exact H) | (have H2_ := (Option.bind_some _ _).symm.trans H; rw [hy122]; with_reducible exact H2_) | (have H2_ := (Option.bind_some _ _).symm.trans H; with_reducible exact H2_) | with_reducible exact H | (rw [hy122]; exact H) | exact H
      have Ny122 := Aside0.mk hy122
      clear hy122
      obtain rfl := Option.some.inj H
      go_enter Try.func17, Try.ntmps17
      go_wp2_with (first | ((with_reducible refine gate_dst (N := 6) rfl ?_); refine Kd.S_make k84 _ 84 rfl (N := 6) rfl 28 _ _ rfl ji3 rfl rfl Try.underlying28 (.agg #[(.int .i64 0), (.slice none 0 0)]) 32 info84 rfl (by decide) (by omega) z84 (ok := fun _ => True) (okp := fun _ => True) (k84_mkM _ _ _ z84 (Kd.R_nil _ _ _ _ _)) (fun _ hk => hk) trivial (of_decide_eq_true (by first | (with_reducible assumption) | assumption)) (Nat.le_trans (Nat.mul_le_mul_right _ (of_decide_eq_true (by first | (with_reducible assumption) | assumption) : ji3.toNat ≤ 8796093022208)) (by omega)) (Below.refl _ _) (Nat.le_refl _) ?_; intro v123 w6 ho7 hb hg_ hnew_; clear hg_ hnew_; (first | rw [← Ny122.out] at ho7 | (simp only [Int.reduceToNat] at ho7; rw [← Ny122.out] at ho7)); have n0_ := Aside0.mk (Kd.S_lower ho7 (below_size (by repeat (first | (with_reducible first | exact HB.out | apply below_alloc | apply pw_below_drewN | apply below_drew1) | exact HB.out)))); have n1_ := Aside0.mk (below_step (by repeat (first | (with_reducible first | exact HB.out | apply below_alloc | apply pw_below_drewN | apply below_drew1) | exact HB.out)) hb); clear HB; have HO124 := n0_; have HB := n1_; clear n0_ n1_; clear hb ho7))
      go_ret
      exact ⟨_, by first | rfl | (simp [errW_none, errW_some] <;> rfl) | (simp only [← hji2, ← hji3]; first | rfl | (simp [errW_none, errW_some] <;> rfl)) | (simp [*, errW_none, errW_some] <;> rfl), by (with_reducible repeat (first | apply Kd.S_alloc | apply Kd.S_drewN | apply Kd.S_drew)); exact HO124.out, by repeat (first | (with_reducible first | exact HB.out | apply below_alloc | apply pw_below_drewN | apply below_drew1) | exact HB.out)⟩
    · rw [if_neg c5] at H
      exact absurd H (by simp)
  · rw [if_neg c4] at H
    exact absurd H (by simp)

/-! ### gangplanklaw16_do: function 18 -/
section
open Go.Shelf Go.Proofs.Ytklngklmeanhcaa.Hand
/-- What an act makes of slots, and what it tells. -/
def actS (st : List (Option (Option (List S56)))) (k i : Int) (p : List S56) : List (Option (Option (List S56))) := if k = 0 then putS st i (some none) else if k = 1 then fillS st i p else putS st i none
def actB (st : List (Option (Option (List S56)))) (k i : Int) (p : List S56) : Bool := if k = 0 then inS i st.length else if k = 1 then fillB st i p else inS i st.length
set_option maxRecDepth 100000 in
set_option maxHeartbeats 4000000 in
theorem do16_any (qs ss m : Nat) (st : List (Option (Option (List S56)))) (k i : Int) (A : Option Addr) (c : Nat) (p : List S56) (hp : p.length ≤ 1000) (hpc : p.length ≤ c) (hwf : idsWf p = true) (W : World) (hS : Sl W qs ss m st) (hC : Kd.C k56 W A p.length p) :
    Calls Try.prog 18 #[.pointer (some ⟨qs, 0, none⟩), .agg #[.int .i64 k, .int .i64 i, .slice A p.length c]] W fun e W' => e = .returned (.bool (actB st k i p)) ∧ Sl W' qs ss m (actS st k i p) ∧ KeptB ss W W' := by
  have hl := hS.hl
  have hS := hS.below (below_alloc (Below.refl W.heap.size W) (.cells #[.int .i64 k, .int .i64 i, .slice A p.length c] 33))
  have hC := Kd.C_alloc hC (.cells #[.int .i64 k, .int .i64 i, .slice A p.length c] 33)
  have HK := Lib.hid (KeptB.of_below (ss := ss) (below_alloc (Below.refl W.heap.size W) (.cells #[.int .i64 k, .int .i64 i, .slice A p.length c] 33)))
  by_cases h0 : k = 0
  · have HC := Lib.hid (BeginS_any qs ss m st i _ hS)
    have eb : actB st k i p = inS i m := by unfold actB; rw [if_pos h0, hl]
    have es : actS st k i p = putS st i (some none) := by unfold actS; rw [if_pos h0]
    have e0 : (k == 0) = true := beq_iff_eq.mpr h0
    rw [eb, es]
    clear hS hC hl h0 eb es hwf hp hpc
    go_enter Try.func18, Try.ntmps18
    go_wp2_with (go_at_call 27; refine HC.out.mono ?_; rintro e w1 ⟨rfl, h1, h2⟩; have H1 := Lib.hid h1; have H2 := Lib.hid h2; clear h1 h2)
    go_ret
    exact ⟨rfl, H1.out, HK.out.trans H2.out⟩
  by_cases h1 : k = 1
  · have HC := Lib.hid (FillS_any qs ss m st i A c p hp hpc hwf _ hS hC)
    have eb : actB st k i p = fillB st i p := by unfold actB; rw [if_neg h0, if_pos h1]
    have es : actS st k i p = fillS st i p := by unfold actS; rw [if_neg h0, if_pos h1]
    have e0 : (k == 0) = false := beq_eq_false_iff_ne.mpr h0
    have e1 : (k == 1) = true := beq_iff_eq.mpr h1
    rw [eb, es]
    clear hS hC hl h0 h1 eb es hwf hp hpc
    go_enter Try.func18, Try.ntmps18
    go_wp2_with (go_at_call 28; refine HC.out.mono ?_; rintro e w1 ⟨rfl, h1, h2⟩; have H1 := Lib.hid h1; have H2 := Lib.hid h2; clear h1 h2)
    go_ret
    exact ⟨rfl, H1.out, HK.out.trans H2.out⟩
  · have HC := Lib.hid (SpoilS_any qs ss m st i _ hS)
    have eb : actB st k i p = inS i m := by unfold actB; rw [if_neg h0, if_neg h1, hl]
    have es : actS st k i p = putS st i none := by unfold actS; rw [if_neg h0, if_neg h1]
    have e0 : (k == 0) = false := beq_eq_false_iff_ne.mpr h0
    have e1 : (k == 1) = false := beq_eq_false_iff_ne.mpr h1
    rw [eb, es]
    clear hS hC hl h0 h1 eb es hwf hp hpc
    go_enter Try.func18, Try.ntmps18
    go_wp2_with (go_at_call 30; refine HC.out.mono ?_; rintro e w1 ⟨rfl, h1, h2⟩; have H1 := Lib.hid h1; have H2 := Lib.hid h2; clear h1 h2)
    go_ret
    exact ⟨rfl, H1.out, HK.out.trans H2.out⟩
theorem actS_len (st : List (Option (Option (List S56)))) (k i : Int) (p : List S56) : (actS st k i p).length = st.length := by
  unfold actS fillS putS
  repeat' split
  all_goals first | rfl | exact List.length_set
/-- Of the slot j an act at another slot changes nothing. -/
theorem actS_far (st : List (Option (Option (List S56)))) (k i : Int) (p : List S56) (j : Int) (hj : 0 ≤ j) (h : i ≠ j) : (actS st k i p).getD j.toNat none = st.getD j.toNat none := by
  have hs : ∀ x, inS i st.length = true → (st.set i.toNat x).getD j.toNat none = st.getD j.toNat none := fun x hi => by
    have h2 := of_decide_eq_true hi
    rw [List.getD_eq_getElem?_getD, List.getElem?_set_ne (by omega), ← List.getD_eq_getElem?_getD]
  unfold actS fillS putS
  repeat' split
  all_goals first | rfl | (apply hs; assumption) | (apply hs; rename_i hf; unfold fillB at hf; exact (Bool.and_eq_true_iff.1 hf).1)
theorem few_set {st : List (Option (Option (List S56)))} (h : FewS st) (i : Nat) (x : Option (Option (List S56))) (hx : ∀ p, x = some (some p) → p.length ≤ 1000) : FewS (st.set i x) := fun j p hp => by
  rw [List.getD_eq_getElem?_getD, List.getElem?_set] at hp
  split at hp
  · split at hp
    · exact hx p hp
    · cases hp
  · rw [← List.getD_eq_getElem?_getD] at hp
    exact h j p hp
theorem actS_few {st : List (Option (Option (List S56)))} (h : FewS st) (k i : Int) (p : List S56) (hp : p.length ≤ 1000) : FewS (actS st k i p) := by
  unfold actS fillS putS
  repeat' split
  all_goals first | exact h | exact few_set h _ _ (fun q hq => by cases hq <;> exact hp)
theorem few_none (m : Nat) : FewS (List.replicate m none) := fun i p h => by
  rw [List.getD_eq_getElem?_getD, List.getElem?_replicate] at h
  split at h <;> cases h
end

/-! ### gangplankref08_Find: function 44 -/
def gangplankref08_Find.l0 : Nat → List (S56) → Int → Int → Option (Int)
  | 0, _, _, _ => none
  | k + 1, x0, x1, x5 => if x5 < (x0.length : Int) then (if 0 ≤ x5 then (if ((rd_T56 x0 x5).f0) = x1 then (some x5) else (gangplankref08_Find.l0 k x0 x1 (wrap64 (x5 + 1)))) else (none)) else (some (-1))
def gangplankref08_Find.f (k : Nat) (l0 : List (S56)) (a1 : Int) : Option (Int) := gangplankref08_Find.l0 k l0 a1 0
theorem gangplankref08_Find.mono_l : ∀ k, (∀ y0 y1 y2, LeO (gangplankref08_Find.l0 k y0 y1 y2) (gangplankref08_Find.l0 (k + 1) y0 y1 y2))
  | 0 => fun _ _ _ r h => by simp [gangplankref08_Find.l0] at h
  | k + 1 => by
    have ih0 := gangplankref08_Find.mono_l k
    · intro y0 y1 y2
      unfold gangplankref08_Find.l0
      repeat' first
      | (with_reducible exact ih0 _ _ _)
      | (with_reducible exact LeO.refl _)
      | (with_reducible exact LeO.none _)
      | (with_reducible refine LeO.ite ?_ ?_)
      | (with_reducible refine LeO.bind ?_ (fun _ => ?_))
      | exact ih0 _ _ _
      | exact LeO.none _
      | refine LeO.ite ?_ ?_
      | refine LeO.bind ?_ (fun _ => ?_)
theorem gangplankref08_Find.mono : ∀ a0 a1 k, LeO (gangplankref08_Find.f k a0 a1) (gangplankref08_Find.f (k + 1) a0 a1) := by
  intro a0 a1 k
  have ih0 := gangplankref08_Find.mono_l k
  unfold gangplankref08_Find.f
  repeat' first
      | (with_reducible exact ih0 _ _ _)
      | (with_reducible exact LeO.refl _)
      | (with_reducible exact LeO.none _)
      | (with_reducible refine LeO.ite ?_ ?_)
      | (with_reducible refine LeO.bind ?_ (fun _ => ?_))
      | exact ih0 _ _ _
      | exact LeO.none _
      | refine LeO.ite ?_ ?_
      | refine LeO.bind ?_ (fun _ => ?_)
set_option maxHeartbeats 8000000 in
set_option maxRecDepth 100000 in
theorem gangplankref08_Find.calls (k : Nat) (A0 : Option Addr) (c0 : Nat) (l0 : List (S56)) (a1 : Int) (r : Int) (w : World) (hr0 : Kd.C k56 w A0 l0.length l0) (hc0 : l0.length ≤ c0) (h : gangplankref08_Find.f k l0 a1 = some r) :
    Calls Try.prog 44 #[.slice A0 l0.length c0, .int .i64 a1] w fun e w' => e = .returned (.int .i64 r) ∧ Drawn0 w w' := by
  have HR0 := Aside0.mk hr0
  have HC0 := Aside0.mk hc0
  clear hr0 hc0
  have H : (gangplankref08_Find.l0 k l0 a1 0) = some r := h
  clear h
  have H' := Aside0.mk H
  clear H
  go_enter Try.func44, Try.ntmps44
  go_wp2
  go_loopg [5] k (fun kq v5 w' => ∃ (x5_1 : Int), v5 = .int .i64 x5_1 ∧ Aside0 (gangplankref08_Find.l0 kq l0 a1 x5_1 = some r) ∧ Aside0 (kq ≤ k) ∧ Drawn0 w w')
  case atStart => exact ⟨(0), (by first | rfl | (simp; done) | (simp [*]; done)), H', ⟨Nat.le_refl _⟩, by repeat (first | exact Drawn0.refl _ | apply Drawn0.step)⟩
  case round =>
    clear H'
    try clear p2
    obtain ⟨x5_1, rfl, HA, HK1, ⟨m1, rfl⟩⟩ := hrel
    cases gk with
    | zero => exact absurd HA.out (by simp [gangplankref08_Find.l0])
    | succ k1 =>
      have H := HA.out
      clear HA
      simp only [gangplankref08_Find.l0] at H
      by_cases c3 : x5_1 < (l0.length : Int)
      · rw [if_pos c3] at H
        have c3b0 : decide (x5_1 < (l0.length : Int)) = true := decide_eq_true c3
        clear c3
        by_cases c4 : 0 ≤ x5_1
        · rw [if_pos c4] at H
          have c4b0 : decide (0 ≤ x5_1) = true := decide_eq_true c4
          clear c4
          by_cases c5 : ((rd_T56 l0 x5_1).f0) = a1
          · rw [if_pos c5] at H
            have c5b0 : (((rd_T56 l0 x5_1).f0) == a1) = true := beq_iff_eq.mpr c5
            have c5b1 : (((rd_T56 l0 x5_1).f0) != a1) = false := bne_eq_false_iff_eq.mpr c5
            clear c5
            obtain rfl := Option.some.inj H
            have p125 : 0 ≤ (x5_1 : Int) := of_decide_eq_true (by first | (with_reducible assumption) | assumption)
            have q125 : x5_1 < (l0.length : Int) := of_decide_eq_true (by first | (with_reducible assumption) | assumption)
            obtain ⟨ad125, e125, hx125_0, hx125_1⟩ := at_T56 HR0.out x5_1 p125 q125
            cases e125
            replace p125 := eq_true p125
            replace q125 := eq_true q125
            go_wp2
            go_ret
            exact ⟨by first | rfl | (simp; done) | (simp [*]; done), by repeat (first | exact Drawn0.refl _ | apply Drawn0.step)⟩
          · rw [if_neg c5] at H
            have c5b0 : (((rd_T56 l0 x5_1).f0) == a1) = false := beq_eq_false_iff_ne.mpr c5
            have c5b1 : (((rd_T56 l0 x5_1).f0) != a1) = true := bne_iff_ne.mpr c5
            have H' := Aside0.mk H
            clear H
            have p125 : 0 ≤ (x5_1 : Int) := of_decide_eq_true (by first | (with_reducible assumption) | assumption)
            have q125 : x5_1 < (l0.length : Int) := of_decide_eq_true (by first | (with_reducible assumption) | assumption)
            obtain ⟨ad125, e125, hx125_0, hx125_1⟩ := at_T56 HR0.out x5_1 p125 q125
            cases e125
            replace p125 := eq_true p125
            replace q125 := eq_true q125
            go_wp2
            go_roundg k1
            case measure => have := HK1.out; omega
            case rel => exact ⟨(wrap64 (x5_1 + 1)), (by first | rfl | (simp; done) | (simp [*]; done)), H', ⟨by have := HK1.out; omega⟩, by repeat (first | exact Drawn0.refl _ | apply Drawn0.step)⟩
        · rw [if_neg c4] at H
          exact absurd H (by simp)
      · rw [if_neg c3] at H
        have c3b0 : decide (x5_1 < (l0.length : Int)) = false := decide_eq_false c3
        clear c3
        obtain rfl := Option.some.inj H
        go_wp2
        go_ret
        exact ⟨by first | rfl | (simp; done) | (simp [*]; done), by repeat (first | exact Drawn0.refl _ | apply Drawn0.step)⟩

/-! ### gangplankref08_Check: function 43 -/
def gangplankref08_Check.l0 : Nat → List (S56) → Int → Option (Int)
  | 0, _, _ => none
  | k + 1, x0, x3 => if x3 < (x0.length : Int) then (if 0 ≤ x3 then (if ((rd_T56 x0 x3).f0) < 1 then (some 10) else (if ((rd_T56 x0 x3).f0) > 65535 then (some 10) else (if ((rd_T56 x0 x3).f1) < 1 then (some 10) else (if ((rd_T56 x0 x3).f1) > 16 then (some 10) else ((gangplankref08_Find.f k x0 ((rd_T56 x0 x3).f0)).bind fun t128 => (if t128 = x3 then (gangplankref08_Check.l0 k x0 (wrap64 (x3 + 1))) else (some 10))))))) else (none)) else (some 0)
def gangplankref08_Check.f (k : Nat) (l0 : List (S56)) : Option (Int) := if (l0.length : Int) > 32 then (some 10) else (gangplankref08_Check.l0 k l0 0)
theorem gangplankref08_Check.mono_l : ∀ k, (∀ y0 y1, LeO (gangplankref08_Check.l0 k y0 y1) (gangplankref08_Check.l0 (k + 1) y0 y1))
  | 0 => fun _ _ r h => by simp [gangplankref08_Check.l0] at h
  | k + 1 => by
    have ih0 := gangplankref08_Check.mono_l k
    · intro y0 y1
      unfold gangplankref08_Check.l0
      repeat' first
      | (with_reducible exact ih0 _ _)
      | (with_reducible exact gangplankref08_Find.mono _ _ _)
      | (with_reducible exact LeO.refl _)
      | (with_reducible exact LeO.none _)
      | (with_reducible refine LeO.ite ?_ ?_)
      | (with_reducible refine LeO.bind ?_ (fun _ => ?_))
      | exact ih0 _ _
      | exact gangplankref08_Find.mono _ _ _
      | exact LeO.none _
      | refine LeO.ite ?_ ?_
      | refine LeO.bind ?_ (fun _ => ?_)
theorem gangplankref08_Check.mono : ∀ a0 k, LeO (gangplankref08_Check.f k a0) (gangplankref08_Check.f (k + 1) a0) := by
  intro a0 k
  have ih0 := gangplankref08_Check.mono_l k
  unfold gangplankref08_Check.f
  repeat' first
      | (with_reducible exact ih0 _ _)
      | (with_reducible exact gangplankref08_Find.mono _ _ _)
      | (with_reducible exact LeO.refl _)
      | (with_reducible exact LeO.none _)
      | (with_reducible refine LeO.ite ?_ ?_)
      | (with_reducible refine LeO.bind ?_ (fun _ => ?_))
      | exact ih0 _ _
      | exact gangplankref08_Find.mono _ _ _
      | exact LeO.none _
      | refine LeO.ite ?_ ?_
      | refine LeO.bind ?_ (fun _ => ?_)
set_option maxHeartbeats 8000000 in
set_option maxRecDepth 100000 in
theorem gangplankref08_Check.calls (k : Nat) (A0 : Option Addr) (c0 : Nat) (l0 : List (S56)) (r : Int) (w : World) (hr0 : Kd.C k56 w A0 l0.length l0) (hc0 : l0.length ≤ c0) (h : gangplankref08_Check.f k l0 = some r) :
    Calls Try.prog 43 #[.slice A0 l0.length c0] w fun e w' => e = .returned (.int .i64 r) ∧ Below w.heap.size w w' := by
  have hu56 := Try.underlying56
  have HR0 := Aside0.mk hr0
  have HC0 := Aside0.mk hc0
  clear hr0 hc0
  have HB := Aside0.mk (Below.refl w.heap.size w)
  have H : (if (l0.length : Int) > 32 then (some 10) else (gangplankref08_Check.l0 k l0 0)) = some r := h
  clear h
  by_cases c2 : (l0.length : Int) > 32
  · rw [if_pos c2] at H
    have c2b0 : decide (32 < (l0.length : Int)) = true := decide_eq_true c2
    have c2b1 : decide (32 < l0.length) = true := decide_eq_true (by omega)
    clear c2
    obtain rfl := Option.some.inj H
    go_enter Try.func43, Try.ntmps43
    go_wp2
    go_ret
    exact ⟨by first | rfl | (simp [errW_none, errW_some] <;> rfl) | (simp [*, errW_none, errW_some] <;> rfl), by repeat (first | (with_reducible first | exact HB.out | apply below_alloc | apply pw_below_drewN | apply below_drew1) | exact HB.out)⟩
  · rw [if_neg c2] at H
    have c2b0 : decide (32 < (l0.length : Int)) = false := decide_eq_false c2
    have c2b1 : decide (32 < l0.length) = false := decide_eq_false (by omega)
    clear c2
    have H' := Aside0.mk H
    clear H
    go_enter Try.func43, Try.ntmps43
    go_wp2
    go_loopg [3] k (fun kq v3 w' => ∃ (x3_1 : Int), v3 = .int .i64 x3_1 ∧ Aside0 (gangplankref08_Check.l0 kq l0 x3_1 = some r) ∧ Aside0 (kq ≤ k) ∧ Aside0 (Below w.heap.size w w'))
    case atStart => exact ⟨(0), (by first | rfl | (simp; done) | (simp [*]; done)), H', ⟨Nat.le_refl _⟩, ⟨by repeat (first | (with_reducible first | exact HB.out | apply below_alloc | apply pw_below_drewN | apply below_drew1) | exact HB.out)⟩⟩
    case round =>
      clear H'
      try clear c2
      try clear c2b0
      try clear c2b1
      try clear p2
      obtain ⟨x3_1, rfl, HA, HK1, HB⟩ := hrel
      cases gk with
      | zero => exact absurd HA.out (by simp [gangplankref08_Check.l0])
      | succ k1 =>
        have H := HA.out
        clear HA
        simp only [gangplankref08_Check.l0] at H
        by_cases c3 : x3_1 < (l0.length : Int)
        · rw [if_pos c3] at H
          have c3b0 : decide (x3_1 < (l0.length : Int)) = true := decide_eq_true c3
          clear c3
          by_cases c4 : 0 ≤ x3_1
          · rw [if_pos c4] at H
            have c4b0 : decide (0 ≤ x3_1) = true := decide_eq_true c4
            clear c4
            by_cases c5 : ((rd_T56 l0 x3_1).f0) < 1
            · rw [if_pos c5] at H
              have c5b0 : decide (((rd_T56 l0 x3_1).f0) < 1) = true := decide_eq_true c5
              clear c5
              obtain rfl := Option.some.inj H
              have p126 : 0 ≤ (x3_1 : Int) := of_decide_eq_true (by first | (with_reducible assumption) | assumption)
              have q126 : x3_1 < (l0.length : Int) := of_decide_eq_true (by first | (with_reducible assumption) | assumption)
              obtain ⟨ad126, e126, hx126_0, hx126_1⟩ := at_T56 HR0.out x3_1 p126 q126
              cases e126
              replace hx126_0 := (HB.out.cell (World.block_lt_of_cell? w _ hx126_0)).trans hx126_0
              replace hx126_1 := (HB.out.cell (World.block_lt_of_cell? w _ hx126_1)).trans hx126_1
              replace p126 := eq_true p126
              replace q126 := eq_true q126
              go_wp2_with (first | ((with_reducible refine gate_dst (N := 4) rfl ?_); refine box_event ?hg (N := 4) ?hd (cs := #[.int .i64 0, .int .i64 0]) (t := 56) ?hr ?_; (case hd => rfl); (case hg => rfl); (case hr => first | (go_simp; done) | (go_simp; rfl)); intro gb127 hg w6 hbox hb; have n0_ := Aside0.mk (below_step (by repeat (first | (with_reducible first | exact HB.out | apply below_alloc | apply pw_below_drewN | apply below_drew1) | exact HB.out)) hb); have n1_ := Aside0.mk (hbox); have n2_ := Aside0.mk ((by rw [hg]; exact (below_size (by repeat (first | (with_reducible first | exact HB.out | apply below_alloc | apply pw_below_drewN | apply below_drew1) | exact HB.out))) : w.heap.size ≤ gb127)); have n3_ := Aside0.mk ((by rw [hg]; exact (below_size (by repeat (first | (with_reducible first | exact HB.out | apply below_alloc | apply pw_below_drewN | apply below_drew1) | exact HB.out))) : w.heap.size ≤ gb127)); clear HB; have HB := n0_; have BK127 := n1_; have GW127 := n2_; have GE127 := n3_; clear n0_ n1_ n2_ n3_; clear hb hbox hg; have hcz7_0 : w6.cell? ⟨gb127, 0, none⟩ = some (.int .i64 0) := (blk_cell BK127.out 0).trans rfl; have hcz7_1 : w6.cell? ⟨gb127, 1, none⟩ = some (.int .i64 0) := (blk_cell BK127.out 1).trans rfl; have hfz7_0 := blk_frozen BK127.out 0; have hfz7_1 := blk_frozen BK127.out 1))
              go_ret
              exact ⟨by first | rfl | (simp [errW_none, errW_some] <;> rfl) | (simp [*, errW_none, errW_some] <;> rfl), by repeat (first | (with_reducible first | exact HB.out | apply below_alloc | apply pw_below_drewN | apply below_drew1 | refine below_set ?_ GE127.out) | exact HB.out)⟩
            · rw [if_neg c5] at H
              have c5b0 : decide (((rd_T56 l0 x3_1).f0) < 1) = false := decide_eq_false c5
              clear c5
              by_cases c8 : ((rd_T56 l0 x3_1).f0) > 65535
              · rw [if_pos c8] at H
                have c8b0 : decide (65535 < ((rd_T56 l0 x3_1).f0)) = true := decide_eq_true c8
                clear c8
                obtain rfl := Option.some.inj H
                have p126 : 0 ≤ (x3_1 : Int) := of_decide_eq_true (by first | (with_reducible assumption) | assumption)
                have q126 : x3_1 < (l0.length : Int) := of_decide_eq_true (by first | (with_reducible assumption) | assumption)
                obtain ⟨ad126, e126, hx126_0, hx126_1⟩ := at_T56 HR0.out x3_1 p126 q126
                cases e126
                replace hx126_0 := (HB.out.cell (World.block_lt_of_cell? w _ hx126_0)).trans hx126_0
                replace hx126_1 := (HB.out.cell (World.block_lt_of_cell? w _ hx126_1)).trans hx126_1
                replace p126 := eq_true p126
                replace q126 := eq_true q126
                go_wp2_with (first | ((with_reducible refine gate_dst (N := 4) rfl ?_); refine box_event ?hg (N := 4) ?hd (cs := #[.int .i64 0, .int .i64 0]) (t := 56) ?hr ?_; (case hd => rfl); (case hg => rfl); (case hr => first | (go_simp; done) | (go_simp; rfl)); intro gb127 hg w9 hbox hb; have n0_ := Aside0.mk (below_step (by repeat (first | (with_reducible first | exact HB.out | apply below_alloc | apply pw_below_drewN | apply below_drew1) | exact HB.out)) hb); have n1_ := Aside0.mk (hbox); have n2_ := Aside0.mk ((by rw [hg]; exact (below_size (by repeat (first | (with_reducible first | exact HB.out | apply below_alloc | apply pw_below_drewN | apply below_drew1) | exact HB.out))) : w.heap.size ≤ gb127)); have n3_ := Aside0.mk ((by rw [hg]; exact (below_size (by repeat (first | (with_reducible first | exact HB.out | apply below_alloc | apply pw_below_drewN | apply below_drew1) | exact HB.out))) : w.heap.size ≤ gb127)); clear HB; have HB := n0_; have BK127 := n1_; have GW127 := n2_; have GE127 := n3_; clear n0_ n1_ n2_ n3_; clear hb hbox hg; have hcz10_0 : w9.cell? ⟨gb127, 0, none⟩ = some (.int .i64 0) := (blk_cell BK127.out 0).trans rfl; have hcz10_1 : w9.cell? ⟨gb127, 1, none⟩ = some (.int .i64 0) := (blk_cell BK127.out 1).trans rfl; have hfz10_0 := blk_frozen BK127.out 0; have hfz10_1 := blk_frozen BK127.out 1))
                go_ret
                exact ⟨by first | rfl | (simp [errW_none, errW_some] <;> rfl) | (simp [*, errW_none, errW_some] <;> rfl), by repeat (first | (with_reducible first | exact HB.out | apply below_alloc | apply pw_below_drewN | apply below_drew1 | refine below_set ?_ GE127.out) | exact HB.out)⟩
              · rw [if_neg c8] at H
                have c8b0 : decide (65535 < ((rd_T56 l0 x3_1).f0)) = false := decide_eq_false c8
                clear c8
                by_cases c11 : ((rd_T56 l0 x3_1).f1) < 1
                · rw [if_pos c11] at H
                  have c11b0 : decide (((rd_T56 l0 x3_1).f1) < 1) = true := decide_eq_true c11
                  clear c11
                  obtain rfl := Option.some.inj H
                  have p126 : 0 ≤ (x3_1 : Int) := of_decide_eq_true (by first | (with_reducible assumption) | assumption)
                  have q126 : x3_1 < (l0.length : Int) := of_decide_eq_true (by first | (with_reducible assumption) | assumption)
                  obtain ⟨ad126, e126, hx126_0, hx126_1⟩ := at_T56 HR0.out x3_1 p126 q126
                  cases e126
                  replace hx126_0 := (HB.out.cell (World.block_lt_of_cell? w _ hx126_0)).trans hx126_0
                  replace hx126_1 := (HB.out.cell (World.block_lt_of_cell? w _ hx126_1)).trans hx126_1
                  replace p126 := eq_true p126
                  replace q126 := eq_true q126
                  go_wp2_with (first | ((with_reducible refine gate_dst (N := 4) rfl ?_); refine box_event ?hg (N := 4) ?hd (cs := #[.int .i64 0, .int .i64 0]) (t := 56) ?hr ?_; (case hd => rfl); (case hg => rfl); (case hr => first | (go_simp; done) | (go_simp; rfl)); intro gb127 hg w12 hbox hb; have n0_ := Aside0.mk (below_step (by repeat (first | (with_reducible first | exact HB.out | apply below_alloc | apply pw_below_drewN | apply below_drew1) | exact HB.out)) hb); have n1_ := Aside0.mk (hbox); have n2_ := Aside0.mk ((by rw [hg]; exact (below_size (by repeat (first | (with_reducible first | exact HB.out | apply below_alloc | apply pw_below_drewN | apply below_drew1) | exact HB.out))) : w.heap.size ≤ gb127)); have n3_ := Aside0.mk ((by rw [hg]; exact (below_size (by repeat (first | (with_reducible first | exact HB.out | apply below_alloc | apply pw_below_drewN | apply below_drew1) | exact HB.out))) : w.heap.size ≤ gb127)); clear HB; have HB := n0_; have BK127 := n1_; have GW127 := n2_; have GE127 := n3_; clear n0_ n1_ n2_ n3_; clear hb hbox hg; have hcz13_0 : w12.cell? ⟨gb127, 0, none⟩ = some (.int .i64 0) := (blk_cell BK127.out 0).trans rfl; have hcz13_1 : w12.cell? ⟨gb127, 1, none⟩ = some (.int .i64 0) := (blk_cell BK127.out 1).trans rfl; have hfz13_0 := blk_frozen BK127.out 0; have hfz13_1 := blk_frozen BK127.out 1))
                  go_ret
                  exact ⟨by first | rfl | (simp [errW_none, errW_some] <;> rfl) | (simp [*, errW_none, errW_some] <;> rfl), by repeat (first | (with_reducible first | exact HB.out | apply below_alloc | apply pw_below_drewN | apply below_drew1 | refine below_set ?_ GE127.out) | exact HB.out)⟩
                · rw [if_neg c11] at H
                  have c11b0 : decide (((rd_T56 l0 x3_1).f1) < 1) = false := decide_eq_false c11
                  clear c11
                  by_cases c14 : ((rd_T56 l0 x3_1).f1) > 16
                  · rw [if_pos c14] at H
                    have c14b0 : decide (16 < ((rd_T56 l0 x3_1).f1)) = true := decide_eq_true c14
                    clear c14
                    obtain rfl := Option.some.inj H
                    have p126 : 0 ≤ (x3_1 : Int) := of_decide_eq_true (by first | (with_reducible assumption) | assumption)
                    have q126 : x3_1 < (l0.length : Int) := of_decide_eq_true (by first | (with_reducible assumption) | assumption)
                    obtain ⟨ad126, e126, hx126_0, hx126_1⟩ := at_T56 HR0.out x3_1 p126 q126
                    cases e126
                    replace hx126_0 := (HB.out.cell (World.block_lt_of_cell? w _ hx126_0)).trans hx126_0
                    replace hx126_1 := (HB.out.cell (World.block_lt_of_cell? w _ hx126_1)).trans hx126_1
                    replace p126 := eq_true p126
                    replace q126 := eq_true q126
                    go_wp2_with (first | ((with_reducible refine gate_dst (N := 4) rfl ?_); refine box_event ?hg (N := 4) ?hd (cs := #[.int .i64 0, .int .i64 0]) (t := 56) ?hr ?_; (case hd => rfl); (case hg => rfl); (case hr => first | (go_simp; done) | (go_simp; rfl)); intro gb127 hg w15 hbox hb; have n0_ := Aside0.mk (below_step (by repeat (first | (with_reducible first | exact HB.out | apply below_alloc | apply pw_below_drewN | apply below_drew1) | exact HB.out)) hb); have n1_ := Aside0.mk (hbox); have n2_ := Aside0.mk ((by rw [hg]; exact (below_size (by repeat (first | (with_reducible first | exact HB.out | apply below_alloc | apply pw_below_drewN | apply below_drew1) | exact HB.out))) : w.heap.size ≤ gb127)); have n3_ := Aside0.mk ((by rw [hg]; exact (below_size (by repeat (first | (with_reducible first | exact HB.out | apply below_alloc | apply pw_below_drewN | apply below_drew1) | exact HB.out))) : w.heap.size ≤ gb127)); clear HB; have HB := n0_; have BK127 := n1_; have GW127 := n2_; have GE127 := n3_; clear n0_ n1_ n2_ n3_; clear hb hbox hg; have hcz16_0 : w15.cell? ⟨gb127, 0, none⟩ = some (.int .i64 0) := (blk_cell BK127.out 0).trans rfl; have hcz16_1 : w15.cell? ⟨gb127, 1, none⟩ = some (.int .i64 0) := (blk_cell BK127.out 1).trans rfl; have hfz16_0 := blk_frozen BK127.out 0; have hfz16_1 := blk_frozen BK127.out 1))
                    go_ret
                    exact ⟨by first | rfl | (simp [errW_none, errW_some] <;> rfl) | (simp [*, errW_none, errW_some] <;> rfl), by repeat (first | (with_reducible first | exact HB.out | apply below_alloc | apply pw_below_drewN | apply below_drew1 | refine below_set ?_ GE127.out) | exact HB.out)⟩
                  · rw [if_neg c14] at H
                    have c14b0 : decide (16 < ((rd_T56 l0 x3_1).f1)) = false := decide_eq_false c14
                    clear c14
                    replace H := Option.bind_eq_some_iff.mp H
                    obtain ⟨t128, A170, H⟩ := H
                    replace H : (if t128 = x3_1 then (gangplankref08_Check.l0 k1 l0 (wrap64 (x3_1 + 1))) else (some 10)) = some r := H
                    have A17 := Aside0.mk A170
                    clear A170
                    by_cases c18 : t128 = x3_1
                    · rw [if_pos c18] at H
                      have c18b0 : (t128 == x3_1) = true := beq_iff_eq.mpr c18
                      have c18b1 : (t128 != x3_1) = false := bne_eq_false_iff_eq.mpr c18
                      clear c18
                      have H' := Aside0.mk H
                      clear H
                      have p126 : 0 ≤ (x3_1 : Int) := of_decide_eq_true (by first | (with_reducible assumption) | assumption)
                      have q126 : x3_1 < (l0.length : Int) := of_decide_eq_true (by first | (with_reducible assumption) | assumption)
                      obtain ⟨ad126, e126, hx126_0, hx126_1⟩ := at_T56 HR0.out x3_1 p126 q126
                      cases e126
                      replace hx126_0 := (HB.out.cell (World.block_lt_of_cell? w _ hx126_0)).trans hx126_0
                      replace hx126_1 := (HB.out.cell (World.block_lt_of_cell? w _ hx126_1)).trans hx126_1
                      replace p126 := eq_true p126
                      replace q126 := eq_true q126
                      go_wp2_with (first | ((with_reducible refine gate_dst (N := 4) rfl ?_); refine box_event ?hg (N := 4) ?hd (cs := #[.int .i64 0, .int .i64 0]) (t := 56) ?hr ?_; (case hd => rfl); (case hg => rfl); (case hr => first | (go_simp; done) | (go_simp; rfl)); intro gb127 hg w19 hbox hb; have n0_ := Aside0.mk (below_step (by repeat (first | (with_reducible first | exact HB.out | apply below_alloc | apply pw_below_drewN | apply below_drew1) | exact HB.out)) hb); have n1_ := Aside0.mk (hbox); have n2_ := Aside0.mk ((by rw [hg]; exact (below_size (by repeat (first | (with_reducible first | exact HB.out | apply below_alloc | apply pw_below_drewN | apply below_drew1) | exact HB.out))) : w.heap.size ≤ gb127)); have n3_ := Aside0.mk ((by rw [hg]; exact (below_size (by repeat (first | (with_reducible first | exact HB.out | apply below_alloc | apply pw_below_drewN | apply below_drew1) | exact HB.out))) : w.heap.size ≤ gb127)); clear HB; have HB := n0_; have BK127 := n1_; have GW127 := n2_; have GE127 := n3_; clear n0_ n1_ n2_ n3_; clear hb hbox hg; have hcz20_0 : w19.cell? ⟨gb127, 0, none⟩ = some (.int .i64 0) := (blk_cell BK127.out 0).trans rfl; have hcz20_1 : w19.cell? ⟨gb127, 1, none⟩ = some (.int .i64 0) := (blk_cell BK127.out 1).trans rfl; have hfz20_0 := blk_frozen BK127.out 0; have hfz20_1 := blk_frozen BK127.out 1) | (go_at_call 44; (with_reducible refine (gangplankref08_Find.calls k1 _ _ l0 ((rd_T56 l0 x3_1).f0) t128 _ ?side1 ?side2 A17.out).mono ?_); (case side1 => exact Kd.C_below HR0.out (by repeat (first | (with_reducible first | exact HB.out | apply below_alloc | apply pw_below_drewN | apply below_drew1 | refine below_set ?_ GE127.out) | exact HB.out))); (case side2 => exact HC0.out); (try clear A17); rintro e w' ⟨rfl, ⟨nd, rfl⟩⟩))
                      go_roundg k1
                      case measure => have := HK1.out; omega
                      case rel => exact ⟨(wrap64 (x3_1 + 1)), (by first | rfl | (simp; done) | (simp [*]; done)), H', ⟨by have := HK1.out; omega⟩, ⟨by repeat (first | (with_reducible first | exact HB.out | apply below_alloc | apply pw_below_drewN | apply below_drew1 | refine below_set ?_ GE127.out) | exact HB.out)⟩⟩
                    · rw [if_neg c18] at H
                      have c18b0 : (t128 == x3_1) = false := beq_eq_false_iff_ne.mpr c18
                      have c18b1 : (t128 != x3_1) = true := bne_iff_ne.mpr c18
                      obtain rfl := Option.some.inj H
                      have p126 : 0 ≤ (x3_1 : Int) := of_decide_eq_true (by first | (with_reducible assumption) | assumption)
                      have q126 : x3_1 < (l0.length : Int) := of_decide_eq_true (by first | (with_reducible assumption) | assumption)
                      obtain ⟨ad126, e126, hx126_0, hx126_1⟩ := at_T56 HR0.out x3_1 p126 q126
                      cases e126
                      replace hx126_0 := (HB.out.cell (World.block_lt_of_cell? w _ hx126_0)).trans hx126_0
                      replace hx126_1 := (HB.out.cell (World.block_lt_of_cell? w _ hx126_1)).trans hx126_1
                      replace p126 := eq_true p126
                      replace q126 := eq_true q126
                      go_wp2_with (first | ((with_reducible refine gate_dst (N := 4) rfl ?_); refine box_event ?hg (N := 4) ?hd (cs := #[.int .i64 0, .int .i64 0]) (t := 56) ?hr ?_; (case hd => rfl); (case hg => rfl); (case hr => first | (go_simp; done) | (go_simp; rfl)); intro gb127 hg w21 hbox hb; have n0_ := Aside0.mk (below_step (by repeat (first | (with_reducible first | exact HB.out | apply below_alloc | apply pw_below_drewN | apply below_drew1) | exact HB.out)) hb); have n1_ := Aside0.mk (hbox); have n2_ := Aside0.mk ((by rw [hg]; exact (below_size (by repeat (first | (with_reducible first | exact HB.out | apply below_alloc | apply pw_below_drewN | apply below_drew1) | exact HB.out))) : w.heap.size ≤ gb127)); have n3_ := Aside0.mk ((by rw [hg]; exact (below_size (by repeat (first | (with_reducible first | exact HB.out | apply below_alloc | apply pw_below_drewN | apply below_drew1) | exact HB.out))) : w.heap.size ≤ gb127)); clear HB; have HB := n0_; have BK127 := n1_; have GW127 := n2_; have GE127 := n3_; clear n0_ n1_ n2_ n3_; clear hb hbox hg; have hcz22_0 : w21.cell? ⟨gb127, 0, none⟩ = some (.int .i64 0) := (blk_cell BK127.out 0).trans rfl; have hcz22_1 : w21.cell? ⟨gb127, 1, none⟩ = some (.int .i64 0) := (blk_cell BK127.out 1).trans rfl; have hfz22_0 := blk_frozen BK127.out 0; have hfz22_1 := blk_frozen BK127.out 1) | (go_at_call 44; (with_reducible refine (gangplankref08_Find.calls k1 _ _ l0 ((rd_T56 l0 x3_1).f0) t128 _ ?side1 ?side2 A17.out).mono ?_); (case side1 => exact Kd.C_below HR0.out (by repeat (first | (with_reducible first | exact HB.out | apply below_alloc | apply pw_below_drewN | apply below_drew1 | refine below_set ?_ GE127.out) | exact HB.out))); (case side2 => exact HC0.out); (try clear A17); rintro e w' ⟨rfl, ⟨nd, rfl⟩⟩))
                      go_ret
                      exact ⟨by first | rfl | (simp [errW_none, errW_some] <;> rfl) | (simp [*, errW_none, errW_some] <;> rfl), by repeat (first | (with_reducible first | exact HB.out | apply below_alloc | apply pw_below_drewN | apply below_drew1 | refine below_set ?_ GE127.out) | exact HB.out)⟩
          · rw [if_neg c4] at H
            exact absurd H (by simp)
        · rw [if_neg c3] at H
          have c3b0 : decide (x3_1 < (l0.length : Int)) = false := decide_eq_false c3
          clear c3
          obtain rfl := Option.some.inj H
          go_wp2
          go_ret
          exact ⟨by first | rfl | (simp [errW_none, errW_some] <;> rfl) | (simp [*, errW_none, errW_some] <;> rfl), by repeat (first | (with_reducible first | exact HB.out | apply below_alloc | apply pw_below_drewN | apply below_drew1) | exact HB.out)⟩

/-! ### gangplankref16_Is: function 72 -/
def gangplankref16_Is.f (l0 : List (S84)) (a1 : Int) : Option (Bool) := if a1 ≥ 0 then (some (decide (a1 < (l0.length : Int)))) else (some false)
set_option maxHeartbeats 8000000 in
set_option maxRecDepth 100000 in
theorem gangplankref16_Is.calls (A0 : Option Addr) (c0 : Nat) (l0 : List (S84)) (a1 : Int) (r : Bool) (w : World) (hr0 : Kd.C k84 w A0 l0.length l0) (hc0 : l0.length ≤ c0) (h : gangplankref16_Is.f l0 a1 = some r) :
    Calls Try.prog 72 #[.slice A0 l0.length c0, .int .i64 a1] w fun e w' => e = .returned (.bool r) ∧ Drawn0 w w' := by
  have HR0 := Aside0.mk hr0
  have HC0 := Aside0.mk hc0
  clear hr0 hc0
  have H : (if a1 ≥ 0 then (some (decide (a1 < (l0.length : Int)))) else (some false)) = some r := h
  clear h
  by_cases c3 : a1 ≥ 0
  · rw [if_pos c3] at H
    have c3b0 : decide (0 ≤ a1) = true := decide_eq_true c3
    clear c3
    obtain rfl := Option.some.inj H
    go_enter Try.func72, Try.ntmps72
    go_wp2
    go_ret
    exact ⟨by first | rfl | (simp; done) | (simp [*]; done), by repeat (first | exact Drawn0.refl _ | apply Drawn0.step)⟩
  · rw [if_neg c3] at H
    have c3b0 : decide (0 ≤ a1) = false := decide_eq_false c3
    clear c3
    obtain rfl := Option.some.inj H
    go_enter Try.func72, Try.ntmps72
    go_wp2
    go_ret
    exact ⟨by first | rfl | (simp; done) | (simp [*]; done), by repeat (first | exact Drawn0.refl _ | apply Drawn0.step)⟩

/-! ### gangplankref16_With: function 73 -/
def gangplankref16_With.f (l0 : List (S84)) (a1 : Int) (a2_0 : Int) (l2_1 : List (S56)) : Option ((List (S84))) := (some (([] : List (S84)) : List (S84))).bind fun y130 => (if y130.length + l0.length < 4398046511104 then ((some (y130 ++ l0 : List (S84))).bind fun y133 => (if 0 ≤ a1 then (if a1 < (y133.length : Int) then (some (y133.set (a1 : Int).toNat (⟨a2_0, l2_1⟩ : S84))) else (none)) else (none))) else (none))
set_option maxHeartbeats 8000000 in
set_option maxRecDepth 100000 in
theorem gangplankref16_With.calls (P0_ : Nat → Prop) (A0 : Option Addr) (c0 : Nat) (l0 : List (S84)) (a1 : Int) (a2_0 : Int) (P2_1_ : Nat → Prop) (A2_1 : Option Addr) (c2_1 : Nat) (l2_1 : List (S56)) (r : List (S84)) (w : World) (hs0 : Kd.V k84 84 w w.heap.size (fun k_ => P0_ k_) (.slice A0 l0.length c0) l0) (hs2_1 : Kd.V k56 56 w w.heap.size (fun k_ => P2_1_ k_) (.slice A2_1 l2_1.length c2_1) l2_1) (h : gangplankref16_With.f l0 a1 a2_0 l2_1 = some r) :
    Calls Try.prog 73 #[.slice A0 l0.length c0, .int .i64 a1, .agg #[.int .i64 a2_0, .slice A2_1 l2_1.length c2_1]] w fun e w' => ∃ v0_ : Value, e = .returned (v0_) ∧ Kd.N k84 84 w' w.heap.size (fun k_ => ((P0_ k_ ∨ P2_1_ k_) ∨ w.heap.size ≤ k_)) v0_ r ∧ Below w.heap.size w w' := by
  have hu84 := Try.underlying84
  have HO0 := Aside0.mk (show Kd.V k84 84 w w.heap.size (fun k_ => ((P0_ k_ ∨ P2_1_ k_) ∨ w.heap.size ≤ k_)) (.slice A0 l0.length c0) l0 from Kd.V_mono hs0 (fun k_ hk => .inl (.inl hk)))
  have HO2_1 := Aside0.mk (show Kd.V k56 56 w w.heap.size (fun k_ => ((P0_ k_ ∨ P2_1_ k_) ∨ w.heap.size ≤ k_)) (.slice A2_1 l2_1.length c2_1) l2_1 from Kd.V_mono hs2_1 (fun k_ hk => .inl (.inr hk)))
  have HB := Aside0.mk (Below.refl w.heap.size w)
  have H : ((some (([] : List (S84)) : List (S84))).bind fun y130 => (if y130.length + l0.length < 4398046511104 then ((some (y130 ++ l0 : List (S84))).bind fun y133 => (if 0 ≤ a1 then (if a1 < (y133.length : Int) then (some (y133.set (a1 : Int).toNat (⟨a2_0, l2_1⟩ : S84))) else (none)) else (none))) else (none))) = some r := h
  clear h
  obtain ⟨y130, hy130⟩ : ∃ y_ : List (S84), y_ = (([] : List (S84))) := ⟨_, rfl⟩
  replace H : (if y130.length + l0.length < 4398046511104 then ((some (y130 ++ l0 : List (S84))).bind fun y133 => (if 0 ≤ a1 then (if a1 < (y133.length : Int) then (some (y133.set (a1 : Int).toNat (⟨a2_0, l2_1⟩ : S84))) else (none)) else (none))) else (none)) = some r := by first | (rw [hy130]; with_reducible exact H) | (have H2_ := (Option.bind_some _ _).symm.trans H; rw [hy130]; with_reducible exact H2_) | (have H2_ := (Option.bind_some _ _).symm.trans H; with_reducible exact H2_) | with_reducible exact H | (rw [hy130]; exact H) | exact H
  have Ny130 := Aside0.mk hy130
  clear hy130
  by_cases c4 : y130.length + l0.length < 4398046511104
  · rw [if_pos c4] at H
    have LMc4 := Aside0.mk c4
    clear c4
    obtain ⟨y133, hy133⟩ : ∃ y_ : List (S84), y_ = (y130 ++ l0) := ⟨_, rfl⟩
    replace H : (if 0 ≤ a1 then (if a1 < (y133.length : Int) then (some (y133.set (a1 : Int).toNat (⟨a2_0, l2_1⟩ : S84))) else (none)) else (none)) = some r := by first | (rw [hy133]; with_reducible exact H) | (have H2_ := (Option.bind_some _ _).symm.trans H; rw [hy133]; with_reducible exact H2_) | (have H2_ := (Option.bind_some _ _).symm.trans H; with_reducible exact H2_) | with_reducible exact H | (rw [hy133]; exact H) | exact H
    have Ny133 := Aside0.mk hy133
    clear hy133
    by_cases c5 : 0 ≤ a1
    · rw [if_pos c5] at H
      have c5b0 : decide (0 ≤ a1) = true := decide_eq_true c5
      clear c5
      by_cases c6 : a1 < (y133.length : Int)
      · rw [if_pos c6] at H
        have c6b0 : decide (a1 < (y133.length : Int)) = true := decide_eq_true c6
        clear c6
        obtain ⟨y136, hy136⟩ : ∃ y_ : List (S84), y_ = (y133.set (a1 : Int).toNat (⟨a2_0, l2_1⟩ : S84)) := ⟨_, rfl⟩
        replace H : (some y136) = some r := by first | (rw [hy136]; with_reducible exact H) | (have H2_ := (Option.bind_some _ _).symm.trans H; rw [hy136]; with_reducible exact H2_) | (have H2_ := (Option.bind_some _ _).symm.trans H; with_reducible exact H2_) | with_reducible exact H | (rw [hy136]; exact H) | exact H
        have Ny136 := Aside0.mk hy136
        clear hy136
        obtain rfl := Option.some.inj H
        go_enter Try.func73, Try.ntmps73
        go_wp2_with (first | ((with_reducible refine gate_dst (N := 5) rfl ?_); refine box_event ?hg (N := 5) ?hd (cs := #[.int .i64 a2_0, .slice A2_1 l2_1.length c2_1]) (t := 84) ?hr ?_; (case hd => rfl); (case hg => rfl); (case hr => first | (go_simp; done) | (go_simp; rfl)); intro gb129 hg w8 hbox hb; have n0_ := Aside0.mk (Kd.V_below (Kd.V_elderB (by (with_reducible repeat (first | apply Kd.V_alloc | apply Kd.V_drewN | apply Kd.V_drew)); exact HO0.out) gb129 (Nat.le_of_eq hg.symm)) hb); have n1_ := Aside0.mk (Kd.V_below (Kd.V_elderB (by (with_reducible repeat (first | apply Kd.V_alloc | apply Kd.V_drewN | apply Kd.V_drew)); exact HO2_1.out) gb129 (Nat.le_of_eq hg.symm)) hb); have n2_ := Aside0.mk (below_step (by repeat (first | (with_reducible first | exact HB.out | apply below_alloc | apply pw_below_drewN | apply below_drew1) | exact HB.out)) hb); have n3_ := Aside0.mk (hbox); have n4_ := Aside0.mk ((by rw [hg]; exact (below_size (by repeat (first | (with_reducible first | exact HB.out | apply below_alloc | apply pw_below_drewN | apply below_drew1) | exact HB.out))) : w.heap.size ≤ gb129)); have n5_ := Aside0.mk ((by rw [hg]; exact (below_size (by repeat (first | (with_reducible first | exact HB.out | apply below_alloc | apply pw_below_drewN | apply below_drew1) | exact HB.out))) : w.heap.size ≤ gb129)); clear HO0; clear HO2_1; clear HB; have HO0 := n0_; have HO2_1 := n1_; have HB := n2_; have BK129 := n3_; have GW129 := n4_; have GE129 := n5_; clear n0_ n1_ n2_ n3_ n4_ n5_; clear hb hbox hg) | ((with_reducible refine gate_dst (N := 8) rfl ?_); refine Kd.N_lit k84 _ 84 ?hg (N' := 8) ?hd (xs := ([] : List (S84))) (inner := []) (ok := (fun k_ => ((P0_ k_ ∨ P2_1_ k_) ∨ w.heap.size ≤ k_) ∧ k_ ≠ gb129)) (okp := (fun k_ => ((P0_ k_ ∨ P2_1_ k_) ∨ w.heap.size ≤ k_) ∧ k_ ≠ gb129)) ?hr ?hp (fun _ hk => hk) ((show ∀ k_, w8.heap.size ≤ k_ → (fun k_ => ((P0_ k_ ∨ P2_1_ k_) ∨ w.heap.size ≤ k_) ∧ k_ ≠ gb129) k_ from fun k_ hk => ⟨(.inr (Nat.le_trans (below_size (by repeat (first | (with_reducible first | exact HB.out | apply below_alloc | apply pw_below_drewN | apply below_drew1 | refine below_set ?_ GE129.out) | exact HB.out))) hk)), Kd.freshB (g := gb129) (o := .cells #[.int .i64 a2_0, .slice A2_1 l2_1.length c2_1] 84 (0, 0)) (by (with_reducible repeat (first | refine blk_drewN ?_ _ | refine blk_drew ?_ | refine blk_alloc ?_ _)); exact BK129.out) k_ hk⟩) _ (Nat.le_refl _)) (Below.refl _ _) (Nat.le_refl _) (by simp) ?_; (case hd => rfl); (case hg => rfl); (case hr => first | (go_simp; done) | (go_simp; rfl)); (case hp => exact (Reps.none _ _)); intro v131 w9 ho10 hb hg_ hnew_; clear hg_ hnew_; (first | rw [← Ny130.out] at ho10 | (simp only [Int.reduceToNat] at ho10; rw [← Ny130.out] at ho10)); have n0_ := Aside0.mk (Kd.V_elder' (by (with_reducible repeat (first | apply Kd.V_alloc | apply Kd.V_drewN | apply Kd.V_drew)); exact HO0.out) (Kd.N_base ho10) hb); have n1_ := Aside0.mk (Kd.V_elder' (by (with_reducible repeat (first | apply Kd.V_alloc | apply Kd.V_drewN | apply Kd.V_drew)); exact HO2_1.out) (Kd.N_base ho10) hb); have n2_ := Aside0.mk (Kd.N_lower ho10 (below_size (by repeat (first | (with_reducible first | exact HB.out | apply below_alloc | apply pw_below_drewN | apply below_drew1 | refine below_set ?_ GE129.out) | exact HB.out)))); have n3_ := Aside0.mk (blk_below (g := gb129) (o := .cells #[.int .i64 a2_0, .slice A2_1 l2_1.length c2_1] 84 (0, 0)) (by (with_reducible repeat (first | refine blk_drewN ?_ _ | refine blk_drew ?_ | refine blk_alloc ?_ _)); exact BK129.out) hb); have n4_ := Aside0.mk (below_step (by repeat (first | (with_reducible first | exact HB.out | apply below_alloc | apply pw_below_drewN | apply below_drew1 | refine below_set ?_ GE129.out) | exact HB.out)) hb); clear HO0; clear HO2_1; clear BK129; clear HB; have HO0 := n0_; have HO2_1 := n1_; have HO132 := n2_; have BK129 := n3_; have HB := n4_; clear n0_ n1_ n2_ n3_ n4_; clear hb ho10) | ((with_reducible refine gate_builtin (b := .append) (xs := #[.tmp 8, .tmp 9]) rfl ?_); at_builtin; refine Kd.N_append_rows k84 (w0 := w) w.heap.size rfl (.tmp 8) (.tmp 9) 28 84 (.agg #[(.int .i64 0), (.slice none 0 0)]) 32 rfl Try.underlying28 info84 rfl (by decide) (by omega) v131 y130 l0 _ _ _ (fun k_ => ((P0_ k_ ∨ P2_1_ k_) ∨ w.heap.size ≤ k_) ∧ k_ ≠ gb129) (fun k_ => ((fun k_ => ((P0_ k_ ∨ P2_1_ k_) ∨ w.heap.size ≤ k_) ∧ k_ ≠ gb129)) k_ ∧ some k_ ≠ (v131 : Value).ownBlock) rfl rfl ?aO ?aR (fun _ hk => hk) ?aF ?aB ?aS ?aL ?_; (case aR => exact (by skip; exact Kd.V_F (Kd.V_mono (ok' := (fun k_ => ((fun k_ => ((P0_ k_ ∨ P2_1_ k_) ∨ w.heap.size ≤ k_) ∧ k_ ≠ gb129)) k_ ∧ some k_ ≠ (v131 : Value).ownBlock)) (HO0.out) (fun k_ hk => ⟨⟨hk.1.1, hk.1.2⟩, hk.2⟩)))); (case aB => exact (by repeat (first | (with_reducible first | exact HB.out | apply below_alloc | apply pw_below_drewN | apply below_drew1 | refine below_set ?_ GE129.out) | exact HB.out))); (case aF => exact (fun k_ hk => ⟨(.inr (Nat.le_trans (below_size (by repeat (first | (with_reducible first | exact HB.out | apply below_alloc | apply pw_below_drewN | apply below_drew1 | refine below_set ?_ GE129.out) | exact HB.out))) hk)), Kd.freshB (g := gb129) (o := .cells #[.int .i64 a2_0, .slice A2_1 l2_1.length c2_1] 84 (0, 0)) (by (with_reducible repeat (first | refine blk_drewN ?_ _ | refine blk_drew ?_ | refine blk_alloc ?_ _)); exact BK129.out) k_ hk⟩)); (case aO => exact (by (with_reducible repeat (first | apply Kd.N_alloc | apply Kd.N_drewN | apply Kd.N_drew)); exact HO132.out)); (case aS => exact (below_size (by repeat (first | (with_reducible first | exact HB.out | apply below_alloc | apply pw_below_drewN | apply below_drew1 | refine below_set ?_ GE129.out) | exact HB.out)))); (case aL => have := LMc4.out; omega); intro v134 w11 ho hb hg hat; rw [← Ny133.out] at ho; have n0_ := Aside0.mk (Kd.V_afterv (ok := (fun k_ => ((P0_ k_ ∨ P2_1_ k_) ∨ w.heap.size ≤ k_) ∧ k_ ≠ gb129)) (by (with_reducible repeat (first | apply Kd.V_alloc | apply Kd.V_drewN | apply Kd.V_drew)); exact HO0.out) hg hat); have n1_ := Aside0.mk (Kd.V_afterv (ok := (fun k_ => ((P0_ k_ ∨ P2_1_ k_) ∨ w.heap.size ≤ k_) ∧ k_ ≠ gb129)) (by (with_reducible repeat (first | apply Kd.V_alloc | apply Kd.V_drewN | apply Kd.V_drew)); exact HO2_1.out) hg hat); have n2_ := Aside0.mk (blk_grown (g := gb129) (o := .cells #[.int .i64 a2_0, .slice A2_1 l2_1.length c2_1] 84 (0, 0)) (by (with_reducible repeat (first | refine blk_drewN ?_ _ | refine blk_drew ?_ | refine blk_alloc ?_ _)); exact BK129.out) hg (Kd.N_away HO132.out (fun _ hk => hk.2))); have n3_ := Aside0.mk (hb); have n4_ := Aside0.mk (ho); clear HO0; clear HO2_1; clear BK129; clear HB; clear HO132; have HO0 := n0_; have HO2_1 := n1_; have BK129 := n2_; have HB := n3_; have HO135 := n4_; clear n0_ n1_ n2_ n3_ n4_; clear ho hb hg hat; have hcz12_0 : w11.cell? ⟨gb129, 0, none⟩ = some (.int .i64 a2_0) := (blk_cell BK129.out 0).trans rfl; have hcz12_1 : w11.cell? ⟨gb129, 1, none⟩ = some (.slice A2_1 l2_1.length c2_1) := (blk_cell BK129.out 1).trans rfl; have hfz12_0 := blk_frozen BK129.out 0; have hfz12_1 := blk_frozen BK129.out 1; have p7 : 0 ≤ (a1 : Int) := of_decide_eq_true (by first | (with_reducible assumption) | assumption); have q7 : (a1 : Int) < ((y133.length : Int) : Int) := of_decide_eq_true (by first | (with_reducible assumption) | assumption); obtain ⟨go7, co7, eo7, gb7, gl7, cl7, HG7⟩ := Kd.N_form HO135.out (by omega); (first | cases eo7 | (injection eo7 with ea_ en_ ec_; (first | subst ea_ | (injection ea_ with ea_; subst ea_)); subst ec_; clear en_)); have GB7 := Aside0.mk gb7; have GG7 := Aside0.mk HG7; clear gb7 gl7 HG7; obtain ⟨ce7, hcl7, hM7, hcc7, hfr7⟩ := Kd.N_elem HO135.out z84 (a1 : Int) p7 q7; obtain ⟨ua7_1, uc7_1, rfl, ul7_1, ge7_1⟩ := k84_openF hM7; have hx7_0 : w11.cell? ⟨go7, (a1 : Int).toNat * 2, none⟩ = some (.int .i64 ((rd_T84 y133 a1).f0)) := hcc7 0 _ rfl; have hx7_1 : w11.cell? ⟨go7, (a1 : Int).toNat * 2 + 1, none⟩ = some (.slice ua7_1 ((rd_T84 y133 a1).f1).length uc7_1) := hcc7 1 _ rfl; have hf7_0 : w11.frozen? ⟨go7, (a1 : Int).toNat * 2, none⟩ = false := hfr7 0; have hf7_1 : w11.frozen? ⟨go7, (a1 : Int).toNat * 2 + 1, none⟩ = false := hfr7 1; clear hcl7 hcc7 hfr7 hM7; replace p7 := eq_true p7; replace q7 := eq_true q7; have HX13 := Aside0.mk (show Kd.N k84 84 w11 w.heap.size (fun k_ => ((P0_ k_ ∨ P2_1_ k_) ∨ w.heap.size ≤ k_) ∧ k_ ≠ gb129) (.slice (some ⟨go7, 0, none⟩) y133.length co7) y133 from (by (with_reducible repeat (first | apply Kd.N_alloc | apply Kd.N_drewN | apply Kd.N_drew)); exact HO135.out)); obtain ⟨ce13, hcl13, hM13, hcc13, hfr13⟩ := Kd.N_elem HX13.out z84 (a1 : Int) (of_decide_eq_true (by first | (with_reducible assumption) | assumption)) (by have h_ : (a1 : Int) < ((y133.length : Int) : Int) := of_decide_eq_true (by first | (with_reducible assumption) | assumption); first | exact h_ | (have e_ := (Kd.N_reads' HO135.out).1; omega) | simpa using h_); obtain ⟨ua13_1, uc13_1, rfl, ul13_1, ge13_1⟩ := k84_openF hM13; have HP13 := Kd.N_seg HX13.out (a1 : Int) (of_decide_eq_true (by first | (with_reducible assumption) | assumption)) (by have h_ : (a1 : Int) < ((y133.length : Int) : Int) := of_decide_eq_true (by first | (with_reducible assumption) | assumption); first | exact h_ | (have e_ := (Kd.N_reads' HO135.out).1; omega) | simpa using h_) (seg := [.int .i64 a2_0, .slice A2_1 l2_1.length c2_1]) (j := 0) hcl13 hcc13 (show 2 ≤ 2 from by decide) (x' := (⟨a2_0, l2_1⟩ : S84)) (k84_mkF _ _ (⟨a2_0, l2_1⟩ : S84) (Kd.V_reads' (Kd.V_mono (ok' := (fun k_ => ((fun k_ => ((P0_ k_ ∨ P2_1_ k_) ∨ w.heap.size ≤ k_) ∧ k_ ≠ gb129)) k_ ∧ k_ ≠ go7)) (HO2_1.out) (fun k_ hk => ⟨⟨hk.1.1, hk.1.2⟩, fun e_ => (hk.2) (by rw [e_]; rfl)⟩))).2.1 (Kd.V_F (Kd.V_mono (ok' := (fun k_ => ((fun k_ => ((P0_ k_ ∨ P2_1_ k_) ∨ w.heap.size ≤ k_) ∧ k_ ≠ gb129)) k_ ∧ k_ ≠ go7)) (HO2_1.out) (fun k_ hk => ⟨⟨hk.1.1, hk.1.2⟩, fun e_ => (hk.2) (by rw [e_]; rfl)⟩)))) (fun _ hk => hk); have hx13_0 := hcc13 0 _ rfl; (try simp only [show (k84).sz = 2 from rfl, Nat.mul_one, Nat.add_zero] at hx13_0); have hf13_0 := hfr13 0; (try simp only [show (k84).sz = 2 from rfl, Nat.mul_one, Nat.add_zero] at hf13_0); have hx13_1 := hcc13 1 _ rfl; (try simp only [show (k84).sz = 2 from rfl, Nat.mul_one, Nat.add_zero] at hx13_1); have hf13_1 := hfr13 1; (try simp only [show (k84).sz = 2 from rfl, Nat.mul_one, Nat.add_zero] at hf13_1); clear hcl13 hcc13 hfr13 hM13) | ((with_reducible refine gate_store (t := 84) (p := 14) rfl ?_); refine store_event (t := 84) (p := 14) (v := ?vo_w14) (w1 := ((w11.setCell ⟨go7, (a1 : Int).toNat * 2, none⟩ (.int .i64 a2_0)).setCell ⟨go7, (a1 : Int).toNat * 2 + 1, none⟩ (.slice A2_1 l2_1.length c2_1))) ?hg ?ho ?hn ?hr ?_; (case ho => rfl); (case hg => rfl); (case hn => rfl); (case hr => first | (go_simp; done) | (go_simp; rfl)); intro w14 hw; have hg : w11.grownBy w14 (some go7) := (by rw [hw]; exact HP13.2); have hp_ : Kd.N k84 84 w14 w.heap.size (fun k_ => ((P0_ k_ ∨ P2_1_ k_) ∨ w.heap.size ≤ k_) ∧ k_ ≠ gb129) (.slice (some ⟨go7, 0, none⟩) y133.length co7) y136 := (by rw [hw, Ny136.out]; exact HP13.1); clear HP13; have n0_ := Aside0.mk (Kd.V_afterv (v := (.slice (some ⟨go7, 0, none⟩) y133.length co7)) (v1 := (.slice (some ⟨go7, 0, none⟩) y133.length co7)) (ok := (fun k_ => ((P0_ k_ ∨ P2_1_ k_) ∨ w.heap.size ≤ k_) ∧ k_ ≠ gb129)) (by (with_reducible repeat (first | apply Kd.V_alloc | apply Kd.V_drewN | apply Kd.V_drew)); exact HO0.out) hg (.inl rfl)); have n1_ := Aside0.mk (Kd.V_afterv (v := (.slice (some ⟨go7, 0, none⟩) y133.length co7)) (v1 := (.slice (some ⟨go7, 0, none⟩) y133.length co7)) (ok := (fun k_ => ((P0_ k_ ∨ P2_1_ k_) ∨ w.heap.size ≤ k_) ∧ k_ ≠ gb129)) (by (with_reducible repeat (first | apply Kd.V_alloc | apply Kd.V_drewN | apply Kd.V_drew)); exact HO2_1.out) hg (.inl rfl)); have n2_ := Aside0.mk (blk_grown (g := gb129) (o := .cells #[.int .i64 a2_0, .slice A2_1 l2_1.length c2_1] 84 (0, 0)) (by (with_reducible repeat (first | refine blk_drewN ?_ _ | refine blk_drew ?_ | refine blk_alloc ?_ _)); exact BK129.out) hg (Kd.N_away HO135.out (fun _ hk => hk.2))); have n3_ := Aside0.mk (hp_); have n4_ := Aside0.mk ((by rw [hw]; exact below_set (below_set (HB.out) GB7.out) GB7.out : Below w.heap.size w w14)); clear HO0; clear HO2_1; clear BK129; clear HO135; clear HB; have HO0 := n0_; have HO2_1 := n1_; have BK129 := n2_; have HO135 := n3_; have HB := n4_; clear n0_ n1_ n2_ n3_ n4_; clear hg hw hp_))
        go_ret
        exact ⟨_, by first | rfl | (simp [errW_none, errW_some] <;> rfl) | (simp [*, errW_none, errW_some] <;> rfl), by (with_reducible repeat (first | apply Kd.N_alloc | apply Kd.N_drewN | apply Kd.N_drew)); exact Kd.N_mono HO135.out (fun _ hk => hk.1), by repeat (first | (with_reducible first | exact HB.out | apply below_alloc | apply pw_below_drewN | apply below_drew1 | refine below_set ?_ GE129.out) | exact HB.out)⟩
      · rw [if_neg c6] at H
        exact absurd H (by simp)
    · rw [if_neg c5] at H
      exact absurd H (by simp)
  · rw [if_neg c4] at H
    exact absurd H (by simp)

/-! ### gangplankref16_Begin: function 46 -/
def gangplankref16_Begin.f (l0 : List (S84)) (a1 : Int) : Option ((List (S84)) × Bool) := (gangplankref16_Is.f l0 a1).bind fun t137 => (if t137 = true then ((gangplankref16_With.f l0 a1 1 ([] : List (S56))).bind fun t138 => (some (t138, true))) else (some (l0, false)))
set_option maxHeartbeats 8000000 in
set_option maxRecDepth 100000 in
theorem gangplankref16_Begin.calls (P0_ : Nat → Prop) (A0 : Option Addr) (c0 : Nat) (l0 : List (S84)) (a1 : Int) (r1 : List (S84)) (r2 : Bool) (w : World) (hs0 : Kd.V k84 84 w w.heap.size (fun k_ => P0_ k_) (.slice A0 l0.length c0) l0) (h : gangplankref16_Begin.f l0 a1 = some (r1, r2)) :
    Calls Try.prog 46 #[.slice A0 l0.length c0, .int .i64 a1] w fun e w' => ∃ v0_ : Value, e = .returned (.tuple #[v0_, .bool r2]) ∧ Kd.V k84 84 w' w.heap.size (fun k_ => (P0_ k_ ∨ w.heap.size ≤ k_)) v0_ r1 ∧ Below w.heap.size w w' := by
  have hu84 := Try.underlying84
  have HO0 := Aside0.mk (show Kd.V k84 84 w w.heap.size (fun k_ => (P0_ k_ ∨ w.heap.size ≤ k_)) (.slice A0 l0.length c0) l0 from Kd.V_mono hs0 (fun k_ hk => .inl hk))
  have HB := Aside0.mk (Below.refl w.heap.size w)
  have H : ((gangplankref16_Is.f l0 a1).bind fun t137 => (if t137 = true then ((gangplankref16_With.f l0 a1 1 ([] : List (S56))).bind fun t138 => (some (t138, true))) else (some (l0, false)))) = some (r1, r2) := h
  clear h
  replace H := Option.bind_eq_some_iff.mp H
  obtain ⟨t137, A30, H⟩ := H
  replace H : (if t137 = true then ((gangplankref16_With.f l0 a1 1 ([] : List (S56))).bind fun t138 => (some (t138, true))) else (some (l0, false))) = some (r1, r2) := H
  have A3 := Aside0.mk A30
  clear A30
  by_cases c4 : t137 = true
  · subst c4
    have H1 : ((gangplankref16_With.f l0 a1 1 ([] : List (S56))).bind fun t138 => (some (t138, true))) = some (r1, r2) := by first | (rw [if_pos rfl] at H; exact H) | (rw [if_pos trivial] at H; exact H)
    clear H
    have H := H1
    clear H1
    replace H := Option.bind_eq_some_iff.mp H
    obtain ⟨t138, A50, H⟩ := H
    replace H : (some (t138, true)) = some (r1, r2) := H
    have A5 := Aside0.mk A50
    clear A50
    simp only [Option.some.injEq, Prod.mk.injEq] at H
    obtain ⟨rfl, rfl⟩ := H
    go_enter Try.func46, Try.ntmps46
    go_wp2_with (first | ((with_reducible refine gate_callee (f := 72) rfl ?_); refine goesL_ (some 8) rfl rfl Try.func72 (by kernel_rfl) rfl #[.slice A0 l0.length c0, .int .i64 a1] rfl (by (try simp only [List.map_toArray, List.map_cons, List.map_nil]); first | done | rfl | (simp only [List.length_drop, List.length_take]; rfl)) ?_; (with_reducible refine (gangplankref16_Is.calls _ _ l0 a1 true _ ?side1 ?side2 A3.out).mono ?_); (case side1 => repeat (first | exact (Kd.V_reads' HO0.out).2.2 | (with_reducible refine Kd.C_alloc ?_ _) | (with_reducible refine Kd.C_drewN ?_ _) | (with_reducible refine Kd.C_drew ?_))); (case side2 => exact (Kd.V_reads' HO0.out).2.1); (try clear A3); rintro e w' ⟨rfl, ⟨nd, rfl⟩⟩; refine ⟨_, rfl, ?_⟩) | ((with_reducible refine gate_callee (f := 73) rfl ?_); refine goesL_ (some 14) rfl rfl Try.func73 (by kernel_rfl) rfl #[.slice A0 l0.length c0, .int .i64 a1, .agg #[.int .i64 1, .slice none 0 0]] rfl (by (try simp only [List.map_toArray, List.map_cons, List.map_nil]); first | done | rfl | (simp only [List.length_drop, List.length_take]; rfl)) ?_; (refine (gangplankref16_With.calls (fun k_ => (P0_ k_ ∨ w.heap.size ≤ k_)) _ _ l0 a1 1 (fun k_ => False) _ _ ([] : List (S56)) t138 _ ?side1 ?side2 A5.out).mono ?_); (case side1 => exact HO0.out); (case side2 => exact Kd.V_nil _ _ _ _ _); (try clear A5); rintro e w6 ⟨v139, rfl, ho0, hb⟩; refine ⟨_, rfl, ?_⟩; have n0_ := Aside0.mk (Kd.V_elder' (by (with_reducible repeat (first | apply Kd.V_alloc | apply Kd.V_drewN | apply Kd.V_drew)); exact HO0.out) (Kd.N_base ho0) hb); have n1_ := Aside0.mk (Kd.N_lower (Kd.N_mono (ok' := fun k_ => (P0_ k_ ∨ w.heap.size ≤ k_)) ho0 (fun k_ hk_ => Or.elim hk_ (fun hs_ => Or.elim hs_ (fun hs_ => hs_) (fun hs_ => (hs_).elim)) (fun hn_ => (.inr (Nat.le_trans (below_size (by repeat (first | (with_reducible first | exact HB.out | apply below_alloc | apply pw_below_drewN | apply below_drew1) | exact HB.out))) hn_))))) (below_size (by repeat (first | (with_reducible first | exact HB.out | apply below_alloc | apply pw_below_drewN | apply below_drew1) | exact HB.out)))); have n2_ := Aside0.mk (below_step (by repeat (first | (with_reducible first | exact HB.out | apply below_alloc | apply pw_below_drewN | apply below_drew1) | exact HB.out)) hb); clear HO0; clear HB; have HO0 := n0_; have HO140 := n1_; have HB := n2_; clear n0_ n1_ n2_; (try clear hb); (try clear hb2); (try clear hk); (try clear hi); (try clear ho0)))
    go_ret2
    exact ⟨_, by first | rfl | (simp [errW_none, errW_some] <;> rfl) | (simp [*, errW_none, errW_some] <;> rfl), Kd.N_V (by (with_reducible repeat (first | apply Kd.N_alloc | apply Kd.N_drewN | apply Kd.N_drew)); exact HO140.out), by repeat (first | (with_reducible first | exact HB.out | apply below_alloc | apply pw_below_drewN | apply below_drew1) | exact HB.out)⟩
  · replace c4 := Bool.eq_false_iff.mpr c4
    subst c4
    have H1 : (some (l0, false)) = some (r1, r2) := by rw [if_neg (show ¬ (false = true) by decide)] at H; exact H
    clear H
    have H := H1
    clear H1
    simp only [Option.some.injEq, Prod.mk.injEq] at H
    obtain ⟨rfl, rfl⟩ := H
    go_enter Try.func46, Try.ntmps46
    go_wp2_with (first | ((with_reducible refine gate_callee (f := 72) rfl ?_); refine goesL_ (some 8) rfl rfl Try.func72 (by kernel_rfl) rfl #[.slice A0 l0.length c0, .int .i64 a1] rfl (by (try simp only [List.map_toArray, List.map_cons, List.map_nil]); first | done | rfl | (simp only [List.length_drop, List.length_take]; rfl)) ?_; (with_reducible refine (gangplankref16_Is.calls _ _ l0 a1 false _ ?side1 ?side2 A3.out).mono ?_); (case side1 => repeat (first | exact (Kd.V_reads' HO0.out).2.2 | (with_reducible refine Kd.C_alloc ?_ _) | (with_reducible refine Kd.C_drewN ?_ _) | (with_reducible refine Kd.C_drew ?_))); (case side2 => exact (Kd.V_reads' HO0.out).2.1); (try clear A3); rintro e w' ⟨rfl, ⟨nd, rfl⟩⟩; refine ⟨_, rfl, ?_⟩))
    go_ret2
    exact ⟨_, by first | rfl | (simp [errW_none, errW_some] <;> rfl) | (simp [*, errW_none, errW_some] <;> rfl), by (with_reducible repeat (first | apply Kd.V_alloc | apply Kd.V_drewN | apply Kd.V_drew)); exact HO0.out, by repeat (first | (with_reducible first | exact HB.out | apply below_alloc | apply pw_below_drewN | apply below_drew1) | exact HB.out)⟩

/-! ### gangplankref16_Fill: function 47 -/
def gangplankref16_Fill.f (k : Nat) (l0 : List (S84)) (a1 : Int) (l2 : List (S56)) : Option ((List (S84)) × Bool) := (gangplankref16_Is.f l0 a1).bind fun t141 => (if t141 = true then (if 0 ≤ a1 then (if a1 < (l0.length : Int) then (if ((rd_T84 l0 a1).f0) = 1 then ((gangplankref08_Check.f k l2).bind fun t143 => (if t143 = 0 then ((gangplankref16_With.f l0 a1 2 l2).bind fun t144 => (some (t144, true))) else (some (l0, false)))) else (some (l0, false))) else (none)) else (none)) else (some (l0, false)))
theorem gangplankref16_Fill.mono : ∀ a0 a1 a2 k, LeO (gangplankref16_Fill.f k a0 a1 a2) (gangplankref16_Fill.f (k + 1) a0 a1 a2) := by
  intro a0 a1 a2 k
  unfold gangplankref16_Fill.f
  repeat' first
      | (with_reducible exact gangplankref08_Check.mono _ _)
      | (with_reducible exact LeO.refl _)
      | (with_reducible exact LeO.none _)
      | (with_reducible refine LeO.ite ?_ ?_)
      | (with_reducible refine LeO.bind ?_ (fun _ => ?_))
      | exact gangplankref08_Check.mono _ _
      | exact LeO.none _
      | refine LeO.ite ?_ ?_
      | refine LeO.bind ?_ (fun _ => ?_)
set_option maxHeartbeats 8000000 in
set_option maxRecDepth 100000 in
theorem gangplankref16_Fill.calls (k : Nat) (P0_ : Nat → Prop) (A0 : Option Addr) (c0 : Nat) (l0 : List (S84)) (a1 : Int) (P2_ : Nat → Prop) (A2 : Option Addr) (c2 : Nat) (l2 : List (S56)) (r1 : List (S84)) (r2 : Bool) (w : World) (hs0 : Kd.V k84 84 w w.heap.size (fun k_ => P0_ k_) (.slice A0 l0.length c0) l0) (hs2 : Kd.V k56 56 w w.heap.size (fun k_ => P2_ k_) (.slice A2 l2.length c2) l2) (h : gangplankref16_Fill.f k l0 a1 l2 = some (r1, r2)) :
    Calls Try.prog 47 #[.slice A0 l0.length c0, .int .i64 a1, .slice A2 l2.length c2] w fun e w' => ∃ v0_ : Value, e = .returned (.tuple #[v0_, .bool r2]) ∧ Kd.V k84 84 w' w.heap.size (fun k_ => ((P0_ k_ ∨ P2_ k_) ∨ w.heap.size ≤ k_)) v0_ r1 ∧ Below w.heap.size w w' := by
  have hu84 := Try.underlying84
  have HO0 := Aside0.mk (show Kd.V k84 84 w w.heap.size (fun k_ => ((P0_ k_ ∨ P2_ k_) ∨ w.heap.size ≤ k_)) (.slice A0 l0.length c0) l0 from Kd.V_mono hs0 (fun k_ hk => .inl (.inl hk)))
  have HO2 := Aside0.mk (show Kd.V k56 56 w w.heap.size (fun k_ => ((P0_ k_ ∨ P2_ k_) ∨ w.heap.size ≤ k_)) (.slice A2 l2.length c2) l2 from Kd.V_mono hs2 (fun k_ hk => .inl (.inr hk)))
  have HB := Aside0.mk (Below.refl w.heap.size w)
  have H : ((gangplankref16_Is.f l0 a1).bind fun t141 => (if t141 = true then (if 0 ≤ a1 then (if a1 < (l0.length : Int) then (if ((rd_T84 l0 a1).f0) = 1 then ((gangplankref08_Check.f k l2).bind fun t143 => (if t143 = 0 then ((gangplankref16_With.f l0 a1 2 l2).bind fun t144 => (some (t144, true))) else (some (l0, false)))) else (some (l0, false))) else (none)) else (none)) else (some (l0, false)))) = some (r1, r2) := h
  clear h
  replace H := Option.bind_eq_some_iff.mp H
  obtain ⟨t141, A40, H⟩ := H
  replace H : (if t141 = true then (if 0 ≤ a1 then (if a1 < (l0.length : Int) then (if ((rd_T84 l0 a1).f0) = 1 then ((gangplankref08_Check.f k l2).bind fun t143 => (if t143 = 0 then ((gangplankref16_With.f l0 a1 2 l2).bind fun t144 => (some (t144, true))) else (some (l0, false)))) else (some (l0, false))) else (none)) else (none)) else (some (l0, false))) = some (r1, r2) := H
  have A4 := Aside0.mk A40
  clear A40
  by_cases c5 : t141 = true
  · subst c5
    have H1 : (if 0 ≤ a1 then (if a1 < (l0.length : Int) then (if ((rd_T84 l0 a1).f0) = 1 then ((gangplankref08_Check.f k l2).bind fun t143 => (if t143 = 0 then ((gangplankref16_With.f l0 a1 2 l2).bind fun t144 => (some (t144, true))) else (some (l0, false)))) else (some (l0, false))) else (none)) else (none)) = some (r1, r2) := by first | (rw [if_pos rfl] at H; exact H) | (rw [if_pos trivial] at H; exact H)
    clear H
    have H := H1
    clear H1
    by_cases c6 : 0 ≤ a1
    · rw [if_pos c6] at H
      have c6b0 : decide (0 ≤ a1) = true := decide_eq_true c6
      clear c6
      by_cases c7 : a1 < (l0.length : Int)
      · rw [if_pos c7] at H
        have c7b0 : decide (a1 < (l0.length : Int)) = true := decide_eq_true c7
        clear c7
        by_cases c8 : ((rd_T84 l0 a1).f0) = 1
        · rw [if_pos c8] at H
          have c8b0 : (((rd_T84 l0 a1).f0) == 1) = true := beq_iff_eq.mpr c8
          have c8b1 : (((rd_T84 l0 a1).f0) != 1) = false := bne_eq_false_iff_eq.mpr c8
          clear c8
          replace H := Option.bind_eq_some_iff.mp H
          obtain ⟨t143, A90, H⟩ := H
          replace H : (if t143 = 0 then ((gangplankref16_With.f l0 a1 2 l2).bind fun t144 => (some (t144, true))) else (some (l0, false))) = some (r1, r2) := H
          have A9 := Aside0.mk A90
          clear A90
          by_cases c10 : t143 = 0
          · rw [if_pos c10] at H
            have c10b0 : (t143 == 0) = true := beq_iff_eq.mpr c10
            have c10b1 : (t143 != 0) = false := bne_eq_false_iff_eq.mpr c10
            clear c10
            replace H := Option.bind_eq_some_iff.mp H
            obtain ⟨t144, A110, H⟩ := H
            replace H : (some (t144, true)) = some (r1, r2) := H
            have A11 := Aside0.mk A110
            clear A110
            simp only [Option.some.injEq, Prod.mk.injEq] at H
            obtain ⟨rfl, rfl⟩ := H
            go_enter Try.func47, Try.ntmps47
            go_wp2_with (first | ((with_reducible refine gate_callee (f := 72) rfl ?_); refine goesL_ (some 10) rfl rfl Try.func72 (by kernel_rfl) rfl #[.slice A0 l0.length c0, .int .i64 a1] rfl (by (try simp only [List.map_toArray, List.map_cons, List.map_nil]); first | done | rfl | (simp only [List.length_drop, List.length_take]; rfl)) ?_; (with_reducible refine (gangplankref16_Is.calls _ _ l0 a1 true _ ?side1 ?side2 A4.out).mono ?_); (case side1 => repeat (first | exact (Kd.V_reads' HO0.out).2.2 | (with_reducible refine Kd.C_alloc ?_ _) | (with_reducible refine Kd.C_drewN ?_ _) | (with_reducible refine Kd.C_drew ?_))); (case side2 => exact (Kd.V_reads' HO0.out).2.1); (try clear A4); rintro e w' ⟨rfl, ⟨nd, rfl⟩⟩; refine ⟨_, rfl, ?_⟩; have p142 : 0 ≤ (a1 : Int) := of_decide_eq_true (by first | (with_reducible assumption) | assumption); have q142 : a1 < (l0.length : Int) := of_decide_eq_true (by first | (with_reducible assumption) | assumption); obtain ⟨ad142, A142_1, c142_1, e142, hx142_0, hx142_1, hl142_1, hi142_1⟩ := at_T84 (Kd.V_reads' HO0.out).2.2 a1 p142 q142; cases e142; obtain ⟨ce142, hce142, hMe142, hcc142⟩ := Kd.V_get HO0.out z84 a1 p142 (by first | exact q142 | exact of_decide_eq_true (by first | (with_reducible assumption) | assumption) | (have e_ := (Kd.V_reads' HO0.out).1; omega)); obtain ⟨ua142_1, uc142_1, rfl, ul142_1, ge142_1⟩ := k84_openF hMe142; have hv142_1 := hcc142 1 _ rfl; rw [add_field _ _ 1 (by omega)] at hv142_1; replace hv142_1 := Option.some.inj (hv142_1.symm.trans hx142_1); injection hv142_1 with hva_ hvn_ hvc_; rw [hva_] at ge142_1; rw [hvc_] at ul142_1; have HL142_1 := Aside0.mk (show Kd.V k56 56 _ w.heap.size _ _ ((rd_T84 l0 a1).f1) from Kd.V_mk ul142_1 ge142_1); clear hva_ hvn_ hvc_ ge142_1 ul142_1; clear hcc142 hce142; have HR142_1 := Aside0.mk hi142_1; have HC142_1 := Aside0.mk hl142_1; clear hi142_1 hl142_1; replace p142 := eq_true p142; replace q142 := eq_true q142) | (go_at_call 43; (with_reducible refine (gangplankref08_Check.calls k _ _ l2 t143 _ ?side1 ?side2 A9.out).mono ?_); (case side1 => repeat (first | exact (Kd.V_reads' HO2.out).2.2 | (with_reducible refine Kd.C_alloc ?_ _) | (with_reducible refine Kd.C_drewN ?_ _) | (with_reducible refine Kd.C_drew ?_))); (case side2 => exact (Kd.V_reads' HO2.out).2.1); (try clear A9); rintro e w12 ⟨rfl, hb⟩; have n0_ := Aside0.mk (Kd.V_below (by (with_reducible repeat (first | apply Kd.V_alloc | apply Kd.V_drewN | apply Kd.V_drew)); exact HO0.out) hb); have n1_ := Aside0.mk (Kd.V_below (by (with_reducible repeat (first | apply Kd.V_alloc | apply Kd.V_drewN | apply Kd.V_drew)); exact HO2.out) hb); have n2_ := Aside0.mk (Kd.V_below (by (with_reducible repeat (first | apply Kd.V_alloc | apply Kd.V_drewN | apply Kd.V_drew)); exact HL142_1.out) hb); have n3_ := Aside0.mk (Kd.C_below (by repeat (first | (with_reducible exact HR142_1.out) | (with_reducible refine Kd.C_alloc ?_ _) | (with_reducible refine Kd.C_drewN ?_ _) | (with_reducible refine Kd.C_drew ?_) | exact HR142_1.out)) hb); have n4_ := Aside0.mk (below_step (by repeat (first | (with_reducible first | exact HB.out | apply below_alloc | apply pw_below_drewN | apply below_drew1) | exact HB.out)) hb); clear HO0; clear HO2; clear HL142_1; clear HR142_1; clear HB; have HO0 := n0_; have HO2 := n1_; have HL142_1 := n2_; have HR142_1 := n3_; have HB := n4_; clear n0_ n1_ n2_ n3_ n4_; (try clear hb); (try clear hb2); (try clear hk); (try clear hi)) | ((with_reducible refine gate_callee (f := 73) rfl ?_); refine goesL_ (some 30) rfl rfl Try.func73 (by kernel_rfl) rfl #[.slice (some ad142) l0.length c0, .int .i64 a1, .agg #[.int .i64 2, .slice A2 l2.length c2]] rfl (by (try simp only [List.map_toArray, List.map_cons, List.map_nil]); first | done | rfl | (simp only [List.length_drop, List.length_take]; rfl)) ?_; (with_reducible refine (gangplankref16_With.calls (fun k_ => ((P0_ k_ ∨ P2_ k_) ∨ w.heap.size ≤ k_)) _ _ l0 a1 2 (fun k_ => ((P0_ k_ ∨ P2_ k_) ∨ w.heap.size ≤ k_)) _ _ l2 t144 _ ?side1 ?side2 A11.out).mono ?_); (case side1 => exact HO0.out); (case side2 => exact HO2.out); (try clear A11); rintro e w13 ⟨v145, rfl, ho0, hb⟩; refine ⟨_, rfl, ?_⟩; have n0_ := Aside0.mk (Kd.V_elder' (by (with_reducible repeat (first | apply Kd.V_alloc | apply Kd.V_drewN | apply Kd.V_drew)); exact HO0.out) (Kd.N_base ho0) hb); have n1_ := Aside0.mk (Kd.V_elder' (by (with_reducible repeat (first | apply Kd.V_alloc | apply Kd.V_drewN | apply Kd.V_drew)); exact HO2.out) (Kd.N_base ho0) hb); have n2_ := Aside0.mk (Kd.V_elder' (by (with_reducible repeat (first | apply Kd.V_alloc | apply Kd.V_drewN | apply Kd.V_drew)); exact HL142_1.out) (Kd.N_base ho0) hb); have n3_ := Aside0.mk (Kd.N_lower (Kd.N_mono (ok' := fun k_ => ((P0_ k_ ∨ P2_ k_) ∨ w.heap.size ≤ k_)) ho0 (fun k_ hk_ => Or.elim hk_ (fun hs_ => Or.elim hs_ (fun hs_ => hs_) (fun hs_ => hs_)) (fun hn_ => (.inr (Nat.le_trans (below_size (by repeat (first | (with_reducible first | exact HB.out | apply below_alloc | apply pw_below_drewN | apply below_drew1) | exact HB.out))) hn_))))) (below_size (by repeat (first | (with_reducible first | exact HB.out | apply below_alloc | apply pw_below_drewN | apply below_drew1) | exact HB.out)))); have n4_ := Aside0.mk (Kd.C_below (by repeat (first | (with_reducible exact HR142_1.out) | (with_reducible refine Kd.C_alloc ?_ _) | (with_reducible refine Kd.C_drewN ?_ _) | (with_reducible refine Kd.C_drew ?_) | exact HR142_1.out)) hb); have n5_ := Aside0.mk (below_step (by repeat (first | (with_reducible first | exact HB.out | apply below_alloc | apply pw_below_drewN | apply below_drew1) | exact HB.out)) hb); clear HO0; clear HO2; clear HL142_1; clear HR142_1; clear HB; have HO0 := n0_; have HO2 := n1_; have HL142_1 := n2_; have HO146 := n3_; have HR142_1 := n4_; have HB := n5_; clear n0_ n1_ n2_ n3_ n4_ n5_; (try clear hb); (try clear hb2); (try clear hk); (try clear hi); (try clear ho0)))
            go_ret2
            exact ⟨_, by first | rfl | (simp [errW_none, errW_some] <;> rfl) | (simp [*, errW_none, errW_some] <;> rfl), Kd.N_V (by (with_reducible repeat (first | apply Kd.N_alloc | apply Kd.N_drewN | apply Kd.N_drew)); exact HO146.out), by repeat (first | (with_reducible first | exact HB.out | apply below_alloc | apply pw_below_drewN | apply below_drew1) | exact HB.out)⟩
          · rw [if_neg c10] at H
            have c10b0 : (t143 == 0) = false := beq_eq_false_iff_ne.mpr c10
            have c10b1 : (t143 != 0) = true := bne_iff_ne.mpr c10
            simp only [Option.some.injEq, Prod.mk.injEq] at H
            obtain ⟨rfl, rfl⟩ := H
            go_enter Try.func47, Try.ntmps47
            go_wp2_with (first | ((with_reducible refine gate_callee (f := 72) rfl ?_); refine goesL_ (some 10) rfl rfl Try.func72 (by kernel_rfl) rfl #[.slice A0 l0.length c0, .int .i64 a1] rfl (by (try simp only [List.map_toArray, List.map_cons, List.map_nil]); first | done | rfl | (simp only [List.length_drop, List.length_take]; rfl)) ?_; (with_reducible refine (gangplankref16_Is.calls _ _ l0 a1 true _ ?side1 ?side2 A4.out).mono ?_); (case side1 => repeat (first | exact (Kd.V_reads' HO0.out).2.2 | (with_reducible refine Kd.C_alloc ?_ _) | (with_reducible refine Kd.C_drewN ?_ _) | (with_reducible refine Kd.C_drew ?_))); (case side2 => exact (Kd.V_reads' HO0.out).2.1); (try clear A4); rintro e w' ⟨rfl, ⟨nd, rfl⟩⟩; refine ⟨_, rfl, ?_⟩; have p142 : 0 ≤ (a1 : Int) := of_decide_eq_true (by first | (with_reducible assumption) | assumption); have q142 : a1 < (l0.length : Int) := of_decide_eq_true (by first | (with_reducible assumption) | assumption); obtain ⟨ad142, A142_1, c142_1, e142, hx142_0, hx142_1, hl142_1, hi142_1⟩ := at_T84 (Kd.V_reads' HO0.out).2.2 a1 p142 q142; cases e142; obtain ⟨ce142, hce142, hMe142, hcc142⟩ := Kd.V_get HO0.out z84 a1 p142 (by first | exact q142 | exact of_decide_eq_true (by first | (with_reducible assumption) | assumption) | (have e_ := (Kd.V_reads' HO0.out).1; omega)); obtain ⟨ua142_1, uc142_1, rfl, ul142_1, ge142_1⟩ := k84_openF hMe142; have hv142_1 := hcc142 1 _ rfl; rw [add_field _ _ 1 (by omega)] at hv142_1; replace hv142_1 := Option.some.inj (hv142_1.symm.trans hx142_1); injection hv142_1 with hva_ hvn_ hvc_; rw [hva_] at ge142_1; rw [hvc_] at ul142_1; have HL142_1 := Aside0.mk (show Kd.V k56 56 _ w.heap.size _ _ ((rd_T84 l0 a1).f1) from Kd.V_mk ul142_1 ge142_1); clear hva_ hvn_ hvc_ ge142_1 ul142_1; clear hcc142 hce142; have HR142_1 := Aside0.mk hi142_1; have HC142_1 := Aside0.mk hl142_1; clear hi142_1 hl142_1; replace p142 := eq_true p142; replace q142 := eq_true q142) | (go_at_call 43; (with_reducible refine (gangplankref08_Check.calls k _ _ l2 t143 _ ?side1 ?side2 A9.out).mono ?_); (case side1 => repeat (first | exact (Kd.V_reads' HO2.out).2.2 | (with_reducible refine Kd.C_alloc ?_ _) | (with_reducible refine Kd.C_drewN ?_ _) | (with_reducible refine Kd.C_drew ?_))); (case side2 => exact (Kd.V_reads' HO2.out).2.1); (try clear A9); rintro e w14 ⟨rfl, hb⟩; have n0_ := Aside0.mk (Kd.V_below (by (with_reducible repeat (first | apply Kd.V_alloc | apply Kd.V_drewN | apply Kd.V_drew)); exact HO0.out) hb); have n1_ := Aside0.mk (Kd.V_below (by (with_reducible repeat (first | apply Kd.V_alloc | apply Kd.V_drewN | apply Kd.V_drew)); exact HO2.out) hb); have n2_ := Aside0.mk (Kd.V_below (by (with_reducible repeat (first | apply Kd.V_alloc | apply Kd.V_drewN | apply Kd.V_drew)); exact HL142_1.out) hb); have n3_ := Aside0.mk (Kd.C_below (by repeat (first | (with_reducible exact HR142_1.out) | (with_reducible refine Kd.C_alloc ?_ _) | (with_reducible refine Kd.C_drewN ?_ _) | (with_reducible refine Kd.C_drew ?_) | exact HR142_1.out)) hb); have n4_ := Aside0.mk (below_step (by repeat (first | (with_reducible first | exact HB.out | apply below_alloc | apply pw_below_drewN | apply below_drew1) | exact HB.out)) hb); clear HO0; clear HO2; clear HL142_1; clear HR142_1; clear HB; have HO0 := n0_; have HO2 := n1_; have HL142_1 := n2_; have HR142_1 := n3_; have HB := n4_; clear n0_ n1_ n2_ n3_ n4_; (try clear hb); (try clear hb2); (try clear hk); (try clear hi)))
            go_ret2
            exact ⟨_, by first | rfl | (simp [errW_none, errW_some] <;> rfl) | (simp [*, errW_none, errW_some] <;> rfl), by (with_reducible repeat (first | apply Kd.V_alloc | apply Kd.V_drewN | apply Kd.V_drew)); exact HO0.out, by repeat (first | (with_reducible first | exact HB.out | apply below_alloc | apply pw_below_drewN | apply below_drew1) | exact HB.out)⟩
        · rw [if_neg c8] at H
          have c8b0 : (((rd_T84 l0 a1).f0) == 1) = false := beq_eq_false_iff_ne.mpr c8
          have c8b1 : (((rd_T84 l0 a1).f0) != 1) = true := bne_iff_ne.mpr c8
          simp only [Option.some.injEq, Prod.mk.injEq] at H
          obtain ⟨rfl, rfl⟩ := H
          go_enter Try.func47, Try.ntmps47
          go_wp2_with (first | ((with_reducible refine gate_callee (f := 72) rfl ?_); refine goesL_ (some 10) rfl rfl Try.func72 (by kernel_rfl) rfl #[.slice A0 l0.length c0, .int .i64 a1] rfl (by (try simp only [List.map_toArray, List.map_cons, List.map_nil]); first | done | rfl | (simp only [List.length_drop, List.length_take]; rfl)) ?_; (with_reducible refine (gangplankref16_Is.calls _ _ l0 a1 true _ ?side1 ?side2 A4.out).mono ?_); (case side1 => repeat (first | exact (Kd.V_reads' HO0.out).2.2 | (with_reducible refine Kd.C_alloc ?_ _) | (with_reducible refine Kd.C_drewN ?_ _) | (with_reducible refine Kd.C_drew ?_))); (case side2 => exact (Kd.V_reads' HO0.out).2.1); (try clear A4); rintro e w' ⟨rfl, ⟨nd, rfl⟩⟩; refine ⟨_, rfl, ?_⟩; have p142 : 0 ≤ (a1 : Int) := of_decide_eq_true (by first | (with_reducible assumption) | assumption); have q142 : a1 < (l0.length : Int) := of_decide_eq_true (by first | (with_reducible assumption) | assumption); obtain ⟨ad142, A142_1, c142_1, e142, hx142_0, hx142_1, hl142_1, hi142_1⟩ := at_T84 (Kd.V_reads' HO0.out).2.2 a1 p142 q142; cases e142; obtain ⟨ce142, hce142, hMe142, hcc142⟩ := Kd.V_get HO0.out z84 a1 p142 (by first | exact q142 | exact of_decide_eq_true (by first | (with_reducible assumption) | assumption) | (have e_ := (Kd.V_reads' HO0.out).1; omega)); obtain ⟨ua142_1, uc142_1, rfl, ul142_1, ge142_1⟩ := k84_openF hMe142; have hv142_1 := hcc142 1 _ rfl; rw [add_field _ _ 1 (by omega)] at hv142_1; replace hv142_1 := Option.some.inj (hv142_1.symm.trans hx142_1); injection hv142_1 with hva_ hvn_ hvc_; rw [hva_] at ge142_1; rw [hvc_] at ul142_1; have HL142_1 := Aside0.mk (show Kd.V k56 56 _ w.heap.size _ _ ((rd_T84 l0 a1).f1) from Kd.V_mk ul142_1 ge142_1); clear hva_ hvn_ hvc_ ge142_1 ul142_1; clear hcc142 hce142; have HR142_1 := Aside0.mk hi142_1; have HC142_1 := Aside0.mk hl142_1; clear hi142_1 hl142_1; replace p142 := eq_true p142; replace q142 := eq_true q142))
          go_ret2
          exact ⟨_, by first | rfl | (simp [errW_none, errW_some] <;> rfl) | (simp [*, errW_none, errW_some] <;> rfl), by (with_reducible repeat (first | apply Kd.V_alloc | apply Kd.V_drewN | apply Kd.V_drew)); exact HO0.out, by repeat (first | (with_reducible first | exact HB.out | apply below_alloc | apply pw_below_drewN | apply below_drew1) | exact HB.out)⟩
      · rw [if_neg c7] at H
        exact absurd H (by simp)
    · rw [if_neg c6] at H
      exact absurd H (by simp)
  · replace c5 := Bool.eq_false_iff.mpr c5
    subst c5
    have H1 : (some (l0, false)) = some (r1, r2) := by rw [if_neg (show ¬ (false = true) by decide)] at H; exact H
    clear H
    have H := H1
    clear H1
    simp only [Option.some.injEq, Prod.mk.injEq] at H
    obtain ⟨rfl, rfl⟩ := H
    go_enter Try.func47, Try.ntmps47
    go_wp2_with (first | ((with_reducible refine gate_callee (f := 72) rfl ?_); refine goesL_ (some 10) rfl rfl Try.func72 (by kernel_rfl) rfl #[.slice A0 l0.length c0, .int .i64 a1] rfl (by (try simp only [List.map_toArray, List.map_cons, List.map_nil]); first | done | rfl | (simp only [List.length_drop, List.length_take]; rfl)) ?_; (with_reducible refine (gangplankref16_Is.calls _ _ l0 a1 false _ ?side1 ?side2 A4.out).mono ?_); (case side1 => repeat (first | exact (Kd.V_reads' HO0.out).2.2 | (with_reducible refine Kd.C_alloc ?_ _) | (with_reducible refine Kd.C_drewN ?_ _) | (with_reducible refine Kd.C_drew ?_))); (case side2 => exact (Kd.V_reads' HO0.out).2.1); (try clear A4); rintro e w' ⟨rfl, ⟨nd, rfl⟩⟩; refine ⟨_, rfl, ?_⟩))
    go_ret2
    exact ⟨_, by first | rfl | (simp [errW_none, errW_some] <;> rfl) | (simp [*, errW_none, errW_some] <;> rfl), by (with_reducible repeat (first | apply Kd.V_alloc | apply Kd.V_drewN | apply Kd.V_drew)); exact HO0.out, by repeat (first | (with_reducible first | exact HB.out | apply below_alloc | apply pw_below_drewN | apply below_drew1) | exact HB.out)⟩

/-! ### gangplankref16_Spoil: function 48 -/
def gangplankref16_Spoil.f (l0 : List (S84)) (a1 : Int) : Option ((List (S84)) × Bool) := (gangplankref16_Is.f l0 a1).bind fun t147 => (if t147 = true then ((gangplankref16_With.f l0 a1 0 ([] : List (S56))).bind fun t148 => (some (t148, true))) else (some (l0, false)))
set_option maxHeartbeats 8000000 in
set_option maxRecDepth 100000 in
theorem gangplankref16_Spoil.calls (P0_ : Nat → Prop) (A0 : Option Addr) (c0 : Nat) (l0 : List (S84)) (a1 : Int) (r1 : List (S84)) (r2 : Bool) (w : World) (hs0 : Kd.V k84 84 w w.heap.size (fun k_ => P0_ k_) (.slice A0 l0.length c0) l0) (h : gangplankref16_Spoil.f l0 a1 = some (r1, r2)) :
    Calls Try.prog 48 #[.slice A0 l0.length c0, .int .i64 a1] w fun e w' => ∃ v0_ : Value, e = .returned (.tuple #[v0_, .bool r2]) ∧ Kd.V k84 84 w' w.heap.size (fun k_ => (P0_ k_ ∨ w.heap.size ≤ k_)) v0_ r1 ∧ Below w.heap.size w w' := by
  have hu84 := Try.underlying84
  have HO0 := Aside0.mk (show Kd.V k84 84 w w.heap.size (fun k_ => (P0_ k_ ∨ w.heap.size ≤ k_)) (.slice A0 l0.length c0) l0 from Kd.V_mono hs0 (fun k_ hk => .inl hk))
  have HB := Aside0.mk (Below.refl w.heap.size w)
  have H : ((gangplankref16_Is.f l0 a1).bind fun t147 => (if t147 = true then ((gangplankref16_With.f l0 a1 0 ([] : List (S56))).bind fun t148 => (some (t148, true))) else (some (l0, false)))) = some (r1, r2) := h
  clear h
  replace H := Option.bind_eq_some_iff.mp H
  obtain ⟨t147, A30, H⟩ := H
  replace H : (if t147 = true then ((gangplankref16_With.f l0 a1 0 ([] : List (S56))).bind fun t148 => (some (t148, true))) else (some (l0, false))) = some (r1, r2) := H
  have A3 := Aside0.mk A30
  clear A30
  by_cases c4 : t147 = true
  · subst c4
    have H1 : ((gangplankref16_With.f l0 a1 0 ([] : List (S56))).bind fun t148 => (some (t148, true))) = some (r1, r2) := by first | (rw [if_pos rfl] at H; exact H) | (rw [if_pos trivial] at H; exact H)
    clear H
    have H := H1
    clear H1
    replace H := Option.bind_eq_some_iff.mp H
    obtain ⟨t148, A50, H⟩ := H
    replace H : (some (t148, true)) = some (r1, r2) := H
    have A5 := Aside0.mk A50
    clear A50
    simp only [Option.some.injEq, Prod.mk.injEq] at H
    obtain ⟨rfl, rfl⟩ := H
    go_enter Try.func48, Try.ntmps48
    go_wp2_with (first | ((with_reducible refine gate_callee (f := 72) rfl ?_); refine goesL_ (some 8) rfl rfl Try.func72 (by kernel_rfl) rfl #[.slice A0 l0.length c0, .int .i64 a1] rfl (by (try simp only [List.map_toArray, List.map_cons, List.map_nil]); first | done | rfl | (simp only [List.length_drop, List.length_take]; rfl)) ?_; (with_reducible refine (gangplankref16_Is.calls _ _ l0 a1 true _ ?side1 ?side2 A3.out).mono ?_); (case side1 => repeat (first | exact (Kd.V_reads' HO0.out).2.2 | (with_reducible refine Kd.C_alloc ?_ _) | (with_reducible refine Kd.C_drewN ?_ _) | (with_reducible refine Kd.C_drew ?_))); (case side2 => exact (Kd.V_reads' HO0.out).2.1); (try clear A3); rintro e w' ⟨rfl, ⟨nd, rfl⟩⟩; refine ⟨_, rfl, ?_⟩) | ((with_reducible refine gate_callee (f := 73) rfl ?_); refine goesL_ (some 14) rfl rfl Try.func73 (by kernel_rfl) rfl #[.slice A0 l0.length c0, .int .i64 a1, .agg #[.int .i64 0, .slice none 0 0]] rfl (by (try simp only [List.map_toArray, List.map_cons, List.map_nil]); first | done | rfl | (simp only [List.length_drop, List.length_take]; rfl)) ?_; (refine (gangplankref16_With.calls (fun k_ => (P0_ k_ ∨ w.heap.size ≤ k_)) _ _ l0 a1 0 (fun k_ => False) _ _ ([] : List (S56)) t148 _ ?side1 ?side2 A5.out).mono ?_); (case side1 => exact HO0.out); (case side2 => exact Kd.V_nil _ _ _ _ _); (try clear A5); rintro e w6 ⟨v149, rfl, ho0, hb⟩; refine ⟨_, rfl, ?_⟩; have n0_ := Aside0.mk (Kd.V_elder' (by (with_reducible repeat (first | apply Kd.V_alloc | apply Kd.V_drewN | apply Kd.V_drew)); exact HO0.out) (Kd.N_base ho0) hb); have n1_ := Aside0.mk (Kd.N_lower (Kd.N_mono (ok' := fun k_ => (P0_ k_ ∨ w.heap.size ≤ k_)) ho0 (fun k_ hk_ => Or.elim hk_ (fun hs_ => Or.elim hs_ (fun hs_ => hs_) (fun hs_ => (hs_).elim)) (fun hn_ => (.inr (Nat.le_trans (below_size (by repeat (first | (with_reducible first | exact HB.out | apply below_alloc | apply pw_below_drewN | apply below_drew1) | exact HB.out))) hn_))))) (below_size (by repeat (first | (with_reducible first | exact HB.out | apply below_alloc | apply pw_below_drewN | apply below_drew1) | exact HB.out)))); have n2_ := Aside0.mk (below_step (by repeat (first | (with_reducible first | exact HB.out | apply below_alloc | apply pw_below_drewN | apply below_drew1) | exact HB.out)) hb); clear HO0; clear HB; have HO0 := n0_; have HO150 := n1_; have HB := n2_; clear n0_ n1_ n2_; (try clear hb); (try clear hb2); (try clear hk); (try clear hi); (try clear ho0)))
    go_ret2
    exact ⟨_, by first | rfl | (simp [errW_none, errW_some] <;> rfl) | (simp [*, errW_none, errW_some] <;> rfl), Kd.N_V (by (with_reducible repeat (first | apply Kd.N_alloc | apply Kd.N_drewN | apply Kd.N_drew)); exact HO150.out), by repeat (first | (with_reducible first | exact HB.out | apply below_alloc | apply pw_below_drewN | apply below_drew1) | exact HB.out)⟩
  · replace c4 := Bool.eq_false_iff.mpr c4
    subst c4
    have H1 : (some (l0, false)) = some (r1, r2) := by rw [if_neg (show ¬ (false = true) by decide)] at H; exact H
    clear H
    have H := H1
    clear H1
    simp only [Option.some.injEq, Prod.mk.injEq] at H
    obtain ⟨rfl, rfl⟩ := H
    go_enter Try.func48, Try.ntmps48
    go_wp2_with (first | ((with_reducible refine gate_callee (f := 72) rfl ?_); refine goesL_ (some 8) rfl rfl Try.func72 (by kernel_rfl) rfl #[.slice A0 l0.length c0, .int .i64 a1] rfl (by (try simp only [List.map_toArray, List.map_cons, List.map_nil]); first | done | rfl | (simp only [List.length_drop, List.length_take]; rfl)) ?_; (with_reducible refine (gangplankref16_Is.calls _ _ l0 a1 false _ ?side1 ?side2 A3.out).mono ?_); (case side1 => repeat (first | exact (Kd.V_reads' HO0.out).2.2 | (with_reducible refine Kd.C_alloc ?_ _) | (with_reducible refine Kd.C_drewN ?_ _) | (with_reducible refine Kd.C_drew ?_))); (case side2 => exact (Kd.V_reads' HO0.out).2.1); (try clear A3); rintro e w' ⟨rfl, ⟨nd, rfl⟩⟩; refine ⟨_, rfl, ?_⟩))
    go_ret2
    exact ⟨_, by first | rfl | (simp [errW_none, errW_some] <;> rfl) | (simp [*, errW_none, errW_some] <;> rfl), by (with_reducible repeat (first | apply Kd.V_alloc | apply Kd.V_drewN | apply Kd.V_drew)); exact HO0.out, by repeat (first | (with_reducible first | exact HB.out | apply below_alloc | apply pw_below_drewN | apply below_drew1) | exact HB.out)⟩

/-! ### gangplankref10_Succ: function 75 -/
def gangplankref10_Succ.l0 : Nat → List (S124) → Int → Int → Option (Int)
  | 0, _, _, _ => none
  | k + 1, x0, x1, x5 => if x5 < (x0.length : Int) then (if 0 ≤ x5 then (if ((rd_T124 x0 x5).f0) ≥ x1 then (some ((rd_T124 x0 x5).f1)) else (gangplankref10_Succ.l0 k x0 x1 (wrap64 (x5 + 1)))) else (none)) else (if (x0.length : Int) = 0 then (some (-1)) else (if 0 < (x0.length : Int) then (some ((rd_T124 x0 0).f1)) else (none)))
def gangplankref10_Succ.f (k : Nat) (l0 : List (S124)) (a1 : Int) : Option (Int) := gangplankref10_Succ.l0 k l0 a1 0
theorem gangplankref10_Succ.mono_l : ∀ k, (∀ y0 y1 y2, LeO (gangplankref10_Succ.l0 k y0 y1 y2) (gangplankref10_Succ.l0 (k + 1) y0 y1 y2))
  | 0 => fun _ _ _ r h => by simp [gangplankref10_Succ.l0] at h
  | k + 1 => by
    have ih0 := gangplankref10_Succ.mono_l k
    · intro y0 y1 y2
      unfold gangplankref10_Succ.l0
      repeat' first
      | (with_reducible exact ih0 _ _ _)
      | (with_reducible exact LeO.refl _)
      | (with_reducible exact LeO.none _)
      | (with_reducible refine LeO.ite ?_ ?_)
      | (with_reducible refine LeO.bind ?_ (fun _ => ?_))
      | exact ih0 _ _ _
      | exact LeO.none _
      | refine LeO.ite ?_ ?_
      | refine LeO.bind ?_ (fun _ => ?_)
theorem gangplankref10_Succ.mono : ∀ a0 a1 k, LeO (gangplankref10_Succ.f k a0 a1) (gangplankref10_Succ.f (k + 1) a0 a1) := by
  intro a0 a1 k
  have ih0 := gangplankref10_Succ.mono_l k
  unfold gangplankref10_Succ.f
  repeat' first
      | (with_reducible exact ih0 _ _ _)
      | (with_reducible exact LeO.refl _)
      | (with_reducible exact LeO.none _)
      | (with_reducible refine LeO.ite ?_ ?_)
      | (with_reducible refine LeO.bind ?_ (fun _ => ?_))
      | exact ih0 _ _ _
      | exact LeO.none _
      | refine LeO.ite ?_ ?_
      | refine LeO.bind ?_ (fun _ => ?_)
set_option maxHeartbeats 8000000 in
set_option maxRecDepth 100000 in
theorem gangplankref10_Succ.calls (k : Nat) (A0 : Option Addr) (c0 : Nat) (l0 : List (S124)) (a1 : Int) (r : Int) (w : World) (hr0 : Kd.C k124 w A0 l0.length l0) (hc0 : l0.length ≤ c0) (h : gangplankref10_Succ.f k l0 a1 = some r) :
    Calls Try.prog 75 #[.slice A0 l0.length c0, .int .u64 a1] w fun e w' => e = .returned (.int .i64 r) ∧ Drawn0 w w' := by
  have HR0 := Aside0.mk hr0
  have HC0 := Aside0.mk hc0
  clear hr0 hc0
  have H : (gangplankref10_Succ.l0 k l0 a1 0) = some r := h
  clear h
  have H' := Aside0.mk H
  clear H
  go_enter Try.func75, Try.ntmps75
  go_wp2
  go_loopg [5] k (fun kq v5 w' => ∃ (x5_1 : Int), v5 = .int .i64 x5_1 ∧ Aside0 (gangplankref10_Succ.l0 kq l0 a1 x5_1 = some r) ∧ Aside0 (kq ≤ k) ∧ Drawn0 w w')
  case atStart => exact ⟨(0), (by first | rfl | (simp; done) | (simp [*]; done)), H', ⟨Nat.le_refl _⟩, by repeat (first | exact Drawn0.refl _ | apply Drawn0.step)⟩
  case round =>
    clear H'
    try clear p2
    obtain ⟨x5_1, rfl, HA, HK1, ⟨m1, rfl⟩⟩ := hrel
    cases gk with
    | zero => exact absurd HA.out (by simp [gangplankref10_Succ.l0])
    | succ k1 =>
      have H := HA.out
      clear HA
      simp only [gangplankref10_Succ.l0] at H
      by_cases c3 : x5_1 < (l0.length : Int)
      · rw [if_pos c3] at H
        have c3b0 : decide (x5_1 < (l0.length : Int)) = true := decide_eq_true c3
        clear c3
        by_cases c4 : 0 ≤ x5_1
        · rw [if_pos c4] at H
          have c4b0 : decide (0 ≤ x5_1) = true := decide_eq_true c4
          clear c4
          by_cases c5 : ((rd_T124 l0 x5_1).f0) ≥ a1
          · rw [if_pos c5] at H
            have c5b0 : decide (a1 ≤ ((rd_T124 l0 x5_1).f0)) = true := decide_eq_true c5
            clear c5
            obtain rfl := Option.some.inj H
            have p151 : 0 ≤ (x5_1 : Int) := of_decide_eq_true (by first | (with_reducible assumption) | assumption)
            have q151 : x5_1 < (l0.length : Int) := of_decide_eq_true (by first | (with_reducible assumption) | assumption)
            obtain ⟨ad151, e151, hx151_0, hx151_1⟩ := at_T124 HR0.out x5_1 p151 q151
            cases e151
            replace p151 := eq_true p151
            replace q151 := eq_true q151
            have p152 : 0 ≤ (x5_1 : Int) := of_decide_eq_true (by first | (with_reducible assumption) | assumption)
            have q152 : x5_1 < (l0.length : Int) := of_decide_eq_true (by first | (with_reducible assumption) | assumption)
            obtain ⟨ad152, e152, hx152_0, hx152_1⟩ := at_T124 HR0.out x5_1 p152 q152
            obtain rfl : ad151 = ad152 := (by injection e152)
            replace p152 := eq_true p152
            replace q152 := eq_true q152
            go_wp2
            go_ret
            exact ⟨by first | rfl | (simp; done) | (simp [*]; done), by repeat (first | exact Drawn0.refl _ | apply Drawn0.step)⟩
          · rw [if_neg c5] at H
            have c5b0 : decide (a1 ≤ ((rd_T124 l0 x5_1).f0)) = false := decide_eq_false c5
            clear c5
            have H' := Aside0.mk H
            clear H
            have p151 : 0 ≤ (x5_1 : Int) := of_decide_eq_true (by first | (with_reducible assumption) | assumption)
            have q151 : x5_1 < (l0.length : Int) := of_decide_eq_true (by first | (with_reducible assumption) | assumption)
            obtain ⟨ad151, e151, hx151_0, hx151_1⟩ := at_T124 HR0.out x5_1 p151 q151
            cases e151
            replace p151 := eq_true p151
            replace q151 := eq_true q151
            go_wp2
            go_roundg k1
            case measure => have := HK1.out; omega
            case rel => exact ⟨(wrap64 (x5_1 + 1)), (by first | rfl | (simp; done) | (simp [*]; done)), H', ⟨by have := HK1.out; omega⟩, by repeat (first | exact Drawn0.refl _ | apply Drawn0.step)⟩
        · rw [if_neg c4] at H
          exact absurd H (by simp)
      · rw [if_neg c3] at H
        have c3b0 : decide (x5_1 < (l0.length : Int)) = false := decide_eq_false c3
        clear c3
        by_cases c6 : (l0.length : Int) = 0
        · rw [if_pos c6] at H
          have c6b0 : ((l0.length : Int) == 0) = true := beq_iff_eq.mpr c6
          have c6b1 : ((l0.length : Int) != 0) = false := bne_eq_false_iff_eq.mpr c6
          clear c6
          obtain rfl := Option.some.inj H
          go_wp2
          go_ret
          exact ⟨by first | rfl | (simp; done) | (simp [*]; done), by repeat (first | exact Drawn0.refl _ | apply Drawn0.step)⟩
        · rw [if_neg c6] at H
          have c6b0 : ((l0.length : Int) == 0) = false := beq_eq_false_iff_ne.mpr c6
          have c6b1 : ((l0.length : Int) != 0) = true := bne_iff_ne.mpr c6
          have c6b2 : ¬ (l0 = []) := fun h_ => c6 (by rw [h_]; rfl)
          by_cases c7 : 0 < (l0.length : Int)
          · rw [if_pos c7] at H
            have c7b0 : decide (0 < (l0.length : Int)) = true := decide_eq_true c7
            have c7b1 : decide (0 < l0.length) = true := decide_eq_true (by omega)
            clear c7
            obtain rfl := Option.some.inj H
            have p153 : 0 ≤ (0 : Int) := (by omega)
            have q153 : 0 < (l0.length : Int) := of_decide_eq_true (by first | (with_reducible assumption) | assumption)
            obtain ⟨ad153, e153, hx153_0, hx153_1⟩ := at_T124 HR0.out 0 p153 q153
            cases e153
            have qi153 : (0 < l0.length) = True := eq_true (by omega)
            (try rw [show ((0 : Int)).toNat = 0 from rfl] at hx153_0)
            (try rw [show 0 * 2 = 0 from rfl] at hx153_0)
            (try rw [Addr.add_zero'] at hx153_0)
            (try rw [show ((0 : Int)).toNat = 0 from rfl] at hx153_1)
            (try rw [show 0 * 2 = 0 from rfl] at hx153_1)
            (try rw [Addr.add_zero'] at hx153_1)
            replace p153 := eq_true p153
            replace q153 := eq_true q153
            go_wp2
            go_ret
            exact ⟨by first | rfl | (simp; done) | (simp [*]; done), by repeat (first | exact Drawn0.refl _ | apply Drawn0.step)⟩
          · rw [if_neg c7] at H
            exact absurd H (by simp)

/-! ### gangplankref02_Next: function 144 -/
def gangplankref02_Next.f (a0 : Int) (a1 : Int) : Option (Int) := some (IntKind.u64.wrap ((Go.bits .xor .u64 a0 (IntKind.u64.wrap (a1))) * 1099511628211))
set_option maxHeartbeats 8000000 in
set_option maxRecDepth 100000 in
theorem gangplankref02_Next.calls (a0 : Int) (a1 : Int) (r : Int) (w : World) (h : gangplankref02_Next.f a0 a1 = some r) :
    Calls Try.prog 144 #[.int .u64 a0, .int .u8 a1] w fun e w' => e = .returned (.int .u64 r) ∧ Drawn0 w w' := by
  have H : (some (IntKind.u64.wrap ((Go.bits .xor .u64 a0 (IntKind.u64.wrap (a1))) * 1099511628211))) = some r := h
  clear h
  obtain rfl := Option.some.inj H
  go_enter Try.func144, Try.ntmps144
  go_wp2
  go_ret
  exact ⟨by first | rfl | (simp; done) | (simp [*]; done), by repeat (first | exact Drawn0.refl _ | apply Drawn0.step)⟩

end Go.Proofs.Ytklngklmeanhcaa.P
