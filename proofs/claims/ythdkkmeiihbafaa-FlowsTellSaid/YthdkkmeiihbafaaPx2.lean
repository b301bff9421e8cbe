/- Each Go function that the laws reach, as a plain function, with the proof that the machine's call comes to what it says; of a law: its row. Made by a program of this seat (wip/hp.py, over the print). -/
import Derived.Test.YthdkkmeiihbafaaPx0
import Derived.Test.YthdkkmeiihbafaaPx1
namespace Go.Proofs.Ythdkkmeiihbafaa.P
open Go.RowKit Go.Proofs.YthdkkmeiihbafaaW.PrintWords Go.Proofs.YthdkkmeiihbafaaW.PrintLast Go.Proofs.YthdkkmeiihbafaaW.PrintMore
attribute [local go_sem] max2_int min2_int max_two min_two max_three min_three max_four min_four   -- for this text's walks alone
set_option linter.unusedVariables false
set_option linter.unusedSimpArgs false

attribute [local go_sem high] eqA31
/-- What is known of a value of struct type 31 that came in. -/
def okS31 (x : S31) : Prop := (Lit.int .i64 x.f0).wf = true ∧ x.f1.size ≤ maxLen ∧ (Lit.int .i64 x.f2).wf = true ∧ (Lit.int .i64 x.f3).wf = true

/-! ### gangplankref11_Same: function 24 -/
def gangplankref11_Same.l0 : Nat → List (S31) → List (S31) → Int → Option (Bool)
  | 0, _, _, _ => none
  | k + 1, x0, x1, x5 => if x5 < (x0.length : Int) then (if 0 ≤ x5 then (if x5 < (x1.length : Int) then (if (!(((rd_T31 x0 x5).f0) == ((rd_T31 x1 x5).f0)) || (!((((rd_T31 x0 x5).f1).toList) == (((rd_T31 x1 x5).f1).toList)) || (!(((rd_T31 x0 x5).f2) == ((rd_T31 x1 x5).f2)) || (!(((rd_T31 x0 x5).f3) == ((rd_T31 x1 x5).f3)))))) = true then (some false) else (gangplankref11_Same.l0 k x0 x1 (wrap64 (x5 + 1)))) else (none)) else (none)) else (some true)
def gangplankref11_Same.f (k : Nat) (l0 : List (S31)) (l1 : List (S31)) : Option (Bool) := if (l0.length : Int) = (l1.length : Int) then (gangplankref11_Same.l0 k l0 l1 0) else (some false)
theorem gangplankref11_Same.mono_l : ∀ k, (∀ y0 y1 y2, LeO (gangplankref11_Same.l0 k y0 y1 y2) (gangplankref11_Same.l0 (k + 1) y0 y1 y2))
  | 0 => fun _ _ _ r h => by simp [gangplankref11_Same.l0] at h
  | k + 1 => by
    have ih0 := gangplankref11_Same.mono_l k
    · intro y0 y1 y2
      unfold gangplankref11_Same.l0
      repeat' first
      | (with_reducible exact ih0 _ _ _)
      | (with_reducible exact LeO.refl _)
      | (with_reducible exact LeO.none _)
      | (with_reducible refine LeO.ite ?_ ?_)
      | (with_reducible refine LeO.bind ?_ (fun _ => ?_))
      | exact ih0 _ _ _
      | exact LeO.none _
      | refine LeO.ite ?_ ?_
      | refine LeO.bind ?_ (fun _ => ?_)
theorem gangplankref11_Same.mono : ∀ a0 a1 k, LeO (gangplankref11_Same.f k a0 a1) (gangplankref11_Same.f (k + 1) a0 a1) := by
  intro a0 a1 k
  have ih0 := gangplankref11_Same.mono_l k
  unfold gangplankref11_Same.f
  repeat' first
      | (with_reducible exact ih0 _ _ _)
      | (with_reducible exact LeO.refl _)
      | (with_reducible exact LeO.none _)
      | (with_reducible refine LeO.ite ?_ ?_)
      | (with_reducible refine LeO.bind ?_ (fun _ => ?_))
      | exact ih0 _ _ _
      | exact LeO.none _
      | refine LeO.ite ?_ ?_
      | refine LeO.bind ?_ (fun _ => ?_)
set_option maxHeartbeats 8000000 in
set_option maxRecDepth 100000 in
theorem gangplankref11_Same.calls (k : Nat) (A0 : Option Addr) (c0 : Nat) (l0 : List (S31)) (A1 : Option Addr) (c1 : Nat) (l1 : List (S31)) (r : Bool) (w : World) (hr0 : Kd.C k31 w A0 l0.length l0) (hc0 : l0.length ≤ c0) (hr1 : Kd.C k31 w A1 l1.length l1) (hc1 : l1.length ≤ c1) (h : gangplankref11_Same.f k l0 l1 = some r) :
    Calls Try.prog 24 #[.slice A0 l0.length c0, .slice A1 l1.length c1] w fun e w' => e = .returned (.bool r) ∧ Drawn0 w w' := by
  have hu31 := Try.underlying31
  have HR0 := Aside0.mk hr0
  have HC0 := Aside0.mk hc0
  clear hr0 hc0
  have HR1 := Aside0.mk hr1
  have HC1 := Aside0.mk hc1
  clear hr1 hc1
  have H : (if (l0.length : Int) = (l1.length : Int) then (gangplankref11_Same.l0 k l0 l1 0) else (some false)) = some r := h
  clear h
  by_cases c3 : (l0.length : Int) = (l1.length : Int)
  · rw [if_pos c3] at H
    have c3b0 : ((l0.length : Int) == (l1.length : Int)) = true := beq_iff_eq.mpr c3
    have c3b1 : ((l0.length : Int) != (l1.length : Int)) = false := bne_eq_false_iff_eq.mpr c3
    have c3b2 : (l0.length == l1.length) = true := by first | simpa using c3 | (simp at c3 ⊢; omega)
    clear c3
    have H' := Aside0.mk H
    clear H
    go_enter Try.func24, Try.ntmps24
    go_wp2
    repeat (go_quiet (fail); try go_wp2)
    go_loopg [5] k (fun kq v5 w' => ∃ (x5_1 : Int), v5 = .int .i64 x5_1 ∧ Aside0 (gangplankref11_Same.l0 kq l0 l1 x5_1 = some r) ∧ Aside0 (kq ≤ k) ∧ Drawn0 w w')
    case atStart => exact ⟨(0), (by first | rfl | (simp; done) | (simp [*]; done)), H', ⟨Nat.le_refl _⟩, by repeat (first | exact Drawn0.refl _ | apply Drawn0.step)⟩
    case round =>
      clear H'
      try clear c1
      try clear c2
      try clear p2
      try clear c3
      try clear c3b0
      try clear c3b1
      try clear c3b2
      obtain ⟨x5_1, rfl, HA, HK1, ⟨m1, rfl⟩⟩ := hrel
      cases gk with
      | zero => exact absurd HA.out (by simp [gangplankref11_Same.l0])
      | succ k1 =>
        have H := HA.out
        clear HA
        simp only [gangplankref11_Same.l0] at H
        by_cases c4 : x5_1 < (l0.length : Int)
        · rw [if_pos c4] at H
          have c4b0 : decide (x5_1 < (l0.length : Int)) = true := decide_eq_true c4
          clear c4
          by_cases c5 : 0 ≤ x5_1
          · rw [if_pos c5] at H
            have c5b0 : decide (0 ≤ x5_1) = true := decide_eq_true c5
            clear c5
            by_cases c6 : x5_1 < (l1.length : Int)
            · rw [if_pos c6] at H
              have c6b0 : decide (x5_1 < (l1.length : Int)) = true := decide_eq_true c6
              clear c6
              by_cases c7 : (!(((rd_T31 l0 x5_1).f0) == ((rd_T31 l1 x5_1).f0)) || (!((((rd_T31 l0 x5_1).f1).toList) == (((rd_T31 l1 x5_1).f1).toList)) || (!(((rd_T31 l0 x5_1).f2) == ((rd_T31 l1 x5_1).f2)) || (!(((rd_T31 l0 x5_1).f3) == ((rd_T31 l1 x5_1).f3)))))) = true
              · rw [if_pos c7] at H
                have c7b0 : (!(((rd_T31 l0 x5_1).f0) == ((rd_T31 l1 x5_1).f0)) || (!((((rd_T31 l0 x5_1).f1).toList) == (((rd_T31 l1 x5_1).f1).toList)) || (!(((rd_T31 l0 x5_1).f2) == ((rd_T31 l1 x5_1).f2)) || (!(((rd_T31 l0 x5_1).f3) == ((rd_T31 l1 x5_1).f3)))))) = true := c7
                clear c7
                obtain rfl := Option.some.inj H
                have p101 : 0 ≤ (x5_1 : Int) := of_decide_eq_true (by first | (with_reducible assumption) | assumption)
                have q101 : x5_1 < (l0.length : Int) := of_decide_eq_true (by first | (with_reducible assumption) | assumption)
                obtain ⟨ad101, e101, hx101_0, hx101_1, hx101_2, hx101_3⟩ := at_T31 HR0.out x5_1 p101 q101
                cases e101
                replace p101 := eq_true p101
                replace q101 := eq_true q101
                have p102 : 0 ≤ (x5_1 : Int) := of_decide_eq_true (by first | (with_reducible assumption) | assumption)
                have q102 : x5_1 < (l1.length : Int) := of_decide_eq_true (by first | (with_reducible assumption) | assumption)
                obtain ⟨ad102, e102, hx102_0, hx102_1, hx102_2, hx102_3⟩ := at_T31 HR1.out x5_1 p102 q102
                cases e102
                replace p102 := eq_true p102
                replace q102 := eq_true q102
                go_wp2
                repeat (go_quiet (fail); try go_wp2)
                go_ret
                exact ⟨by first | rfl | (simp; done) | (simp [*]; done), by repeat (first | exact Drawn0.refl _ | apply Drawn0.step)⟩
              · rw [if_neg c7] at H
                have c7b0 : (!(((rd_T31 l0 x5_1).f0) == ((rd_T31 l1 x5_1).f0)) || (!((((rd_T31 l0 x5_1).f1).toList) == (((rd_T31 l1 x5_1).f1).toList)) || (!(((rd_T31 l0 x5_1).f2) == ((rd_T31 l1 x5_1).f2)) || (!(((rd_T31 l0 x5_1).f3) == ((rd_T31 l1 x5_1).f3)))))) = false := by simpa using c7
                clear c7
                have H' := Aside0.mk H
                clear H
                have p101 : 0 ≤ (x5_1 : Int) := of_decide_eq_true (by first | (with_reducible assumption) | assumption)
                have q101 : x5_1 < (l0.length : Int) := of_decide_eq_true (by first | (with_reducible assumption) | assumption)
                obtain ⟨ad101, e101, hx101_0, hx101_1, hx101_2, hx101_3⟩ := at_T31 HR0.out x5_1 p101 q101
                cases e101
                replace p101 := eq_true p101
                replace q101 := eq_true q101
                have p102 : 0 ≤ (x5_1 : Int) := of_decide_eq_true (by first | (with_reducible assumption) | assumption)
                have q102 : x5_1 < (l1.length : Int) := of_decide_eq_true (by first | (with_reducible assumption) | assumption)
                obtain ⟨ad102, e102, hx102_0, hx102_1, hx102_2, hx102_3⟩ := at_T31 HR1.out x5_1 p102 q102
                cases e102
                replace p102 := eq_true p102
                replace q102 := eq_true q102
                go_wp2
                repeat (go_quiet (fail); try go_wp2)
                go_roundg k1
                case measure => have := HK1.out; omega
                case rel => exact ⟨(wrap64 (x5_1 + 1)), (by first | rfl | (simp; done) | (simp [*]; done)), H', ⟨by have := HK1.out; omega⟩, by repeat (first | exact Drawn0.refl _ | apply Drawn0.step)⟩
            · rw [if_neg c6] at H
              exact absurd H (by simp)
          · rw [if_neg c5] at H
            exact absurd H (by simp)
        · rw [if_neg c4] at H
          have c4b0 : decide (x5_1 < (l0.length : Int)) = false := decide_eq_false c4
          clear c4
          obtain rfl := Option.some.inj H
          go_wp2
          repeat (go_quiet (fail); try go_wp2)
          go_ret
          exact ⟨by first | rfl | (simp; done) | (simp [*]; done), by repeat (first | exact Drawn0.refl _ | apply Drawn0.step)⟩
  · rw [if_neg c3] at H
    have c3b0 : ((l0.length : Int) == (l1.length : Int)) = false := beq_eq_false_iff_ne.mpr c3
    have c3b1 : ((l0.length : Int) != (l1.length : Int)) = true := bne_iff_ne.mpr c3
    have c3b2 : (l0.length == l1.length) = false := by first | simpa using c3 | (simp at c3 ⊢; omega)
    obtain rfl := Option.some.inj H
    go_enter Try.func24, Try.ntmps24
    go_wp2
    repeat (go_quiet (fail); try go_wp2)
    go_ret
    exact ⟨by first | rfl | (simp; done) | (simp [*]; done), by repeat (first | exact Drawn0.refl _ | apply Drawn0.step)⟩

/-! ### api_Entry_73: function 73 -/
section
open Go.Shelf Go.Proofs.Ythdkkmeiihbafaa.Hand
theorem infoE_ : (Try.prog.info? 31).map (fun i => (i.zero, i.size, i.bytes)) = some (some (.agg #[(.int .i64 0), (.string ⟨#[]⟩), (.int .i64 0), (.int .i64 0)]), 4, 40) := by kernel_rfl
def api_Entry_73.f (l0 : List S31) : Option (List S31) := if l0.length ≤ 1000000 then some l0 else none

set_option maxRecDepth 100000 in
set_option maxHeartbeats 4000000 in
theorem api_Entry_73.any (A : Option Addr) (c : Nat) (l : List S31) (hl : l.length ≤ 1000000) (w : World) (hC : Kd.C k31 w A l.length l) :
    Calls Try.prog 73 #[.slice A l.length c] w fun e w' => ∃ v : Value, e = .returned v ∧ Kd.R k31 31 w' w.heap.size (fun _ => True) v l ∧ Below w.heap.size w w' := by
  have he := fun (w : World) => Lib.run_eql_slice_nil (P := Try.prog) w 22 31 A l.length c 0 0 Try.underlying22
  cases A with
  | none =>
    have hn : l = [] := by
      cases l with
      | nil => rfl
      | cons x l => obtain ⟨ad, e, _⟩ := hC.2.2 (by simp); cases e
    subst hn
    clear he
    have he : ∀ w : World, (binOp .eql 22 (.slice none 0 c) (.slice none 0 0)).run Try.prog w = .ok (.bool true) w := fun w => Lib.run_eql_slice_nil (P := Try.prog) w 22 31 none 0 c 0 0 Try.underlying22
    go_enter Try.func73, Try.ntmps73
    go_wp2
    go_ret
    exact ⟨_, rfl, Kd.R_nil _ _ _ _ _, Below.refl _ _⟩
  | some a =>
    obtain ⟨z, hz⟩ : ∃ z, ([] : List S31) = z := ⟨_, rfl⟩
    have HZ := Lib.hid hz
    clear hz
    have HC := Lib.hid hC
    clear hC
    have HB := Aside0.mk (Below.refl w.heap.size w)
    go_enter Try.func73, Try.ntmps73
    go_wp2_with (first | ((with_reducible refine gate_dst (N := 5) rfl ?_); refine Kd.R_lit k31 _ 31 ?hg (N := 5) ?hd (xs := ([] : List S31)) (inner := []) (ok := fun _ => True) (okp := fun _ => True) ?hr ?hp (fun _ hk => hk) trivial (Below.refl _ _) (Nat.le_refl _) (by simp) ?_; (case hd => rfl); (case hg => rfl); (case hr => first | (go_simp; done) | (go_simp; rfl)); (case hp => exact (Reps.none _ _)); intro v160 w31 ho32 hb hg_ hnew_; clear hg_ hnew_; rw [HZ.out] at ho32; have HB1 := Aside0.mk hb; have HO1 := Aside0.mk ho32; clear hb ho32) | ((with_reducible refine gate_builtin (b := .append) (xs := #[.tmp 5, .tmp 6]) rfl ?_); at_builtin; refine Kd.R_append_rows k31 (w0 := w) w.heap.size rfl (.tmp 5) (.tmp 6) 22 31 (.agg #[(.int .i64 0), (.string ⟨#[]⟩), (.int .i64 0), (.int .i64 0)]) 40 rfl Try.underlying22 infoE_ rfl (by decide) (by omega) v160 z l _ _ _ (fun _ => True) (fun _ => False) rfl rfl ?aO ?aR (fun _ _ h => h) (fun _ h => h.elim) ?aF ?aB ?aS ?aL ?_; (case aR => exact Kd.C_below HC.out HB1.out); (case aB => exact HB1.out); (case aF => exact (fun _ _ => trivial)); (case aO => exact HO1.out); (case aS => exact HB1.out.size); (case aL => rw [← HZ.out]; simp; omega); intro v163 w33 ho hb hg hat; rw [← HZ.out, List.nil_append] at ho; have HB2 := Aside0.mk hb; have HO2 := Aside0.mk ho; clear ho hb hg hat))
    go_ret
    exact ⟨_, rfl, HO2.out, HB2.out⟩

theorem api_Entry_73.calls (A0 : Option Addr) (c0 : Nat) (l0 : List S31) (r : List S31) (w : World) (hr0 : Kd.C k31 w A0 l0.length l0) (hc0 : l0.length ≤ c0) (h : api_Entry_73.f l0 = some r) :
    Calls Try.prog 73 #[.slice A0 l0.length c0] w fun e w' => ∃ v0_ : Value, e = .returned (v0_) ∧ Kd.R k31 31 w' w.heap.size (fun _ => True) v0_ r ∧ Below w.heap.size w w' := by
  unfold api_Entry_73.f at h
  by_cases hl : l0.length ≤ 1000000
  · rw [if_pos hl] at h
    obtain rfl := Option.some.inj h
    exact api_Entry_73.any A0 c0 l0 hl w hr0
  · rw [if_neg hl] at h
    exact absurd h (by simp)
end

/-! ### flows_changed: function 64 -/
section
open Go.Shelf Go.Proofs.Ythdkkmeiihbafaa.Hand
set_option maxRecDepth 100000 in
set_option maxHeartbeats 4000000 in
/-- A copy, changed by a function that is handed on; or the table itself. -/
theorem changed_any (g : Nat) (eg : ∀ args w, (callFunc g args).run Try.prog w = .ok (.enter g args) w) (cap : Value) (b : Bool) (A : Option Addr) (c : Nat) (l l2 : List S31) (hl : l.length ≤ 1000000) (hcap : l.length ≤ c) (w : World) (hC : Kd.C k31 w A l.length l)
    (hf : ∀ (v : Value) (W : World), Below w.heap.size w W → Kd.R k31 31 W w.heap.size (fun _ => True) v l → Calls Try.prog g #[v, cap] W fun e W' => e = .returned (.bool b) ∧ Kd.R k31 31 W' w.heap.size (fun _ => True) v l2 ∧ Below w.heap.size w W') :
    Calls Try.prog 64 #[.slice A l.length c, .func (.func g) #[] #[cap]] w fun e w' => ∃ v : Value, e = .returned (.tuple #[v, .bool b]) ∧ (b = true → Kd.R k31 31 w' w.heap.size (fun _ => True) v l2) ∧ (b = false → v = .slice A l.length c) ∧ Below w.heap.size w w' := by
  have HF := Lib.hid hf
  clear hf
  cases b
  all_goals
    go_enter Try.func64, Try.ntmps64
    go_wp2_with (first | (go_at_call 73; refine (api_Entry_73.any A c l hl _ hC).mono ?_; rintro e w1 ⟨v, rfl, hr, hb⟩; have HR := Lib.hid hr; have HB := Lib.hid hb; clear hr hb))
    refine (HF.out v w1 HB.out HR.out).mono ?_
    rintro e w2 ⟨rfl, hr2, hb2⟩
    have HR2 := Lib.hid hr2
    have HB2 := Lib.hid hb2
    clear hr2 hb2
    go_wp2
    go_ret2
    first
    | exact ⟨_, rfl, fun h => absurd h (by decide), fun _ => rfl, HB2.out⟩
    | exact ⟨_, rfl, fun _ => HR2.out, fun h => absurd h (by decide), HB2.out⟩
end

-- NOT PRINTED: function 82 (fnv_each_1)

-- NOT PRINTED: function 78 (fnv_each)

/-! ### fnv_Join: function 63 -/
def fnv_Join.f (a0 : Int) (a1 : ByteArray) : Option (Int) := if a1.size ≤ 140737488351232 then some (Go.Proofs.Ythdkkmeiihbafaa.Hand.hjoin a0 a1.data.toList) else none
theorem fnv_Join.calls (a0 : Int) (a1 : ByteArray) (r : Int) (w : World) (h : fnv_Join.f a0 a1 = some r) :
    Calls Try.prog 63 #[.int .u64 a0, .string a1] w fun e w' => e = .returned (.int .u64 r) ∧ Below w.heap.size w w' := by
  unfold fnv_Join.f at h
  by_cases hs : a1.size ≤ 140737488351232
  · rw [if_pos hs] at h
    obtain rfl := Option.some.inj h
    exact Go.Proofs.Ythdkkmeiihbafaa.Hand.Join_any a0 a1 hs w
  · rw [if_neg hs] at h
    exact absurd h (by simp)

/-! ### fnv_Sum: function 34 -/
def fnv_Sum.f (a0 : ByteArray) : Option (Int) := (fnv_Join.f 14695981039346656037 a0).bind fun t103 => (some t103)
set_option maxHeartbeats 8000000 in
set_option maxRecDepth 100000 in
theorem fnv_Sum.calls (a0 : ByteArray) (r : Int) (w : World) (h : fnv_Sum.f a0 = some r) :
    Calls Try.prog 34 #[.string a0] w fun e w' => e = .returned (.int .u64 r) ∧ Below w.heap.size w w' := by
  have HB := Aside0.mk (Below.refl w.heap.size w)
  have H : ((fnv_Join.f 14695981039346656037 a0).bind fun t103 => (some t103)) = some r := h
  clear h
  replace H := Option.bind_eq_some_iff.mp H
  obtain ⟨t103, A20, H⟩ := H
  replace H : (some t103) = some r := H
  have A2 := Aside0.mk A20
  clear A20
  obtain rfl := Option.some.inj H
  go_enter Try.func34, Try.ntmps34
  go_wp2_with (first | ((with_reducible refine gate_callee (f := 63) rfl ?_); refine goesL_ (some 4) rfl rfl Try.func63 (by kernel_rfl) rfl #[.int .u64 14695981039346656037, .string a0] rfl (by (try simp only [List.map_toArray, List.map_cons, List.map_nil]); first | done | rfl | (simp only [List.length_drop, List.length_take]; rfl)) ?_; (with_reducible refine (fnv_Join.calls 14695981039346656037 a0 t103 _ A2.out).mono ?_); (try clear A2); rintro e w3 ⟨rfl, hb⟩; refine ⟨_, rfl, ?_⟩; have n0_ := Aside0.mk (below_step (by repeat (first | (with_reducible first | exact HB.out | apply below_alloc | apply pw_below_drewN | apply below_drew1) | exact HB.out)) hb); clear HB; have HB := n0_; clear n0_; (try clear hb); (try clear hb2); (try clear hk); (try clear hi)))
  go_ret
  exact ⟨by first | rfl | (simp [errW_none, errW_some] <;> rfl) | (simp [*, errW_none, errW_some] <;> rfl), by repeat (first | (with_reducible first | exact HB.out | apply below_alloc | apply pw_below_drewN | apply below_drew1) | exact HB.out)⟩

/-! ### probe_Home: function 29 -/
def probe_Home.f (a0 : ByteArray) (a1 : Int) : Option (Int) := if a1 < 1 then (some 0) else ((fnv_Sum.f a0).bind fun t104 => (if (IntKind.u64.wrap (a1)) = 0 then (none) else (some (wrap64 (Int.tmod t104 (IntKind.u64.wrap (a1)))))))
set_option maxHeartbeats 8000000 in
set_option maxRecDepth 100000 in
theorem probe_Home.calls (a0 : ByteArray) (a1 : Int) (r : Int) (w : World) (h : probe_Home.f a0 a1 = some r) :
    Calls Try.prog 29 #[.string a0, .int .i64 a1] w fun e w' => e = .returned (.int .i64 r) ∧ Below w.heap.size w w' := by
  have HB := Aside0.mk (Below.refl w.heap.size w)
  have H : (if a1 < 1 then (some 0) else ((fnv_Sum.f a0).bind fun t104 => (if (IntKind.u64.wrap (a1)) = 0 then (none) else (some (wrap64 (Int.tmod t104 (IntKind.u64.wrap (a1)))))))) = some r := h
  clear h
  by_cases c3 : a1 < 1
  · rw [if_pos c3] at H
    have c3b0 : decide (a1 < 1) = true := decide_eq_true c3
    clear c3
    obtain rfl := Option.some.inj H
    go_enter Try.func29, Try.ntmps29
    go_wp2
    go_ret
    exact ⟨by first | rfl | (simp [errW_none, errW_some] <;> rfl) | (simp [*, errW_none, errW_some] <;> rfl), by repeat (first | (with_reducible first | exact HB.out | apply below_alloc | apply pw_below_drewN | apply below_drew1) | exact HB.out)⟩
  · rw [if_neg c3] at H
    have c3b0 : decide (a1 < 1) = false := decide_eq_false c3
    clear c3
    replace H := Option.bind_eq_some_iff.mp H
    obtain ⟨t104, A40, H⟩ := H
    replace H : (if (IntKind.u64.wrap (a1)) = 0 then (none) else (some (wrap64 (Int.tmod t104 (IntKind.u64.wrap (a1)))))) = some r := H
    have A4 := Aside0.mk A40
    clear A40
    by_cases c5 : (IntKind.u64.wrap (a1)) = 0
    · rw [if_pos c5] at H
      exact absurd H (by simp)
    · rw [if_neg c5] at H
      have c5b0 : ((IntKind.u64.wrap (a1)) == 0) = false := beq_eq_false_iff_ne.mpr c5
      have c5b1 : ((IntKind.u64.wrap (a1)) != 0) = true := bne_iff_ne.mpr c5
      obtain rfl := Option.some.inj H
      go_enter Try.func29, Try.ntmps29
      go_wp2_with (first | ((with_reducible refine gate_callee (f := 34) rfl ?_); refine goesL_ (some 8) rfl rfl Try.func34 (by kernel_rfl) rfl #[.string a0] rfl (by (try simp only [List.map_toArray, List.map_cons, List.map_nil]); first | done | rfl | (simp only [List.length_drop, List.length_take]; rfl)) ?_; (with_reducible refine (fnv_Sum.calls a0 t104 _ A4.out).mono ?_); (try clear A4); rintro e w6 ⟨rfl, hb⟩; refine ⟨_, rfl, ?_⟩; have n0_ := Aside0.mk (below_step (by repeat (first | (with_reducible first | exact HB.out | apply below_alloc | apply pw_below_drewN | apply below_drew1) | exact HB.out)) hb); clear HB; have HB := n0_; clear n0_; (try clear hb); (try clear hb2); (try clear hk); (try clear hi)))
      go_ret
      exact ⟨by first | rfl | (simp [errW_none, errW_some] <;> rfl) | (simp [*, errW_none, errW_some] <;> rfl), by repeat (first | (with_reducible first | exact HB.out | apply below_alloc | apply pw_below_drewN | apply below_drew1) | exact HB.out)⟩

-- NOT PRINTED: function 75 (probe_way_1)

/-! ### probe_way: function 58 -/
section
open Go.Shelf Go.Proofs.Ythdkkmeiihbafaa.Hand
attribute [local go_sem] Oper.semAt_some
/-- An entry, as a value. -/
abbrev entV (x : S31) : Value := .agg #[.int .i64 x.f0, .string x.f1, .int .i64 x.f2, .int .i64 x.f3]
/-- Where a key's way comes to, step by step. -/
def wayAt (l : List S31) (hd : Int) (i : Nat) : Int × S31 := ((hd + i) % l.length, rd_T31 l ((hd + i) % l.length))
theorem home_range {key : ByteArray} {n hd : Int} (h : probe_Home.f key n = some hd) (hn : 1 ≤ n) (hn2 : n ≤ 9223372036854775807) : 0 ≤ hd ∧ hd < n := by
  unfold probe_Home.f at h
  rw [if_neg (by omega)] at h
  obtain ⟨t, ht, h⟩ := Option.bind_eq_some_iff.mp h
  split at h
  · simp at h
  · rename_i hz
    obtain rfl := Option.some.inj h
    have hw : IntKind.u64.wrap n = n := by simp [IntKind.wrap, IntKind.bits, IntKind.signed]; omega
    have ht0 : 0 ≤ t ∧ t < 18446744073709551616 := by
      unfold fnv_Sum.f fnv_Join.f at ht
      split at ht
      · obtain rfl := Option.some.inj ht
        exact hjoin_range _ _ (by decide) (by decide)
      · simp at ht
    rw [hw, Int.tmod_eq_emod_of_nonneg ht0.1]
    have a := Int.emod_nonneg t (b := n) (by omega)
    have b := Int.emod_lt_of_pos t (b := n) (by omega)
    unfold wrap64
    omega

set_option maxRecDepth 100000 in
set_option maxHeartbeats 4000000 in
theorem way1_in (n : Nat) (hn : 1 ≤ n) (y Bk Bt n₀ : Nat) (A : Option Addr) (c : Nat) (l : List S31) (key : ByteArray) (hl : l.length ≤ 1000000) (hd : Int) (hh : probe_Home.f key l.length = some hd)
    (w : World) (hw : w.heap.size = n₀) (hC : Kd.C k31 w A l.length l) (J Jx : List (Int × S31) → World → Prop) (B : Nat) (hJ : AbidesFrom B J)
    (hY : ∀ pre x W, J pre W → pre.length < l.length → YieldAt Fence.wide (n - 1) Try.prog y #[.int .i64 x.1, entV x.2] W fun e W' =>
      (e = .returned (.bool true) ∧ J (pre ++ [x]) W' ∧ KpB n₀ (fun a => a = ⟨Bk, 0, none⟩ ∨ a = ⟨Bt, 0, none⟩) W W') ∨ (e = .returned (.bool false) ∧ Jx (pre ++ [x]) W'))
    (W : World) (hB : Below n₀ w W) (hk : W.cell? ⟨Bk, 0, none⟩ = some (.string key)) (ht : W.cell? ⟨Bt, 0, none⟩ = some (.slice A l.length c)) (h0 : J [] W) :
    CallsIn Fence.wide n Try.prog 75 #[.func (.yield y) #[] #[], .pointer (some ⟨Bk, 0, none⟩), .pointer (some ⟨Bt, 0, none⟩)] W fun e W' => (∃ v, e = .returned v) ∧
      ((∃ ys, ys = upto (wayAt l hd) l.length ∧ J ys W') ∨ (∃ pre, (∃ k, k ≤ l.length ∧ pre = upto (wayAt l hd) k) ∧ Jx pre W')) := by
  have hro : Fence.wide.round = none := rfl
  refine callsIn_of_wp Try.func75 rfl trivial ?_ hro
  simp only [Try.ntmps75, List.size_toArray, List.length_cons, List.length_nil, Nat.reduceAdd, Nat.reduceSub, Array.replicate_succ, Array.replicate_zero, List.push_toArray, List.append_toArray, List.nil_append, List.cons_append]
  gi_wp2_with (refine ⟨trivial, ?_⟩; gi_at_call 29; refine (callsIn_wide.2 (probe_Home.calls key l.length hd _ hh)).mono ?_; rintro e w1 ⟨rfl, hb1⟩; have hk1 := cell_kept hk (below_grown hb1) (fun r e => by cases e); have ht1 := cell_kept ht (below_grown hb1) (fun r e => by cases e))
  have hK0 : KpB n₀ (fun a => a = ⟨Bk, 0, none⟩ ∨ a = ⟨Bt, 0, none⟩) w1 w1 := KpB.refl _ _ _
  have hJ1 : J [] w1 := hJ _ _ _ none h0 (below_grown hb1) (fun r e => by cases e)
  have hB1 : Below n₀ w w1 := hB.trans (hb1.mono (by have := hB.size; omega))
  gi_loopw [13] (fun i wr => ∃ k : Nat, k ≤ l.length ∧ i = .int .i64 k ∧ J (upto (wayAt l hd) k) wr ∧ KpB n₀ (fun a => a = ⟨Bk, 0, none⟩ ∨ a = ⟨Bt, 0, none⟩) w1 wr)
    (fun i _ => l.length - (intOf i).toNat)
  case atStart => exact ⟨0, Nat.zero_le _, rfl, hJ1, hK0⟩
  case round =>
    obtain ⟨k, hk', rfl, hJs, hnx⟩ := hrel
    have htr : wr.cell? ⟨Bt, 0, none⟩ = some (.slice A l.length c) := hnx.2 _ _ (.inr rfl) ht1
    have hBr : Below w.heap.size w wr := by rw [hw]; exact hB1.trans hnx.1
    have hCr := Kd.C_below hC hBr
    clear hk ht hk1 ht1 hB hB1 hK0 hJ1 hBr
    by_cases hlt : k < l.length
    · obtain ⟨hr0, hr1⟩ := home_range hh (by omega) (by omega)
      obtain ⟨m, rfl⟩ := Int.eq_ofNat_of_zero_le hr0
      obtain ⟨fn, tmps, assign, body, hy, hR⟩ := hY _ (wayAt l m k) wr hJs (by rw [upto_length]; exact hlt)
      have hne : ¬ (l = []) := fun e => by rw [e] at hlt; simp at hlt
      obtain ⟨j, hj⟩ : ∃ j : Int, ((m : Int) + k) % (l.length : Int) = j := ⟨_, rfl⟩
      have hj0 : 0 ≤ j := by rw [← hj]; exact Int.emod_nonneg _ (by omega)
      have hj1 : j < l.length := by rw [← hj]; exact Int.emod_lt_of_pos _ (by omega)
      dsimp only [wayAt] at hy
      rw [hj] at hy
      obtain ⟨ad, hA, c0, c1, c2, c3⟩ := at_T31 hCr j hj0 hj1
      subst hA
      gi_wp2
      refine hR.mono ?_
      rintro e W3 (⟨rfl, hJ3, hk3⟩ | ⟨rfl, hJx3⟩)
      · gi_wp2
        go_roundw
        case rel => exact ⟨k + 1, by omega, by simp, by rw [upto_succ]; exact hJ3, kp_t hnx hk3⟩
        case measure => simp [intOf]; omega
      · gi_wp2
        refine bodyPost_ret (results_none rfl _ _ _) rfl ?_
        exact ⟨⟨_, rfl⟩, .inr ⟨_, ⟨k + 1, by omega, (upto_succ _ _).symm⟩, hJx3⟩⟩
    · obtain rfl : k = l.length := by omega
      gi_wp2
      go_end0
      exact ⟨⟨_, rfl⟩, .inl ⟨_, rfl, hJs⟩⟩

set_option maxHeartbeats 1000000 in
theorem way_any (A : Option Addr) (n c : Nat) (key : ByteArray) (w : World) :
    Calls Try.prog 58 #[.slice A n c, .string key] w fun e w' => e = .returned (.func (.func 75) #[] #[.pointer (some ⟨w.heap.size + 1, 0, none⟩), .pointer (some ⟨w.heap.size, 0, none⟩)]) ∧ w' = (w.alloc (.cells #[.slice A n c] 22)).alloc (.cells #[.string key] 9) := by
  go_enter Try.func58, Try.ntmps58
  go_wp2
  go_ret
  exact ⟨rfl, rfl⟩

theorem way_stops (n : Nat) (hn : 1 ≤ n) (Bk Bt n₀ : Nat) (A : Option Addr) (c : Nat) (l : List S31) (key : ByteArray) (hl : l.length ≤ 1000000) (hd : Int) (hh : probe_Home.f key l.length = some hd)
    (w W : World) (hw : w.heap.size = n₀) (hC : Kd.C k31 w A l.length l) (hB : Below n₀ w W) (hBk : Bk < W.heap.size) (hBt : Bt < W.heap.size) (hk : W.cell? ⟨Bk, 0, none⟩ = some (.string key)) (ht : W.cell? ⟨Bt, 0, none⟩ = some (.slice A l.length c)) :
    SeqStopsK Fence.wide n Try.prog 75 #[.pointer (some ⟨Bk, 0, none⟩), .pointer (some ⟨Bt, 0, none⟩)] (fun x : Int × S31 => #[.int .i64 x.1, entV x.2]) (KpB n₀ (fun a => a = ⟨Bk, 0, none⟩ ∨ a = ⟨Bt, 0, none⟩)) (fun ys => ys = upto (wayAt l hd) l.length) (fun pre => ∃ k, k ≤ l.length ∧ pre = upto (wayAt l hd) k) l.length W := fun y J Jx W' hW hJ _ hY h0 =>
  way1_in n hn y Bk Bt n₀ A c l key hl hd hh w hw hC J Jx _ hJ hY W' (hB.trans (hW.mono (by have := hB.size; omega))) ((hW.cell (p := ⟨Bk, 0, none⟩) hBk).trans hk) ((hW.cell (p := ⟨Bt, 0, none⟩) hBt).trans ht) h0
end

/-! ### probe_Find: function 25 -/
section
open Go.Shelf Go.Proofs.Ythdkkmeiihbafaa.Hand
attribute [local go_sem] Oper.semAt_some
/-- Does a way go on at this entry? -/
def goesOn (key : ByteArray) (x : S31) : Prop := x.f0 ≠ 0 ∧ ¬ (x.f0 = 1 ∧ x.f1 = key)
def findIn (key : ByteArray) : List (Int × S31) → Int
  | [] => -1
  | (j, x) :: r => if x.f0 = 0 then -1 else if x.f0 = 1 ∧ x.f1 = key then j else findIn key r
theorem findIn_on {key : ByteArray} : ∀ (a b : List (Int × S31)), (∀ p ∈ a, goesOn key p.2) → findIn key (a ++ b) = findIn key b
  | [], _, _ => rfl
  | (j, x) :: a, b, h => by
    have hx := h (j, x) (by simp)
    simp only [List.cons_append, findIn]
    rw [if_neg hx.1, if_neg hx.2]
    exact findIn_on a b (fun p hp => h p (by simp [hp]))
def probe_Find.f (l0 : List S31) (a1 : ByteArray) : Option Int :=
  if l0.length ≤ 1000000 then (probe_Home.f a1 l0.length).bind fun hd => some (findIn a1 (upto (wayAt l0 hd) l0.length)) else none

set_option maxRecDepth 100000 in
set_option maxHeartbeats 8000000 in
theorem Find_any (A : Option Addr) (c : Nat) (l : List S31) (key : ByteArray) (hl : l.length ≤ 1000000) (hd : Int) (hh : probe_Home.f key l.length = some hd) (w : World) (hC : Kd.C k31 w A l.length l) :
    Calls Try.prog 25 #[.slice A l.length c, .string key] w fun e W' => e = .returned (.int .i64 (findIn key (upto (wayAt l hd) l.length))) ∧ Below w.heap.size w W' := by
  refine (callsIn_wide (n := 6)).1 ?_
  have hro : Fence.wide.round = none := rfl
  refine callsIn_of_wp_marks Try.func25 rfl trivial ?_ hro
  simp only [Try.ntmps25, List.size_toArray, List.length_cons, List.length_nil, Nat.reduceAdd, Nat.reduceSub, Array.replicate_succ, Array.replicate_zero, List.push_toArray, List.append_toArray, List.nil_append, List.cons_append]
  gi_wp2
  refine wpIn_scope_wide ?_
  gi_wp2
  refine wpIn_label ?_
  gi_wp2_with (refine ⟨trivial, ?_⟩; gi_at_call 58; refine (callsIn_wide.2 (way_any _ _ _ _ _)).mono ?_; rintro e w' ⟨rfl, rfl⟩)
  have b0 := Blk.new w 9 [.string key]
  have b1 := Blk.new (w.alloc (.cells #[.string key] 9)) 3 [.int .i64 (-1)]
  have b2 := Blk.new ((w.alloc (.cells #[.string key] 9)).alloc (.cells #[.int .i64 (-1)] 3)) 22 [.slice A l.length c]
  have b3 := Blk.new (((w.alloc (.cells #[.string key] 9)).alloc (.cells #[.int .i64 (-1)] 3)).alloc (.cells #[.slice A l.length c] 22)) 9 [.string key]
  have hB0 : Below w.heap.size w ((((w.alloc (.cells #[.string key] 9)).alloc (.cells #[.int .i64 (-1)] 3)).alloc (.cells #[.slice A l.length c] 22)).alloc (.cells #[.string key] 9)) := ((((Below.refl _ w).alloc (Nat.le_refl _) _).alloc (by simp) _).alloc (by simp; omega) _).alloc (by simp; omega) _
  replace b0 := ((b0.alloc (.cells #[.int .i64 (-1)] 3)).alloc (.cells #[.slice A l.length c] 22)).alloc (.cells #[.string key] 9)
  replace b1 := (b1.alloc (.cells #[.slice A l.length c] 22)).alloc (.cells #[.string key] 9)
  replace b2 := b2.alloc (.cells #[.string key] 9)
  have hsz : ((((w.alloc (.cells #[.string key] 9)).alloc (.cells #[.int .i64 (-1)] 3)).alloc (.cells #[.slice A l.length c] 22)).alloc (.cells #[.string key] 9)).heap.size = w.heap.size + 4 := by simp
  simp only [World.size_alloc] at b0 b1 b2 b3
  obtain ⟨W0, hW0⟩ : ∃ W0, ((((w.alloc (.cells #[.string key] 9)).alloc (.cells #[.int .i64 (-1)] 3)).alloc (.cells #[.slice A l.length c] 22)).alloc (.cells #[.string key] 9)) = W0 := ⟨_, rfl⟩
  rw [hW0] at hB0 hsz ⊢
  replace b0 : Blk W0 w.heap.size 9 [.string key] := by rw [← hW0]; exact b0
  replace b1 : Blk W0 (w.heap.size + 1) 3 [.int .i64 (-1)] := by rw [← hW0]; exact b1
  replace b2 : Blk W0 (w.heap.size + 1 + 1) 22 [.slice A l.length c] := by rw [← hW0]; exact b2
  replace b3 : Blk W0 (w.heap.size + 1 + 1 + 1) 9 [.string key] := by rw [← hW0]; exact b3
  clear hW0
  have HH := Lib.hid hsz
  clear hsz
  refine wpIn_rangeFunc_ownH hro (by omega) (gf := 75) (lb := #[.pointer (some ⟨w.heap.size + 1 + 1 + 1, 0, none⟩), .pointer (some ⟨w.heap.size + 1 + 1, 0, none⟩)]) rfl trivial (enters_of Try.func75 (by kernel_rfl) rfl)
    (way_stops (6 - 1) (by omega) (w.heap.size + 1 + 1 + 1) (w.heap.size + 1 + 1) w.heap.size A c l key hl hd hh w W0 rfl hC hB0 b3.lt b2.lt (by rw [b3.cell]; rfl) (by rw [b2.cell]; rfl)) kp_t (kp_b hB0.size) (Below.refl _ _) (fun _ => rfl)
    (fun pre W => (Blk W w.heap.size 9 [.string key] ∧ Blk W (w.heap.size + 1) 3 [.int .i64 (-1)]) ∧ Below w.heap.size w W ∧ ∀ p ∈ pre, goesOn key p.2)
    (fun c pre W => (c = .exit 0 ∧ ∃ (ini : List (Int × S31)) (last : Int × S31), pre = ini ++ [last] ∧ (∀ p ∈ ini, goesOn key p.2) ∧ ¬ goesOn key last.2 ∧ Blk W (w.heap.size + 1) 3 [.int .i64 (if last.2.f0 = 0 then -1 else last.1)]) ∧ Below w.heap.size w W)
    ((OwnFrom.and (blk_ownFrom _ _ _ _) (blk_ownFrom _ _ _ _)).and ((ownFrom_below (Nat.le_refl _) hB0.size).and (OwnFrom.pure _)))
    (fun c => OwnFrom.and (fun s W W' row ⟨h1, ini, last, h2, h3, h4, h5⟩ hg hr => ⟨h1, ini, last, h2, h3, h4, blk_ownFrom (β := Unit) W0.heap.size _ _ (fun _ => _) () W W' row h5 hg hr⟩) (ownFrom_below (Nat.le_refl _) hB0.size))
    ⟨⟨b0, b1⟩, hB0, by simp⟩
    (fun x a' W => ∃ Bx, w.heap.size + 1 < Bx ∧ Blk W Bx 31 [.int .i64 x.2.f0, .string x.2.f1, .int .i64 x.2.f2, .int .i64 x.2.f3] ∧ a' = { tmps := #[.slice A l.length c, .string key, undef, .pointer (some ⟨w.heap.size, 0, none⟩), .int .i64 0, .pointer (some ⟨w.heap.size + 1, 0, none⟩), .int .i64 x.1, .pointer (some ⟨Bx, 0, none⟩), .slice A l.length c, .string key, .func (.func 75) #[] #[.pointer (some ⟨w.heap.size + 1 + 1 + 1, 0, none⟩), .pointer (some ⟨w.heap.size + 1 + 1, 0, none⟩)], .int .i64 x.1, entV x.2, undef, undef, undef, undef, undef, undef, undef, undef, undef, undef, undef, undef, undef, undef, undef, undef], defers := [] })
    (fun x a' s W W' row ⟨Bx, h1, h2, h3⟩ hg hr => ⟨Bx, h1, blk_ownFrom (β := Unit) W0.heap.size _ _ (fun _ => _) () W W' row h2 hg hr, h3⟩) ?assign ?body ?done ?stop
  case assign =>
    rintro y pre x W K ⟨⟨c0, c1⟩, hB, hp⟩ hK
    gi_wp2
    exact hK _ _ ((KeepsOthers.alloc _ _).from _) ((KpB.refl _ _ _).alloc hB.size _) ⟨⟨c0.alloc _, c1.alloc _⟩, hB.alloc hB.size _, hp⟩ ⟨_, c1.lt, Blk.new W 31 [.int .i64 x.2.f0, .string x.2.f1, .int .i64 x.2.f2, .int .i64 x.2.f3], rfl⟩
  case body =>
    rintro y pre x a' W hy ⟨r, hr⟩ ⟨⟨c0, c1⟩, hB, hp⟩ ⟨Bx, hBx, cx, rfl⟩ hlt
    have d0 : W.cell? ⟨w.heap.size, 0, none⟩ = some (.string key) := c0.cell 0
    have e0 : W.cell? ⟨Bx, 0, none⟩ = some (.int .i64 x.2.f0) := cx.cell 0
    have e1 : W.cell? ⟨Bx, 1, none⟩ = some (.string x.2.f1) := cx.cell 1
    by_cases h0 : x.2.f0 = 0
    · have q0 : (x.2.f0 == 0) = true := by simpa using h0
      have hx : ¬ goesOn key x.2 := fun h => h.1 h0
      have hz : (if x.2.f0 = 0 then (-1 : Int) else x.1) = -1 := if_pos h0
      have H0 := Lib.hid h0
      have HZ := Lib.hid hz
      clear h0 hz
      gi_wp2
      refine ⟨KeepsFrom.refl _ _, ⟨rfl, pre, x, rfl, hp, hx, ?_⟩, hB⟩
      rw [HZ.out]; exact c1
    · have q0 : (x.2.f0 == 0) = false := by simpa using h0
      have hz : (if x.2.f0 = 0 then (-1 : Int) else x.1) = x.1 := if_neg h0
      have HZ := Lib.hid hz
      have H0 := Lib.hid h0
      clear h0 hz
      by_cases h1 : x.2.f0 = 1
      · have q1 : (x.2.f0 == 1) = true := by simpa using h1
        have H1 := Lib.hid h1
        clear h1
        by_cases hk : x.2.f1 = key
        · have hx : ¬ goesOn key x.2 := fun h => h.2 ⟨H1.out, hk⟩
          have q2 : (x.2.f1.toList == key.toList) = true := by rw [hk]; simp
          have f1 := c1.frozen 0
          have g1 := c1.cell 0
          have HK := Lib.hid hk
          clear hk
          gi_wp2
          refine ⟨(KeepsOthers.setCell _ _ _).from _, ⟨rfl, pre, x, rfl, hp, hx, ?_⟩, hB.setCell (p := ⟨w.heap.size + 1, 0, none⟩) (by simp) _⟩
          rw [HZ.out]; exact c1.set1 _
        · have hx : goesOn key x.2 := ⟨H0.out, fun h => hk h.2⟩
          have q2 : (x.2.f1.toList == key.toList) = false := by
            rw [beq_eq_false_iff_ne]; intro e; exact hk (bytes_eq e)
          have HK := Lib.hid hk
          clear hk
          gi_wp2
          exact ⟨KeepsFrom.refl _ _, KpB.refl _ _ _, ⟨c0, c1⟩, hB, fun p hp' => (List.mem_append.1 hp').elim (hp p) (fun e => by simp at e; subst e; exact hx)⟩
      · have q1 : (x.2.f0 == 1) = false := by simpa using h1
        have hx : goesOn key x.2 := ⟨H0.out, fun h => h1 h.1⟩
        clear h1
        gi_wp2
        exact ⟨KeepsFrom.refl _ _, KpB.refl _ _ _, ⟨c0, c1⟩, hB, fun p hp' => (List.mem_append.1 hp').elim (hp p) (fun e => by simp at e; subst e; exact hx)⟩
  case done =>
    rintro D ys W hD rfl ⟨⟨c0, c1⟩, hB, hp⟩ hK
    have g1 : W.cell? ⟨w.heap.size + 1, 0, none⟩ = some (.int .i64 (-1)) := c1.cell 0
    gi_wp2
    refine ⟨by simp, .inl ⟨_, _, rfl, run_takeDeferred hK, ?_⟩⟩
    refine ⟨_, results_tmp rfl _ _ _, ?_, hB.trans (belowK_b (w := w) (Nat.le_refl _) W D _ _ (Nat.le_trans hB0.size hD) hK rfl rfl)⟩
    have e := findIn_on (upto (wayAt l hd) l.length) [] hp
    rw [List.append_nil] at e
    rw [e]; rfl
  case stop =>
    rintro D cc pre W hD ⟨k, hk, rfl⟩ ⟨⟨rfl, ini, last, e1, e2, e3, c1⟩, hB⟩ hK
    have hf : (if last.2.f0 = 0 then (-1 : Int) else last.1) = findIn key (upto (wayAt l hd) l.length) := by
      obtain ⟨rest, hr⟩ := upto_split (wayAt l hd) hk
      rw [hr, e1, List.append_assoc, findIn_on _ _ e2]
      simp only [List.cons_append, findIn]
      by_cases h0 : last.2.f0 = 0
      · rw [if_pos h0, if_pos h0]
      · rw [if_neg h0, if_neg h0]
        have : last.2.f0 = 1 ∧ last.2.f1 = key := Classical.byContradiction fun h => e3 ⟨h0, h⟩
        rw [if_pos this]
    rw [hf] at c1
    have g1 : W.cell? ⟨w.heap.size + 1, 0, none⟩ = some (.int .i64 (findIn key (upto (wayAt l hd) l.length))) := c1.cell 0
    gi_wp2
    refine ⟨by simp, .inl ⟨_, _, rfl, run_takeDeferred hK, ?_⟩⟩
    exact ⟨_, results_tmp rfl _ _ _, rfl, hB.trans (belowK_b (w := w) (Nat.le_refl _) W D _ _ (Nat.le_trans hB0.size hD) hK rfl rfl)⟩

theorem probe_Find.calls (A0 : Option Addr) (c0 : Nat) (l0 : List S31) (a1 : ByteArray) (r : Int) (w : World) (hr0 : Kd.C k31 w A0 l0.length l0) (hc0 : l0.length ≤ c0) (h : probe_Find.f l0 a1 = some r) :
    Calls Try.prog 25 #[.slice A0 l0.length c0, .string a1] w fun e w' => e = .returned (.int .i64 r) ∧ Below w.heap.size w w' := by
  unfold probe_Find.f at h
  by_cases hl : l0.length ≤ 1000000
  · rw [if_pos hl] at h
    obtain ⟨hd, hh, h⟩ := Option.bind_eq_some_iff.mp h
    obtain rfl := Option.some.inj h
    exact Find_any A0 c0 l0 a1 hl hd hh w hr0
  · rw [if_neg hl] at h
    exact absurd h (by simp)
end

/-! ### probe_Room: function 27 -/
section
open Go.Shelf Go.Proofs.Ythdkkmeiihbafaa.Hand
attribute [local go_sem] Oper.semAt_some
def roomIn : List (Int × S31) → Int
  | [] => -1
  | (j, x) :: r => if x.f0 = 1 then roomIn r else j
theorem roomIn_on : ∀ (a b : List (Int × S31)), (∀ p ∈ a, p.2.f0 = 1) → roomIn (a ++ b) = roomIn b
  | [], _, _ => rfl
  | (j, x) :: a, b, h => by
    have hx := h (j, x) (by simp)
    simp only [List.cons_append, roomIn]
    rw [if_pos hx]
    exact roomIn_on a b (fun p hp => h p (by simp [hp]))
def probe_Room.f (l0 : List S31) (a1 : ByteArray) : Option Int :=
  (probe_Find.f l0 a1).bind fun t => if 0 ≤ t then some (-1) else (probe_Home.f a1 l0.length).bind fun hd => some (roomIn (upto (wayAt l0 hd) l0.length))

set_option maxRecDepth 100000 in
set_option maxHeartbeats 8000000 in
theorem Room_any (A : Option Addr) (c : Nat) (l : List S31) (key : ByteArray) (hcap : l.length ≤ c) (hl : l.length ≤ 1000000) (t : Int) (ht : probe_Find.f l key = some t) (hd : Int) (hh : probe_Home.f key l.length = some hd) (w : World) (hC : Kd.C k31 w A l.length l) :
    Calls Try.prog 27 #[.slice A l.length c, .string key] w fun e W' => e = .returned (.int .i64 (if 0 ≤ t then -1 else roomIn (upto (wayAt l hd) l.length))) ∧ Below w.heap.size w W' := by
  refine (callsIn_wide (n := 6)).1 ?_
  have hro : Fence.wide.round = none := rfl
  by_cases htp : 0 ≤ t
  · rw [if_pos htp]
    have hq : decide (0 ≤ t) = true := decide_eq_true htp
    clear htp
    refine callsIn_of_wp_marks Try.func27 rfl trivial ?_ hro
    simp only [Try.ntmps27, List.size_toArray, List.length_cons, List.length_nil, Nat.reduceAdd, Nat.reduceSub, Array.replicate_succ, Array.replicate_zero, List.push_toArray, List.append_toArray, List.nil_append, List.cons_append]
    have b0 := Blk.new w 3 [.int .i64 0]
    gi_wp2_with (refine ⟨trivial, ?_⟩; gi_at_call 25; refine (callsIn_wide.2 (probe_Find.calls _ _ _ _ _ _ (Kd.C_alloc hC _) hcap ht)).mono ?_; rintro e w1 ⟨rfl, hb1⟩; have b1 := b0.below hb1; have g1 := b1.cell 0; have f1 := b1.frozen 0)
    have g2 := (b1.set1 (.int .i64 (-1))).cell 0
    refine ⟨.int .i64 (-1), ?_, rfl, (((Below.refl _ w).alloc (Nat.le_refl _) _).trans (hb1.mono (by simp))).setCell (p := ⟨w.heap.size, 0, none⟩) (Nat.le_refl _) _⟩
    simp [results, Try.f27, go_sem, g2]
  · rw [if_neg htp]
    have hq : decide (0 ≤ t) = false := decide_eq_false htp
    clear htp
    refine callsIn_of_wp_marks Try.func27 rfl trivial ?_ hro
    simp only [Try.ntmps27, List.size_toArray, List.length_cons, List.length_nil, Nat.reduceAdd, Nat.reduceSub, Array.replicate_succ, Array.replicate_zero, List.push_toArray, List.append_toArray, List.nil_append, List.cons_append]
    have b0 := Blk.new w 3 [.int .i64 0]
    gi_wp2_with (first | (refine ⟨trivial, ?_⟩; gi_at_call 25; refine (callsIn_wide.2 (probe_Find.calls _ _ _ _ _ _ (Kd.C_alloc hC _) hcap ht)).mono ?_; rintro e w1 ⟨rfl, hb1⟩; have b1 := b0.below hb1; have g1 := b1.cell 0; have f1 := b1.frozen 0; have hB1 := ((Below.refl w.heap.size w).alloc (Nat.le_refl _) (.cells #[.int .i64 0] 3)).trans (hb1.mono (by simp)); clear hb1) | (refine ⟨trivial, ?_⟩; gi_at_call 58; refine (callsIn_wide.2 (way_any _ _ _ _ _)).mono ?_; rintro e w' ⟨rfl, rfl⟩))
    have b2 := Blk.new w1 22 [.slice A l.length c]
    have b3 := Blk.new (w1.alloc (.cells #[.slice A l.length c] 22)) 9 [.string key]
    have hB0 : Below w.heap.size w ((w1.alloc (.cells #[.slice A l.length c] 22)).alloc (.cells #[.string key] 9)) := (hB1.alloc hB1.size _).alloc (by have := hB1.size; simp; omega) _
    replace b1 := (b1.alloc (.cells #[.slice A l.length c] 22)).alloc (.cells #[.string key] 9)
    replace b2 := b2.alloc (.cells #[.string key] 9)
    simp only [World.size_alloc] at b2 b3
    obtain ⟨W0, hW0⟩ : ∃ W0, ((w1.alloc (.cells #[.slice A l.length c] 22)).alloc (.cells #[.string key] 9)) = W0 := ⟨_, rfl⟩
    rw [hW0] at hB0 ⊢
    replace b1 : Blk W0 w.heap.size 3 [.int .i64 0] := by rw [← hW0]; exact b1
    replace b2 : Blk W0 w1.heap.size 22 [.slice A l.length c] := by rw [← hW0]; exact b2
    replace b3 : Blk W0 (w1.heap.size + 1) 9 [.string key] := by rw [← hW0]; exact b3
    clear hW0
    refine wpIn_rangeFunc_ownH hro (by omega) (gf := 75) (lb := #[.pointer (some ⟨w1.heap.size + 1, 0, none⟩), .pointer (some ⟨w1.heap.size, 0, none⟩)]) rfl trivial (enters_of Try.func75 (by kernel_rfl) rfl)
      (way_stops (6 - 1) (by omega) (w1.heap.size + 1) w1.heap.size w.heap.size A c l key hl hd hh w W0 rfl hC hB0 b3.lt b2.lt (by rw [b3.cell]; rfl) (by rw [b2.cell]; rfl)) kp_t (kp_b hB0.size) (Below.refl _ _) (fun _ => rfl)
      (fun pre W => Blk W w.heap.size 3 [.int .i64 0] ∧ Below w.heap.size w W ∧ ∀ p ∈ pre, p.2.f0 = 1)
      (fun c pre W => (c = .ret ∧ ∃ (ini : List (Int × S31)) (last : Int × S31), pre = ini ++ [last] ∧ (∀ p ∈ ini, p.2.f0 = 1) ∧ ¬ last.2.f0 = 1 ∧ Blk W w.heap.size 3 [.int .i64 last.1]) ∧ Below w.heap.size w W)
      ((blk_ownFrom _ _ _ _).and ((ownFrom_below (Nat.le_refl _) hB0.size).and (OwnFrom.pure _)))
      (fun c => OwnFrom.and (fun s W W' row ⟨h1, ini, last, h2, h3, h4, h5⟩ hg hr => ⟨h1, ini, last, h2, h3, h4, blk_ownFrom (β := Unit) W0.heap.size _ _ (fun _ => _) () W W' row h5 hg hr⟩) (ownFrom_below (Nat.le_refl _) hB0.size))
      ⟨b1, hB0, by simp⟩
      (fun x a' W => ∃ Bx, w.heap.size < Bx ∧ Blk W Bx 31 [.int .i64 x.2.f0, .string x.2.f1, .int .i64 x.2.f2, .int .i64 x.2.f3] ∧ a' = { tmps := #[.slice A l.length c, .string key, undef, undef, .pointer (some ⟨w.heap.size, 0, none⟩), .int .i64 x.1, .pointer (some ⟨Bx, 0, none⟩), .slice A l.length c, .string key, .int .i64 t, .bool false, .slice A l.length c, .string key, .func (.func 75) #[] #[.pointer (some ⟨w1.heap.size + 1, 0, none⟩), .pointer (some ⟨w1.heap.size, 0, none⟩)], .int .i64 x.1, entV x.2, undef, undef, undef, undef], defers := [] })
      (fun x a' s W W' row ⟨Bx, h1, h2, h3⟩ hg hr => ⟨Bx, h1, blk_ownFrom (β := Unit) W0.heap.size _ _ (fun _ => _) () W W' row h2 hg hr, h3⟩) ?assign ?body ?done ?stop
    case assign =>
      rintro y pre x W K ⟨c0, hB, hp⟩ hK
      gi_wp2
      exact hK _ _ ((KeepsOthers.alloc _ _).from _) ((KpB.refl _ _ _).alloc hB.size _) ⟨c0.alloc _, hB.alloc hB.size _, hp⟩ ⟨_, c0.lt, Blk.new W 31 [.int .i64 x.2.f0, .string x.2.f1, .int .i64 x.2.f2, .int .i64 x.2.f3], rfl⟩
    case body =>
      rintro y pre x a' W hy ⟨r, hr⟩ ⟨c0, hB, hp⟩ ⟨Bx, hBx, cx, rfl⟩ hlt
      have e0 : W.cell? ⟨Bx, 0, none⟩ = some (.int .i64 x.2.f0) := cx.cell 0
      by_cases h0 : x.2.f0 = 1
      · have q0 : (x.2.f0 != 1) = false := by simpa using h0
        have H0 := Lib.hid h0
        clear h0
        gi_wp2
        exact ⟨KeepsFrom.refl _ _, KpB.refl _ _ _, c0, hB, fun p hp' => (List.mem_append.1 hp').elim (hp p) (fun e => by simp at e; subst e; exact H0.out)⟩
      · have q0 : (x.2.f0 != 1) = true := by simpa using h0
        have H0 := Lib.hid h0
        clear h0
        have f1 := c0.frozen 0
        have g1 := c0.cell 0
        gi_wp2
        exact ⟨(KeepsOthers.setCell _ _ _).from _, ⟨rfl, pre, x, rfl, hp, H0.out, c0.set1 _⟩, hB.setCell (p := ⟨w.heap.size, 0, none⟩) (Nat.le_refl _) _⟩
    case done =>
      rintro D ys W hD rfl ⟨c0, hB, hp⟩ hK
      have f1 := c0.frozen 0
      have g1 := c0.cell 0
      gi_wp2
      have hK' := (KeepsOthers.setCell W ⟨w.heap.size, 0, none⟩ (.int .i64 (-1))).same D _ hK rfl
      refine ⟨by simp, .inl ⟨_, _, rfl, run_takeDeferred hK', ?_⟩⟩
      have g2 := cell_kept ((c0.set1 (.int .i64 (-1))).cell 0) (grownBy_putObj' _ D (.deferred none)) (fun r e => by cases e; exact ⟨_, hK', rfl⟩)
      have e := roomIn_on (upto (wayAt l hd) l.length) [] hp
      rw [List.append_nil] at e
      refine ⟨.int .i64 (-1), ?_, by rw [e]; rfl, (hB.setCell (p := ⟨w.heap.size, 0, none⟩) (Nat.le_refl _) _).trans (belowK_b (w := w) (Nat.le_refl _) _ D _ _ (Nat.le_trans hB0.size hD) hK' rfl rfl)⟩
      simp [results, Try.f27, go_sem, g2]
    case stop =>
      rintro D cc pre W hD ⟨k, hk, rfl⟩ ⟨⟨rfl, ini, last, e1, e2, e3, c1⟩, hB⟩ hK
      have hf : last.1 = roomIn (upto (wayAt l hd) l.length) := by
        obtain ⟨rest, hr⟩ := upto_split (wayAt l hd) hk
        rw [hr, e1, List.append_assoc, roomIn_on _ _ e2]
        simp only [List.cons_append, roomIn]
        rw [if_neg e3]
      rw [hf] at c1
      gi_wp2
      refine ⟨by simp, .inl ⟨_, _, rfl, run_takeDeferred hK, ?_⟩⟩
      have g2 := cell_kept (c1.cell 0) (grownBy_putObj' _ D (.deferred none)) (fun r e => by cases e; exact ⟨_, hK, rfl⟩)
      refine ⟨_, ?_, rfl, hB.trans (belowK_b (w := w) (Nat.le_refl _) W D _ _ (Nat.le_trans hB0.size hD) hK rfl rfl)⟩
      simp [results, Try.f27, go_sem, g2]

theorem probe_Room.calls (A0 : Option Addr) (c0 : Nat) (l0 : List S31) (a1 : ByteArray) (r : Int) (w : World) (hr0 : Kd.C k31 w A0 l0.length l0) (hc0 : l0.length ≤ c0) (h : probe_Room.f l0 a1 = some r) :
    Calls Try.prog 27 #[.slice A0 l0.length c0, .string a1] w fun e w' => e = .returned (.int .i64 r) ∧ Below w.heap.size w w' := by
  unfold probe_Room.f at h
  obtain ⟨t, ht, h⟩ := Option.bind_eq_some_iff.mp h
  have ht' := ht
  unfold probe_Find.f at ht'
  by_cases hl : l0.length ≤ 1000000
  · rw [if_pos hl] at ht'
    obtain ⟨hd, hh, _⟩ := Option.bind_eq_some_iff.mp ht'
    have hr : r = if 0 ≤ t then -1 else roomIn (upto (wayAt l0 hd) l0.length) := by
      by_cases h0 : 0 ≤ t
      · rw [if_pos h0] at h ⊢; exact (Option.some.inj h).symm
      · rw [if_neg h0, hh] at h
        rw [if_neg h0]
        exact (Option.some.inj h).symm
    rw [hr]
    exact Room_any A0 c0 l0 a1 hc0 hl t ht hd hh w hr0
  · rw [if_neg hl] at ht'
    exact absurd ht' (by simp)
end

/-! ### flows_table_put: function 66 -/
def flows_table_put.f (l0 : List (S31)) (a1_0 : Int) (a1_1 : ByteArray) (a1_2 : Int) (a1_3 : Int) : Option (Bool × (List (S31))) := (probe_Find.f l0 a1_1).bind fun t106 => (if t106 < 0 then ((probe_Room.f l0 a1_1).bind fun t107 => (if t107 < 0 then (some (false, l0)) else (if 0 ≤ t107 then (if t107 < (l0.length : Int) then (some (true, (l0.set (t107 : Int).toNat (⟨a1_0, a1_1, a1_2, a1_3⟩ : S31)))) else (none)) else (none)))) else (if 0 ≤ t106 then (if t106 < (l0.length : Int) then (some (true, (l0.set (t106 : Int).toNat (⟨a1_0, a1_1, a1_2, a1_3⟩ : S31)))) else (none)) else (none)))
set_option maxHeartbeats 8000000 in
set_option maxRecDepth 100000 in
theorem flows_table_put.calls (P0_ : Nat → Prop) (u9000_ : Value) (l0 : List (S31)) (a1_0 : Int) (a1_1 : ByteArray) (a1_2 : Int) (a1_3 : Int) (r1 : Bool) (r2 : List (S31)) (w0 w : World) (hB : Below w0.heap.size w0 w) (ho0 : Kd.R k31 31 w w0.heap.size P0_ u9000_ l0) (h : flows_table_put.f l0 a1_0 a1_1 a1_2 a1_3 = some (r1, r2)) :
    Calls Try.prog 66 #[u9000_, .agg #[.int .i64 a1_0, .string a1_1, .int .i64 a1_2, .int .i64 a1_3]] w fun e w' => e = .returned (.bool r1) ∧ Kd.R k31 31 w' w0.heap.size (fun k_ => (P0_ k_ ∨ w.heap.size ≤ k_)) u9000_ r2 ∧ Below w0.heap.size w0 w' ∧ Kept w w' (fun k_ => P0_ k_) := by
  have hu31 := Try.underlying31
  have HO0 := Aside0.mk (show Kd.R k31 31 w w0.heap.size (fun k_ => (P0_ k_ ∨ w.heap.size ≤ k_)) u9000_ l0 from Kd.R_mono ho0 (fun k_ hk => (.inl hk)))
  have HK := Aside0.mk (Kept.refl w (fun k_ => P0_ k_))
  have HW0 := Aside0.mk hB.size
  have HB := Aside0.mk hB
  clear hB
  have H : ((probe_Find.f l0 a1_1).bind fun t106 => (if t106 < 0 then ((probe_Room.f l0 a1_1).bind fun t107 => (if t107 < 0 then (some (false, l0)) else (if 0 ≤ t107 then (if t107 < (l0.length : Int) then (some (true, (l0.set (t107 : Int).toNat (⟨a1_0, a1_1, a1_2, a1_3⟩ : S31)))) else (none)) else (none)))) else (if 0 ≤ t106 then (if t106 < (l0.length : Int) then (some (true, (l0.set (t106 : Int).toNat (⟨a1_0, a1_1, a1_2, a1_3⟩ : S31)))) else (none)) else (none)))) = some (r1, r2) := h
  clear h
  replace H := Option.bind_eq_some_iff.mp H
  obtain ⟨t106, A30, H⟩ := H
  replace H : (if t106 < 0 then ((probe_Room.f l0 a1_1).bind fun t107 => (if t107 < 0 then (some (false, l0)) else (if 0 ≤ t107 then (if t107 < (l0.length : Int) then (some (true, (l0.set (t107 : Int).toNat (⟨a1_0, a1_1, a1_2, a1_3⟩ : S31)))) else (none)) else (none)))) else (if 0 ≤ t106 then (if t106 < (l0.length : Int) then (some (true, (l0.set (t106 : Int).toNat (⟨a1_0, a1_1, a1_2, a1_3⟩ : S31)))) else (none)) else (none))) = some (r1, r2) := H
  have A3 := Aside0.mk A30
  clear A30
  by_cases c4 : t106 < 0
  · rw [if_pos c4] at H
    have c4b0 : decide (t106 < 0) = true := decide_eq_true c4
    clear c4
    replace H := Option.bind_eq_some_iff.mp H
    obtain ⟨t107, A50, H⟩ := H
    replace H : (if t107 < 0 then (some (false, l0)) else (if 0 ≤ t107 then (if t107 < (l0.length : Int) then (some (true, (l0.set (t107 : Int).toNat (⟨a1_0, a1_1, a1_2, a1_3⟩ : S31)))) else (none)) else (none))) = some (r1, r2) := H
    have A5 := Aside0.mk A50
    clear A50
    by_cases c6 : t107 < 0
    · rw [if_pos c6] at H
      have c6b0 : decide (t107 < 0) = true := decide_eq_true c6
      clear c6
      simp only [Option.some.injEq, Prod.mk.injEq] at H
      obtain ⟨rfl, rfl⟩ := H
      go_enter Try.func66, Try.ntmps66
      go_wp2_with (first | ((with_reducible refine gate_dst (N := 3) rfl ?_); refine box_event ?hg (N := 3) ?hd (cs := #[.int .i64 a1_0, .string a1_1, .int .i64 a1_2, .int .i64 a1_3]) (t := 31) ?hr ?_; (case hd => rfl); (case hg => rfl); (case hr => first | (go_simp; done) | (go_simp; rfl)); intro gb105 hg w7 hbox hb; have n0_ := Aside0.mk (Kd.R_below (Kd.R_elderB (by (with_reducible repeat (first | apply Kd.R_alloc | apply Kd.R_drewN | apply Kd.R_drew)); exact HO0.out) gb105 (Nat.le_of_eq hg.symm)) hb); have n1_ := Aside0.mk (Kept.below (S := (fun k_ => P0_ k_)) (by repeat (first | (with_reducible first | exact HK.out | apply Kept.alloc | apply Kept.drewN | apply Kept.drew) | exact HK.out)) hb); have n2_ := Aside0.mk (below_step (by repeat (first | (with_reducible first | exact HB.out | apply below_alloc | apply pw_below_drewN | apply below_drew1) | exact HB.out)) hb); have n3_ := Aside0.mk (hbox); have n4_ := Aside0.mk ((by rw [hg]; exact (by first | exact HK.out.1 | exact (show Kept w _ (fun k_ => P0_ k_) from by repeat (first | (with_reducible first | exact HK.out | apply Kept.alloc | apply Kept.drewN | apply Kept.drew) | exact HK.out)).1) : w.heap.size ≤ gb105)); have n5_ := Aside0.mk ((by rw [hg]; exact (below_size (by repeat (first | (with_reducible first | exact HB.out | apply below_alloc | apply pw_below_drewN | apply below_drew1) | exact HB.out))) : w0.heap.size ≤ gb105)); clear HO0; clear HK; clear HB; have HO0 := n0_; have HK := n1_; have HB := n2_; have BK105 := n3_; have GW105 := n4_; have GE105 := n5_; clear n0_ n1_ n2_ n3_ n4_ n5_; clear hb hbox hg; have hcz8_0 : w7.cell? ⟨gb105, 0, none⟩ = some (.int .i64 a1_0) := (blk_cell BK105.out 0).trans rfl; have hcz8_1 : w7.cell? ⟨gb105, 1, none⟩ = some (.string a1_1) := (blk_cell BK105.out 1).trans rfl; have hcz8_2 : w7.cell? ⟨gb105, 2, none⟩ = some (.int .i64 a1_2) := (blk_cell BK105.out 2).trans rfl; have hcz8_3 : w7.cell? ⟨gb105, 3, none⟩ = some (.int .i64 a1_3) := (blk_cell BK105.out 3).trans rfl; have hfz8_0 := blk_frozen BK105.out 0; have hfz8_1 := blk_frozen BK105.out 1; have hfz8_2 := blk_frozen BK105.out 2; have hfz8_3 := blk_frozen BK105.out 3; obtain ⟨Ao9, co9, eo9⟩ := Kd.R_slice HO0.out; subst eo9) | ((with_reducible refine gate_callee (f := 25) rfl ?_); refine goesL_ (some 9) rfl rfl Try.func25 (by kernel_rfl) rfl #[.slice Ao9 l0.length co9, .string a1_1] rfl (by (try simp only [List.map_toArray, List.map_cons, List.map_nil]); first | done | rfl | (simp only [List.length_drop, List.length_take]; rfl)) ?_; (with_reducible refine (probe_Find.calls _ _ l0 a1_1 t106 _ ?side1 ?side2 A3.out).mono ?_); (case side1 => repeat (first | exact (Kd.R_reads' HO0.out).2.2 | (with_reducible refine Kd.C_alloc ?_ _) | (with_reducible refine Kd.C_drewN ?_ _) | (with_reducible refine Kd.C_drew ?_))); (case side2 => exact (Kd.R_reads' HO0.out).2.1); (try clear A3); rintro e w10 ⟨rfl, hb⟩; refine ⟨_, rfl, ?_⟩; have n0_ := Aside0.mk (Kd.R_below (by (with_reducible repeat (first | apply Kd.R_alloc | apply Kd.R_drewN | apply Kd.R_drew)); exact HO0.out) hb); have n1_ := Aside0.mk (blk_below (g := gb105) (o := .cells #[.int .i64 a1_0, .string a1_1, .int .i64 a1_2, .int .i64 a1_3] 31 (0, 0)) (by (with_reducible repeat (first | refine blk_drewN ?_ _ | refine blk_drew ?_ | refine blk_alloc ?_ _)); exact BK105.out) hb); have n2_ := Aside0.mk (Kept.below (S := (fun k_ => P0_ k_)) (by repeat (first | (with_reducible first | exact HK.out | apply Kept.alloc | apply Kept.drewN | apply Kept.drew | refine Kept.setCell ?_ (.inr GW105.out) _) | exact HK.out)) hb); have n3_ := Aside0.mk (below_step (by repeat (first | (with_reducible first | exact HB.out | apply below_alloc | apply pw_below_drewN | apply below_drew1 | refine below_set ?_ GE105.out) | exact HB.out)) hb); clear HO0; clear BK105; clear HK; clear HB; have HO0 := n0_; have BK105 := n1_; have HK := n2_; have HB := n3_; clear n0_ n1_ n2_ n3_; (try clear hb); (try clear hb2); (try clear hk); (try clear hi); have hcz11_0 : w10.cell? ⟨gb105, 0, none⟩ = some (.int .i64 a1_0) := (blk_cell BK105.out 0).trans rfl; have hcz11_1 : w10.cell? ⟨gb105, 1, none⟩ = some (.string a1_1) := (blk_cell BK105.out 1).trans rfl; have hcz11_2 : w10.cell? ⟨gb105, 2, none⟩ = some (.int .i64 a1_2) := (blk_cell BK105.out 2).trans rfl; have hcz11_3 : w10.cell? ⟨gb105, 3, none⟩ = some (.int .i64 a1_3) := (blk_cell BK105.out 3).trans rfl; have hfz11_0 := blk_frozen BK105.out 0; have hfz11_1 := blk_frozen BK105.out 1; have hfz11_2 := blk_frozen BK105.out 2; have hfz11_3 := blk_frozen BK105.out 3) | ((with_reducible refine gate_callee (f := 27) rfl ?_); refine goesL_ (some 15) rfl rfl Try.func27 (by kernel_rfl) rfl #[.slice Ao9 l0.length co9, .string a1_1] rfl (by (try simp only [List.map_toArray, List.map_cons, List.map_nil]); first | done | rfl | (simp only [List.length_drop, List.length_take]; rfl)) ?_; (with_reducible refine (probe_Room.calls _ _ l0 a1_1 t107 _ ?side1 ?side2 A5.out).mono ?_); (case side1 => repeat (first | exact (Kd.R_reads' HO0.out).2.2 | (with_reducible refine Kd.C_alloc ?_ _) | (with_reducible refine Kd.C_drewN ?_ _) | (with_reducible refine Kd.C_drew ?_))); (case side2 => exact (Kd.R_reads' HO0.out).2.1); (try clear A5); rintro e w12 ⟨rfl, hb⟩; refine ⟨_, rfl, ?_⟩; have n0_ := Aside0.mk (Kd.R_below (by (with_reducible repeat (first | apply Kd.R_alloc | apply Kd.R_drewN | apply Kd.R_drew)); exact HO0.out) hb); have n1_ := Aside0.mk (blk_below (g := gb105) (o := .cells #[.int .i64 a1_0, .string a1_1, .int .i64 a1_2, .int .i64 a1_3] 31 (0, 0)) (by (with_reducible repeat (first | refine blk_drewN ?_ _ | refine blk_drew ?_ | refine blk_alloc ?_ _)); exact BK105.out) hb); have n2_ := Aside0.mk (Kept.below (S := (fun k_ => P0_ k_)) (by repeat (first | (with_reducible first | exact HK.out | apply Kept.alloc | apply Kept.drewN | apply Kept.drew | refine Kept.setCell ?_ (.inr GW105.out) _) | exact HK.out)) hb); have n3_ := Aside0.mk (below_step (by repeat (first | (with_reducible first | exact HB.out | apply below_alloc | apply pw_below_drewN | apply below_drew1 | refine below_set ?_ GE105.out) | exact HB.out)) hb); clear HO0; clear BK105; clear HK; clear HB; have HO0 := n0_; have BK105 := n1_; have HK := n2_; have HB := n3_; clear n0_ n1_ n2_ n3_; (try clear hb); (try clear hb2); (try clear hk); (try clear hi)))
      go_ret
      exact ⟨by first | rfl | (simp [errW_none, errW_some] <;> rfl) | (simp [*, errW_none, errW_some] <;> rfl), by (with_reducible repeat (first | apply Kd.R_alloc | apply Kd.R_drewN | apply Kd.R_drew)); exact Kd.R_mono HO0.out (fun _ hk => hk.1), by repeat (first | (with_reducible first | exact HB.out | apply below_alloc | apply pw_below_drewN | apply below_drew1 | refine below_set ?_ GE105.out) | exact HB.out), by repeat (first | (with_reducible first | exact HK.out | apply Kept.alloc | apply Kept.drewN | apply Kept.drew | refine Kept.setCell ?_ (.inr GW105.out) _) | exact HK.out)⟩
    · rw [if_neg c6] at H
      have c6b0 : decide (t107 < 0) = false := decide_eq_false c6
      clear c6
      by_cases c13 : 0 ≤ t107
      · rw [if_pos c13] at H
        have c13b0 : decide (0 ≤ t107) = true := decide_eq_true c13
        clear c13
        by_cases c14 : t107 < (l0.length : Int)
        · rw [if_pos c14] at H
          have c14b0 : decide (t107 < (l0.length : Int)) = true := decide_eq_true c14
          clear c14
          obtain ⟨y108, hy108⟩ : ∃ y_ : List (S31), y_ = (l0.set (t107 : Int).toNat (⟨a1_0, a1_1, a1_2, a1_3⟩ : S31)) := ⟨_, rfl⟩
          replace H : (some (true, y108)) = some (r1, r2) := by first | (rw [hy108]; with_reducible exact H) | (have H2_ := (Option.bind_some _ _).symm.trans H; rw [hy108]; with_reducible exact H2_) | (have H2_ := (Option.bind_some _ _).symm.trans H; with_reducible exact H2_) | with_reducible exact H | (rw [hy108]; exact H) | exact H
          have Ny108 := Aside0.mk hy108
          clear hy108
          simp only [Option.some.injEq, Prod.mk.injEq] at H
          obtain ⟨rfl, rfl⟩ := H
          go_enter Try.func66, Try.ntmps66
          go_wp2_with (first | ((with_reducible refine gate_dst (N := 3) rfl ?_); refine box_event ?hg (N := 3) ?hd (cs := #[.int .i64 a1_0, .string a1_1, .int .i64 a1_2, .int .i64 a1_3]) (t := 31) ?hr ?_; (case hd => rfl); (case hg => rfl); (case hr => first | (go_simp; done) | (go_simp; rfl)); intro gb105 hg w16 hbox hb; have n0_ := Aside0.mk (Kd.R_below (Kd.R_elderB (by (with_reducible repeat (first | apply Kd.R_alloc | apply Kd.R_drewN | apply Kd.R_drew)); exact HO0.out) gb105 (Nat.le_of_eq hg.symm)) hb); have n1_ := Aside0.mk (Kept.below (S := (fun k_ => P0_ k_)) (by repeat (first | (with_reducible first | exact HK.out | apply Kept.alloc | apply Kept.drewN | apply Kept.drew) | exact HK.out)) hb); have n2_ := Aside0.mk (below_step (by repeat (first | (with_reducible first | exact HB.out | apply below_alloc | apply pw_below_drewN | apply below_drew1) | exact HB.out)) hb); have n3_ := Aside0.mk (hbox); have n4_ := Aside0.mk ((by rw [hg]; exact (by first | exact HK.out.1 | exact (show Kept w _ (fun k_ => P0_ k_) from by repeat (first | (with_reducible first | exact HK.out | apply Kept.alloc | apply Kept.drewN | apply Kept.drew) | exact HK.out)).1) : w.heap.size ≤ gb105)); have n5_ := Aside0.mk ((by rw [hg]; exact (below_size (by repeat (first | (with_reducible first | exact HB.out | apply below_alloc | apply pw_below_drewN | apply below_drew1) | exact HB.out))) : w0.heap.size ≤ gb105)); clear HO0; clear HK; clear HB; have HO0 := n0_; have HK := n1_; have HB := n2_; have BK105 := n3_; have GW105 := n4_; have GE105 := n5_; clear n0_ n1_ n2_ n3_ n4_ n5_; clear hb hbox hg; have hcz17_0 : w16.cell? ⟨gb105, 0, none⟩ = some (.int .i64 a1_0) := (blk_cell BK105.out 0).trans rfl; have hcz17_1 : w16.cell? ⟨gb105, 1, none⟩ = some (.string a1_1) := (blk_cell BK105.out 1).trans rfl; have hcz17_2 : w16.cell? ⟨gb105, 2, none⟩ = some (.int .i64 a1_2) := (blk_cell BK105.out 2).trans rfl; have hcz17_3 : w16.cell? ⟨gb105, 3, none⟩ = some (.int .i64 a1_3) := (blk_cell BK105.out 3).trans rfl; have hfz17_0 := blk_frozen BK105.out 0; have hfz17_1 := blk_frozen BK105.out 1; have hfz17_2 := blk_frozen BK105.out 2; have hfz17_3 := blk_frozen BK105.out 3; obtain ⟨Ao18, co18, eo18⟩ := Kd.R_slice HO0.out; subst eo18) | ((with_reducible refine gate_callee (f := 25) rfl ?_); refine goesL_ (some 9) rfl rfl Try.func25 (by kernel_rfl) rfl #[.slice Ao18 l0.length co18, .string a1_1] rfl (by (try simp only [List.map_toArray, List.map_cons, List.map_nil]); first | done | rfl | (simp only [List.length_drop, List.length_take]; rfl)) ?_; (with_reducible refine (probe_Find.calls _ _ l0 a1_1 t106 _ ?side1 ?side2 A3.out).mono ?_); (case side1 => repeat (first | exact (Kd.R_reads' HO0.out).2.2 | (with_reducible refine Kd.C_alloc ?_ _) | (with_reducible refine Kd.C_drewN ?_ _) | (with_reducible refine Kd.C_drew ?_))); (case side2 => exact (Kd.R_reads' HO0.out).2.1); (try clear A3); rintro e w19 ⟨rfl, hb⟩; refine ⟨_, rfl, ?_⟩; have n0_ := Aside0.mk (Kd.R_below (by (with_reducible repeat (first | apply Kd.R_alloc | apply Kd.R_drewN | apply Kd.R_drew)); exact HO0.out) hb); have n1_ := Aside0.mk (blk_below (g := gb105) (o := .cells #[.int .i64 a1_0, .string a1_1, .int .i64 a1_2, .int .i64 a1_3] 31 (0, 0)) (by (with_reducible repeat (first | refine blk_drewN ?_ _ | refine blk_drew ?_ | refine blk_alloc ?_ _)); exact BK105.out) hb); have n2_ := Aside0.mk (Kept.below (S := (fun k_ => P0_ k_)) (by repeat (first | (with_reducible first | exact HK.out | apply Kept.alloc | apply Kept.drewN | apply Kept.drew | refine Kept.setCell ?_ (.inr GW105.out) _) | exact HK.out)) hb); have n3_ := Aside0.mk (below_step (by repeat (first | (with_reducible first | exact HB.out | apply below_alloc | apply pw_below_drewN | apply below_drew1 | refine below_set ?_ GE105.out) | exact HB.out)) hb); clear HO0; clear BK105; clear HK; clear HB; have HO0 := n0_; have BK105 := n1_; have HK := n2_; have HB := n3_; clear n0_ n1_ n2_ n3_; (try clear hb); (try clear hb2); (try clear hk); (try clear hi); have hcz20_0 : w19.cell? ⟨gb105, 0, none⟩ = some (.int .i64 a1_0) := (blk_cell BK105.out 0).trans rfl; have hcz20_1 : w19.cell? ⟨gb105, 1, none⟩ = some (.string a1_1) := (blk_cell BK105.out 1).trans rfl; have hcz20_2 : w19.cell? ⟨gb105, 2, none⟩ = some (.int .i64 a1_2) := (blk_cell BK105.out 2).trans rfl; have hcz20_3 : w19.cell? ⟨gb105, 3, none⟩ = some (.int .i64 a1_3) := (blk_cell BK105.out 3).trans rfl; have hfz20_0 := blk_frozen BK105.out 0; have hfz20_1 := blk_frozen BK105.out 1; have hfz20_2 := blk_frozen BK105.out 2; have hfz20_3 := blk_frozen BK105.out 3) | ((with_reducible refine gate_callee (f := 27) rfl ?_); refine goesL_ (some 15) rfl rfl Try.func27 (by kernel_rfl) rfl #[.slice Ao18 l0.length co18, .string a1_1] rfl (by (try simp only [List.map_toArray, List.map_cons, List.map_nil]); first | done | rfl | (simp only [List.length_drop, List.length_take]; rfl)) ?_; (with_reducible refine (probe_Room.calls _ _ l0 a1_1 t107 _ ?side1 ?side2 A5.out).mono ?_); (case side1 => repeat (first | exact (Kd.R_reads' HO0.out).2.2 | (with_reducible refine Kd.C_alloc ?_ _) | (with_reducible refine Kd.C_drewN ?_ _) | (with_reducible refine Kd.C_drew ?_))); (case side2 => exact (Kd.R_reads' HO0.out).2.1); (try clear A5); rintro e w21 ⟨rfl, hb⟩; refine ⟨_, rfl, ?_⟩; have n0_ := Aside0.mk (Kd.R_below (by (with_reducible repeat (first | apply Kd.R_alloc | apply Kd.R_drewN | apply Kd.R_drew)); exact HO0.out) hb); have n1_ := Aside0.mk (blk_below (g := gb105) (o := .cells #[.int .i64 a1_0, .string a1_1, .int .i64 a1_2, .int .i64 a1_3] 31 (0, 0)) (by (with_reducible repeat (first | refine blk_drewN ?_ _ | refine blk_drew ?_ | refine blk_alloc ?_ _)); exact BK105.out) hb); have n2_ := Aside0.mk (Kept.below (S := (fun k_ => P0_ k_)) (by repeat (first | (with_reducible first | exact HK.out | apply Kept.alloc | apply Kept.drewN | apply Kept.drew | refine Kept.setCell ?_ (.inr GW105.out) _) | exact HK.out)) hb); have n3_ := Aside0.mk (below_step (by repeat (first | (with_reducible first | exact HB.out | apply below_alloc | apply pw_below_drewN | apply below_drew1 | refine below_set ?_ GE105.out) | exact HB.out)) hb); clear HO0; clear BK105; clear HK; clear HB; have HO0 := n0_; have BK105 := n1_; have HK := n2_; have HB := n3_; clear n0_ n1_ n2_ n3_; (try clear hb); (try clear hb2); (try clear hk); (try clear hi); have hcz22_0 : w21.cell? ⟨gb105, 0, none⟩ = some (.int .i64 a1_0) := (blk_cell BK105.out 0).trans rfl; have hcz22_1 : w21.cell? ⟨gb105, 1, none⟩ = some (.string a1_1) := (blk_cell BK105.out 1).trans rfl; have hcz22_2 : w21.cell? ⟨gb105, 2, none⟩ = some (.int .i64 a1_2) := (blk_cell BK105.out 2).trans rfl; have hcz22_3 : w21.cell? ⟨gb105, 3, none⟩ = some (.int .i64 a1_3) := (blk_cell BK105.out 3).trans rfl; have hfz22_0 := blk_frozen BK105.out 0; have hfz22_1 := blk_frozen BK105.out 1; have hfz22_2 := blk_frozen BK105.out 2; have hfz22_3 := blk_frozen BK105.out 3; have p15 : 0 ≤ (t107 : Int) := of_decide_eq_true (by first | (with_reducible assumption) | assumption); have q15 : (t107 : Int) < ((l0.length : Int) : Int) := of_decide_eq_true (by first | (with_reducible assumption) | assumption); obtain ⟨go15, co15, eo15, gb15, gl15, cl15, HG15⟩ := Kd.R_form HO0.out (by omega); (first | cases eo15 | (injection eo15 with ea_ en_ ec_; (first | subst ea_ | (injection ea_ with ea_; subst ea_)); subst ec_; clear en_)); have GB15 := Aside0.mk gb15; have GG15 := Aside0.mk HG15; clear gb15 gl15 HG15; have HMgo15 := Aside0.mk (show (P0_ go15 ∨ w.heap.size ≤ go15) from (HO0.out.1 _ rfl).1); obtain ⟨ce15, hcl15, hM15, hcc15, hfr15⟩ := Kd.R_elem HO0.out z31 (t107 : Int) p15 q15; obtain rfl := k31_openM hM15; have hx15_0 : w21.cell? ⟨go15, (t107 : Int).toNat * 4, none⟩ = some (.int .i64 ((rd_T31 l0 t107).f0)) := hcc15 0 _ rfl; have hx15_1 : w21.cell? ⟨go15, (t107 : Int).toNat * 4 + 1, none⟩ = some (.string ((rd_T31 l0 t107).f1)) := hcc15 1 _ rfl; have hx15_2 : w21.cell? ⟨go15, (t107 : Int).toNat * 4 + 2, none⟩ = some (.int .i64 ((rd_T31 l0 t107).f2)) := hcc15 2 _ rfl; have hx15_3 : w21.cell? ⟨go15, (t107 : Int).toNat * 4 + 3, none⟩ = some (.int .i64 ((rd_T31 l0 t107).f3)) := hcc15 3 _ rfl; have hf15_0 : w21.frozen? ⟨go15, (t107 : Int).toNat * 4, none⟩ = false := hfr15 0; have hf15_1 : w21.frozen? ⟨go15, (t107 : Int).toNat * 4 + 1, none⟩ = false := hfr15 1; have hf15_2 : w21.frozen? ⟨go15, (t107 : Int).toNat * 4 + 2, none⟩ = false := hfr15 2; have hf15_3 : w21.frozen? ⟨go15, (t107 : Int).toNat * 4 + 3, none⟩ = false := hfr15 3; clear hcl15 hcc15 hfr15 hM15; replace p15 := eq_true p15; replace q15 := eq_true q15; have HX23 := Aside0.mk (show Kd.R k31 31 w21 w0.heap.size (fun k_ => (P0_ k_ ∨ w.heap.size ≤ k_) ∧ k_ ≠ gb105) (.slice (some ⟨go15, 0, none⟩) l0.length co18) l0 from (by (with_reducible repeat (first | apply Kd.R_alloc | apply Kd.R_drewN | apply Kd.R_drew)); exact HO0.out)); obtain ⟨ce23, hcl23, hM23, hcc23, hfr23⟩ := Kd.R_elem HX23.out z31 (t107 : Int) (of_decide_eq_true (by first | (with_reducible assumption) | assumption)) (by have h_ : (t107 : Int) < ((l0.length : Int) : Int) := of_decide_eq_true (by first | (with_reducible assumption) | assumption); first | exact h_ | (have e_ := (Kd.R_reads' HO0.out).1; omega) | simpa using h_); obtain rfl := k31_openM hM23; have HP23 := Kd.R_seg HX23.out (t107 : Int) (of_decide_eq_true (by first | (with_reducible assumption) | assumption)) (by have h_ : (t107 : Int) < ((l0.length : Int) : Int) := of_decide_eq_true (by first | (with_reducible assumption) | assumption); first | exact h_ | (have e_ := (Kd.R_reads' HO0.out).1; omega) | simpa using h_) (seg := [.int .i64 a1_0, .string a1_1, .int .i64 a1_2, .int .i64 a1_3]) (j := 0) hcl23 hcc23 (show 4 ≤ 4 from by decide) (x' := (⟨a1_0, a1_1, a1_2, a1_3⟩ : S31)) (k31_mkM _ _ _ (⟨a1_0, a1_1, a1_2, a1_3⟩ : S31) ) (fun _ hk => hk); have hx23_0 := hcc23 0 _ rfl; (try simp only [show (k31).sz = 4 from rfl, Nat.mul_one, Nat.add_zero] at hx23_0); have hf23_0 := hfr23 0; (try simp only [show (k31).sz = 4 from rfl, Nat.mul_one, Nat.add_zero] at hf23_0); have hx23_1 := hcc23 1 _ rfl; (try simp only [show (k31).sz = 4 from rfl, Nat.mul_one, Nat.add_zero] at hx23_1); have hf23_1 := hfr23 1; (try simp only [show (k31).sz = 4 from rfl, Nat.mul_one, Nat.add_zero] at hf23_1); have hx23_2 := hcc23 2 _ rfl; (try simp only [show (k31).sz = 4 from rfl, Nat.mul_one, Nat.add_zero] at hx23_2); have hf23_2 := hfr23 2; (try simp only [show (k31).sz = 4 from rfl, Nat.mul_one, Nat.add_zero] at hf23_2); have hx23_3 := hcc23 3 _ rfl; (try simp only [show (k31).sz = 4 from rfl, Nat.mul_one, Nat.add_zero] at hx23_3); have hf23_3 := hfr23 3; (try simp only [show (k31).sz = 4 from rfl, Nat.mul_one, Nat.add_zero] at hf23_3); clear hcl23 hcc23 hfr23 hM23) | ((with_reducible refine gate_store (t := 31) (p := 21) rfl ?_); refine store_event (t := 31) (p := 21) (v := ?vo_w24) (w1 := ((((w21.setCell ⟨go15, (t107 : Int).toNat * 4, none⟩ (.int .i64 a1_0)).setCell ⟨go15, (t107 : Int).toNat * 4 + 1, none⟩ (.string a1_1)).setCell ⟨go15, (t107 : Int).toNat * 4 + 2, none⟩ (.int .i64 a1_2)).setCell ⟨go15, (t107 : Int).toNat * 4 + 3, none⟩ (.int .i64 a1_3))) ?hg ?ho ?hn ?hr ?_; (case ho => rfl); (case hg => rfl); (case hn => rfl); (case hr => first | (go_simp; done) | (go_simp; rfl)); intro w24 hw; have hg : w21.grownBy w24 (some go15) := (by rw [hw]; exact HP23.2); have hp_ : Kd.R k31 31 w24 w0.heap.size (fun k_ => (P0_ k_ ∨ w.heap.size ≤ k_) ∧ k_ ≠ gb105) (.slice (some ⟨go15, 0, none⟩) l0.length co18) y108 := (by rw [hw, Ny108.out]; exact HP23.1); clear HP23; have n0_ := Aside0.mk (hp_); have n1_ := Aside0.mk (blk_grown (g := gb105) (o := .cells #[.int .i64 a1_0, .string a1_1, .int .i64 a1_2, .int .i64 a1_3] 31 (0, 0)) (by (with_reducible repeat (first | refine blk_drewN ?_ _ | refine blk_drew ?_ | refine blk_alloc ?_ _)); exact BK105.out) hg (Kd.R_away HO0.out (fun _ hk => hk.2))); have n2_ := Aside0.mk ((by rw [hw]; exact below_set (below_set (below_set (below_set (HB.out) GB15.out) GB15.out) GB15.out) GB15.out : Below w0.heap.size w0 w24)); have n3_ := Aside0.mk (Kept.of_grown (S := (fun k_ => P0_ k_)) hg (by repeat (first | (with_reducible first | exact HK.out | apply Kept.alloc | apply Kept.drewN | apply Kept.drew | refine Kept.setCell ?_ (.inr GW105.out) _) | exact HK.out)) (fun k_ e_ => (HO0.out.1 k_ e_).1)); clear HO0; clear BK105; clear HB; clear HK; have HO0 := n0_; have BK105 := n1_; have HB := n2_; have HK := n3_; clear n0_ n1_ n2_ n3_; clear hg hw hp_))
          go_ret
          exact ⟨by first | rfl | (simp [errW_none, errW_some] <;> rfl) | (simp [*, errW_none, errW_some] <;> rfl), by (with_reducible repeat (first | apply Kd.R_alloc | apply Kd.R_drewN | apply Kd.R_drew)); exact Kd.R_mono HO0.out (fun _ hk => hk.1), by repeat (first | (with_reducible first | exact HB.out | apply below_alloc | apply pw_below_drewN | apply below_drew1 | refine below_set ?_ GE105.out) | exact HB.out), by repeat (first | (with_reducible first | exact HK.out | apply Kept.alloc | apply Kept.drewN | apply Kept.drew | refine Kept.setCell ?_ (.inr GW105.out) _) | exact HK.out)⟩
        · rw [if_neg c14] at H
          exact absurd H (by simp)
      · rw [if_neg c13] at H
        exact absurd H (by simp)
  · rw [if_neg c4] at H
    have c4b0 : decide (t106 < 0) = false := decide_eq_false c4
    clear c4
    by_cases c25 : 0 ≤ t106
    · rw [if_pos c25] at H
      have c25b0 : decide (0 ≤ t106) = true := decide_eq_true c25
      clear c25
      by_cases c26 : t106 < (l0.length : Int)
      · rw [if_pos c26] at H
        have c26b0 : decide (t106 < (l0.length : Int)) = true := decide_eq_true c26
        clear c26
        obtain ⟨y109, hy109⟩ : ∃ y_ : List (S31), y_ = (l0.set (t106 : Int).toNat (⟨a1_0, a1_1, a1_2, a1_3⟩ : S31)) := ⟨_, rfl⟩
        replace H : (some (true, y109)) = some (r1, r2) := by first | (rw [hy109]; with_reducible exact H) | (have H2_ := (Option.bind_some _ _).symm.trans H; rw [hy109]; with_reducible exact H2_) | (have H2_ := (Option.bind_some _ _).symm.trans H; with_reducible exact H2_) | with_reducible exact H | (rw [hy109]; exact H) | exact H
        have Ny109 := Aside0.mk hy109
        clear hy109
        simp only [Option.some.injEq, Prod.mk.injEq] at H
        obtain ⟨rfl, rfl⟩ := H
        go_enter Try.func66, Try.ntmps66
        go_wp2_with (first | ((with_reducible refine gate_dst (N := 3) rfl ?_); refine box_event ?hg (N := 3) ?hd (cs := #[.int .i64 a1_0, .string a1_1, .int .i64 a1_2, .int .i64 a1_3]) (t := 31) ?hr ?_; (case hd => rfl); (case hg => rfl); (case hr => first | (go_simp; done) | (go_simp; rfl)); intro gb105 hg w28 hbox hb; have n0_ := Aside0.mk (Kd.R_below (Kd.R_elderB (by (with_reducible repeat (first | apply Kd.R_alloc | apply Kd.R_drewN | apply Kd.R_drew)); exact HO0.out) gb105 (Nat.le_of_eq hg.symm)) hb); have n1_ := Aside0.mk (Kept.below (S := (fun k_ => P0_ k_)) (by repeat (first | (with_reducible first | exact HK.out | apply Kept.alloc | apply Kept.drewN | apply Kept.drew) | exact HK.out)) hb); have n2_ := Aside0.mk (below_step (by repeat (first | (with_reducible first | exact HB.out | apply below_alloc | apply pw_below_drewN | apply below_drew1) | exact HB.out)) hb); have n3_ := Aside0.mk (hbox); have n4_ := Aside0.mk ((by rw [hg]; exact (by first | exact HK.out.1 | exact (show Kept w _ (fun k_ => P0_ k_) from by repeat (first | (with_reducible first | exact HK.out | apply Kept.alloc | apply Kept.drewN | apply Kept.drew) | exact HK.out)).1) : w.heap.size ≤ gb105)); have n5_ := Aside0.mk ((by rw [hg]; exact (below_size (by repeat (first | (with_reducible first | exact HB.out | apply below_alloc | apply pw_below_drewN | apply below_drew1) | exact HB.out))) : w0.heap.size ≤ gb105)); clear HO0; clear HK; clear HB; have HO0 := n0_; have HK := n1_; have HB := n2_; have BK105 := n3_; have GW105 := n4_; have GE105 := n5_; clear n0_ n1_ n2_ n3_ n4_ n5_; clear hb hbox hg; have hcz29_0 : w28.cell? ⟨gb105, 0, none⟩ = some (.int .i64 a1_0) := (blk_cell BK105.out 0).trans rfl; have hcz29_1 : w28.cell? ⟨gb105, 1, none⟩ = some (.string a1_1) := (blk_cell BK105.out 1).trans rfl; have hcz29_2 : w28.cell? ⟨gb105, 2, none⟩ = some (.int .i64 a1_2) := (blk_cell BK105.out 2).trans rfl; have hcz29_3 : w28.cell? ⟨gb105, 3, none⟩ = some (.int .i64 a1_3) := (blk_cell BK105.out 3).trans rfl; have hfz29_0 := blk_frozen BK105.out 0; have hfz29_1 := blk_frozen BK105.out 1; have hfz29_2 := blk_frozen BK105.out 2; have hfz29_3 := blk_frozen BK105.out 3; obtain ⟨Ao30, co30, eo30⟩ := Kd.R_slice HO0.out; subst eo30) | ((with_reducible refine gate_callee (f := 25) rfl ?_); refine goesL_ (some 9) rfl rfl Try.func25 (by kernel_rfl) rfl #[.slice Ao30 l0.length co30, .string a1_1] rfl (by (try simp only [List.map_toArray, List.map_cons, List.map_nil]); first | done | rfl | (simp only [List.length_drop, List.length_take]; rfl)) ?_; (with_reducible refine (probe_Find.calls _ _ l0 a1_1 t106 _ ?side1 ?side2 A3.out).mono ?_); (case side1 => repeat (first | exact (Kd.R_reads' HO0.out).2.2 | (with_reducible refine Kd.C_alloc ?_ _) | (with_reducible refine Kd.C_drewN ?_ _) | (with_reducible refine Kd.C_drew ?_))); (case side2 => exact (Kd.R_reads' HO0.out).2.1); (try clear A3); rintro e w31 ⟨rfl, hb⟩; refine ⟨_, rfl, ?_⟩; have n0_ := Aside0.mk (Kd.R_below (by (with_reducible repeat (first | apply Kd.R_alloc | apply Kd.R_drewN | apply Kd.R_drew)); exact HO0.out) hb); have n1_ := Aside0.mk (blk_below (g := gb105) (o := .cells #[.int .i64 a1_0, .string a1_1, .int .i64 a1_2, .int .i64 a1_3] 31 (0, 0)) (by (with_reducible repeat (first | refine blk_drewN ?_ _ | refine blk_drew ?_ | refine blk_alloc ?_ _)); exact BK105.out) hb); have n2_ := Aside0.mk (Kept.below (S := (fun k_ => P0_ k_)) (by repeat (first | (with_reducible first | exact HK.out | apply Kept.alloc | apply Kept.drewN | apply Kept.drew | refine Kept.setCell ?_ (.inr GW105.out) _) | exact HK.out)) hb); have n3_ := Aside0.mk (below_step (by repeat (first | (with_reducible first | exact HB.out | apply below_alloc | apply pw_below_drewN | apply below_drew1 | refine below_set ?_ GE105.out) | exact HB.out)) hb); clear HO0; clear BK105; clear HK; clear HB; have HO0 := n0_; have BK105 := n1_; have HK := n2_; have HB := n3_; clear n0_ n1_ n2_ n3_; (try clear hb); (try clear hb2); (try clear hk); (try clear hi); have hcz32_0 : w31.cell? ⟨gb105, 0, none⟩ = some (.int .i64 a1_0) := (blk_cell BK105.out 0).trans rfl; have hcz32_1 : w31.cell? ⟨gb105, 1, none⟩ = some (.string a1_1) := (blk_cell BK105.out 1).trans rfl; have hcz32_2 : w31.cell? ⟨gb105, 2, none⟩ = some (.int .i64 a1_2) := (blk_cell BK105.out 2).trans rfl; have hcz32_3 : w31.cell? ⟨gb105, 3, none⟩ = some (.int .i64 a1_3) := (blk_cell BK105.out 3).trans rfl; have hfz32_0 := blk_frozen BK105.out 0; have hfz32_1 := blk_frozen BK105.out 1; have hfz32_2 := blk_frozen BK105.out 2; have hfz32_3 := blk_frozen BK105.out 3; have p27 : 0 ≤ (t106 : Int) := of_decide_eq_true (by first | (with_reducible assumption) | assumption); have q27 : (t106 : Int) < ((l0.length : Int) : Int) := of_decide_eq_true (by first | (with_reducible assumption) | assumption); obtain ⟨go27, co27, eo27, gb27, gl27, cl27, HG27⟩ := Kd.R_form HO0.out (by omega); (first | cases eo27 | (injection eo27 with ea_ en_ ec_; (first | subst ea_ | (injection ea_ with ea_; subst ea_)); subst ec_; clear en_)); have GB27 := Aside0.mk gb27; have GG27 := Aside0.mk HG27; clear gb27 gl27 HG27; have HMgo27 := Aside0.mk (show (P0_ go27 ∨ w.heap.size ≤ go27) from (HO0.out.1 _ rfl).1); obtain ⟨ce27, hcl27, hM27, hcc27, hfr27⟩ := Kd.R_elem HO0.out z31 (t106 : Int) p27 q27; obtain rfl := k31_openM hM27; have hx27_0 : w31.cell? ⟨go27, (t106 : Int).toNat * 4, none⟩ = some (.int .i64 ((rd_T31 l0 t106).f0)) := hcc27 0 _ rfl; have hx27_1 : w31.cell? ⟨go27, (t106 : Int).toNat * 4 + 1, none⟩ = some (.string ((rd_T31 l0 t106).f1)) := hcc27 1 _ rfl; have hx27_2 : w31.cell? ⟨go27, (t106 : Int).toNat * 4 + 2, none⟩ = some (.int .i64 ((rd_T31 l0 t106).f2)) := hcc27 2 _ rfl; have hx27_3 : w31.cell? ⟨go27, (t106 : Int).toNat * 4 + 3, none⟩ = some (.int .i64 ((rd_T31 l0 t106).f3)) := hcc27 3 _ rfl; have hf27_0 : w31.frozen? ⟨go27, (t106 : Int).toNat * 4, none⟩ = false := hfr27 0; have hf27_1 : w31.frozen? ⟨go27, (t106 : Int).toNat * 4 + 1, none⟩ = false := hfr27 1; have hf27_2 : w31.frozen? ⟨go27, (t106 : Int).toNat * 4 + 2, none⟩ = false := hfr27 2; have hf27_3 : w31.frozen? ⟨go27, (t106 : Int).toNat * 4 + 3, none⟩ = false := hfr27 3; clear hcl27 hcc27 hfr27 hM27; replace p27 := eq_true p27; replace q27 := eq_true q27; have HX33 := Aside0.mk (show Kd.R k31 31 w31 w0.heap.size (fun k_ => (P0_ k_ ∨ w.heap.size ≤ k_) ∧ k_ ≠ gb105) (.slice (some ⟨go27, 0, none⟩) l0.length co30) l0 from (by (with_reducible repeat (first | apply Kd.R_alloc | apply Kd.R_drewN | apply Kd.R_drew)); exact HO0.out)); obtain ⟨ce33, hcl33, hM33, hcc33, hfr33⟩ := Kd.R_elem HX33.out z31 (t106 : Int) (of_decide_eq_true (by first | (with_reducible assumption) | assumption)) (by have h_ : (t106 : Int) < ((l0.length : Int) : Int) := of_decide_eq_true (by first | (with_reducible assumption) | assumption); first | exact h_ | (have e_ := (Kd.R_reads' HO0.out).1; omega) | simpa using h_); obtain rfl := k31_openM hM33; have HP33 := Kd.R_seg HX33.out (t106 : Int) (of_decide_eq_true (by first | (with_reducible assumption) | assumption)) (by have h_ : (t106 : Int) < ((l0.length : Int) : Int) := of_decide_eq_true (by first | (with_reducible assumption) | assumption); first | exact h_ | (have e_ := (Kd.R_reads' HO0.out).1; omega) | simpa using h_) (seg := [.int .i64 a1_0, .string a1_1, .int .i64 a1_2, .int .i64 a1_3]) (j := 0) hcl33 hcc33 (show 4 ≤ 4 from by decide) (x' := (⟨a1_0, a1_1, a1_2, a1_3⟩ : S31)) (k31_mkM _ _ _ (⟨a1_0, a1_1, a1_2, a1_3⟩ : S31) ) (fun _ hk => hk); have hx33_0 := hcc33 0 _ rfl; (try simp only [show (k31).sz = 4 from rfl, Nat.mul_one, Nat.add_zero] at hx33_0); have hf33_0 := hfr33 0; (try simp only [show (k31).sz = 4 from rfl, Nat.mul_one, Nat.add_zero] at hf33_0); have hx33_1 := hcc33 1 _ rfl; (try simp only [show (k31).sz = 4 from rfl, Nat.mul_one, Nat.add_zero] at hx33_1); have hf33_1 := hfr33 1; (try simp only [show (k31).sz = 4 from rfl, Nat.mul_one, Nat.add_zero] at hf33_1); have hx33_2 := hcc33 2 _ rfl; (try simp only [show (k31).sz = 4 from rfl, Nat.mul_one, Nat.add_zero] at hx33_2); have hf33_2 := hfr33 2; (try simp only [show (k31).sz = 4 from rfl, Nat.mul_one, Nat.add_zero] at hf33_2); have hx33_3 := hcc33 3 _ rfl; (try simp only [show (k31).sz = 4 from rfl, Nat.mul_one, Nat.add_zero] at hx33_3); have hf33_3 := hfr33 3; (try simp only [show (k31).sz = 4 from rfl, Nat.mul_one, Nat.add_zero] at hf33_3); clear hcl33 hcc33 hfr33 hM33) | ((with_reducible refine gate_store (t := 31) (p := 21) rfl ?_); refine store_event (t := 31) (p := 21) (v := ?vo_w34) (w1 := ((((w31.setCell ⟨go27, (t106 : Int).toNat * 4, none⟩ (.int .i64 a1_0)).setCell ⟨go27, (t106 : Int).toNat * 4 + 1, none⟩ (.string a1_1)).setCell ⟨go27, (t106 : Int).toNat * 4 + 2, none⟩ (.int .i64 a1_2)).setCell ⟨go27, (t106 : Int).toNat * 4 + 3, none⟩ (.int .i64 a1_3))) ?hg ?ho ?hn ?hr ?_; (case ho => rfl); (case hg => rfl); (case hn => rfl); (case hr => first | (go_simp; done) | (go_simp; rfl)); intro w34 hw; have hg : w31.grownBy w34 (some go27) := (by rw [hw]; exact HP33.2); have hp_ : Kd.R k31 31 w34 w0.heap.size (fun k_ => (P0_ k_ ∨ w.heap.size ≤ k_) ∧ k_ ≠ gb105) (.slice (some ⟨go27, 0, none⟩) l0.length co30) y109 := (by rw [hw, Ny109.out]; exact HP33.1); clear HP33; have n0_ := Aside0.mk (hp_); have n1_ := Aside0.mk (blk_grown (g := gb105) (o := .cells #[.int .i64 a1_0, .string a1_1, .int .i64 a1_2, .int .i64 a1_3] 31 (0, 0)) (by (with_reducible repeat (first | refine blk_drewN ?_ _ | refine blk_drew ?_ | refine blk_alloc ?_ _)); exact BK105.out) hg (Kd.R_away HO0.out (fun _ hk => hk.2))); have n2_ := Aside0.mk ((by rw [hw]; exact below_set (below_set (below_set (below_set (HB.out) GB27.out) GB27.out) GB27.out) GB27.out : Below w0.heap.size w0 w34)); have n3_ := Aside0.mk (Kept.of_grown (S := (fun k_ => P0_ k_)) hg (by repeat (first | (with_reducible first | exact HK.out | apply Kept.alloc | apply Kept.drewN | apply Kept.drew | refine Kept.setCell ?_ (.inr GW105.out) _) | exact HK.out)) (fun k_ e_ => (HO0.out.1 k_ e_).1)); clear HO0; clear BK105; clear HB; clear HK; have HO0 := n0_; have BK105 := n1_; have HB := n2_; have HK := n3_; clear n0_ n1_ n2_ n3_; clear hg hw hp_))
        go_ret
        exact ⟨by first | rfl | (simp [errW_none, errW_some] <;> rfl) | (simp [*, errW_none, errW_some] <;> rfl), by (with_reducible repeat (first | apply Kd.R_alloc | apply Kd.R_drewN | apply Kd.R_drew)); exact Kd.R_mono HO0.out (fun _ hk => hk.1), by repeat (first | (with_reducible first | exact HB.out | apply below_alloc | apply pw_below_drewN | apply below_drew1 | refine below_set ?_ GE105.out) | exact HB.out), by repeat (first | (with_reducible first | exact HK.out | apply Kept.alloc | apply Kept.drewN | apply Kept.drew | refine Kept.setCell ?_ (.inr GW105.out) _) | exact HK.out)⟩
      · rw [if_neg c26] at H
        exact absurd H (by simp)
    · rw [if_neg c25] at H
      exact absurd H (by simp)

-- NOT PRINTED: function 65 (flows_Put_1)

/-! ### flows_Put: function 37 -/
section
open Go.Shelf Go.Proofs.Ythdkkmeiihbafaa.Hand
set_option maxHeartbeats 4000000 in
theorem Put1_any (l l2 : List S31) (key : ByteArray) (bk dl : Int) (b : Bool) (h : flows_table_put.f l 1 key bk dl = some (b, l2)) (Bx : Nat) (w W : World) (v : Value) (hB : Below w.heap.size w W) (hR : Kd.R k31 31 W w.heap.size (fun _ => True) v l) (hx : Blk W Bx 31 [.int .i64 1, .string key, .int .i64 bk, .int .i64 dl]) :
    Calls Try.prog 65 #[v, .pointer (some ⟨Bx, 0, none⟩)] W fun e W' => e = .returned (.bool b) ∧ Kd.R k31 31 W' w.heap.size (fun _ => True) v l2 ∧ Below w.heap.size w W' := by
  have e0 : W.cell? ⟨Bx, 0, none⟩ = some (.int .i64 1) := hx.cell 0
  have e1 : W.cell? ⟨Bx, 1, none⟩ = some (.string key) := hx.cell 1
  have e2 : W.cell? ⟨Bx, 2, none⟩ = some (.int .i64 bk) := hx.cell 2
  have e3 : W.cell? ⟨Bx, 3, none⟩ = some (.int .i64 dl) := hx.cell 3
  have HR := Lib.hid hR
  have HB := Lib.hid hB
  have HH := Lib.hid h
  clear hR hB hx h
  have hu := Try.underlying31
  go_enter Try.func65, Try.ntmps65
  go_wp2_with (go_at_call 66; refine (flows_table_put.calls (fun _ => True) v l 1 key bk dl b l2 w W HB.out HR.out HH.out).mono ?_; rintro e w1 ⟨rfl, hr, hb, _⟩)
  go_ret
  exact ⟨rfl, Kd.R_mono hr (fun _ _ => trivial), hb⟩

def flows_Put.f (l0 : List S31) (a1 : ByteArray) (a2 : Int) (a3 : Int) : Option (List S31 × Int) := if l0.length ≤ 1000000 then (flows_table_put.f l0 1 a1 a2 a3).bind fun p => some (if p.1 = true then (p.2, 0) else (l0, 12)) else none

set_option maxHeartbeats 4000000 in
theorem flows_Put.calls (P0_ : Nat → Prop) (A0 : Option Addr) (c0 : Nat) (l0 : List S31) (a1 : ByteArray) (a2 : Int) (a3 : Int) (r1 : List S31) (r2 : Int) (w : World) (hs0 : Kd.V k31 31 w w.heap.size (fun k_ => P0_ k_) (.slice A0 l0.length c0) l0) (h : flows_Put.f l0 a1 a2 a3 = some (r1, r2)) :
    Calls Try.prog 37 #[.slice A0 l0.length c0, .string a1, .int .i64 a2, .int .i64 a3] w fun e w' => ∃ v0_ : Value, e = .returned (.tuple #[v0_, .int .i64 r2]) ∧ Kd.V k31 31 w' w.heap.size (fun k_ => (P0_ k_ ∨ w.heap.size ≤ k_)) v0_ r1 ∧ Below w.heap.size w w' := by
  unfold flows_Put.f at h
  by_cases hl : l0.length ≤ 1000000
  · rw [if_pos hl] at h
    obtain ⟨⟨b, l2⟩, hp, h⟩ := Option.bind_eq_some_iff.mp h
    have h' := Option.some.inj h
    clear h
    obtain ⟨_, hcap, hC⟩ := Kd.V_reads' hs0
    have hx := Blk.new w 31 [.int .i64 1, .string a1, .int .i64 a2, .int .i64 a3]
    have hb0 : Below w.heap.size w (w.alloc (.cells #[.int .i64 1, .string a1, .int .i64 a2, .int .i64 a3] 31)) := (Below.refl _ w).alloc (Nat.le_refl _) _
    have eg := enters_of Try.func65 (by kernel_rfl) rfl
    have HS := Lib.hid hs0
    have HP := Lib.hid hp
    have H' := Lib.hid h'
    have HX := Lib.hid hx
    clear hs0 hp h' hx
    cases b
    all_goals
      go_enter Try.func37, Try.ntmps37
      go_wp2_with (go_at_call 64; refine (changed_any 65 eg _ _ A0 c0 l0 l2 hl hcap _ (Kd.C_alloc hC _) (fun v W hB hR => Put1_any l0 l2 a1 a2 a3 _ HP.out w.heap.size _ W v hB hR (HX.out.below hB))).mono ?_; rintro e w1 ⟨v, rfl, hr1, hr2, hb⟩; have HR1 := Lib.hid hr1; have HR2 := Lib.hid hr2; have HB := Lib.hid hb; clear hr1 hr2 hb)
      go_ret2
      have hB : Below w.heap.size w w1 := hb0.trans (HB.out.mono (by simp))
    · obtain ⟨rfl, rfl⟩ : l0 = r1 ∧ (12 : Int) = r2 := by simpa using H'.out
      refine ⟨_, rfl, ?_, hB⟩
      rw [HR2.out (by trivial)]
      exact Kd.V_mono (Kd.V_below HS.out hB) (fun k hk => .inl hk)
    · obtain ⟨rfl, rfl⟩ : l2 = r1 ∧ (0 : Int) = r2 := by simpa using H'.out
      refine ⟨_, rfl, ?_, hB⟩
      exact Kd.V_mono (Kd.R_V (base' := w.heap.size) (Kd.R_bound (HR1.out (by trivial)))) (fun k hk => .inr (Nat.le_trans (by simp) hk.2.1))
  · rw [if_neg hl] at h
    exact absurd h (by simp)
end

-- NOT PRINTED: function 60 (api_Entry_60)

-- NOT PRINTED: function 61 (probe_Count_1)

/-! ### probe_Count: function 31 -/
section
open Go.Shelf Go.Proofs.Ythdkkmeiihbafaa.Hand
def countIn (st : Int) (l : List S31) : Nat := (l.filter fun x => x.f0 == st).length
theorem countIn_snoc (st : Int) (l : List S31) (x : S31) : countIn st (l ++ [x]) = countIn st l + if (x.f0 == st) = true then 1 else 0 := by
  unfold countIn
  rw [List.filter_append]
  by_cases h : (x.f0 == st) = true <;> simp [h]
theorem countIn_le (st : Int) (l : List S31) : countIn st l ≤ l.length := List.length_filter_le _ _
def probe_Count.f (l0 : List S31) (a1 : Int) : Option Int := if l0.length ≤ 1000000 then some (countIn a1 l0 : Int) else none

set_option maxHeartbeats 1000000 in
theorem Count1_any (x : S31) (st : Int) (Bs : Nat) (w : World) (hb : Blk w Bs 3 [.int .i64 st]) :
    Calls Try.prog 61 #[.agg #[.int .i64 x.f0, .string x.f1, .int .i64 x.f2, .int .i64 x.f3], .pointer (some ⟨Bs, 0, none⟩)] w fun e w' => e = .returned (.bool (x.f0 == st)) ∧ w' = w.alloc (.cells #[.int .i64 x.f0, .string x.f1, .int .i64 x.f2, .int .i64 x.f3] 31) := by
  have b0 : (w.alloc (.cells #[.int .i64 x.f0, .string x.f1, .int .i64 x.f2, .int .i64 x.f3] 31)).cell? ⟨Bs, 0, none⟩ = some (.int .i64 st) := (hb.alloc _).cell 0
  clear hb
  go_enter Try.func61, Try.ntmps61
  go_wp2
  go_ret
  exact ⟨rfl, rfl⟩

set_option maxRecDepth 100000 in
set_option maxHeartbeats 4000000 in
theorem count_any (A : Option Addr) (c : Nat) (l : List S31) (hl : l.length ≤ 1000000) (st : Int) (Bs : Nat) (w : World) (hC : Kd.C k31 w A l.length l) (hb : Blk w Bs 3 [.int .i64 st]) :
    Calls Try.prog 60 #[.slice A l.length c, .func (.func 61) #[] #[.pointer (some ⟨Bs, 0, none⟩)]] w fun e w' => e = .returned (.int .i64 (countIn st l : Int)) ∧ Below w.heap.size w w' := by
  go_enter Try.func60, Try.ntmps60
  go_wp2
  go_loopw [5, 10] (fun n i wr => ∃ k : Nat, k ≤ l.length ∧ i = .int .i64 k ∧ n = .int .i64 (countIn st (l.take k) : Int) ∧ Below w.heap.size w wr) (fun _ i _ => l.length - (intOf i).toNat)
  case atStart => exact ⟨0, Nat.zero_le _, rfl, by simp [countIn], Below.refl _ _⟩
  case round =>
    obtain ⟨k, hk, rfl, rfl, hB⟩ := hrel
    by_cases hlt : k < l.length
    · have hCr := Kd.C_below hC hB
      obtain ⟨ad, hA, c0, c1, c2, c3⟩ := at_T31 hCr k (by omega) (by omega)
      subst hA
      obtain ⟨x, hx⟩ : ∃ x, rd_T31 l k = x := ⟨_, rfl⟩
      rw [hx] at c0 c1 c2 c3
      simp only [Int.toNat_natCast] at c0 c1 c2 c3
      have hsn := countIn_snoc st (l.take k) x
      have htk : l.take (k + 1) = l.take k ++ [x] := by
        rw [List.take_succ_eq_append_getElem hlt, ← hx]
        simp [rd_T31, hlt]
      have hle := countIn_le st (l.take k)
      have hle2 : (l.take k).length ≤ k := List.length_take_le _ _
      have HT : Hid (countIn st (l.take (k + 1)) = countIn st (l.take k) + if (x.f0 == st) = true then 1 else 0) := by rw [htk]; exact hsn
      have hbr := (hb.below hB).alloc (.cells #[.int .i64 x.f0, .string x.f1, .int .i64 x.f2, .int .i64 x.f3] 31)
      have HB := Lib.hid hB
      have HC := Lib.hid hb
      clear hsn htk hx hCr hC hb hB
      cases hq : x.f0 == st
      all_goals
        rw [hq] at HT
        go_wp2_with (go_at_call 61; refine (Count1_any x st Bs _ hbr).mono ?_; rw [hq]; rintro e w' ⟨rfl, rfl⟩)
        go_roundw
        case rel => exact ⟨k + 1, by omega, by go_num, by rw [HT.out]; first | (simp; done) | go_num, (HB.out.alloc HB.out.size _).alloc (by have := HB.out.size; simp; omega) _⟩
        case measure => simp [intOf]; omega
    · obtain rfl : k = l.length := by omega
      go_wp2
      go_ret
      exact ⟨by rw [List.take_length]; rfl, hB⟩

set_option maxHeartbeats 1000000 in
theorem probe_Count.calls (A0 : Option Addr) (c0 : Nat) (l0 : List S31) (a1 : Int) (r : Int) (w : World) (hr0 : Kd.C k31 w A0 l0.length l0) (hc0 : l0.length ≤ c0) (h : probe_Count.f l0 a1 = some r) :
    Calls Try.prog 31 #[.slice A0 l0.length c0, .int .i64 a1] w fun e w' => e = .returned (.int .i64 r) ∧ Below w.heap.size w w' := by
  unfold probe_Count.f at h
  by_cases hl : l0.length ≤ 1000000
  · rw [if_pos hl] at h
    obtain rfl := Option.some.inj h
    have b0 := Blk.new w 3 [.int .i64 a1]
    go_enter Try.func31, Try.ntmps31
    go_wp2_with (go_at_call 60; refine (count_any A0 c0 l0 hl a1 _ _ (Kd.C_alloc hr0 _) b0).mono ?_; rintro e w' ⟨rfl, hb⟩)
    go_ret
    exact ⟨rfl, ((Below.refl _ w).alloc (Nat.le_refl _) _).trans (hb.mono (by simp))⟩
  · rw [if_neg hl] at h
    exact absurd h (by simp)
end

end Go.Proofs.Ythdkkmeiihbafaa.P
