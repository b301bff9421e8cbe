/- Each Go function that the laws reach, as a plain function, with the proof that the machine's call comes to what it says; of a law: its row. Made by a program of this seat (wip/hp.py, over the print). -/
import Derived.Test.YtbbgeobnjdgpfaaGreatPx0
import Derived.Test.YtbbgeobnjdgpfaaGreatPx1
namespace Go.Proofs.YtbbgeobnjdgpfaaGreat.P
open Go.RowKit Go.Proofs.YtbbgeobnjdgpfaaGreatW.PrintWords Go.Proofs.YtbbgeobnjdgpfaaGreatW.PrintLast Go.Proofs.YtbbgeobnjdgpfaaGreatW.PrintMore
attribute [local go_sem] max2_int min2_int max_two min_two max_three min_three max_four min_four   -- for this text's walks alone
set_option linter.unusedVariables false
set_option linter.unusedSimpArgs false

/-! ### world_New_3: function 28 -/
section
open Go.Shelf Go.Proofs.YtbbgeobnjdgpfaaGreat.Hand
/-- Of what stood in memory only block p was written. -/
structure OnlyP (W W' : World) (p : Nat) : Prop where
  below : ∀ N, N ≤ p → N ≤ W.heap.size → Below N W W'
  far : ∀ k, k < W.heap.size → k ≠ p → W'.heap[k]? = W.heap[k]?
theorem OnlyP.refl (W : World) (p : Nat) : OnlyP W W p := ⟨fun N _ _ => Below.refl N W, fun _ _ _ => rfl⟩
theorem OnlyP.size {W W' : World} {p : Nat} (h : OnlyP W W' p) : W.heap.size ≤ W'.heap.size := (h.below 0 (Nat.zero_le _) (Nat.zero_le _)).size
theorem OnlyP.trans {W W' W2 : World} {p : Nat} (h : OnlyP W W' p) (k : OnlyP W' W2 p) : OnlyP W W2 p :=
  ⟨fun N h0 h1 => (h.below N h0 h1).trans (k.below N h0 (Nat.le_trans h1 h.size)), fun i h0 h1 => (k.far i (Nat.lt_of_lt_of_le h0 h.size) h1).trans (h.far i h0 h1)⟩
theorem OnlyP.of_below {W W' : World} {p : Nat} (h : Below W.heap.size W W') : OnlyP W W' p := ⟨fun _ _ h1 => h.mono h1, fun k h0 _ => h.block k h0⟩
theorem OnlyP.drew (W : World) (p : Nat) : OnlyP W W.drew p := .of_below (below_drew (Below.refl _ W))
theorem OnlyP.alloc (W : World) (p : Nat) (o : Obj) : OnlyP W (W.alloc o) p := .of_below (below_alloc (Below.refl _ W) o)
theorem OnlyP.set (W : World) (p i : Nat) (v : Value) : OnlyP W (W.setCell ⟨p, i, none⟩ v) p := ⟨fun N h0 _ => (Below.refl N W).setCell h0 v, fun _ _ h1 => Below.heap_setCell _ _ _ _ h1⟩
theorem OnlyP.grown {W W' W2 : World} {p : Nat} {row : Option Nat} (h : OnlyP W W' p) (hg : W'.grownBy W2 row) (hr : ∀ k, row = some k → W.heap.size ≤ k) : OnlyP W W2 p :=
  ⟨fun N h0 h1 => pw_below_grown (h.below N h0 h1) row (Nat.le_trans h1 h.size) hg (fun k e => Nat.le_trans h1 (hr k e)), fun i h0 h1 => (hg.block i (Nat.lt_of_lt_of_le h0 h.size) (fun e => by have := hr i e.symm; omega)).trans (h.far i h0 h1)⟩
theorem OnlyP.blk {W W' : World} {p k : Nat} {t : TypeId} {cs : List Value} (h : OnlyP W W' p) (hb : Blk W k t cs) (hne : k ≠ p) : Blk W' k t cs := (h.far k hb.lt hne).trans hb
theorem infoTab : (Tryz.prog.info? 43).map (fun i => (i.zero, i.size, i.bytes)) = some (some (.slice none 0 0), 1, 24) := by kernel_rfl
theorem infoInt : (Tryz.prog.info? 3).map (fun i => (i.zero, i.size, i.bytes)) = some (some (.int .i64 0), 1, 8) := by kernel_rfl
theorem blkGrown {W W1 : World} {B : Nat} {t : TypeId} {cs : List Value} {row : Option Nat} (h : Blk W B t cs) (hg : W.grownBy W1 row) (hne : some B ≠ row) : Blk W1 B t cs := blk_grown h hg hne
set_option maxRecDepth 100000 in
set_option maxHeartbeats 8000000 in
theorem part3_any (B p : Nat) (a b c d e : Int) (x0 x1 x2 x3 x4 x5 x6 x7 x10 : Value) (n m : Nat) (hn : b = (n : Int)) (hn16 : n ≤ 16) (hc : flows_New.f c = some (List.replicate m z97)) (W : World) (hB : Blk W B 23 [.int .i64 a, .int .i64 b, .int .i64 c, .int .i64 d, .int .i64 e]) (hb : Blk W p 36 [x0, x1, x2, x3, x4, x5, x6, x7, .slice none 0 0, .slice none 0 0, x10]) :
    Calls Tryz.prog 28 #[.pointer (some ⟨p, 0, none⟩), .pointer (some ⟨B, 0, none⟩)] W fun r W' => r = .returned (.tuple #[]) ∧ ∃ tv pv, Blk W' p 36 [x0, x1, x2, x3, x4, x5, x6, x7, tv, pv, x10] ∧ Kd.R (Kd.slice 97 k97) 43 W' W.heap.size (fun _ => True) tv (List.replicate n (List.replicate m z97)) ∧ Kd.R (Kd.int .i64) 3 W' W.heap.size (fun _ => True) pv (List.replicate n 0) ∧ OnlyP W W' p := by
  subst hn
  have y1 : W.cell? ⟨B, 1, none⟩ = some (.int .i64 (n : Int)) := hB.cell 1
  have hpB : ¬ B = p := fun e => blk_ne (show W.heap[B]? = _ from hB) (show W.heap[p]? = _ from hb) (by decide) e
  have HB := Lib.hid hB
  have HP := Lib.hid hb
  have HC := Lib.hid hc
  have HNE := Lib.hid hpB
  have H16 := Lib.hid hn16
  clear hB hb hc hpB hn16
  go_enter Tryz.func28, Tryz.ntmps28
  go_wp2
  go_loopw [5] (fun i wr => ∃ k : Nat, k ≤ n ∧ i = .int .i64 k ∧ ∃ tv pv, Blk wr p 36 [x0, x1, x2, x3, x4, x5, x6, x7, tv, pv, x10] ∧ Kd.R (Kd.slice 97 k97) 43 wr W.heap.size (fun _ => True) tv (List.replicate k (List.replicate m z97)) ∧ Kd.R (Kd.int .i64) 3 wr W.heap.size (fun _ => True) pv (List.replicate k 0) ∧ OnlyP W wr p) (fun i _ => n - (intOf i).toNat)
  case atStart => exact ⟨0, Nat.zero_le _, rfl, _, _, HP.out, Kd.R_nil _ _ _ _ _, Kd.R_nil _ _ _ _ _, OnlyP.refl _ _⟩
  case round =>
    obtain ⟨k, hk, rfl, tv, pv, hp, ht, hpl, ho⟩ := hrel
    by_cases hlt : k < n
    · have HR := Lib.hid hp
      have HT := Lib.hid ht
      have HL := Lib.hid hpl
      have HO := Lib.hid ho
      have BB := Lib.hid (ho.blk HB.out HNE.out)
      clear hp ht hpl ho HP HB y1
      have z2 : wr.cell? ⟨B, 2, none⟩ = some (.int .i64 c) := BB.out.cell 2
      have z8 : wr.cell? ⟨p, 8, none⟩ = some tv := HR.out.cell 8
      have p1 : decide ((k : Int) < (n : Int)) = true := decide_eq_true (by omega)
      have hw : wrap64 ((k : Int) + 1) = ((k + 1 : Nat) : Int) := by have := H16.out; unfold wrap64; omega
      have HK := Lib.hid (show ∀ V : World, Blk V B 23 [.int .i64 a, .int .i64 (n : Int), .int .i64 c, .int .i64 d, .int .i64 e] → V.cell? ⟨B, 2, none⟩ = some (.int .i64 c) from fun V h => h.cell 2)
      have HNEs := Lib.hid (show ¬ p = B from fun e => HNE.out e.symm)
      go_wp2
      -- REGION 2
      refine wp_region_noPanic ?_
      refine start_ (n := 13) (S := fun w' => w'.cell? ⟨B, 2, none⟩ = some (.int .i64 c) ∧ w'.cell? ⟨p, 8, none⟩ = some tv) (ds := [12]) #[false, false, false, false, false, false, false, false, false, false, false, false, false] (by kernel_rfl) rfl rfl ⟨z2, z8⟩ (fun hHeld => ?_)
      refine pure_ (i := 0) (N := some 7) (v := ?_) (a' := ?_) #[true, false, false, false, false, false, false, false, false, false, false, false, false] rfl rfl (by kernel_rfl) (fun _ _ _ h => h) (Or.inl ⟨by rfl, ?_⟩) ?_ ?_
      rotate_left
      · intro w'
        go_simp
        with_reducible rfl
      rotate_left
      · simp only [Act.put, List.setIfInBounds_toArray, List.set_cons_zero, List.set_cons_succ, i64_w, i32_w]
        rfl
      refine pure_ (i := 1) (N := some 8) (v := ?_) (a' := ?_) #[true, true, false, false, false, false, false, false, false, false, false, false, false] rfl rfl (by kernel_rfl) (fun _ _ _ h => h) (Or.inl ⟨by rfl, ?_⟩) ?_ ?_
      rotate_left
      · intro w'
        go_simp
        with_reducible rfl
      rotate_left
      · simp only [Act.put, List.setIfInBounds_toArray, List.set_cons_zero, List.set_cons_succ, i64_w, i32_w]
        rfl
      refine pure_ (i := 2) (N := some 9) (v := ?_) (a' := ?_) #[true, true, true, false, false, false, false, false, false, false, false, false, false] rfl rfl (by kernel_rfl) (fun _ _ _ h => h) (Or.inl ⟨by rfl, ?_⟩) ?_ ?_
      rotate_left
      · intro w'
        go_simp
        with_reducible rfl
      rotate_left
      · simp only [Act.put, List.setIfInBounds_toArray, List.set_cons_zero, List.set_cons_succ, i64_w, i32_w]
        rfl
      refine pure_ (i := 3) (N := some 10) (v := ?_) (a' := ?_) #[true, true, true, true, false, false, false, false, false, false, false, false, false] rfl rfl (by kernel_rfl) (fun _ _ _ h => h) (Or.inl ⟨by rfl, ?_⟩) ?_ ?_
      rotate_left
      · intro w'
        go_simp
        with_reducible rfl
      rotate_left
      · simp only [Act.put, List.setIfInBounds_toArray, List.set_cons_zero, List.set_cons_succ, i64_w, i32_w]
        rfl
      refine pure_ (i := 5) (N := some 12) (v := ?_) (a' := ?_) #[true, true, true, true, false, true, false, false, false, false, false, false, false] rfl rfl (by kernel_rfl) (fun _ _ _ h => h) (Or.inl ⟨by rfl, ?_⟩) ?_ ?_
      rotate_left
      · intro w'
        go_simp
        with_reducible rfl
      rotate_left
      · simp only [Act.put, List.setIfInBounds_toArray, List.set_cons_zero, List.set_cons_succ, i64_w, i32_w]
        rfl
      refine take_ (i := 4) (N := some 11) (v := ?_) (a' := ?_) #[true, true, true, true, true, true, false, false, false, false, false, false, false] rfl rfl (by kernel_rfl) (fun _ _ _ h => h) (Or.inl ⟨by rfl, ?_⟩) hHeld ?_ ?_
      rotate_left
      · rintro w' ⟨s0, s1⟩
        go_simp
        with_reducible rfl
      rotate_left
      · simp only [Act.put, List.setIfInBounds_toArray, List.set_cons_zero, List.set_cons_succ, i64_w, i32_w]
        rfl
      refine take_ (i := 6) (N := some 13) (v := ?_) (a' := ?_) #[true, true, true, true, true, true, true, false, false, false, false, false, false] rfl rfl (by kernel_rfl) (fun _ _ _ h => h) (Or.inl ⟨by rfl, ?_⟩) hHeld ?_ ?_
      rotate_left
      · rintro w' ⟨s0, s1⟩
        go_simp
        with_reducible rfl
      rotate_left
      · simp only [Act.put, List.setIfInBounds_toArray, List.set_cons_zero, List.set_cons_succ, i64_w, i32_w]
        rfl
      refine one_ (i := 7) (N := some 14) #[true, true, true, true, true, true, true, true, false, false, false, false, false] rfl rfl (by kernel_rfl) (by decide) (fun K hK => ?_)
      refine goes_ Tryz.func29 (by kernel_rfl) rfl #[.int .i64 c] (by rfl) rfl rfl (by simp only [List.map_toArray, List.map_cons, List.map_nil]; rfl) ?_
      with_reducible refine (flows_New.calls c _ _ HC.out).mono ?_
      rintro r w1 ⟨v0, rfl, hv, hb⟩
      refine ⟨_, rfl, ?_⟩
      obtain ⟨A0, c0, rfl⟩ : ∃ A0 c0, v0 = .slice A0 m c0 := (by have h := Kd.R_slice hv; rw [List.length_replicate] at h; exact h)
      have BB1 := Lib.hid (show Blk w1 B 23 [.int .i64 a, .int .i64 (n : Int), .int .i64 c, .int .i64 d, .int .i64 e] from (blkDrewW BB.out).below hb)
      have HR1 := Lib.hid (show Blk w1 p 36 [x0, x1, x2, x3, x4, x5, x6, x7, tv, pv, x10] from (blkDrewW HR.out).below hb)
      have HT1 := Lib.hid (Kd.R_below (w := wr.drew) HT.out hb)
      have HL1 := Lib.hid (Kd.R_below (w := wr.drew) HL.out hb)
      have HV1 := Lib.hid (Kd.R_lower (Kd.R_newR hv HT.out) HO.out.size)
      have HO1 := Lib.hid (HO.out.trans ((OnlyP.drew wr p).trans (.of_below hb)))
      clear hv hb
      refine hK.out _ _ ⟨(BB1.out.cell 2), (HR1.out.cell 8)⟩ (fun hHeld => ?_)
      clear hK K
      refine norm_ (a' := ?_) ?_ ?_
      rotate_left
      · show Act.put _ (some 14) _ = _
        simp only [Act.put, List.setIfInBounds_toArray, List.set_cons_zero, List.set_cons_succ, i64_w, i32_w]
        rfl
      refine one_ (i := 8) (N := some 15) #[true, true, true, true, true, true, true, true, true, false, false, false, false] rfl rfl (by kernel_rfl) (by decide) (fun K hK => ?_)
      refine value_ (w1 := ?_) (v := ?_) (by rfl) rfl ?_ ?_
      rotate_left 2
      · go_simp
        constructor
        · rfl
        · rfl
      refine hK.out _ _ ⟨((BB1.out.alloc _).cell 2), ((HR1.out.alloc _).cell 8)⟩ (fun hHeld => ?_)
      clear hK K
      refine norm_ (a' := ?_) ?_ ?_
      rotate_left
      · show Act.put _ (some 15) _ = _
        simp only [Act.put, List.setIfInBounds_toArray, List.set_cons_zero, List.set_cons_succ, i64_w, i32_w]
        rfl
      refine one_ (i := 9) (N := some 16) #[true, true, true, true, true, true, true, true, true, true, false, false, false] rfl rfl (by kernel_rfl) (by decide) (fun K hK => ?_)
      refine Kd.R_append_step (Kd.slice 97 k97) (w0 := w1) W.heap.size (by rfl) (.tmp 11) (.tmp 15) 33 43 (.slice none 0 0) 24 (by rfl) Tryz.underlying33 infoTab rfl (by decide) (by omega) tv (List.replicate k (List.replicate m z97)) (List.replicate m z97) [.slice A0 m c0] (fun _ => True) _ (by rfl) (by rfl) ⟨_, rfl, HV1.out⟩ (fun _ hk => hk) (fun _ _ => trivial) HT1.out (Below.refl _ _) HO1.out.size (by have := H16.out; rw [List.length_replicate]; omega) ?_
      intro tv2 w2 ht2 hb2 hg2 _
      obtain ⟨A2, c2, rfl⟩ : ∃ A2 c2, tv2 = .slice A2 (k + 1) c2 := (by have h := Kd.R_slice ht2; rw [List.length_append, List.length_replicate] at h; exact h)
      have BB2 := Lib.hid (blkGrown BB1.out hg2 (Kd.R_ne HT1.out BB1.out (by decide)))
      have HR2 := Lib.hid (blkGrown HR1.out hg2 (Kd.R_ne HT1.out HR1.out (by decide)))
      have HT2 := Lib.hid ht2
      have HL2 := Lib.hid (Kd.R_over HL1.out HT1.out (by decide) hg2)
      have HO2 := Lib.hid (HO1.out.grown hg2 (Kd.R_base HT1.out))
      clear ht2 hb2 hg2
      have zf2 : w2.frozen? ⟨p, 8, none⟩ = false := HR2.out.frozen 8
      have z89 : w2.cell? ⟨p, 8, none⟩ = some tv := HR2.out.cell 8
      refine hK.out _ _ ⟨(BB2.out.cell 2), z89⟩ (fun hHeld => ?_)
      clear hK K
      refine norm_ (a' := ?_) ?_ ?_
      rotate_left
      · show Act.put _ (some 16) _ = _
        simp only [Act.put, List.setIfInBounds_toArray, List.set_cons_zero, List.set_cons_succ, i64_w, i32_w]
        rfl
      refine pure_ (i := 10) (N := some 17) (v := ?_) (a' := ?_) #[true, true, true, true, true, true, true, true, true, true, true, false, false] rfl rfl (by kernel_rfl) (fun _ _ _ h => h) (Or.inl ⟨by rfl, ?_⟩) ?_ ?_
      rotate_left
      · intro w'
        go_simp
        with_reducible rfl
      rotate_left
      · simp only [Act.put, List.setIfInBounds_toArray, List.set_cons_zero, List.set_cons_succ, i64_w, i32_w]
        rfl
      refine pure_ (i := 11) (N := some 18) (v := ?_) (a' := ?_) #[true, true, true, true, true, true, true, true, true, true, true, true, false] rfl rfl (by kernel_rfl) (fun _ _ _ h => h) (Or.inl ⟨by rfl, ?_⟩) ?_ ?_
      rotate_left
      · intro w'
        go_simp
        with_reducible rfl
      rotate_left
      · simp only [Act.put, List.setIfInBounds_toArray, List.set_cons_zero, List.set_cons_succ, i64_w, i32_w]
        rfl
      refine last_ (i := 12) (N := none) #[true, true, true, true, true, true, true, true, true, true, true, true, true] rfl rfl (by kernel_rfl) (by decide) (fun K hK => ?_)
      refine skip_ (w1 := ?_) (by rfl) rfl ?_ ?_
      rotate_left
      · go_simp
        rfl
      refine hK.out _ _ ?_
      clear hK K
      refine done_ (by kernel_rfl) ?_
      refine NoPanic.normal ?_
      -- BEHIND REGION 2
      all_goals
        obtain ⟨W3, hW3⟩ : ∃ W3, w2.setCell ⟨p, 8, none⟩ (.slice A2 (k + 1) c2) = W3 := ⟨_, rfl⟩
        have HR3 := Lib.hid (show Blk W3 p 36 [x0, x1, x2, x3, x4, x5, x6, x7, .slice A2 (k + 1) c2, pv, x10] from by rw [← hW3]; exact blk_putL HR2.out 8 _)
        have HT3 := Lib.hid (show Kd.R (Kd.slice 97 k97) 43 W3 W.heap.size (fun _ => True) (.slice A2 (k + 1) c2) (List.replicate (k + 1) (List.replicate m z97)) from by rw [← hW3, List.replicate_succ']; exact Kd.R_set HT2.out (show w2.heap[p]? = _ from HR2.out) (by decide) 8 _)
        have HL3 := Lib.hid (show Kd.R (Kd.int .i64) 3 W3 W.heap.size (fun _ => True) pv (List.replicate k 0) from by rw [← hW3]; exact Kd.R_set HL2.out (show w2.heap[p]? = _ from HR2.out) (by decide) 8 _)
        have HO3 := Lib.hid (show OnlyP W W3 p from by rw [← hW3]; exact HO2.out.trans (OnlyP.set _ _ _ _))
        rw [hW3]
        clear hW3 HR2 HT2 HL2 HO2 BB2 zf2 z89 z2 z8 HR HT HL HO BB BB1 HR1 HT1 HL1 HV1 HO1
        have z9 : W3.cell? ⟨p, 9, none⟩ = some pv := HR3.out.cell 9
        go_wp2_with (at_builtin; refine Kd.R_append (Kd.int .i64) (w0 := W3) W.heap.size rfl (.tmp 23) (.tmp 24) 34 3 (.int .i64 0) 8 rfl Tryz.underlying34 infoInt rfl (by decide) (by omega) pv (List.replicate k 0) 0 [.int .i64 0] (fun _ => True) (fun _ => False) rfl rfl rfl (fun _ hk => hk.elim) (fun _ _ => trivial) HL3.out (Below.refl _ _) HO3.out.size (by have := H16.out; rw [List.length_replicate]; omega) ?_; intro pv2 w4 hl2 hb2 hg2 _; obtain ⟨A4, c4, rfl⟩ : ∃ A4 c4, pv2 = .slice A4 (k + 1) c4 := (by have h := Kd.R_slice hl2; rw [List.length_append, List.length_replicate] at h; exact h); have HR4 := Lib.hid (blkGrown HR3.out hg2 (Kd.R_ne HL3.out HR3.out (by decide))); have HT4 := Lib.hid (Kd.R_over HT3.out HL3.out (by decide) hg2); have HL4 := Lib.hid hl2; have HO4 := Lib.hid (HO3.out.grown hg2 (Kd.R_base HL3.out)); clear hl2 hb2 hg2; have z39 : w4.cell? ⟨p, 9, none⟩ = some pv := HR4.out.cell 9; have zf9 : w4.frozen? ⟨p, 9, none⟩ = false := HR4.out.frozen 9)
        go_roundw
        case rel =>
          refine ⟨k + 1, by omega, by rw [hw], _, _, blk_putL HR4.out 9 _, Kd.R_set HT4.out (show w4.heap[p]? = _ from HR4.out) (by decide) 9 _, ?_, HO4.out.trans (OnlyP.set _ _ _ _)⟩
          rw [List.replicate_succ']
          exact Kd.R_set HL4.out (show w4.heap[p]? = _ from HR4.out) (by decide) 9 _
        case measure =>
          rw [hw]
          show n - (((k + 1 : Nat) : Int)).toNat < n - ((k : Int)).toNat
          rw [Int.toNat_natCast, Int.toNat_natCast]
          omega
    · obtain rfl : k = n := by omega
      have HR := Lib.hid hp
      have HT := Lib.hid ht
      have HL := Lib.hid hpl
      have HO := Lib.hid ho
      clear hp ht hpl ho HP HB y1
      have p1 : decide ((k : Int) < (k : Int)) = false := decide_eq_false (by omega)
      go_wp2
      go_end0
      exact ⟨rfl, _, _, HR.out, HT.out, HL.out, HO.out⟩
end

/-! ### world_New: function 6 -/
section
open Go.Shelf Go.Proofs.YtbbgeobnjdgpfaaGreat.Hand
/-- A world in memory: its block, its cells and locks, its slots, its keeper, its tables. -/
structure Wd (W : World) (N p q b1 b2 qs ss qk : Nat) (tv pv : Value) (a b c d e now : Int) (n m : Nat) (s : CS) (ks : List Value) (tabs : List (List S97)) : Prop where
  hp : Blk W p 36 [.int .i64 a, .int .i64 b, .int .i64 c, .int .i64 d, .int .i64 e, .pointer (some ⟨q, 0, none⟩), .pointer (some ⟨qs, 0, none⟩), .pointer (some ⟨qk, 0, none⟩), tv, pv, .int .i64 now]
  hh : Held W q b1 b2 s
  h1 : Blk W ss 87 (List.replicate m Value.nilIface)
  h2 : Blk W qs 83 [.slice (some ⟨ss, 0, none⟩) m m]
  h3 : Blk W qk 77 ks
  ht : Kd.R (Kd.slice 97 k97) 43 W N (fun _ => True) tv tabs
  hv : ∃ A k, pv = .slice A n k
  lo : N ≤ p ∧ N ≤ q ∧ N ≤ b1 ∧ N ≤ b2 ∧ N ≤ qs ∧ N ≤ ss ∧ N ≤ qk
theorem Wd.lower {W : World} {N N' p q b1 b2 qs ss qk : Nat} {tv pv : Value} {a b c d e now : Int} {n m : Nat} {s : CS} {ks : List Value} {tabs : List (List S97)} (h : Wd W N p q b1 b2 qs ss qk tv pv a b c d e now n m s ks tabs) (hN : N' ≤ N) : Wd W N' p q b1 b2 qs ss qk tv pv a b c d e now n m s ks tabs :=
  ⟨h.hp, h.hh, h.h1, h.h2, h.h3, Kd.R_lower h.ht hN, h.hv, by have := h.lo; omega⟩
theorem Held.only {W W' : World} {p q b1 b2 : Nat} {s : CS} (h : Held W q b1 b2 s) (ho : OnlyP W W' p) (n0 : q ≠ p) (n1 : b1 ≠ p) (n2 : b2 ≠ p) : Held W' q b1 b2 s :=
  ⟨ho.blk h.hp n0, ho.blk h.h1 n1, ho.blk h.h2 n2, h.ne, h.n1, h.n2⟩
def clo (f B : Nat) : Value := .func (.func f) #[] #[.pointer (some ⟨B, 0, none⟩)]
set_option maxRecDepth 100000 in
set_option maxHeartbeats 8000000 in
theorem made_any (B S : Nat) (a b c d e : Int) (n m t n1 : Nat) (ha : wrap64 (2 + a) = 2 + a) (hn1 : mn (mx (2 + a) 0) 1024 = (n1 : Int)) (hb : b = (n : Int)) (hn : n ≤ 16) (hc : flows_New.f c = some (List.replicate t z97)) (he : mx 0 (mn e 8) = (m : Int)) (W : World)
    (hB : Blk W B 23 [.int .i64 a, .int .i64 b, .int .i64 c, .int .i64 d, .int .i64 e]) (hS : Blk W S 56 [.func (.func 23) #[] #[.pointer (some ⟨B, 0, none⟩)], .func (.func 25) #[] #[.pointer (some ⟨B, 0, none⟩)], .func (.func 28) #[] #[.pointer (some ⟨B, 0, none⟩)]]) :
    Calls Tryz.prog 22 #[.agg #[.int .i64 a, .int .i64 b, .int .i64 c, .int .i64 d, .int .i64 e], .slice (some ⟨S, 0, none⟩) 3 3] W fun r W' => ∃ p q b1 b2 qs ss qk tv pv, r = .returned (.pointer (some ⟨p, 0, none⟩)) ∧ Wd W' W.heap.size p q b1 b2 qs ss qk tv pv a b c d e 0 n m ⟨List.replicate n1 0, List.replicate n (-1), 0⟩ (List.replicate 16 (Value.int .i64 0) ++ [Value.int .i64 (m : Int)]) (List.replicate n (List.replicate t z97)) ∧ Below W.heap.size W W' := by
  have hm1 : mn (mx b 0) 1024 = ((n : Nat) : Int) := by subst hb; unfold mn mx; split <;> split <;> omega
  have HB := Lib.hid hB
  have HS := Lib.hid hS
  have HA := Lib.hid ha
  have HN1 := Lib.hid hn1
  have HM1 := Lib.hid hm1
  have HBN := Lib.hid hb
  have HN := Lib.hid hn
  have HC := Lib.hid hc
  have HE := Lib.hid he
  clear hB hS ha hn1 hm1 hn hc he hb
  go_enter Tryz.func22, Tryz.ntmps22
  go_wp2
  have hW : ∀ k, k < W.heap.size → k ≠ W.heap.size + 1 := fun k h => by omega
  have P0 := Blk.new (W.alloc (.cells #[.int .i64 a, .int .i64 b, .int .i64 c, .int .i64 d, .int .i64 e] 23)) 36 [.int .i64 a, .int .i64 b, .int .i64 c, .int .i64 d, .int .i64 e, .pointer none, .pointer none, .pointer none, .slice none 0 0, .slice none 0 0, .int .i64 0]
  simp only [World.size_alloc] at P0
  have B0 := (HB.out.alloc (.cells #[.int .i64 a, .int .i64 b, .int .i64 c, .int .i64 d, .int .i64 e] 23)).alloc (.cells #[.int .i64 a, .int .i64 b, .int .i64 c, .int .i64 d, .int .i64 e, .pointer none, .pointer none, .pointer none, .slice none 0 0, .slice none 0 0, .int .i64 0] 36)
  have SF0 := (HS.out.alloc (.cells #[.int .i64 a, .int .i64 b, .int .i64 c, .int .i64 d, .int .i64 e] 23)).alloc (.cells #[.int .i64 a, .int .i64 b, .int .i64 c, .int .i64 d, .int .i64 e, .pointer none, .pointer none, .pointer none, .slice none 0 0, .slice none 0 0, .int .i64 0] 36)
  have L0 := below_alloc (below_alloc (Below.refl _ W) (.cells #[.int .i64 a, .int .i64 b, .int .i64 c, .int .i64 d, .int .i64 e] 23)) (.cells #[.int .i64 a, .int .i64 b, .int .i64 c, .int .i64 d, .int .i64 e, .pointer none, .pointer none, .pointer none, .slice none 0 0, .slice none 0 0, .int .i64 0] 36)
  obtain ⟨W2, hW2⟩ : ∃ W2, (W.alloc (.cells #[.int .i64 a, .int .i64 b, .int .i64 c, .int .i64 d, .int .i64 e] 23)).alloc (.cells #[.int .i64 a, .int .i64 b, .int .i64 c, .int .i64 d, .int .i64 e, .pointer none, .pointer none, .pointer none, .slice none 0 0, .slice none 0 0, .int .i64 0] 36) = W2 := ⟨_, rfl⟩
  replace P0 := hW2 ▸ P0
  replace B0 := hW2 ▸ B0
  replace SF0 := hW2 ▸ SF0
  replace L0 := hW2 ▸ L0
  rw [hW2]
  have hsz : W2.heap.size = W.heap.size + 1 + 1 := by rw [← hW2]; simp
  have HP := Lib.hid P0
  have HB2 := Lib.hid B0
  have HS2 := Lib.hid SF0
  have HL := Lib.hid L0
  have HZ := Lib.hid hsz
  have HBN0 := Lib.hid HB.out.lt
  have HSN0 := Lib.hid HS.out.lt
  clear P0 B0 SF0 L0 hW2 hsz HB HS hW
  go_loopw [13] (fun i wr => (i = .int .i64 0 ∧ wr = W2) ∨ (i = .int .i64 1 ∧ ∃ q b1 b2, Blk wr (W.heap.size + 1) 36 [.int .i64 a, .int .i64 b, .int .i64 c, .int .i64 d, .int .i64 e, .pointer (some ⟨q, 0, none⟩), .pointer none, .pointer none, .slice none 0 0, .slice none 0 0, .int .i64 0] ∧ Held wr q b1 b2 ⟨List.replicate n1 0, List.replicate n (-1), 0⟩ ∧ (W2.heap.size ≤ q ∧ W2.heap.size ≤ b1 ∧ W2.heap.size ≤ b2) ∧ OnlyP W2 wr (W.heap.size + 1)) ∨ (i = .int .i64 2 ∧ ∃ q b1 b2 qs ss qk, Blk wr (W.heap.size + 1) 36 [.int .i64 a, .int .i64 b, .int .i64 c, .int .i64 d, .int .i64 e, .pointer (some ⟨q, 0, none⟩), .pointer (some ⟨qs, 0, none⟩), .pointer (some ⟨qk, 0, none⟩), .slice none 0 0, .slice none 0 0, .int .i64 0] ∧ Held wr q b1 b2 ⟨List.replicate n1 0, List.replicate n (-1), 0⟩ ∧ Blk wr ss 87 (List.replicate m Value.nilIface) ∧ Blk wr qs 83 [.slice (some ⟨ss, 0, none⟩) m m] ∧ Blk wr qk 77 (List.replicate 16 (Value.int .i64 0) ++ [Value.int .i64 (m : Int)]) ∧ (W2.heap.size ≤ q ∧ W2.heap.size ≤ b1 ∧ W2.heap.size ≤ b2 ∧ W2.heap.size ≤ qs ∧ W2.heap.size ≤ ss ∧ W2.heap.size ≤ qk) ∧ OnlyP W2 wr (W.heap.size + 1)) ∨ (i = .int .i64 3 ∧ ∃ q b1 b2 qs ss qk tv pv, Blk wr (W.heap.size + 1) 36 [.int .i64 a, .int .i64 b, .int .i64 c, .int .i64 d, .int .i64 e, .pointer (some ⟨q, 0, none⟩), .pointer (some ⟨qs, 0, none⟩), .pointer (some ⟨qk, 0, none⟩), tv, pv, .int .i64 0] ∧ Held wr q b1 b2 ⟨List.replicate n1 0, List.replicate n (-1), 0⟩ ∧ Blk wr ss 87 (List.replicate m Value.nilIface) ∧ Blk wr qs 83 [.slice (some ⟨ss, 0, none⟩) m m] ∧ Blk wr qk 77 (List.replicate 16 (Value.int .i64 0) ++ [Value.int .i64 (m : Int)]) ∧ (W2.heap.size ≤ q ∧ W2.heap.size ≤ b1 ∧ W2.heap.size ≤ b2 ∧ W2.heap.size ≤ qs ∧ W2.heap.size ≤ ss ∧ W2.heap.size ≤ qk) ∧ Kd.R (Kd.slice 97 k97) 43 wr W2.heap.size (fun _ => True) tv (List.replicate n (List.replicate t z97)) ∧ (∃ A k, pv = .slice A n k) ∧ OnlyP W2 wr (W.heap.size + 1))) (fun i _ => 3 - (intOf i).toNat)
  case atStart => exact .inl ⟨rfl, rfl⟩
  case round =>
    have hBp : B ≠ W.heap.size + 1 := by have := HBN0.out; omega
    have hSp : S ≠ W.heap.size + 1 := by have := HSN0.out; omega
    have HBp := Lib.hid hBp
    have HSp := Lib.hid hSp
    clear hBp hSp
    rcases hrel with ⟨rfl, rfl⟩ | ⟨rfl, q, b1, b2, hp, hh, hb, ho⟩ | ⟨rfl, q, b1, b2, qs, ss, qk, hp, hh, h1, h2, h3, hb, ho⟩ | ⟨rfl, q, b1, b2, qs, ss, qk, tv, pv, hp, hh, h1, h2, h3, hb, ht, hv, ho⟩
    · have z := HS2.out.cell 0
      go_wp2_with (go_at_call 23; refine (part1_any B (W.heap.size + 1) a b c d e _ _ _ _ _ _ _ _ _ _ _ n1 n HA.out HN1.out HM1.out _ HB2.out HP.out).mono ?_; rintro r w1 ⟨rfl, q, b1, b2, hp, hh, hq, hq1, hq2, hb1, hb2⟩; have HP1 := Lib.hid hp; have HH1 := Lib.hid hh; have HQ1 := Lib.hid (And.intro hq (And.intro hq1 hq2)); have HO1 := Lib.hid (OnlyP.mk hb1 hb2); clear hp hh hq hq1 hq2 hb1 hb2)
      go_roundw
      case rel => exact .inr (.inl ⟨rfl, q, b1, b2, HP1.out, HH1.out, HQ1.out, HO1.out⟩)
      case measure => decide
    · have HP1 := Lib.hid hp
      have HH1 := Lib.hid hh
      have HQ1 := Lib.hid hb
      have HO1 := Lib.hid ho
      have BB := Lib.hid (ho.blk HB2.out HBp.out)
      have z := (ho.blk HS2.out HSp.out).cell 1
      clear hp hh hb ho
      go_wp2_with (go_at_call 25; refine (part2_any B (W.heap.size + 1) a b c d e _ _ _ _ _ _ _ _ _ _ _ m HE.out _ BB.out HP1.out).mono ?_; rintro r w1 ⟨rfl, qs, ss, qk, hp, h1, h2, h3, hqs, hss, hqk, hb1, hb2⟩; have HP2 := Lib.hid hp; have HS := Lib.hid (And.intro h1 (And.intro h2 h3)); have HQ2 := Lib.hid (And.intro hqs (And.intro hss hqk)); have HO2 := Lib.hid (OnlyP.mk hb1 hb2); clear hp h1 h2 h3 hqs hss hqk hb1 hb2)
      go_roundw
      case rel =>
        have hz := HZ.out
        have hq := HQ1.out
        have hq2 := HQ2.out
        have hs := HO1.out.size
        exact .inr (.inr (.inl ⟨rfl, q, b1, b2, qs, ss, qk, HP2.out, HH1.out.only HO2.out (by omega) (by omega) (by omega), HS.out.1, HS.out.2.1, HS.out.2.2, ⟨hq.1, hq.2.1, hq.2.2, by omega, by omega, by omega⟩, HO1.out.trans HO2.out⟩))
      case measure => decide
    · have HP1 := Lib.hid hp
      have HH1 := Lib.hid hh
      have HQ1 := Lib.hid hb
      have HO1 := Lib.hid ho
      have HS := Lib.hid (And.intro h1 (And.intro h2 h3))
      have BB := Lib.hid (ho.blk HB2.out HBp.out)
      have z := (ho.blk HS2.out HSp.out).cell 2
      clear hp hh hb ho h1 h2 h3
      go_wp2_with (go_at_call 28; refine (part3_any B (W.heap.size + 1) a b c d e _ _ _ _ _ _ _ _ _ n t HBN.out HN.out HC.out _ BB.out HP1.out).mono ?_; rintro r w1 ⟨rfl, tv, pv, hp, ht, hv, ho⟩; have HP2 := Lib.hid hp; have HT := Lib.hid ht; have HV := Lib.hid hv; have HO2 := Lib.hid ho; clear hp ht hv ho)
      go_roundw
      case rel =>
        have hz := HZ.out
        have hq := HQ1.out
        exact .inr (.inr (.inr ⟨rfl, q, b1, b2, qs, ss, qk, tv, pv, HP2.out, HH1.out.only HO2.out (by omega) (by omega) (by omega), HO2.out.blk HS.out.1 (by omega), HO2.out.blk HS.out.2.1 (by omega), HO2.out.blk HS.out.2.2 (by omega), hq, Kd.R_lower HT.out HO1.out.size, by have h := Kd.R_slice HV.out; rw [List.length_replicate] at h; exact h, HO1.out.trans HO2.out⟩))
      case measure => decide
    · have HF := Lib.hid (And.intro hp (And.intro hh (And.intro h1 (And.intro h2 (And.intro h3 (And.intro hb (And.intro ht (And.intro hv ho))))))))
      clear hp hh hb ho h1 h2 h3 ht hv
      go_wp2
      go_ret
      obtain ⟨hp, hh, h1, h2, h3, hb, ht, hv, ho⟩ := HF.out
      have hz := HZ.out
      exact ⟨W.heap.size + 1, q, b1, b2, qs, ss, qk, tv, pv, rfl, ⟨hp, hh, h1, h2, h3, Kd.R_lower ht (by omega), hv, by omega⟩, HL.out.trans (ho.below _ (by omega) (by omega))⟩
theorem chk_zero {a b c d e : Int} (h : chk a b c d e = 0) : (1 ≤ a ∧ a ≤ 64) ∧ (1 ≤ b ∧ b ≤ 16) ∧ (1 ≤ c ∧ c ≤ 64) ∧ (0 ≤ d ∧ d ≤ 1000000) ∧ (2 ≤ e ∧ e ≤ 8) := by
  unfold chk need at h
  repeat' split at h
  all_goals omega
set_option maxHeartbeats 4000000 in
theorem New_bad (a b c d e : Int) (h : chk a b c d e ≠ 0) (W : World) :
    Calls Tryz.prog 6 #[.agg #[.int .i64 a, .int .i64 b, .int .i64 c, .int .i64 d, .int .i64 e]] W fun r W' => r = .returned (.tuple #[.pointer none, .int .i64 (chk a b c d e)]) ∧ Below W.heap.size W W' := by
  obtain ⟨x, hx⟩ : ∃ x, chk a b c d e = x := ⟨_, rfl⟩
  have hC := fun w => CheckM_any a b c d e w
  rw [hx] at h ⊢
  simp only [hx] at hC
  have q : (x != 0) = true := bne_iff_ne.mpr h
  have HL := Lib.hid (below_alloc (Below.refl _ W) (.cells #[.int .i64 a, .int .i64 b, .int .i64 c, .int .i64 d, .int .i64 e] 23))
  have HCK := Lib.hid hC
  clear h hx hC
  go_enter Tryz.func6, Tryz.ntmps6
  go_wp2_with (go_at_call 21; refine (HCK.out _).mono ?_; rintro r w1 ⟨rfl, hb⟩)
  go_ret2
  exact ⟨rfl, HL.out.trans (hb.mono HL.out.size)⟩
set_option maxHeartbeats 4000000 in
theorem New_good (a b c d e : Int) (h : chk a b c d e = 0) (W : World) :
    Calls Tryz.prog 6 #[.agg #[.int .i64 a, .int .i64 b, .int .i64 c, .int .i64 d, .int .i64 e]] W fun r W' => ∃ p q b1 b2 qs ss qk tv pv, r = .returned (.tuple #[.pointer (some ⟨p, 0, none⟩), .int .i64 0]) ∧ Wd W' W.heap.size p q b1 b2 qs ss qk tv pv a b c d e 0 b.toNat e.toNat ⟨List.replicate (2 + a).toNat 0, List.replicate b.toNat (-1), 0⟩ (List.replicate 16 (Value.int .i64 0) ++ [Value.int .i64 e]) (List.replicate b.toNat (List.replicate c.toNat z97)) ∧ Below W.heap.size W W' := by
  obtain ⟨⟨a0, a1⟩, ⟨b0, b1⟩, ⟨c0, c1⟩, ⟨d0, d1⟩, ⟨e0, e1⟩⟩ := chk_zero h
  have hC := fun w => CheckM_any a b c d e w
  simp only [h] at hC
  have hN : flows_New.f c = some (List.replicate c.toNat z97) := by
    have hm : mx 0 (mn c 64) = c := by unfold mx mn; split <;> split <;> omega
    unfold flows_New.f
    rw [hm, if_pos (by omega), if_pos (by omega)]
  have hM := fun B S W hB hS => made_any B S a b c d e b.toNat e.toNat c.toNat (2 + a).toNat (by unfold wrap64; omega) (by unfold mn mx; split <;> split <;> omega) (by omega) (by omega) hN (by unfold mn mx; split <;> split <;> omega) W hB hS
  rw [show ((e.toNat : Nat) : Int) = e by omega] at hM
  have HL := Lib.hid (below_alloc (Below.refl _ W) (.cells #[.int .i64 a, .int .i64 b, .int .i64 c, .int .i64 d, .int .i64 e] 23))
  have B0 := Blk.new W 23 [.int .i64 a, .int .i64 b, .int .i64 c, .int .i64 d, .int .i64 e]
  have HB := Lib.hid B0
  have HCK := Lib.hid hC
  have HM := Lib.hid hM
  have hd : ((0 : Int) != 0) = false := rfl
  clear h hC hN hM a0 a1 b0 b1 c0 c1 d0 d1 e0 e1 B0
  go_enter Tryz.func6, Tryz.ntmps6
  go_wp2_with (first
    | (go_at_call 21; refine (HCK.out _).mono ?_; rintro r w1 ⟨rfl, hb⟩; have HB1 := Lib.hid (HB.out.below hb); have HL1 := Lib.hid (HL.out.trans (hb.mono HL.out.size)); clear hb; have y0 : w1.cell? ⟨W.heap.size, 0, none⟩ = some (.int .i64 a) := HB1.out.cell 0; have y1 : w1.cell? ⟨W.heap.size, 1, none⟩ = some (.int .i64 b) := HB1.out.cell 1; have y2 : w1.cell? ⟨W.heap.size, 2, none⟩ = some (.int .i64 c) := HB1.out.cell 2; have y3 : w1.cell? ⟨W.heap.size, 3, none⟩ = some (.int .i64 d) := HB1.out.cell 3; have y4 : w1.cell? ⟨W.heap.size, 4, none⟩ = some (.int .i64 e) := HB1.out.cell 4)
    | (go_at_call 22; refine (HM.out W.heap.size w1.heap.size _ (HB1.out.alloc _) (Blk.new _ _ _)).mono ?_; rintro r w2 ⟨p, q, b1, b2, qs, ss, qk, tv, pv, rfl, hw, hb⟩; have HW2 := Lib.hid hw; have HL2 := Lib.hid hb; clear hw hb))
  go_ret2
  have hs : W.heap.size ≤ w1.heap.size + 1 := Nat.le_succ_of_le HL1.out.size
  have h1 := HL1.out
  have h2 := HW2.out
  have h3 := HL2.out
  simp only [World.size_alloc] at h2 h3
  exact ⟨p, q, b1, b2, qs, ss, qk, tv, pv, rfl, h2.lower hs, (h1.alloc h1.size _).trans (h3.mono hs)⟩
end

-- NOT PRINTED: function 12 (world_World_Tick)

-- NOT PRINTED: function 97 (fnv_each_1)

-- NOT PRINTED: function 90 (fnv_each)

/-! ### fnv_Join: function 71 -/
def fnv_Join.f (a0 : Int) (a1 : ByteArray) : Option (Int) := if a1.size ≤ 140737488351232 then some (Go.Proofs.YtbbgeobnjdgpfaaGreat.Hand.hjoin a0 a1.data.toList) else none
theorem fnv_Join.calls (a0 : Int) (a1 : ByteArray) (r : Int) (w : World) (h : fnv_Join.f a0 a1 = some r) :
    Calls Tryz.prog 71 #[.int .u64 a0, .string a1] w fun e w' => e = .returned (.int .u64 r) ∧ Below w.heap.size w w' := by
  unfold fnv_Join.f at h
  by_cases hs : a1.size ≤ 140737488351232
  · rw [if_pos hs] at h
    obtain rfl := Option.some.inj h
    exact Go.Proofs.YtbbgeobnjdgpfaaGreat.Hand.Join_any a0 a1 hs w
  · rw [if_neg hs] at h
    exact absurd h (by simp)

/-! ### fnv_Sum: function 72 -/
def fnv_Sum.f (a0 : ByteArray) : Option (Int) := (fnv_Join.f 14695981039346656037 a0).bind fun t104 => (some t104)
set_option maxHeartbeats 8000000 in
set_option maxRecDepth 100000 in
theorem fnv_Sum.calls (a0 : ByteArray) (r : Int) (w : World) (h : fnv_Sum.f a0 = some r) :
    Calls Tryz.prog 72 #[.string a0] w fun e w' => e = .returned (.int .u64 r) ∧ Below w.heap.size w w' := by
  have HB := Aside0.mk (Below.refl w.heap.size w)
  have H : ((fnv_Join.f 14695981039346656037 a0).bind fun t104 => (some t104)) = some r := h
  clear h
  replace H := Option.bind_eq_some_iff.mp H
  obtain ⟨t104, A20, H⟩ := H
  replace H : (some t104) = some r := H
  have A2 := Aside0.mk A20
  clear A20
  obtain rfl := Option.some.inj H
  go_enter Tryz.func72, Tryz.ntmps72
  go_wp2_with (first | ((with_reducible refine gate_callee (f := 71) rfl ?_); refine goesL_ (some 4) rfl rfl Tryz.func71 (by kernel_rfl) rfl #[.int .u64 14695981039346656037, .string a0] rfl (by (try simp only [List.map_toArray, List.map_cons, List.map_nil]); first | done | rfl | (simp only [List.length_drop, List.length_take]; rfl)) ?_; (with_reducible refine (fnv_Join.calls 14695981039346656037 a0 t104 _ A2.out).mono ?_); (try clear A2); rintro e w3 ⟨rfl, hb⟩; refine ⟨_, rfl, ?_⟩; have n0_ := Aside0.mk (below_step (by repeat (first | (with_reducible first | exact HB.out | apply below_alloc | apply pw_below_drewN | apply below_drew1) | exact HB.out)) hb); clear HB; have HB := n0_; clear n0_; (try clear hb); (try clear hb2); (try clear hk); (try clear hi)))
  go_ret
  exact ⟨by first | rfl | (simp [errW_none, errW_some] <;> rfl) | (simp [*, errW_none, errW_some] <;> rfl), by repeat (first | (with_reducible first | exact HB.out | apply below_alloc | apply pw_below_drewN | apply below_drew1) | exact HB.out)⟩

/-! ### probe_Home: function 77 -/
def probe_Home.f (a0 : ByteArray) (a1 : Int) : Option (Int) := if a1 < 1 then (some 0) else ((fnv_Sum.f a0).bind fun t105 => (if (IntKind.u64.wrap (a1)) = 0 then (none) else (some (wrap64 (Int.tmod t105 (IntKind.u64.wrap (a1)))))))
set_option maxHeartbeats 8000000 in
set_option maxRecDepth 100000 in
theorem probe_Home.calls (a0 : ByteArray) (a1 : Int) (r : Int) (w : World) (h : probe_Home.f a0 a1 = some r) :
    Calls Tryz.prog 77 #[.string a0, .int .i64 a1] w fun e w' => e = .returned (.int .i64 r) ∧ Below w.heap.size w w' := by
  have HB := Aside0.mk (Below.refl w.heap.size w)
  have H : (if a1 < 1 then (some 0) else ((fnv_Sum.f a0).bind fun t105 => (if (IntKind.u64.wrap (a1)) = 0 then (none) else (some (wrap64 (Int.tmod t105 (IntKind.u64.wrap (a1)))))))) = some r := h
  clear h
  by_cases c3 : a1 < 1
  · rw [if_pos c3] at H
    have c3b0 : decide (a1 < 1) = true := decide_eq_true c3
    clear c3
    obtain rfl := Option.some.inj H
    go_enter Tryz.func77, Tryz.ntmps77
    go_wp2
    go_ret
    exact ⟨by first | rfl | (simp [errW_none, errW_some] <;> rfl) | (simp [*, errW_none, errW_some] <;> rfl), by repeat (first | (with_reducible first | exact HB.out | apply below_alloc | apply pw_below_drewN | apply below_drew1) | exact HB.out)⟩
  · rw [if_neg c3] at H
    have c3b0 : decide (a1 < 1) = false := decide_eq_false c3
    clear c3
    replace H := Option.bind_eq_some_iff.mp H
    obtain ⟨t105, A40, H⟩ := H
    replace H : (if (IntKind.u64.wrap (a1)) = 0 then (none) else (some (wrap64 (Int.tmod t105 (IntKind.u64.wrap (a1)))))) = some r := H
    have A4 := Aside0.mk A40
    clear A40
    by_cases c5 : (IntKind.u64.wrap (a1)) = 0
    · rw [if_pos c5] at H
      exact absurd H (by simp)
    · rw [if_neg c5] at H
      have c5b0 : ((IntKind.u64.wrap (a1)) == 0) = false := beq_eq_false_iff_ne.mpr c5
      have c5b1 : ((IntKind.u64.wrap (a1)) != 0) = true := bne_iff_ne.mpr c5
      obtain rfl := Option.some.inj H
      go_enter Tryz.func77, Tryz.ntmps77
      go_wp2_with (first | ((with_reducible refine gate_callee (f := 72) rfl ?_); refine goesL_ (some 8) rfl rfl Tryz.func72 (by kernel_rfl) rfl #[.string a0] rfl (by (try simp only [List.map_toArray, List.map_cons, List.map_nil]); first | done | rfl | (simp only [List.length_drop, List.length_take]; rfl)) ?_; (with_reducible refine (fnv_Sum.calls a0 t105 _ A4.out).mono ?_); (try clear A4); rintro e w6 ⟨rfl, hb⟩; refine ⟨_, rfl, ?_⟩; have n0_ := Aside0.mk (below_step (by repeat (first | (with_reducible first | exact HB.out | apply below_alloc | apply pw_below_drewN | apply below_drew1) | exact HB.out)) hb); clear HB; have HB := n0_; clear n0_; (try clear hb); (try clear hb2); (try clear hk); (try clear hi)))
      go_ret
      exact ⟨by first | rfl | (simp [errW_none, errW_some] <;> rfl) | (simp [*, errW_none, errW_some] <;> rfl), by repeat (first | (with_reducible first | exact HB.out | apply below_alloc | apply pw_below_drewN | apply below_drew1) | exact HB.out)⟩

-- NOT PRINTED: function 76 (probe_way_1)

/-! ### probe_way: function 64 -/
section
open Go.Shelf Go.Proofs.YtbbgeobnjdgpfaaGreat.Hand
attribute [local go_sem] Oper.semAt_some
/-- An entry, as a value. -/
abbrev entV (x : S97) : Value := .agg #[.int .i64 x.f0, .string x.f1, .int .i64 x.f2, .int .i64 x.f3]
/-- Where a key's way comes to, step by step. -/
def wayAt (l : List S97) (hd : Int) (i : Nat) : Int × S97 := ((hd + i) % l.length, rd_T97 l ((hd + i) % l.length))
theorem home_range {key : ByteArray} {n hd : Int} (h : probe_Home.f key n = some hd) (hn : 1 ≤ n) (hn2 : n ≤ 9223372036854775807) : 0 ≤ hd ∧ hd < n := by
  unfold probe_Home.f at h
  rw [if_neg (by omega)] at h
  obtain ⟨t, ht, h⟩ := Option.bind_eq_some_iff.mp h
  split at h
  · simp at h
  · rename_i hz
    obtain rfl := Option.some.inj h
    have hw : IntKind.u64.wrap n = n := by simp [IntKind.wrap, IntKind.bits, IntKind.signed]; omega
    have ht0 : 0 ≤ t ∧ t < 18446744073709551616 := by
      unfold fnv_Sum.f fnv_Join.f at ht
      split at ht
      · obtain rfl := Option.some.inj ht
        exact hjoin_range _ _ (by decide) (by decide)
      · simp at ht
    rw [hw, Int.tmod_eq_emod_of_nonneg ht0.1]
    have a := Int.emod_nonneg t (b := n) (by omega)
    have b := Int.emod_lt_of_pos t (b := n) (by omega)
    unfold wrap64
    omega

set_option maxRecDepth 100000 in
set_option maxHeartbeats 4000000 in
theorem way1_in (n : Nat) (hn : 1 ≤ n) (y Bk Bt n₀ : Nat) (A : Option Addr) (c : Nat) (l : List S97) (key : ByteArray) (hl : l.length ≤ 1000000) (hd : Int) (hh : probe_Home.f key l.length = some hd)
    (w : World) (hw : w.heap.size = n₀) (hC : Kd.C k97 w A l.length l) (J Jx : List (Int × S97) → World → Prop) (B : Nat) (hJ : AbidesFrom B J)
    (hY : ∀ pre x W, J pre W → pre.length < l.length → YieldAt Fence.wide (n - 1) Tryz.prog y #[.int .i64 x.1, entV x.2] W fun e W' =>
      (e = .returned (.bool true) ∧ J (pre ++ [x]) W' ∧ KpB n₀ (fun a => a = ⟨Bk, 0, none⟩ ∨ a = ⟨Bt, 0, none⟩) W W') ∨ (e = .returned (.bool false) ∧ Jx (pre ++ [x]) W'))
    (W : World) (hB : Below n₀ w W) (hk : W.cell? ⟨Bk, 0, none⟩ = some (.string key)) (ht : W.cell? ⟨Bt, 0, none⟩ = some (.slice A l.length c)) (h0 : J [] W) :
    CallsIn Fence.wide n Tryz.prog 76 #[.func (.yield y) #[] #[], .pointer (some ⟨Bk, 0, none⟩), .pointer (some ⟨Bt, 0, none⟩)] W fun e W' => (∃ v, e = .returned v) ∧
      ((∃ ys, ys = upto (wayAt l hd) l.length ∧ J ys W') ∨ (∃ pre, (∃ k, k ≤ l.length ∧ pre = upto (wayAt l hd) k) ∧ Jx pre W')) := by
  have hro : Fence.wide.round = none := rfl
  refine callsIn_of_wp Tryz.func76 rfl trivial ?_ hro
  simp only [Tryz.ntmps76, List.size_toArray, List.length_cons, List.length_nil, Nat.reduceAdd, Nat.reduceSub, Array.replicate_succ, Array.replicate_zero, List.push_toArray, List.append_toArray, List.nil_append, List.cons_append]
  gi_wp2_with (refine ⟨trivial, ?_⟩; gi_at_call 77; refine (callsIn_wide.2 (probe_Home.calls key l.length hd _ hh)).mono ?_; rintro e w1 ⟨rfl, hb1⟩; have hk1 := cell_kept hk (Hand.below_grown hb1) (fun r e => by cases e); have ht1 := cell_kept ht (Hand.below_grown hb1) (fun r e => by cases e))
  have hK0 : KpB n₀ (fun a => a = ⟨Bk, 0, none⟩ ∨ a = ⟨Bt, 0, none⟩) w1 w1 := KpB.refl _ _ _
  have hJ1 : J [] w1 := hJ _ _ _ none h0 (Hand.below_grown hb1) (fun r e => by cases e)
  have hB1 : Below n₀ w w1 := hB.trans (hb1.mono (by have := hB.size; omega))
  gi_loopw [13] (fun i wr => ∃ k : Nat, k ≤ l.length ∧ i = .int .i64 k ∧ J (upto (wayAt l hd) k) wr ∧ KpB n₀ (fun a => a = ⟨Bk, 0, none⟩ ∨ a = ⟨Bt, 0, none⟩) w1 wr)
    (fun i _ => l.length - (intOf i).toNat)
  case atStart => exact ⟨0, Nat.zero_le _, rfl, hJ1, hK0⟩
  case round =>
    obtain ⟨k, hk', rfl, hJs, hnx⟩ := hrel
    have htr : wr.cell? ⟨Bt, 0, none⟩ = some (.slice A l.length c) := hnx.2 _ _ (.inr rfl) ht1
    have hBr : Below w.heap.size w wr := by rw [hw]; exact hB1.trans hnx.1
    have hCr := Kd.C_below hC hBr
    clear hk ht hk1 ht1 hB hB1 hK0 hJ1 hBr
    by_cases hlt : k < l.length
    · obtain ⟨hr0, hr1⟩ := home_range hh (by omega) (by omega)
      obtain ⟨m, rfl⟩ := Int.eq_ofNat_of_zero_le hr0
      obtain ⟨fn, tmps, assign, body, hy, hR⟩ := hY _ (wayAt l m k) wr hJs (by rw [upto_length]; exact hlt)
      have hne : ¬ (l = []) := fun e => by rw [e] at hlt; simp at hlt
      obtain ⟨j, hj⟩ : ∃ j : Int, ((m : Int) + k) % (l.length : Int) = j := ⟨_, rfl⟩
      have hj0 : 0 ≤ j := by rw [← hj]; exact Int.emod_nonneg _ (by omega)
      have hj1 : j < l.length := by rw [← hj]; exact Int.emod_lt_of_pos _ (by omega)
      dsimp only [wayAt] at hy
      rw [hj] at hy
      obtain ⟨ad, hA, c0, c1, c2, c3⟩ := at_T97 hCr j hj0 hj1
      subst hA
      gi_wp2
      refine hR.mono ?_
      rintro e W3 (⟨rfl, hJ3, hk3⟩ | ⟨rfl, hJx3⟩)
      · gi_wp2
        go_roundw
        case rel => exact ⟨k + 1, by omega, by simp, by rw [upto_succ]; exact hJ3, kp_t hnx hk3⟩
        case measure => simp [intOf]; omega
      · gi_wp2
        refine bodyPost_ret (results_none rfl _ _ _) rfl ?_
        exact ⟨⟨_, rfl⟩, .inr ⟨_, ⟨k + 1, by omega, (upto_succ _ _).symm⟩, hJx3⟩⟩
    · obtain rfl : k = l.length := by omega
      gi_wp2
      go_end0
      exact ⟨⟨_, rfl⟩, .inl ⟨_, rfl, hJs⟩⟩

set_option maxHeartbeats 1000000 in
theorem way_any (A : Option Addr) (n c : Nat) (key : ByteArray) (w : World) :
    Calls Tryz.prog 64 #[.slice A n c, .string key] w fun e w' => e = .returned (.func (.func 76) #[] #[.pointer (some ⟨w.heap.size + 1, 0, none⟩), .pointer (some ⟨w.heap.size, 0, none⟩)]) ∧ w' = (w.alloc (.cells #[.slice A n c] 43)).alloc (.cells #[.string key] 9) := by
  go_enter Tryz.func64, Tryz.ntmps64
  go_wp2
  go_ret
  exact ⟨rfl, rfl⟩

theorem way_stops (n : Nat) (hn : 1 ≤ n) (Bk Bt n₀ : Nat) (A : Option Addr) (c : Nat) (l : List S97) (key : ByteArray) (hl : l.length ≤ 1000000) (hd : Int) (hh : probe_Home.f key l.length = some hd)
    (w W : World) (hw : w.heap.size = n₀) (hC : Kd.C k97 w A l.length l) (hB : Below n₀ w W) (hBk : Bk < W.heap.size) (hBt : Bt < W.heap.size) (hk : W.cell? ⟨Bk, 0, none⟩ = some (.string key)) (ht : W.cell? ⟨Bt, 0, none⟩ = some (.slice A l.length c)) :
    SeqStopsK Fence.wide n Tryz.prog 76 #[.pointer (some ⟨Bk, 0, none⟩), .pointer (some ⟨Bt, 0, none⟩)] (fun x : Int × S97 => #[.int .i64 x.1, entV x.2]) (KpB n₀ (fun a => a = ⟨Bk, 0, none⟩ ∨ a = ⟨Bt, 0, none⟩)) (fun ys => ys = upto (wayAt l hd) l.length) (fun pre => ∃ k, k ≤ l.length ∧ pre = upto (wayAt l hd) k) l.length W := fun y J Jx W' hW hJ _ hY h0 =>
  way1_in n hn y Bk Bt n₀ A c l key hl hd hh w hw hC J Jx _ hJ hY W' (hB.trans (hW.mono (by have := hB.size; omega))) ((hW.cell (p := ⟨Bk, 0, none⟩) hBk).trans hk) ((hW.cell (p := ⟨Bt, 0, none⟩) hBt).trans ht) h0
end

-- NOT PRINTED: function 78 (flows_table_live_1)

/-! ### flows_table_live: function 65 -/
section
open Go.Shelf Go.Proofs.YtbbgeobnjdgpfaaGreat.Hand
attribute [local go_sem] Oper.semAt_some
/-- The first k places of a table that hold a flow, with what stands there; of all places. -/
def liveUpto (l : List S97) (k : Nat) : List (Int × S97) := (upto (fun i => ((i : Int), rd_T97 l i)) k).filter fun p => p.2.f0 == 1
def liveL (l : List S97) : List (Int × S97) := liveUpto l l.length
abbrev LiveP (l : List S97) : Type := { p : Int × S97 // p ∈ liveL l }
theorem liveUpto_succ (l : List S97) (k : Nat) : liveUpto l (k + 1) = liveUpto l k ++ (if ((rd_T97 l k).f0 == 1) = true then [((k : Int), rd_T97 l k)] else []) := by
  unfold liveUpto
  rw [upto_succ, List.filter_append]
  congr 1
  simp only [List.filter_cons, List.filter_nil]
theorem liveUpto_le (l : List S97) (k : Nat) : (liveUpto l k).length ≤ k := by
  have := List.length_filter_le (fun p : Int × S97 => p.2.f0 == 1) (upto (fun i => ((i : Int), rd_T97 l i)) k)
  rw [upto_length] at this
  exact this
theorem liveUpto_prefix (l : List S97) {k n : Nat} (h : k ≤ n) : liveUpto l k <+: liveUpto l n := by
  obtain ⟨rest, hr⟩ := upto_split (fun i => ((i : Int), rd_T97 l i)) h
  unfold liveUpto
  rw [hr, List.filter_append]
  exact List.prefix_append _ _
theorem live_mem (l : List S97) {k : Nat} (h : k < l.length) (hv : ((rd_T97 l k).f0 == 1) = true) : ((k : Int), rd_T97 l k) ∈ liveL l :=
  List.mem_filter.2 ⟨mem_upto.2 ⟨k, h, rfl⟩, hv⟩

set_option maxRecDepth 100000 in
set_option maxHeartbeats 4000000 in
theorem live1_in (n : Nat) (hn : 1 ≤ n) (y Bt n₀ : Nat) (A : Option Addr) (c : Nat) (l : List S97) (hl : l.length ≤ 1000000)
    (w : World) (hw : w.heap.size = n₀) (hC : Kd.C k97 w A l.length l) (J Jx : List (LiveP l) → World → Prop) (B : Nat) (hJ : AbidesFrom B J)
    (hY : ∀ pre x W, J pre W → pre.length < l.length → YieldAt Fence.wide (n - 1) Tryz.prog y #[.int .i64 x.1.1, entV x.1.2] W fun e W' =>
      (e = .returned (.bool true) ∧ J (pre ++ [x]) W' ∧ Below n₀ W W') ∨ (e = .returned (.bool false) ∧ Jx (pre ++ [x]) W'))
    (W : World) (hB : Below n₀ w W) (ht : W.cell? ⟨Bt, 0, none⟩ = some (.slice A l.length c)) (h0 : J [] W) :
    CallsIn Fence.wide n Tryz.prog 78 #[.func (.yield y) #[] #[], .pointer (some ⟨Bt, 0, none⟩)] W fun e W' => (∃ v, e = .returned v) ∧
      ((∃ ys : List (LiveP l), ys.map Subtype.val = liveL l ∧ J ys W') ∨ (∃ pre : List (LiveP l), (pre.map Subtype.val <+: liveL l) ∧ Jx pre W')) := by
  have hro : Fence.wide.round = none := rfl
  refine callsIn_of_wp Tryz.func78 rfl trivial ?_ hro
  simp only [Tryz.ntmps78, List.size_toArray, List.length_cons, List.length_nil, Nat.reduceAdd, Nat.reduceSub, Array.replicate_succ, Array.replicate_zero, List.push_toArray, List.append_toArray, List.nil_append, List.cons_append]
  gi_wp2
  gi_loopw [7] (fun i wr => ∃ (k : Nat) (pre : List (LiveP l)), k ≤ l.length ∧ i = .int .i64 k ∧ pre.map Subtype.val = liveUpto l k ∧ J pre wr ∧ Below n₀ W wr)
    (fun i _ => l.length - (intOf i).toNat)
  case atStart => exact ⟨0, [], Nat.zero_le _, rfl, rfl, h0, Below.refl _ _⟩
  case round =>
    obtain ⟨k, pre, hk', rfl, hpre, hJs, hnx⟩ := hrel
    have hBr : Below w.heap.size w wr := by rw [hw]; exact hB.trans hnx
    have hCr := Kd.C_below hC hBr
    have hle := liveUpto_le l k
    have hlen : pre.length = (liveUpto l k).length := by rw [← hpre]; simp
    have HP := Lib.hid hpre
    have HL := Lib.hid hlen
    have hn0 : n₀ ≤ wr.heap.size := by have := hBr.size; omega
    clear hpre hlen hB hBr ht
    by_cases hlt : k < l.length
    · obtain ⟨ad, hA, c0, c1, c2, c3⟩ := at_T97 hCr k (by omega) (by omega)
      subst hA
      have hsucc := liveUpto_succ l k
      have hmem := live_mem l hlt
      obtain ⟨x, hx⟩ : ∃ x, rd_T97 l k = x := ⟨_, rfl⟩
      rw [hx] at c0 c1 c2 c3 hsucc hmem
      simp only [Int.toNat_natCast] at c0 c1 c2 c3
      have HS := Lib.hid hsucc
      have HM := Lib.hid hmem
      have hJ2 : J pre (wr.alloc (.cells #[.int .i64 x.f0, .string x.f1, .int .i64 x.f2, .int .i64 x.f3] 97)) := hJ _ _ _ none hJs (World.grownBy_alloc wr _ none) (fun r e => by cases e)
      have hB2 : Below n₀ W (wr.alloc (.cells #[.int .i64 x.f0, .string x.f1, .int .i64 x.f2, .int .i64 x.f3] 97)) := hnx.alloc hn0 _
      have HB2 := Lib.hid hB2
      have HC := Lib.hid hC
      clear hx hCr hsucc hmem hC hnx hB2 hJs
      cases hv : x.f0 == 1
      · rw [hv] at HS
        have q : (x.f0 == 1) = false := hv
        have HV := Lib.hid hv
        clear hv
        gi_wp2
        refine ⟨fun _ h => (by cases h), ?_⟩
        gi_wp2
        go_roundw
        case rel => exact ⟨k + 1, pre, by omega, by simp, by rw [HP.out, HS.out]; simp, hJ2, HB2.out⟩
        case measure => simp [intOf]; omega
      · rw [hv] at HS HM
        obtain ⟨x2, hx2⟩ : ∃ x2 : LiveP l, x2.1 = ((k : Int), x) := ⟨⟨_, HM.out rfl⟩, rfl⟩
        obtain ⟨fn, tmps, assign, body, hy, hR⟩ := hY pre x2 _ hJ2 (by have := HL.out; omega)
        rw [hx2] at hy
        dsimp only at hy
        have q : (x.f0 == 1) = true := hv
        have HX := Lib.hid hx2
        clear hv hx2 hJ2
        gi_wp2
        refine hR.mono ?_
        rintro e W3 (⟨rfl, hJ3, hk3⟩ | ⟨rfl, hJx3⟩)
        · gi_wp2
          go_roundw
          case rel => exact ⟨k + 1, pre ++ [x2], by omega, by simp, by rw [List.map_append, HP.out, HS.out]; simp [HX.out], hJ3, HB2.out.trans hk3⟩
          case measure => simp [intOf]; omega
        · gi_wp2
          refine bodyPost_ret (results_none rfl _ _ _) rfl ?_
          refine ⟨⟨_, rfl⟩, .inr ⟨pre ++ [x2], ?_, hJx3⟩⟩
          have e : (pre ++ [x2]).map Subtype.val = liveUpto l (k + 1) := by rw [List.map_append, HP.out, HS.out]; simp [HX.out]
          rw [e]
          exact liveUpto_prefix l hlt
    · obtain rfl : k = l.length := by omega
      gi_wp2
      go_end0
      exact ⟨⟨_, rfl⟩, .inl ⟨pre, HP.out, hJs⟩⟩

set_option maxHeartbeats 1000000 in
theorem live_any (A : Option Addr) (n c : Nat) (w : World) :
    Calls Tryz.prog 65 #[.slice A n c] w fun e w' => e = .returned (.func (.func 78) #[] #[.pointer (some ⟨w.heap.size, 0, none⟩)]) ∧ w' = w.alloc (.cells #[.slice A n c] 100) := by
  go_enter Tryz.func65, Tryz.ntmps65
  go_wp2
  go_ret
  exact ⟨rfl, rfl⟩

theorem live_stops (n : Nat) (hn : 1 ≤ n) (Bt n₀ : Nat) (A : Option Addr) (c : Nat) (l : List S97) (hl : l.length ≤ 1000000)
    (w W : World) (hw : w.heap.size = n₀) (hC : Kd.C k97 w A l.length l) (hB : Below n₀ w W) (hBt : Bt < W.heap.size) (ht : W.cell? ⟨Bt, 0, none⟩ = some (.slice A l.length c)) :
    SeqStopsK Fence.wide n Tryz.prog 78 #[.pointer (some ⟨Bt, 0, none⟩)] (fun x : LiveP l => #[.int .i64 x.1.1, entV x.1.2]) (Below n₀) (fun ys => ys.map Subtype.val = liveL l) (fun pre => pre.map Subtype.val <+: liveL l) l.length W := fun y J Jx W' hW hJ _ hY h0 =>
  live1_in n hn y Bt n₀ A c l hl w hw hC J Jx _ hJ hY W' (hB.trans (hW.mono (by have := hB.size; omega))) ((hW.cell (p := ⟨Bt, 0, none⟩) hBt).trans ht) h0
end

/-! ### flows_Keys: function 53 -/
section
open Go.Shelf Go.Proofs.YtbbgeobnjdgpfaaGreat.Hand
attribute [local go_sem] Oper.semAt_some
def flows_Keys.f (l0 : List S97) : Option (List ByteArray) := if l0.length ≤ 1000000 then some ((liveL l0).map fun p => p.2.f1) else none
theorem infoKeys : (Tryz.prog.info? 9).map (fun i => (i.zero, i.size, i.bytes)) = some (some (.string ⟨#[]⟩), 1, 16) := by kernel_rfl
def keysOf {l : List S97} (pre : List (LiveP l)) : List Value := pre.map fun p => Value.string p.1.2.f1

set_option maxRecDepth 100000 in
set_option maxHeartbeats 8000000 in
theorem Keys_any (A : Option Addr) (c : Nat) (l : List S97) (hl : l.length ≤ 1000000) (w : World) (hC : Kd.C k97 w A l.length l) :
    Calls Tryz.prog 53 #[.slice A l.length c] w fun e W' => ∃ v, e = .returned v ∧ Kd.R Kd.string 9 W' w.heap.size (fun _ => True) v ((liveL l).map fun p => p.2.f1) ∧ Below w.heap.size w W' := by
  refine (callsIn_wide (n := 6)).1 ?_
  have hro : Fence.wide.round = none := rfl
  obtain ⟨i0, hi, hz0, hz1, hz2⟩ := info_parts infoKeys
  refine callsIn_of_wp_marks Tryz.func53 rfl trivial ?_ hro
  simp only [Tryz.ntmps53, List.size_toArray, List.length_cons, List.length_nil, Nat.reduceAdd, Nat.reduceSub, Array.replicate_succ, Array.replicate_zero, List.push_toArray, List.append_toArray, List.nil_append, List.cons_append]
  gi_wp2_with (refine ⟨trivial, ?_⟩; gi_at_call 65; refine (callsIn_wide.2 (live_any _ _ _ _)).mono ?_; rintro e w' ⟨rfl, rfl⟩)
  have b0 := Boxed.new w 48 (.slice none 0 0)
  have b2 := Blk.new (w.alloc (.cells #[.slice none 0 0] 48)) 100 [.slice A l.length c]
  have hB0 : Below w.heap.size w ((w.alloc (.cells #[.slice none 0 0] 48)).alloc (.cells #[.slice A l.length c] 100)) := ((Below.refl _ w).alloc (Nat.le_refl _) _).alloc (by simp) _
  replace b0 := b0.alloc (.cells #[.slice A l.length c] 100)
  simp only [World.size_alloc] at b0 b2
  obtain ⟨W0, hW0⟩ : ∃ W0, ((w.alloc (.cells #[.slice none 0 0] 48)).alloc (.cells #[.slice A l.length c] 100)) = W0 := ⟨_, rfl⟩
  rw [hW0] at hB0 ⊢
  replace b0 : Boxed W0 w.heap.size 48 (.slice none 0 0) := by rw [← hW0]; exact b0
  replace b2 : Blk W0 (w.heap.size + 1) 100 [.slice A l.length c] := by rw [← hW0]; exact b2
  clear hW0
  refine wpIn_rangeFunc_ownH hro (by omega) (gf := 78) (lb := #[.pointer (some ⟨w.heap.size + 1, 0, none⟩)]) rfl trivial (enters_of Tryz.func78 (by kernel_rfl) rfl)
    (live_stops (6 - 1) (by omega) (w.heap.size + 1) w.heap.size A c l hl w W0 rfl hC hB0 b2.lt (by rw [b2.cell]; rfl)) (fun h k => h.trans k) (fun W L o o' hL h1 h2 h3 => belowK_b (w := W0) hB0.size W L o o' hL h1 h2 h3) (Below.refl _ _) (fun _ => rfl)
    (fun pre W => (∃ v, Boxed W w.heap.size 48 v ∧ W.ownsRow w.heap.size 9 1 v (keysOf pre).length (keysOf pre) ∧ True) ∧ Below w.heap.size w W)
    (fun _ _ _ => False)
    (OwnFrom.and (Own.from (holdsRow_own w.heap.size w.heap.size 48 9 1 (fun pre => (keysOf pre).length) (fun pre => keysOf pre) (fun pre v => True)) _) (ownFrom_below (Nat.le_refl _) hB0.size))
    (fun _ _ _ _ _ hs _ _ => hs)
    ⟨⟨_, b0, World.ownsRow_nil _ _ _ _, trivial⟩, hB0⟩
    (fun x a' W => ∃ Bx, Blk W Bx 97 [.int .i64 x.1.2.f0, .string x.1.2.f1, .int .i64 x.1.2.f2, .int .i64 x.1.2.f3] ∧ a' = { tmps := #[.slice A l.length c, undef, .slice none 0 0, .pointer (some ⟨w.heap.size, 0, none⟩), undef, .pointer (some ⟨Bx, 0, none⟩), .slice A l.length c, .func (.func 78) #[] #[.pointer (some ⟨w.heap.size + 1, 0, none⟩)], .int .i64 x.1.1, entV x.1.2, undef, undef, undef, undef, undef, undef], defers := [] })
    (fun x a' s W W' row ⟨Bx, h2, h3⟩ hg hr => ⟨Bx, blk_ownFrom (β := Unit) W0.heap.size _ _ (fun _ => _) () W W' row h2 hg hr, h3⟩) ?assign ?body ?done ?stop
  case assign =>
    rintro y pre x W K ⟨⟨v, hv, hrow, _⟩, hB⟩ hK
    gi_wp2
    exact hK _ _ ((KeepsOthers.alloc _ _).from _) ((Below.refl _ _).alloc hB.size _) ⟨⟨v, hv.alloc _, hrow.alloc _, trivial⟩, hB.alloc hB.size _⟩ ⟨_, Blk.new W 97 [.int .i64 x.1.2.f0, .string x.1.2.f1, .int .i64 x.1.2.f2, .int .i64 x.1.2.f3], rfl⟩
  case body =>
    rintro y pre x a' W hy ⟨r, hr⟩ ⟨⟨v, hv, hrow, _⟩, hB⟩ ⟨Bx, cx, rfl⟩ hlt
    have hc := hv.cell
    have e1 : W.cell? ⟨Bx, 1, none⟩ = some (.string x.1.2.f1) := cx.cell 1
    have hpl : (keysOf pre).length = pre.length := by simp [keysOf]
    have hmx : (1000000 : Nat) < maxLen := by decide
    have HPL := Lib.hid hpl
    clear hpl
    gi_wp2_with (gi_at_builtin; refine wpListIn_append_own _ rfl _ _ 48 rfl w.heap.size 9 i0 (.string ⟨#[]⟩) 1 16 Tryz.underlying48 hi hz0 hz1 hz2 rfl (by decide) _ _ _ rfl (hrow.alloc _) ⟨W.heap.size, 0, none⟩ 1 1 [.string x.1.2.f1] rfl rfl (cell_one_new _ _ _) (by simp [Value.oneCell']) (by have := HPL.out; omega) (by have := HPL.out; omega) (by have := hB.size; simp; omega) ?_; intro v' w1 hown' hgrow _; obtain ⟨g', cap', rfl⟩ := ownsRow_succ hown'; obtain ⟨hv1, hv2, hr2, hk2, hb2⟩ := hv.appended (by decide) hrow hB.size (Nat.le_refl _) hown' hgrow; have hc1 := hv1.cell; have hf1 := hv1.frozen)
    have ek : keysOf (pre ++ [x]) = keysOf pre ++ [.string x.1.2.f1] := by simp [keysOf]
    exact ⟨hk2.from _, hb2, ⟨_, hv2, by rw [ek]; simpa using hr2, trivial⟩, hB.trans hb2⟩
  case done =>
    rintro D ys W hD hys ⟨⟨v, hv, hrow, _⟩, hB⟩ hK
    have HY := Lib.hid hys
    clear hys
    have hc := hv.cell
    gi_wp2
    refine ⟨by simp, .inl ⟨_, _, rfl, run_takeDeferred hK, ?_⟩⟩
    have ek : keysOf ys = encs Value.string ((liveL l).map fun p => p.2.f1) := by
      rw [← HY.out]; simp [keysOf, encs, Function.comp_def]
    have hr2 := ownsRow_putObj hrow (.deferred none) hK rfl
    rw [ek] at hr2
    refine ⟨_, results_tmp rfl _ _ _, v, rfl, Kd.R_of_own (by rw [encs_length] at hr2; exact hr2) (fun _ _ => trivial), hB.trans (belowK_b (w := w) (Nat.le_refl _) W D _ _ (Nat.le_trans hB0.size hD) hK rfl rfl)⟩
  case stop =>
    rintro D c pre W _ _ h _
    exact h.elim

theorem flows_Keys.calls (A0 : Option Addr) (c0 : Nat) (l0 : List S97) (r : List ByteArray) (w : World) (hr0 : Kd.C k97 w A0 l0.length l0) (hc0 : l0.length ≤ c0) (h : flows_Keys.f l0 = some r) :
    Calls Tryz.prog 53 #[.slice A0 l0.length c0] w fun e w' => ∃ v0_ : Value, e = .returned v0_ ∧ Kd.R Kd.string 9 w' w.heap.size (fun _ => True) v0_ r ∧ Below w.heap.size w w' := by
  unfold flows_Keys.f at h
  by_cases hl : l0.length ≤ 1000000
  · rw [if_pos hl] at h
    obtain rfl := Option.some.inj h
    exact Keys_any A0 c0 l0 hl w hr0
  · rw [if_neg hl] at h
    exact absurd h (by simp)
end

-- NOT PRINTED: function 52 (world_World_keys_1)

end Go.Proofs.YtbbgeobnjdgpfaaGreat.P
