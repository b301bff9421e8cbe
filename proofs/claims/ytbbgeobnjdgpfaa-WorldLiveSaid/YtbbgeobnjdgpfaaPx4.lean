/- Each Go function that the laws reach, as a plain function, with the proof that the machine's call comes to what it says; of a law: its row. Made by a program of this seat (wip/hp.py, over the print). -/
import Derived.Test.YtbbgeobnjdgpfaaPx0
import Derived.Test.YtbbgeobnjdgpfaaPx1
import Derived.Test.YtbbgeobnjdgpfaaPx2
import Derived.Test.YtbbgeobnjdgpfaaPx3
namespace Go.Proofs.Ytbbgeobnjdgpfaa.P
open Go.RowKit Go.Proofs.YtbbgeobnjdgpfaaW.PrintWords Go.Proofs.YtbbgeobnjdgpfaaW.PrintLast Go.Proofs.YtbbgeobnjdgpfaaW.PrintMore
attribute [local go_sem] max2_int min2_int max_two min_two max_three min_three max_four min_four   -- for this text's walks alone
set_option linter.unusedVariables false
set_option linter.unusedSimpArgs false

/-! ### gangplankref18_New: function 10 -/
section
open Go.Shelf Go.Proofs.Ytbbgeobnjdgpfaa.Hand
theorem refWorld (W : World) (a c d e : Int) (n x y : Nat) (pins places : Value) : let V := ((((W.alloc (.cells #[.int .i64 a, .int .i64 (n : Int), .int .i64 c, .int .i64 d, .int .i64 e] 23)).alloc (.cells (ints (List.replicate x 0)).toArray 3)).alloc (.cells (ints (List.replicate y 0)).toArray 3)).alloc (.cells #[.int .i64 a, .int .i64 (n : Int), .int .i64 c, .int .i64 d, .int .i64 e, .int .i64 0, .int .i64 0, pins, .slice none 0 0, .slice none 0 0, .slice none 0 0, .slice none 0 0, places, .int .i64 0] 43)).drew
    Blk V W.heap.size 23 [.int .i64 a, .int .i64 (n : Int), .int .i64 c, .int .i64 d, .int .i64 e] ∧ Blk V (W.heap.size + 1 + 1 + 1) 43 [.int .i64 a, .int .i64 (n : Int), .int .i64 c, .int .i64 d, .int .i64 e, .int .i64 0, .int .i64 0, pins, .slice none 0 0, .slice none 0 0, .slice none 0 0, .slice none 0 0, places, .int .i64 0] ∧ Below W.heap.size W V ∧ V.heap.size = W.heap.size + 1 + 1 + 1 + 1 := by
  intro V
  have h0 := ((Blk.new W 23 [.int .i64 a, .int .i64 (n : Int), .int .i64 c, .int .i64 d, .int .i64 e]).alloc (.cells (ints (List.replicate x 0)).toArray 3)).alloc (.cells (ints (List.replicate y 0)).toArray 3)
  have h1 := Blk.new (((W.alloc (.cells #[.int .i64 a, .int .i64 (n : Int), .int .i64 c, .int .i64 d, .int .i64 e] 23)).alloc (.cells (ints (List.replicate x 0)).toArray 3)).alloc (.cells (ints (List.replicate y 0)).toArray 3)) 43 [.int .i64 a, .int .i64 (n : Int), .int .i64 c, .int .i64 d, .int .i64 e, .int .i64 0, .int .i64 0, pins, .slice none 0 0, .slice none 0 0, .slice none 0 0, .slice none 0 0, places, .int .i64 0]
  have hb := below_drew (below_alloc (below_alloc (below_alloc (below_alloc (Below.refl _ W) (.cells #[.int .i64 a, .int .i64 (n : Int), .int .i64 c, .int .i64 d, .int .i64 e] 23)) (.cells (ints (List.replicate x 0)).toArray 3)) (.cells (ints (List.replicate y 0)).toArray 3)) (.cells #[.int .i64 a, .int .i64 (n : Int), .int .i64 c, .int .i64 d, .int .i64 e, .int .i64 0, .int .i64 0, pins, .slice none 0 0, .slice none 0 0, .slice none 0 0, .slice none 0 0, places, .int .i64 0] 43))
  have hs : ((((W.alloc (.cells #[.int .i64 a, .int .i64 (n : Int), .int .i64 c, .int .i64 d, .int .i64 e] 23)).alloc (.cells (ints (List.replicate x 0)).toArray 3)).alloc (.cells (ints (List.replicate y 0)).toArray 3)).heap.size) = W.heap.size + 1 + 1 + 1 := by simp
  rw [hs] at h1
  refine ⟨h0.alloc _, h1, hb, ?_⟩
  show (World.alloc _ _).heap.size = _
  rw [World.size_alloc, hs]
set_option maxRecDepth 100000 in
set_option maxHeartbeats 16000000 in
theorem ref18New_any (a c d e : Int) (n m n1 : Nat) (sl : List S151) (kl : List S153) (ha : wrap64 (a + 1) = (n1 : Int)) (hn1 : n1 ≤ 1024) (hn16 : n ≤ 16) (hc : gangplankref12_New.f c = some (List.replicate m z95)) (hs : gangplankref16_New.f e = some sl) (hk : gangplankref15_New.f e = some kl) (W : World) :
    Calls Try.prog 10 #[.agg #[.int .i64 a, .int .i64 (n : Int), .int .i64 c, .int .i64 d, .int .i64 e]] W fun r W' => ∃ g N pins places lv tv sv kv, r = .returned (.pointer (some ⟨g, 0, none⟩)) ∧ (Blk W' g 43 [.int .i64 a, .int .i64 (n : Int), .int .i64 c, .int .i64 d, .int .i64 e, .int .i64 0, .int .i64 0, pins, lv, sv, kv, tv, places, .int .i64 0]) ∧ Kd.R (Kd.slice 95 k95) 56 W' N (fun _ => True) tv (List.replicate n (List.replicate m z95)) ∧ Kd.R (Kd.int .i64) 3 W' N (fun _ => True) lv (List.replicate n (-1)) ∧ W.heap.size ≤ g ∧ W.heap.size ≤ N ∧ Below W.heap.size W W' := by
  have r1 := fun w => run_make_int n1 hn1 w
  have r2 := fun w => run_make_int n (by omega) w
  have hwa : IntKind.i64.wrap (a + 1) = (n1 : Int) := (i64_w _).trans ha
  have b0 := Blk.new W 23 [.int .i64 a, .int .i64 (n : Int), .int .i64 c, .int .i64 d, .int .i64 e]
  have HB0 := Lib.hid b0
  have HC := Lib.hid hc
  have HS := Lib.hid hs
  have HKE := Lib.hid hk
  have H16 := Lib.hid hn16
  have HK := Lib.hid (show ∀ V : World, Blk V W.heap.size 23 [.int .i64 a, .int .i64 (n : Int), .int .i64 c, .int .i64 d, .int .i64 e] → V.cell? ⟨W.heap.size, 0, none⟩ = some (.int .i64 a) ∧ V.cell? ⟨W.heap.size, 1, none⟩ = some (.int .i64 (n : Int)) ∧ V.cell? ⟨W.heap.size, 2, none⟩ = some (.int .i64 c) ∧ V.cell? ⟨W.heap.size, 3, none⟩ = some (.int .i64 d) ∧ V.cell? ⟨W.heap.size, 4, none⟩ = some (.int .i64 e) from fun V h => ⟨h.cell 0, h.cell 1, h.cell 2, h.cell 3, h.cell 4⟩)
  clear b0 hc hs hk hn16 hn1
  go_enter Try.func10, Try.ntmps10
  go_wp2
  go_region_held3 (fun w' => w'.cell? ⟨W.heap.size, 0, none⟩ = some (.int .i64 a) ∧ w'.cell? ⟨W.heap.size, 1, none⟩ = some (.int .i64 (n : Int)) ∧ w'.cell? ⟨W.heap.size, 2, none⟩ = some (.int .i64 c) ∧ w'.cell? ⟨W.heap.size, 3, none⟩ = some (.int .i64 d) ∧ w'.cell? ⟨W.heap.size, 4, none⟩ = some (.int .i64 e))
    (exact HK.out _ (by (repeat (first | with_reducible exact HB0.out | with_reducible apply blkDrewW | with_reducible apply Blk.alloc))))
    (fail)
  · have hf := refWorld W a c d e n n1 n (.slice (some ⟨W.heap.size + 1, 0, none⟩) n1 n1) (.slice (some ⟨W.heap.size + 1 + 1, 0, none⟩) n n)
    obtain ⟨Wg, hWg⟩ : ∃ Wg, ((((W.alloc (.cells #[.int .i64 a, .int .i64 (n : Int), .int .i64 c, .int .i64 d, .int .i64 e] 23)).alloc (.cells (ints (List.replicate n1 0)).toArray 3)).alloc (.cells (ints (List.replicate n 0)).toArray 3)).alloc (.cells #[.int .i64 a, .int .i64 (n : Int), .int .i64 c, .int .i64 d, .int .i64 e, .int .i64 0, .int .i64 0, .slice (some ⟨W.heap.size + 1, 0, none⟩) n1 n1, .slice none 0 0, .slice none 0 0, .slice none 0 0, .slice none 0 0, .slice (some ⟨W.heap.size + 1 + 1, 0, none⟩) n n, .int .i64 0] 43)).drew = Wg := ⟨_, rfl⟩
    dsimp only at hf
    rw [hWg] at hf ⊢
    obtain ⟨fB, fG, fb, fs⟩ := hf
    have hNE : ¬ ((W.heap.size) = (W.heap.size + 1 + 1 + 1)) := by omega
    have HNE := Lib.hid hNE
    have HB := Lib.hid fB
    have HP := Lib.hid fG
    have HFB := Lib.hid fb
    have HFS := Lib.hid fs
    clear hWg fB fG fb fs hNE r1 r2 HB0
    go_wp2
    go_loopw [4] (fun i wr => ∃ k : Nat, k ≤ n ∧ i = .int .i64 k ∧ ∃ lv tv, Blk wr (W.heap.size + 1 + 1 + 1) 43 [.int .i64 a, .int .i64 (n : Int), .int .i64 c, .int .i64 d, .int .i64 e, .int .i64 0, .int .i64 0, .slice (some ⟨W.heap.size + 1, 0, none⟩) n1 n1, lv, .slice none 0 0, .slice none 0 0, tv, .slice (some ⟨W.heap.size + 1 + 1, 0, none⟩) n n, .int .i64 0] ∧ Kd.R (Kd.int .i64) 3 wr Wg.heap.size (fun _ => True) lv (List.replicate k (-1)) ∧ Kd.R (Kd.slice 95 k95) 56 wr Wg.heap.size (fun _ => True) tv (List.replicate k (List.replicate m z95)) ∧ OnlyP Wg wr (W.heap.size + 1 + 1 + 1)) (fun i _ => n - (intOf i).toNat)
    case atStart => exact ⟨0, Nat.zero_le _, rfl, _, _, HP.out, Kd.R_nil _ _ _ _ _, Kd.R_nil _ _ _ _ _, OnlyP.refl _ _⟩
    case round =>
      obtain ⟨k, hk, rfl, lv, tv, hp, hl, ht, ho⟩ := hrel
      by_cases hlt : k < n
      · have HR := Lib.hid hp
        have HT := Lib.hid ht
        have HL := Lib.hid hl
        have HO := Lib.hid ho
        have BB := Lib.hid (ho.blk HB.out HNE.out)
        clear hp ht hl ho HP HB
        have z1 : wr.cell? ⟨(W.heap.size), 1, none⟩ = some (.int .i64 (n : Int)) := BB.out.cell 1
        have z8 : wr.cell? ⟨(W.heap.size + 1 + 1 + 1), 8, none⟩ = some lv := HR.out.cell 8
        have p1 : decide ((k : Int) < (n : Int)) = true := decide_eq_true (by omega)
        have hw : wrap64 ((k : Int) + 1) = ((k + 1 : Nat) : Int) := by have := H16.out; unfold wrap64; omega
        go_wp2_with (at_builtin; refine Kd.R_append (Kd.int .i64) (w0 := wr) Wg.heap.size rfl (.tmp 25) (.tmp 26) 24 3 (.int .i64 0) 8 rfl Try.underlying24 infoInt rfl (by decide) (by omega) lv (List.replicate k (-1)) (-1) [.int .i64 (-1)] (fun _ => True) (fun _ => False) rfl rfl rfl (fun _ hk => hk.elim) (fun _ _ => trivial) HL.out (Below.refl _ _) HO.out.size (by have := H16.out; rw [List.length_replicate]; omega) ?_; intro pv2 w4 hl2 hb2 hg2 _; obtain ⟨A4, c4, rfl⟩ : ∃ A4 c4, pv2 = .slice A4 (k + 1) c4 := (by have h := Kd.R_slice hl2; rw [List.length_append, List.length_replicate] at h; exact h); have HR4 := Lib.hid (blkGrown HR.out hg2 (Kd.R_ne HL.out HR.out (by decide))); have BB4 := Lib.hid (blkGrown BB.out hg2 (Kd.R_ne HL.out BB.out (by decide))); have HT4 := Lib.hid (Kd.R_over HT.out HL.out (by decide) hg2); have HL4 := Lib.hid hl2; have HO4 := Lib.hid (HO.out.grown hg2 (Kd.R_base HL.out)); clear hl2 hb2 hg2; have z38 : w4.cell? ⟨(W.heap.size + 1 + 1 + 1), 8, none⟩ = some lv := HR4.out.cell 8; have zf8 : w4.frozen? ⟨(W.heap.size + 1 + 1 + 1), 8, none⟩ = false := HR4.out.frozen 8)
        obtain ⟨W5, hW5⟩ : ∃ W5, w4.setCell ⟨(W.heap.size + 1 + 1 + 1), 8, none⟩ (.slice A4 (k + 1) c4) = W5 := ⟨_, rfl⟩
        have n1 := Lib.hid (show Blk W5 (W.heap.size + 1 + 1 + 1) 43 [.int .i64 a, .int .i64 (n : Int), .int .i64 c, .int .i64 d, .int .i64 e, .int .i64 0, .int .i64 0, .slice (some ⟨W.heap.size + 1, 0, none⟩) n1 n1, (.slice A4 (k + 1) c4), .slice none 0 0, .slice none 0 0, tv, .slice (some ⟨W.heap.size + 1 + 1, 0, none⟩) n n, .int .i64 0] from by rw [← hW5]; exact blk_putL HR4.out 8 _)
        have n2 := Lib.hid (show Kd.R (Kd.slice 95 k95) 56 W5 Wg.heap.size (fun _ => True) tv (List.replicate k (List.replicate m z95)) from by rw [← hW5]; exact Kd.R_set HT4.out (show w4.heap[(W.heap.size + 1 + 1 + 1)]? = _ from HR4.out) (by decide) 8 _)
        have n3 := Lib.hid (show Kd.R (Kd.int .i64) 3 W5 Wg.heap.size (fun _ => True) (.slice A4 (k + 1) c4) (List.replicate (k + 1) (-1)) from by rw [← hW5, List.replicate_succ']; exact Kd.R_set HL4.out (show w4.heap[(W.heap.size + 1 + 1 + 1)]? = _ from HR4.out) (by decide) 8 _)
        have n4 := Lib.hid (show OnlyP Wg W5 (W.heap.size + 1 + 1 + 1) from by rw [← hW5]; exact HO4.out.trans (OnlyP.set _ _ _ _))
        have n5 := Lib.hid (show Blk W5 (W.heap.size) 23 [.int .i64 a, .int .i64 (n : Int), .int .i64 c, .int .i64 d, .int .i64 e] from by rw [← hW5]; exact BB4.out.far _ (fun h => HNE.out h.symm) _)
        rw [hW5]
        clear hW5 HR HT HL HO BB HR4 HT4 HL4 HO4 BB4 z38 zf8 z1 z8
        have HR := n1
        have HT := n2
        have HL := n3
        have HO := n4
        have BB := n5
        clear n1 n2 n3 n4 n5
        have z2 : W5.cell? ⟨(W.heap.size), 2, none⟩ = some (.int .i64 c) := BB.out.cell 2
        have z11 : W5.cell? ⟨(W.heap.size + 1 + 1 + 1), 11, none⟩ = some tv := HR.out.cell 11
        refine wp_region_noPanic ?_
        refine start_ (n := 13) (S := fun w' => w'.cell? ⟨(W.heap.size), 2, none⟩ = some (.int .i64 c) ∧ w'.cell? ⟨(W.heap.size + 1 + 1 + 1), 11, none⟩ = some tv) (ds := [12]) #[false, false, false, false, false, false, false, false, false, false, false, false, false] (by kernel_rfl) rfl rfl ⟨z2, z11⟩ (fun hHeld => ?_)
        refine pure_ (i := 0) (N := some 30) (v := ?_) (a' := ?_) #[true, false, false, false, false, false, false, false, false, false, false, false, false] rfl rfl (by kernel_rfl) (fun _ _ _ h => h) (Or.inl ⟨by rfl, ?_⟩) ?_ ?_
        rotate_left
        · intro w'
          go_simp
          with_reducible rfl
        rotate_left
        · simp only [Act.put, List.setIfInBounds_toArray, List.set_cons_zero, List.set_cons_succ, i64_w, i32_w]
          rfl
        refine pure_ (i := 1) (N := some 31) (v := ?_) (a' := ?_) #[true, true, false, false, false, false, false, false, false, false, false, false, false] rfl rfl (by kernel_rfl) (fun _ _ _ h => h) (Or.inl ⟨by rfl, ?_⟩) ?_ ?_
        rotate_left
        · intro w'
          go_simp
          with_reducible rfl
        rotate_left
        · simp only [Act.put, List.setIfInBounds_toArray, List.set_cons_zero, List.set_cons_succ, i64_w, i32_w]
          rfl
        refine pure_ (i := 2) (N := some 32) (v := ?_) (a' := ?_) #[true, true, true, false, false, false, false, false, false, false, false, false, false] rfl rfl (by kernel_rfl) (fun _ _ _ h => h) (Or.inl ⟨by rfl, ?_⟩) ?_ ?_
        rotate_left
        · intro w'
          go_simp
          with_reducible rfl
        rotate_left
        · simp only [Act.put, List.setIfInBounds_toArray, List.set_cons_zero, List.set_cons_succ, i64_w, i32_w]
          rfl
        refine pure_ (i := 3) (N := some 33) (v := ?_) (a' := ?_) #[true, true, true, true, false, false, false, false, false, false, false, false, false] rfl rfl (by kernel_rfl) (fun _ _ _ h => h) (Or.inl ⟨by rfl, ?_⟩) ?_ ?_
        rotate_left
        · intro w'
          go_simp
          with_reducible rfl
        rotate_left
        · simp only [Act.put, List.setIfInBounds_toArray, List.set_cons_zero, List.set_cons_succ, i64_w, i32_w]
          rfl
        refine pure_ (i := 5) (N := some 35) (v := ?_) (a' := ?_) #[true, true, true, true, false, true, false, false, false, false, false, false, false] rfl rfl (by kernel_rfl) (fun _ _ _ h => h) (Or.inl ⟨by rfl, ?_⟩) ?_ ?_
        rotate_left
        · intro w'
          go_simp
          with_reducible rfl
        rotate_left
        · simp only [Act.put, List.setIfInBounds_toArray, List.set_cons_zero, List.set_cons_succ, i64_w, i32_w]
          rfl
        refine take_ (i := 4) (N := some 34) (v := ?_) (a' := ?_) #[true, true, true, true, true, true, false, false, false, false, false, false, false] rfl rfl (by kernel_rfl) (fun _ _ _ h => h) (Or.inl ⟨by rfl, ?_⟩) hHeld ?_ ?_
        rotate_left
        · rintro w' ⟨s0, s1⟩
          go_simp
          with_reducible rfl
        rotate_left
        · simp only [Act.put, List.setIfInBounds_toArray, List.set_cons_zero, List.set_cons_succ, i64_w, i32_w]
          rfl
        refine take_ (i := 6) (N := some 36) (v := ?_) (a' := ?_) #[true, true, true, true, true, true, true, false, false, false, false, false, false] rfl rfl (by kernel_rfl) (fun _ _ _ h => h) (Or.inl ⟨by rfl, ?_⟩) hHeld ?_ ?_
        rotate_left
        · rintro w' ⟨s0, s1⟩
          go_simp
          with_reducible rfl
        rotate_left
        · simp only [Act.put, List.setIfInBounds_toArray, List.set_cons_zero, List.set_cons_succ, i64_w, i32_w]
          rfl
        refine one_ (i := 7) (N := some 37) #[true, true, true, true, true, true, true, true, false, false, false, false, false] rfl rfl (by kernel_rfl) (by decide) (fun K hK => ?_)
        refine goes_ Try.func37 (by kernel_rfl) rfl #[.int .i64 c] (by rfl) rfl rfl (by simp only [List.map_toArray, List.map_cons, List.map_nil]; rfl) ?_
        with_reducible refine (gangplankref12_New.calls c _ _ HC.out).mono ?_
        rintro r w1 ⟨v0, rfl, hv, hb⟩
        refine ⟨_, rfl, ?_⟩
        obtain ⟨A0, c0, rfl⟩ : ∃ A0 c0, v0 = .slice A0 m c0 := (by have h := Kd.R_slice hv; rw [List.length_replicate] at h; exact h)
        have BB1 := Lib.hid (show Blk w1 (W.heap.size) 23 [.int .i64 a, .int .i64 (n : Int), .int .i64 c, .int .i64 d, .int .i64 e] from (blkDrewW BB.out).below hb)
        have HR1 := Lib.hid (show Blk w1 (W.heap.size + 1 + 1 + 1) 43 [.int .i64 a, .int .i64 (n : Int), .int .i64 c, .int .i64 d, .int .i64 e, .int .i64 0, .int .i64 0, .slice (some ⟨W.heap.size + 1, 0, none⟩) n1 n1, (.slice A4 (k + 1) c4), .slice none 0 0, .slice none 0 0, tv, .slice (some ⟨W.heap.size + 1 + 1, 0, none⟩) n n, .int .i64 0] from (blkDrewW HR.out).below hb)
        have HT1 := Lib.hid (Kd.R_below (w := W5.drew) HT.out hb)
        have HL1 := Lib.hid (Kd.R_below (w := W5.drew) HL.out hb)
        have HV1 := Lib.hid (Kd.R_lower (Kd.R_newR hv HT.out) HO.out.size)
        have HO1 := Lib.hid (HO.out.trans ((OnlyP.drew W5 (W.heap.size + 1 + 1 + 1)).trans (.of_below hb)))
        clear hv hb
        refine hK.out _ _ ⟨(BB1.out.cell 2), (HR1.out.cell 11)⟩ (fun hHeld => ?_)
        clear hK K
        refine norm_ (a' := ?_) ?_ ?_
        rotate_left
        · show Act.put _ (some 37) _ = _
          simp only [Act.put, List.setIfInBounds_toArray, List.set_cons_zero, List.set_cons_succ, i64_w, i32_w]
          rfl
        refine one_ (i := 8) (N := some 38) #[true, true, true, true, true, true, true, true, true, false, false, false, false] rfl rfl (by kernel_rfl) (by decide) (fun K hK => ?_)
        refine value_ (w1 := ?_) (v := ?_) (by rfl) rfl ?_ ?_
        rotate_left 2
        · go_simp
          constructor
          · rfl
          · rfl
        refine hK.out _ _ ⟨((BB1.out.alloc _).cell 2), ((HR1.out.alloc _).cell 11)⟩ (fun hHeld => ?_)
        clear hK K
        refine norm_ (a' := ?_) ?_ ?_
        rotate_left
        · show Act.put _ (some 38) _ = _
          simp only [Act.put, List.setIfInBounds_toArray, List.set_cons_zero, List.set_cons_succ, i64_w, i32_w]
          rfl
        refine one_ (i := 9) (N := some 39) #[true, true, true, true, true, true, true, true, true, true, false, false, false] rfl rfl (by kernel_rfl) (by decide) (fun K hK => ?_)
        refine Kd.R_append_step (Kd.slice 95 k95) (w0 := w1) Wg.heap.size (by rfl) (.tmp 34) (.tmp 38) 36 56 (.slice none 0 0) 24 (by rfl) Try.underlying36 infoTab rfl (by decide) (by omega) tv (List.replicate k (List.replicate m z95)) (List.replicate m z95) [.slice A0 m c0] (fun _ => True) _ (by rfl) (by rfl) ⟨_, rfl, HV1.out⟩ (fun _ hk => hk) (fun _ _ => trivial) HT1.out (Below.refl _ _) HO1.out.size (by have := H16.out; rw [List.length_replicate]; omega) ?_
        intro tv2 w2 ht2 hb2 hg2 _
        obtain ⟨A2, c2, rfl⟩ : ∃ A2 c2, tv2 = .slice A2 (k + 1) c2 := (by have h := Kd.R_slice ht2; rw [List.length_append, List.length_replicate] at h; exact h)
        have BB2 := Lib.hid (blkGrown BB1.out hg2 (Kd.R_ne HT1.out BB1.out (by decide)))
        have HR2 := Lib.hid (blkGrown HR1.out hg2 (Kd.R_ne HT1.out HR1.out (by decide)))
        have HT2 := Lib.hid ht2
        have HL2 := Lib.hid (Kd.R_over HL1.out HT1.out (by decide) hg2)
        have HO2 := Lib.hid (HO1.out.grown hg2 (Kd.R_base HT1.out))
        clear ht2 hb2 hg2
        have zf2 : w2.frozen? ⟨(W.heap.size + 1 + 1 + 1), 11, none⟩ = false := HR2.out.frozen 11
        have z89 : w2.cell? ⟨(W.heap.size + 1 + 1 + 1), 11, none⟩ = some tv := HR2.out.cell 11
        refine hK.out _ _ ⟨(BB2.out.cell 2), z89⟩ (fun hHeld => ?_)
        clear hK K
        refine norm_ (a' := ?_) ?_ ?_
        rotate_left
        · show Act.put _ (some 39) _ = _
          simp only [Act.put, List.setIfInBounds_toArray, List.set_cons_zero, List.set_cons_succ, i64_w, i32_w]
          rfl
        refine pure_ (i := 10) (N := some 40) (v := ?_) (a' := ?_) #[true, true, true, true, true, true, true, true, true, true, true, false, false] rfl rfl (by kernel_rfl) (fun _ _ _ h => h) (Or.inl ⟨by rfl, ?_⟩) ?_ ?_
        rotate_left
        · intro w'
          go_simp
          with_reducible rfl
        rotate_left
        · simp only [Act.put, List.setIfInBounds_toArray, List.set_cons_zero, List.set_cons_succ, i64_w, i32_w]
          rfl
        refine pure_ (i := 11) (N := some 41) (v := ?_) (a' := ?_) #[true, true, true, true, true, true, true, true, true, true, true, true, false] rfl rfl (by kernel_rfl) (fun _ _ _ h => h) (Or.inl ⟨by rfl, ?_⟩) ?_ ?_
        rotate_left
        · intro w'
          go_simp
          with_reducible rfl
        rotate_left
        · simp only [Act.put, List.setIfInBounds_toArray, List.set_cons_zero, List.set_cons_succ, i64_w, i32_w]
          rfl
        refine last_ (i := 12) (N := none) #[true, true, true, true, true, true, true, true, true, true, true, true, true] rfl rfl (by kernel_rfl) (by decide) (fun K hK => ?_)
        refine skip_ (w1 := ?_) (by rfl) rfl ?_ ?_
        rotate_left
        · go_simp
          rfl
        refine hK.out _ _ ?_
        clear hK K
        refine done_ (by kernel_rfl) ?_
        refine NoPanic.normal ?_
        obtain ⟨W3, hW3⟩ : ∃ W3, w2.setCell ⟨(W.heap.size + 1 + 1 + 1), 11, none⟩ (.slice A2 (k + 1) c2) = W3 := ⟨_, rfl⟩
        have HR3 := Lib.hid (show Blk W3 (W.heap.size + 1 + 1 + 1) 43 [.int .i64 a, .int .i64 (n : Int), .int .i64 c, .int .i64 d, .int .i64 e, .int .i64 0, .int .i64 0, .slice (some ⟨W.heap.size + 1, 0, none⟩) n1 n1, (.slice A4 (k + 1) c4), .slice none 0 0, .slice none 0 0, (.slice A2 (k + 1) c2), .slice (some ⟨W.heap.size + 1 + 1, 0, none⟩) n n, .int .i64 0] from by rw [← hW3]; exact blk_putL HR2.out 11 _)
        have HT3 := Lib.hid (show Kd.R (Kd.slice 95 k95) 56 W3 Wg.heap.size (fun _ => True) (.slice A2 (k + 1) c2) (List.replicate (k + 1) (List.replicate m z95)) from by rw [← hW3, List.replicate_succ']; exact Kd.R_set HT2.out (show w2.heap[(W.heap.size + 1 + 1 + 1)]? = _ from HR2.out) (by decide) 11 _)
        have HL3 := Lib.hid (show Kd.R (Kd.int .i64) 3 W3 Wg.heap.size (fun _ => True) (.slice A4 (k + 1) c4) (List.replicate (k + 1) (-1)) from by rw [← hW3]; exact Kd.R_set HL2.out (show w2.heap[(W.heap.size + 1 + 1 + 1)]? = _ from HR2.out) (by decide) 11 _)
        have HO3 := Lib.hid (show OnlyP Wg W3 (W.heap.size + 1 + 1 + 1) from by rw [← hW3]; exact HO2.out.trans (OnlyP.set _ _ _ _))
        rw [hW3]
        clear hW3 HR2 HT2 HL2 HO2 BB2 zf2 z89 z2 z11 HR HT HL HO BB BB1 HR1 HT1 HL1 HV1 HO1
        go_wp2
        go_roundw
        case rel => exact ⟨k + 1, by omega, by rw [hw], _, _, HR3.out, HL3.out, HT3.out, HO3.out⟩
        case measure =>
          rw [hw]
          show n - (((k + 1 : Nat) : Int)).toNat < n - ((k : Int)).toNat
          rw [Int.toNat_natCast, Int.toNat_natCast]
          omega
      · obtain rfl : n = k := by omega
        have HR := Lib.hid hp
        have HT := Lib.hid ht
        have HL := Lib.hid hl
        have HO := Lib.hid ho
        have BB := Lib.hid (ho.blk HB.out HNE.out)
        clear hp ht hl ho HP HB
        have z1 : wr.cell? ⟨(W.heap.size), 1, none⟩ = some (.int .i64 (n : Int)) := BB.out.cell 1
        have z4 : wr.cell? ⟨(W.heap.size), 4, none⟩ = some (.int .i64 e) := BB.out.cell 4
        have p1 : decide ((n : Int) < (n : Int)) = false := decide_eq_false (by omega)
        go_wp2_with fail
        go_at_call 38
        refine (gangplankref16_New.calls e _ _ HS.out).mono ?_
        rintro r w7 ⟨sv, rfl, hv, hb⟩
        obtain ⟨As, cs, rfl⟩ := Kd.S_slice hv
        have n1 := Lib.hid (show Blk w7 (W.heap.size + 1 + 1 + 1) 43 [.int .i64 a, .int .i64 (n : Int), .int .i64 c, .int .i64 d, .int .i64 e, .int .i64 0, .int .i64 0, .slice (some ⟨W.heap.size + 1, 0, none⟩) n1 n1, lv, .slice none 0 0, .slice none 0 0, tv, .slice (some ⟨W.heap.size + 1 + 1, 0, none⟩) n n, .int .i64 0] from HR.out.below hb)
        have n2 := Lib.hid (Kd.R_below HT.out hb)
        have n3 := Lib.hid (Kd.R_below HL.out hb)
        have n4 := Lib.hid (HO.out.trans (.of_below hb))
        have n5 := Lib.hid (BB.out.below hb)
        clear HR HT HL HO BB hv hb z1 z4
        have HR := n1
        have HT := n2
        have HL := n3
        have HO := n4
        have BB := n5
        clear n1 n2 n3 n4 n5
        have z9 : w7.cell? ⟨(W.heap.size + 1 + 1 + 1), 9, none⟩ = some (.slice none 0 0) := HR.out.cell 9
        have zf9 : w7.frozen? ⟨(W.heap.size + 1 + 1 + 1), 9, none⟩ = false := HR.out.frozen 9
        have z4 : (w7.setCell ⟨(W.heap.size + 1 + 1 + 1), 9, none⟩ (.slice As sl.length cs)).cell? ⟨(W.heap.size), 4, none⟩ = some (.int .i64 e) := (BB.out.far _ (fun h => HNE.out h.symm) _).cell 4
        go_wp2_with fail
        go_at_call 39
        refine (gangplankref15_New.calls e _ _ HKE.out).mono ?_
        rintro r w8 ⟨kv, rfl, hv, hb⟩
        obtain ⟨Ak, ck, rfl⟩ := Kd.R_slice hv
        have n1 := Lib.hid (show Blk w8 (W.heap.size + 1 + 1 + 1) 43 [.int .i64 a, .int .i64 (n : Int), .int .i64 c, .int .i64 d, .int .i64 e, .int .i64 0, .int .i64 0, .slice (some ⟨W.heap.size + 1, 0, none⟩) n1 n1, lv, .slice As sl.length cs, .slice none 0 0, tv, .slice (some ⟨W.heap.size + 1 + 1, 0, none⟩) n n, .int .i64 0] from (blk_putL HR.out 9 _).below hb)
        have n2 := Lib.hid (Kd.R_below (Kd.R_set HT.out (show w7.heap[(W.heap.size + 1 + 1 + 1)]? = _ from HR.out) (by decide) 9 _) hb)
        have n3 := Lib.hid (Kd.R_below (Kd.R_set HL.out (show w7.heap[(W.heap.size + 1 + 1 + 1)]? = _ from HR.out) (by decide) 9 _) hb)
        have n4 := Lib.hid ((HO.out.trans (OnlyP.set _ _ _ _)).trans (.of_below hb))
        clear HR HT HL HO BB hv hb z4 z9 zf9
        have HR := n1
        have HT := n2
        have HL := n3
        have HO := n4
        clear n1 n2 n3 n4
        have z10 : w8.cell? ⟨(W.heap.size + 1 + 1 + 1), 10, none⟩ = some (.slice none 0 0) := HR.out.cell 10
        have zf10 : w8.frozen? ⟨(W.heap.size + 1 + 1 + 1), 10, none⟩ = false := HR.out.frozen 10
        go_wp2_with fail
        go_ret
        have hs := HFS.out
        exact ⟨(W.heap.size + 1 + 1 + 1), Wg.heap.size, _, _, _, _, _, _, rfl, blk_putL HR.out 10 _, Kd.R_set HT.out (show w8.heap[(W.heap.size + 1 + 1 + 1)]? = _ from HR.out) (by decide) 10 _, Kd.R_set HL.out (show w8.heap[(W.heap.size + 1 + 1 + 1)]? = _ from HR.out) (by decide) 10 _, by omega, by omega, HFB.out.trans ((HO.out.trans (OnlyP.set _ _ _ _)).below W.heap.size (by omega) (by omega))⟩
  · have hf := refWorld W a c d e n n n1 (.slice (some ⟨W.heap.size + 1 + 1, 0, none⟩) n1 n1) (.slice (some ⟨W.heap.size + 1, 0, none⟩) n n)
    obtain ⟨Wg, hWg⟩ : ∃ Wg, ((((W.alloc (.cells #[.int .i64 a, .int .i64 (n : Int), .int .i64 c, .int .i64 d, .int .i64 e] 23)).alloc (.cells (ints (List.replicate n 0)).toArray 3)).alloc (.cells (ints (List.replicate n1 0)).toArray 3)).alloc (.cells #[.int .i64 a, .int .i64 (n : Int), .int .i64 c, .int .i64 d, .int .i64 e, .int .i64 0, .int .i64 0, .slice (some ⟨W.heap.size + 1 + 1, 0, none⟩) n1 n1, .slice none 0 0, .slice none 0 0, .slice none 0 0, .slice none 0 0, .slice (some ⟨W.heap.size + 1, 0, none⟩) n n, .int .i64 0] 43)).drew = Wg := ⟨_, rfl⟩
    dsimp only at hf
    rw [hWg] at hf ⊢
    obtain ⟨fB, fG, fb, fs⟩ := hf
    have hNE : ¬ ((W.heap.size) = (W.heap.size + 1 + 1 + 1)) := by omega
    have HNE := Lib.hid hNE
    have HB := Lib.hid fB
    have HP := Lib.hid fG
    have HFB := Lib.hid fb
    have HFS := Lib.hid fs
    clear hWg fB fG fb fs hNE r1 r2 HB0
    go_wp2
    go_loopw [4] (fun i wr => ∃ k : Nat, k ≤ n ∧ i = .int .i64 k ∧ ∃ lv tv, Blk wr (W.heap.size + 1 + 1 + 1) 43 [.int .i64 a, .int .i64 (n : Int), .int .i64 c, .int .i64 d, .int .i64 e, .int .i64 0, .int .i64 0, .slice (some ⟨W.heap.size + 1 + 1, 0, none⟩) n1 n1, lv, .slice none 0 0, .slice none 0 0, tv, .slice (some ⟨W.heap.size + 1, 0, none⟩) n n, .int .i64 0] ∧ Kd.R (Kd.int .i64) 3 wr Wg.heap.size (fun _ => True) lv (List.replicate k (-1)) ∧ Kd.R (Kd.slice 95 k95) 56 wr Wg.heap.size (fun _ => True) tv (List.replicate k (List.replicate m z95)) ∧ OnlyP Wg wr (W.heap.size + 1 + 1 + 1)) (fun i _ => n - (intOf i).toNat)
    case atStart => exact ⟨0, Nat.zero_le _, rfl, _, _, HP.out, Kd.R_nil _ _ _ _ _, Kd.R_nil _ _ _ _ _, OnlyP.refl _ _⟩
    case round =>
      obtain ⟨k, hk, rfl, lv, tv, hp, hl, ht, ho⟩ := hrel
      by_cases hlt : k < n
      · have HR := Lib.hid hp
        have HT := Lib.hid ht
        have HL := Lib.hid hl
        have HO := Lib.hid ho
        have BB := Lib.hid (ho.blk HB.out HNE.out)
        clear hp ht hl ho HP HB
        have z1 : wr.cell? ⟨(W.heap.size), 1, none⟩ = some (.int .i64 (n : Int)) := BB.out.cell 1
        have z8 : wr.cell? ⟨(W.heap.size + 1 + 1 + 1), 8, none⟩ = some lv := HR.out.cell 8
        have p1 : decide ((k : Int) < (n : Int)) = true := decide_eq_true (by omega)
        have hw : wrap64 ((k : Int) + 1) = ((k + 1 : Nat) : Int) := by have := H16.out; unfold wrap64; omega
        go_wp2_with (at_builtin; refine Kd.R_append (Kd.int .i64) (w0 := wr) Wg.heap.size rfl (.tmp 25) (.tmp 26) 24 3 (.int .i64 0) 8 rfl Try.underlying24 infoInt rfl (by decide) (by omega) lv (List.replicate k (-1)) (-1) [.int .i64 (-1)] (fun _ => True) (fun _ => False) rfl rfl rfl (fun _ hk => hk.elim) (fun _ _ => trivial) HL.out (Below.refl _ _) HO.out.size (by have := H16.out; rw [List.length_replicate]; omega) ?_; intro pv2 w4 hl2 hb2 hg2 _; obtain ⟨A4, c4, rfl⟩ : ∃ A4 c4, pv2 = .slice A4 (k + 1) c4 := (by have h := Kd.R_slice hl2; rw [List.length_append, List.length_replicate] at h; exact h); have HR4 := Lib.hid (blkGrown HR.out hg2 (Kd.R_ne HL.out HR.out (by decide))); have BB4 := Lib.hid (blkGrown BB.out hg2 (Kd.R_ne HL.out BB.out (by decide))); have HT4 := Lib.hid (Kd.R_over HT.out HL.out (by decide) hg2); have HL4 := Lib.hid hl2; have HO4 := Lib.hid (HO.out.grown hg2 (Kd.R_base HL.out)); clear hl2 hb2 hg2; have z38 : w4.cell? ⟨(W.heap.size + 1 + 1 + 1), 8, none⟩ = some lv := HR4.out.cell 8; have zf8 : w4.frozen? ⟨(W.heap.size + 1 + 1 + 1), 8, none⟩ = false := HR4.out.frozen 8)
        obtain ⟨W5, hW5⟩ : ∃ W5, w4.setCell ⟨(W.heap.size + 1 + 1 + 1), 8, none⟩ (.slice A4 (k + 1) c4) = W5 := ⟨_, rfl⟩
        have n1 := Lib.hid (show Blk W5 (W.heap.size + 1 + 1 + 1) 43 [.int .i64 a, .int .i64 (n : Int), .int .i64 c, .int .i64 d, .int .i64 e, .int .i64 0, .int .i64 0, .slice (some ⟨W.heap.size + 1 + 1, 0, none⟩) n1 n1, (.slice A4 (k + 1) c4), .slice none 0 0, .slice none 0 0, tv, .slice (some ⟨W.heap.size + 1, 0, none⟩) n n, .int .i64 0] from by rw [← hW5]; exact blk_putL HR4.out 8 _)
        have n2 := Lib.hid (show Kd.R (Kd.slice 95 k95) 56 W5 Wg.heap.size (fun _ => True) tv (List.replicate k (List.replicate m z95)) from by rw [← hW5]; exact Kd.R_set HT4.out (show w4.heap[(W.heap.size + 1 + 1 + 1)]? = _ from HR4.out) (by decide) 8 _)
        have n3 := Lib.hid (show Kd.R (Kd.int .i64) 3 W5 Wg.heap.size (fun _ => True) (.slice A4 (k + 1) c4) (List.replicate (k + 1) (-1)) from by rw [← hW5, List.replicate_succ']; exact Kd.R_set HL4.out (show w4.heap[(W.heap.size + 1 + 1 + 1)]? = _ from HR4.out) (by decide) 8 _)
        have n4 := Lib.hid (show OnlyP Wg W5 (W.heap.size + 1 + 1 + 1) from by rw [← hW5]; exact HO4.out.trans (OnlyP.set _ _ _ _))
        have n5 := Lib.hid (show Blk W5 (W.heap.size) 23 [.int .i64 a, .int .i64 (n : Int), .int .i64 c, .int .i64 d, .int .i64 e] from by rw [← hW5]; exact BB4.out.far _ (fun h => HNE.out h.symm) _)
        rw [hW5]
        clear hW5 HR HT HL HO BB HR4 HT4 HL4 HO4 BB4 z38 zf8 z1 z8
        have HR := n1
        have HT := n2
        have HL := n3
        have HO := n4
        have BB := n5
        clear n1 n2 n3 n4 n5
        have z2 : W5.cell? ⟨(W.heap.size), 2, none⟩ = some (.int .i64 c) := BB.out.cell 2
        have z11 : W5.cell? ⟨(W.heap.size + 1 + 1 + 1), 11, none⟩ = some tv := HR.out.cell 11
        refine wp_region_noPanic ?_
        refine start_ (n := 13) (S := fun w' => w'.cell? ⟨(W.heap.size), 2, none⟩ = some (.int .i64 c) ∧ w'.cell? ⟨(W.heap.size + 1 + 1 + 1), 11, none⟩ = some tv) (ds := [12]) #[false, false, false, false, false, false, false, false, false, false, false, false, false] (by kernel_rfl) rfl rfl ⟨z2, z11⟩ (fun hHeld => ?_)
        refine pure_ (i := 0) (N := some 30) (v := ?_) (a' := ?_) #[true, false, false, false, false, false, false, false, false, false, false, false, false] rfl rfl (by kernel_rfl) (fun _ _ _ h => h) (Or.inl ⟨by rfl, ?_⟩) ?_ ?_
        rotate_left
        · intro w'
          go_simp
          with_reducible rfl
        rotate_left
        · simp only [Act.put, List.setIfInBounds_toArray, List.set_cons_zero, List.set_cons_succ, i64_w, i32_w]
          rfl
        refine pure_ (i := 1) (N := some 31) (v := ?_) (a' := ?_) #[true, true, false, false, false, false, false, false, false, false, false, false, false] rfl rfl (by kernel_rfl) (fun _ _ _ h => h) (Or.inl ⟨by rfl, ?_⟩) ?_ ?_
        rotate_left
        · intro w'
          go_simp
          with_reducible rfl
        rotate_left
        · simp only [Act.put, List.setIfInBounds_toArray, List.set_cons_zero, List.set_cons_succ, i64_w, i32_w]
          rfl
        refine pure_ (i := 2) (N := some 32) (v := ?_) (a' := ?_) #[true, true, true, false, false, false, false, false, false, false, false, false, false] rfl rfl (by kernel_rfl) (fun _ _ _ h => h) (Or.inl ⟨by rfl, ?_⟩) ?_ ?_
        rotate_left
        · intro w'
          go_simp
          with_reducible rfl
        rotate_left
        · simp only [Act.put, List.setIfInBounds_toArray, List.set_cons_zero, List.set_cons_succ, i64_w, i32_w]
          rfl
        refine pure_ (i := 3) (N := some 33) (v := ?_) (a' := ?_) #[true, true, true, true, false, false, false, false, false, false, false, false, false] rfl rfl (by kernel_rfl) (fun _ _ _ h => h) (Or.inl ⟨by rfl, ?_⟩) ?_ ?_
        rotate_left
        · intro w'
          go_simp
          with_reducible rfl
        rotate_left
        · simp only [Act.put, List.setIfInBounds_toArray, List.set_cons_zero, List.set_cons_succ, i64_w, i32_w]
          rfl
        refine pure_ (i := 5) (N := some 35) (v := ?_) (a' := ?_) #[true, true, true, true, false, true, false, false, false, false, false, false, false] rfl rfl (by kernel_rfl) (fun _ _ _ h => h) (Or.inl ⟨by rfl, ?_⟩) ?_ ?_
        rotate_left
        · intro w'
          go_simp
          with_reducible rfl
        rotate_left
        · simp only [Act.put, List.setIfInBounds_toArray, List.set_cons_zero, List.set_cons_succ, i64_w, i32_w]
          rfl
        refine take_ (i := 4) (N := some 34) (v := ?_) (a' := ?_) #[true, true, true, true, true, true, false, false, false, false, false, false, false] rfl rfl (by kernel_rfl) (fun _ _ _ h => h) (Or.inl ⟨by rfl, ?_⟩) hHeld ?_ ?_
        rotate_left
        · rintro w' ⟨s0, s1⟩
          go_simp
          with_reducible rfl
        rotate_left
        · simp only [Act.put, List.setIfInBounds_toArray, List.set_cons_zero, List.set_cons_succ, i64_w, i32_w]
          rfl
        refine take_ (i := 6) (N := some 36) (v := ?_) (a' := ?_) #[true, true, true, true, true, true, true, false, false, false, false, false, false] rfl rfl (by kernel_rfl) (fun _ _ _ h => h) (Or.inl ⟨by rfl, ?_⟩) hHeld ?_ ?_
        rotate_left
        · rintro w' ⟨s0, s1⟩
          go_simp
          with_reducible rfl
        rotate_left
        · simp only [Act.put, List.setIfInBounds_toArray, List.set_cons_zero, List.set_cons_succ, i64_w, i32_w]
          rfl
        refine one_ (i := 7) (N := some 37) #[true, true, true, true, true, true, true, true, false, false, false, false, false] rfl rfl (by kernel_rfl) (by decide) (fun K hK => ?_)
        refine goes_ Try.func37 (by kernel_rfl) rfl #[.int .i64 c] (by rfl) rfl rfl (by simp only [List.map_toArray, List.map_cons, List.map_nil]; rfl) ?_
        with_reducible refine (gangplankref12_New.calls c _ _ HC.out).mono ?_
        rintro r w1 ⟨v0, rfl, hv, hb⟩
        refine ⟨_, rfl, ?_⟩
        obtain ⟨A0, c0, rfl⟩ : ∃ A0 c0, v0 = .slice A0 m c0 := (by have h := Kd.R_slice hv; rw [List.length_replicate] at h; exact h)
        have BB1 := Lib.hid (show Blk w1 (W.heap.size) 23 [.int .i64 a, .int .i64 (n : Int), .int .i64 c, .int .i64 d, .int .i64 e] from (blkDrewW BB.out).below hb)
        have HR1 := Lib.hid (show Blk w1 (W.heap.size + 1 + 1 + 1) 43 [.int .i64 a, .int .i64 (n : Int), .int .i64 c, .int .i64 d, .int .i64 e, .int .i64 0, .int .i64 0, .slice (some ⟨W.heap.size + 1 + 1, 0, none⟩) n1 n1, (.slice A4 (k + 1) c4), .slice none 0 0, .slice none 0 0, tv, .slice (some ⟨W.heap.size + 1, 0, none⟩) n n, .int .i64 0] from (blkDrewW HR.out).below hb)
        have HT1 := Lib.hid (Kd.R_below (w := W5.drew) HT.out hb)
        have HL1 := Lib.hid (Kd.R_below (w := W5.drew) HL.out hb)
        have HV1 := Lib.hid (Kd.R_lower (Kd.R_newR hv HT.out) HO.out.size)
        have HO1 := Lib.hid (HO.out.trans ((OnlyP.drew W5 (W.heap.size + 1 + 1 + 1)).trans (.of_below hb)))
        clear hv hb
        refine hK.out _ _ ⟨(BB1.out.cell 2), (HR1.out.cell 11)⟩ (fun hHeld => ?_)
        clear hK K
        refine norm_ (a' := ?_) ?_ ?_
        rotate_left
        · show Act.put _ (some 37) _ = _
          simp only [Act.put, List.setIfInBounds_toArray, List.set_cons_zero, List.set_cons_succ, i64_w, i32_w]
          rfl
        refine one_ (i := 8) (N := some 38) #[true, true, true, true, true, true, true, true, true, false, false, false, false] rfl rfl (by kernel_rfl) (by decide) (fun K hK => ?_)
        refine value_ (w1 := ?_) (v := ?_) (by rfl) rfl ?_ ?_
        rotate_left 2
        · go_simp
          constructor
          · rfl
          · rfl
        refine hK.out _ _ ⟨((BB1.out.alloc _).cell 2), ((HR1.out.alloc _).cell 11)⟩ (fun hHeld => ?_)
        clear hK K
        refine norm_ (a' := ?_) ?_ ?_
        rotate_left
        · show Act.put _ (some 38) _ = _
          simp only [Act.put, List.setIfInBounds_toArray, List.set_cons_zero, List.set_cons_succ, i64_w, i32_w]
          rfl
        refine one_ (i := 9) (N := some 39) #[true, true, true, true, true, true, true, true, true, true, false, false, false] rfl rfl (by kernel_rfl) (by decide) (fun K hK => ?_)
        refine Kd.R_append_step (Kd.slice 95 k95) (w0 := w1) Wg.heap.size (by rfl) (.tmp 34) (.tmp 38) 36 56 (.slice none 0 0) 24 (by rfl) Try.underlying36 infoTab rfl (by decide) (by omega) tv (List.replicate k (List.replicate m z95)) (List.replicate m z95) [.slice A0 m c0] (fun _ => True) _ (by rfl) (by rfl) ⟨_, rfl, HV1.out⟩ (fun _ hk => hk) (fun _ _ => trivial) HT1.out (Below.refl _ _) HO1.out.size (by have := H16.out; rw [List.length_replicate]; omega) ?_
        intro tv2 w2 ht2 hb2 hg2 _
        obtain ⟨A2, c2, rfl⟩ : ∃ A2 c2, tv2 = .slice A2 (k + 1) c2 := (by have h := Kd.R_slice ht2; rw [List.length_append, List.length_replicate] at h; exact h)
        have BB2 := Lib.hid (blkGrown BB1.out hg2 (Kd.R_ne HT1.out BB1.out (by decide)))
        have HR2 := Lib.hid (blkGrown HR1.out hg2 (Kd.R_ne HT1.out HR1.out (by decide)))
        have HT2 := Lib.hid ht2
        have HL2 := Lib.hid (Kd.R_over HL1.out HT1.out (by decide) hg2)
        have HO2 := Lib.hid (HO1.out.grown hg2 (Kd.R_base HT1.out))
        clear ht2 hb2 hg2
        have zf2 : w2.frozen? ⟨(W.heap.size + 1 + 1 + 1), 11, none⟩ = false := HR2.out.frozen 11
        have z89 : w2.cell? ⟨(W.heap.size + 1 + 1 + 1), 11, none⟩ = some tv := HR2.out.cell 11
        refine hK.out _ _ ⟨(BB2.out.cell 2), z89⟩ (fun hHeld => ?_)
        clear hK K
        refine norm_ (a' := ?_) ?_ ?_
        rotate_left
        · show Act.put _ (some 39) _ = _
          simp only [Act.put, List.setIfInBounds_toArray, List.set_cons_zero, List.set_cons_succ, i64_w, i32_w]
          rfl
        refine pure_ (i := 10) (N := some 40) (v := ?_) (a' := ?_) #[true, true, true, true, true, true, true, true, true, true, true, false, false] rfl rfl (by kernel_rfl) (fun _ _ _ h => h) (Or.inl ⟨by rfl, ?_⟩) ?_ ?_
        rotate_left
        · intro w'
          go_simp
          with_reducible rfl
        rotate_left
        · simp only [Act.put, List.setIfInBounds_toArray, List.set_cons_zero, List.set_cons_succ, i64_w, i32_w]
          rfl
        refine pure_ (i := 11) (N := some 41) (v := ?_) (a' := ?_) #[true, true, true, true, true, true, true, true, true, true, true, true, false] rfl rfl (by kernel_rfl) (fun _ _ _ h => h) (Or.inl ⟨by rfl, ?_⟩) ?_ ?_
        rotate_left
        · intro w'
          go_simp
          with_reducible rfl
        rotate_left
        · simp only [Act.put, List.setIfInBounds_toArray, List.set_cons_zero, List.set_cons_succ, i64_w, i32_w]
          rfl
        refine last_ (i := 12) (N := none) #[true, true, true, true, true, true, true, true, true, true, true, true, true] rfl rfl (by kernel_rfl) (by decide) (fun K hK => ?_)
        refine skip_ (w1 := ?_) (by rfl) rfl ?_ ?_
        rotate_left
        · go_simp
          rfl
        refine hK.out _ _ ?_
        clear hK K
        refine done_ (by kernel_rfl) ?_
        refine NoPanic.normal ?_
        obtain ⟨W3, hW3⟩ : ∃ W3, w2.setCell ⟨(W.heap.size + 1 + 1 + 1), 11, none⟩ (.slice A2 (k + 1) c2) = W3 := ⟨_, rfl⟩
        have HR3 := Lib.hid (show Blk W3 (W.heap.size + 1 + 1 + 1) 43 [.int .i64 a, .int .i64 (n : Int), .int .i64 c, .int .i64 d, .int .i64 e, .int .i64 0, .int .i64 0, .slice (some ⟨W.heap.size + 1 + 1, 0, none⟩) n1 n1, (.slice A4 (k + 1) c4), .slice none 0 0, .slice none 0 0, (.slice A2 (k + 1) c2), .slice (some ⟨W.heap.size + 1, 0, none⟩) n n, .int .i64 0] from by rw [← hW3]; exact blk_putL HR2.out 11 _)
        have HT3 := Lib.hid (show Kd.R (Kd.slice 95 k95) 56 W3 Wg.heap.size (fun _ => True) (.slice A2 (k + 1) c2) (List.replicate (k + 1) (List.replicate m z95)) from by rw [← hW3, List.replicate_succ']; exact Kd.R_set HT2.out (show w2.heap[(W.heap.size + 1 + 1 + 1)]? = _ from HR2.out) (by decide) 11 _)
        have HL3 := Lib.hid (show Kd.R (Kd.int .i64) 3 W3 Wg.heap.size (fun _ => True) (.slice A4 (k + 1) c4) (List.replicate (k + 1) (-1)) from by rw [← hW3]; exact Kd.R_set HL2.out (show w2.heap[(W.heap.size + 1 + 1 + 1)]? = _ from HR2.out) (by decide) 11 _)
        have HO3 := Lib.hid (show OnlyP Wg W3 (W.heap.size + 1 + 1 + 1) from by rw [← hW3]; exact HO2.out.trans (OnlyP.set _ _ _ _))
        rw [hW3]
        clear hW3 HR2 HT2 HL2 HO2 BB2 zf2 z89 z2 z11 HR HT HL HO BB BB1 HR1 HT1 HL1 HV1 HO1
        go_wp2
        go_roundw
        case rel => exact ⟨k + 1, by omega, by rw [hw], _, _, HR3.out, HL3.out, HT3.out, HO3.out⟩
        case measure =>
          rw [hw]
          show n - (((k + 1 : Nat) : Int)).toNat < n - ((k : Int)).toNat
          rw [Int.toNat_natCast, Int.toNat_natCast]
          omega
      · obtain rfl : n = k := by omega
        have HR := Lib.hid hp
        have HT := Lib.hid ht
        have HL := Lib.hid hl
        have HO := Lib.hid ho
        have BB := Lib.hid (ho.blk HB.out HNE.out)
        clear hp ht hl ho HP HB
        have z1 : wr.cell? ⟨(W.heap.size), 1, none⟩ = some (.int .i64 (n : Int)) := BB.out.cell 1
        have z4 : wr.cell? ⟨(W.heap.size), 4, none⟩ = some (.int .i64 e) := BB.out.cell 4
        have p1 : decide ((n : Int) < (n : Int)) = false := decide_eq_false (by omega)
        go_wp2_with fail
        go_at_call 38
        refine (gangplankref16_New.calls e _ _ HS.out).mono ?_
        rintro r w7 ⟨sv, rfl, hv, hb⟩
        obtain ⟨As, cs, rfl⟩ := Kd.S_slice hv
        have n1 := Lib.hid (show Blk w7 (W.heap.size + 1 + 1 + 1) 43 [.int .i64 a, .int .i64 (n : Int), .int .i64 c, .int .i64 d, .int .i64 e, .int .i64 0, .int .i64 0, .slice (some ⟨W.heap.size + 1 + 1, 0, none⟩) n1 n1, lv, .slice none 0 0, .slice none 0 0, tv, .slice (some ⟨W.heap.size + 1, 0, none⟩) n n, .int .i64 0] from HR.out.below hb)
        have n2 := Lib.hid (Kd.R_below HT.out hb)
        have n3 := Lib.hid (Kd.R_below HL.out hb)
        have n4 := Lib.hid (HO.out.trans (.of_below hb))
        have n5 := Lib.hid (BB.out.below hb)
        clear HR HT HL HO BB hv hb z1 z4
        have HR := n1
        have HT := n2
        have HL := n3
        have HO := n4
        have BB := n5
        clear n1 n2 n3 n4 n5
        have z9 : w7.cell? ⟨(W.heap.size + 1 + 1 + 1), 9, none⟩ = some (.slice none 0 0) := HR.out.cell 9
        have zf9 : w7.frozen? ⟨(W.heap.size + 1 + 1 + 1), 9, none⟩ = false := HR.out.frozen 9
        have z4 : (w7.setCell ⟨(W.heap.size + 1 + 1 + 1), 9, none⟩ (.slice As sl.length cs)).cell? ⟨(W.heap.size), 4, none⟩ = some (.int .i64 e) := (BB.out.far _ (fun h => HNE.out h.symm) _).cell 4
        go_wp2_with fail
        go_at_call 39
        refine (gangplankref15_New.calls e _ _ HKE.out).mono ?_
        rintro r w8 ⟨kv, rfl, hv, hb⟩
        obtain ⟨Ak, ck, rfl⟩ := Kd.R_slice hv
        have n1 := Lib.hid (show Blk w8 (W.heap.size + 1 + 1 + 1) 43 [.int .i64 a, .int .i64 (n : Int), .int .i64 c, .int .i64 d, .int .i64 e, .int .i64 0, .int .i64 0, .slice (some ⟨W.heap.size + 1 + 1, 0, none⟩) n1 n1, lv, .slice As sl.length cs, .slice none 0 0, tv, .slice (some ⟨W.heap.size + 1, 0, none⟩) n n, .int .i64 0] from (blk_putL HR.out 9 _).below hb)
        have n2 := Lib.hid (Kd.R_below (Kd.R_set HT.out (show w7.heap[(W.heap.size + 1 + 1 + 1)]? = _ from HR.out) (by decide) 9 _) hb)
        have n3 := Lib.hid (Kd.R_below (Kd.R_set HL.out (show w7.heap[(W.heap.size + 1 + 1 + 1)]? = _ from HR.out) (by decide) 9 _) hb)
        have n4 := Lib.hid ((HO.out.trans (OnlyP.set _ _ _ _)).trans (.of_below hb))
        clear HR HT HL HO BB hv hb z4 z9 zf9
        have HR := n1
        have HT := n2
        have HL := n3
        have HO := n4
        clear n1 n2 n3 n4
        have z10 : w8.cell? ⟨(W.heap.size + 1 + 1 + 1), 10, none⟩ = some (.slice none 0 0) := HR.out.cell 10
        have zf10 : w8.frozen? ⟨(W.heap.size + 1 + 1 + 1), 10, none⟩ = false := HR.out.frozen 10
        go_wp2_with fail
        go_ret
        have hs := HFS.out
        exact ⟨(W.heap.size + 1 + 1 + 1), Wg.heap.size, _, _, _, _, _, _, rfl, blk_putL HR.out 10 _, Kd.R_set HT.out (show w8.heap[(W.heap.size + 1 + 1 + 1)]? = _ from HR.out) (by decide) 10 _, Kd.R_set HL.out (show w8.heap[(W.heap.size + 1 + 1 + 1)]? = _ from HR.out) (by decide) 10 _, by omega, by omega, HFB.out.trans ((HO.out.trans (OnlyP.set _ _ _ _)).below W.heap.size (by omega) (by omega))⟩
end

-- NOT PRINTED: function 40 (cells_turn)

-- NOT PRINTED: function 41 (cells_Cells_spot)

-- NOT PRINTED: function 20 (cells_Cells_Lock)

/-! ### api_Entry: function 56 -/
section
open Go.Shelf Go.Proofs.Ytbbgeobnjdgpfaa.Hand
theorem infoE_ : (Try.prog.info? 95).map (fun i => (i.zero, i.size, i.bytes)) = some (some (.agg #[(.int .i64 0), (.string ⟨#[]⟩), (.int .i64 0), (.int .i64 0)]), 4, 40) := by kernel_rfl
def api_Entry.f (l0 : List S95) : Option (List S95) := if l0.length ≤ 1000000 then some l0 else none

set_option maxRecDepth 100000 in
set_option maxHeartbeats 4000000 in
theorem cloneEntry_any (A : Option Addr) (c : Nat) (l : List S95) (hl : l.length ≤ 1000000) (w : World) (hC : Kd.C k95 w A l.length l) :
    Calls Try.prog 56 #[.slice A l.length c] w fun e w' => ∃ v : Value, e = .returned v ∧ Kd.R k95 95 w' w.heap.size (fun _ => True) v l ∧ Below w.heap.size w w' := by
  have he := fun (w : World) => Lib.run_eql_slice_nil (P := Try.prog) w 56 95 A l.length c 0 0 Try.underlying56
  cases A with
  | none =>
    have hn : l = [] := by
      cases l with
      | nil => rfl
      | cons x l => obtain ⟨ad, e, _⟩ := hC.2.2 (by simp); cases e
    subst hn
    clear he
    have he : ∀ w : World, (binOp .eql 56 (.slice none 0 c) (.slice none 0 0)).run Try.prog w = .ok (.bool true) w := fun w => Lib.run_eql_slice_nil (P := Try.prog) w 56 95 none 0 c 0 0 Try.underlying56
    go_enter Try.func56, Try.ntmps56
    go_wp2
    go_ret
    exact ⟨_, rfl, Kd.R_nil _ _ _ _ _, Below.refl _ _⟩
  | some a =>
    obtain ⟨z, hz⟩ : ∃ z, ([] : List S95) = z := ⟨_, rfl⟩
    have HZ := Lib.hid hz
    clear hz
    have HC := Lib.hid hC
    clear hC
    have HB := Aside0.mk (Below.refl w.heap.size w)
    go_enter Try.func56, Try.ntmps56
    go_wp2_with (first | ((with_reducible refine gate_dst (N := 5) rfl ?_); refine Kd.R_lit k95 _ 95 ?hg (N := 5) ?hd (xs := ([] : List S95)) (inner := []) (ok := fun _ => True) (okp := fun _ => True) ?hr ?hp (fun _ hk => hk) trivial (Below.refl _ _) (Nat.le_refl _) (by simp) ?_; (case hd => rfl); (case hg => rfl); (case hr => first | (go_simp; done) | (go_simp; rfl)); (case hp => exact (Reps.none _ _)); intro v160 w31 ho32 hb hg_ hnew_; clear hg_ hnew_; rw [HZ.out] at ho32; have HB1 := Aside0.mk hb; have HO1 := Aside0.mk ho32; clear hb ho32) | ((with_reducible refine gate_builtin (b := .append) (xs := #[.tmp 5, .tmp 6]) rfl ?_); at_builtin; refine Kd.R_append_rows k95 (w0 := w) w.heap.size rfl (.tmp 5) (.tmp 6) 56 95 (.agg #[(.int .i64 0), (.string ⟨#[]⟩), (.int .i64 0), (.int .i64 0)]) 40 rfl Try.underlying56 infoE_ rfl (by decide) (by omega) v160 z l _ _ _ (fun _ => True) (fun _ => False) rfl rfl ?aO ?aR (fun _ _ h => h) (fun _ h => h.elim) ?aF ?aB ?aS ?aL ?_; (case aR => exact Kd.C_below HC.out HB1.out); (case aB => exact HB1.out); (case aF => exact (fun _ _ => trivial)); (case aO => exact HO1.out); (case aS => exact HB1.out.size); (case aL => rw [← HZ.out]; simp; omega); intro v163 w33 ho hb hg hat; rw [← HZ.out, List.nil_append] at ho; have HB2 := Aside0.mk hb; have HO2 := Aside0.mk ho; clear ho hb hg hat))
    go_ret
    exact ⟨_, rfl, HO2.out, HB2.out⟩

theorem api_Entry.calls (A0 : Option Addr) (c0 : Nat) (l0 : List S95) (r : List S95) (w : World) (hr0 : Kd.C k95 w A0 l0.length l0) (hc0 : l0.length ≤ c0) (h : api_Entry.f l0 = some r) :
    Calls Try.prog 56 #[.slice A0 l0.length c0] w fun e w' => ∃ v0_ : Value, e = .returned (v0_) ∧ Kd.R k95 95 w' w.heap.size (fun _ => True) v0_ r ∧ Below w.heap.size w w' := by
  unfold api_Entry.f at h
  by_cases hl : l0.length ≤ 1000000
  · rw [if_pos hl] at h
    obtain rfl := Option.some.inj h
    exact cloneEntry_any A0 c0 l0 hl w hr0
  · rw [if_neg hl] at h
    exact absurd h (by simp)
end

/-! ### flows_changed: function 45 -/
section
open Go.Shelf Go.Proofs.Ytbbgeobnjdgpfaa.Hand
set_option maxRecDepth 100000 in
set_option maxHeartbeats 4000000 in
/-- A copy, changed by a function that is handed on; or the table itself. -/
theorem changed_any (g : Nat) (eg : ∀ args w, (callFunc g args).run Try.prog w = .ok (.enter g args) w) (cap : Value) (b : Bool) (A : Option Addr) (c : Nat) (l l2 : List S95) (hl : l.length ≤ 1000000) (hcap : l.length ≤ c) (w : World) (hC : Kd.C k95 w A l.length l)
    (hf : ∀ (v : Value) (W : World), Below w.heap.size w W → Kd.R k95 95 W w.heap.size (fun _ => True) v l → Calls Try.prog g #[v, cap] W fun e W' => e = .returned (.bool b) ∧ Kd.R k95 95 W' w.heap.size (fun _ => True) v l2 ∧ Below w.heap.size w W') :
    Calls Try.prog 45 #[.slice A l.length c, .func (.func g) #[] #[cap]] w fun e w' => ∃ v : Value, e = .returned (.tuple #[v, .bool b]) ∧ (b = true → Kd.R k95 95 w' w.heap.size (fun _ => True) v l2) ∧ (b = false → v = .slice A l.length c) ∧ Below w.heap.size w w' := by
  have HF := Lib.hid hf
  clear hf
  cases b
  all_goals
    go_enter Try.func45, Try.ntmps45
    go_wp2_with (first | (go_at_call 56; refine (cloneEntry_any A c l hl _ hC).mono ?_; rintro e w1 ⟨v, rfl, hr, hb⟩; have HR := Lib.hid hr; have HB := Lib.hid hb; clear hr hb))
    refine (HF.out v w1 HB.out HR.out).mono ?_
    rintro e w2 ⟨rfl, hr2, hb2⟩
    have HR2 := Lib.hid hr2
    have HB2 := Lib.hid hb2
    clear hr2 hb2
    go_wp2
    go_ret2
    first
    | exact ⟨_, rfl, fun h => absurd h (by decide), fun _ => rfl, HB2.out⟩
    | exact ⟨_, rfl, fun _ => HR2.out, fun h => absurd h (by decide), HB2.out⟩
end

/-! ### probe_Find: function 57 -/
section
open Go.Shelf Go.Proofs.Ytbbgeobnjdgpfaa.Hand
attribute [local go_sem] Oper.semAt_some
/-- Does a way go on at this entry? -/
def goesOn (key : ByteArray) (x : S95) : Prop := x.f0 ≠ 0 ∧ ¬ (x.f0 = 1 ∧ x.f1 = key)
def findIn (key : ByteArray) : List (Int × S95) → Int
  | [] => -1
  | (j, x) :: r => if x.f0 = 0 then -1 else if x.f0 = 1 ∧ x.f1 = key then j else findIn key r
theorem findIn_on {key : ByteArray} : ∀ (a b : List (Int × S95)), (∀ p ∈ a, goesOn key p.2) → findIn key (a ++ b) = findIn key b
  | [], _, _ => rfl
  | (j, x) :: a, b, h => by
    have hx := h (j, x) (by simp)
    simp only [List.cons_append, findIn]
    rw [if_neg hx.1, if_neg hx.2]
    exact findIn_on a b (fun p hp => h p (by simp [hp]))
def probe_Find.f (l0 : List S95) (a1 : ByteArray) : Option Int :=
  if l0.length ≤ 1000000 then (probe_Home.f a1 l0.length).bind fun hd => some (findIn a1 (upto (wayAt l0 hd) l0.length)) else none

set_option maxRecDepth 100000 in
set_option maxHeartbeats 8000000 in
theorem Find_any (A : Option Addr) (c : Nat) (l : List S95) (key : ByteArray) (hl : l.length ≤ 1000000) (hd : Int) (hh : probe_Home.f key l.length = some hd) (w : World) (hC : Kd.C k95 w A l.length l) :
    Calls Try.prog 57 #[.slice A l.length c, .string key] w fun e W' => e = .returned (.int .i64 (findIn key (upto (wayAt l hd) l.length))) ∧ Below w.heap.size w W' := by
  refine (callsIn_wide (n := 6)).1 ?_
  have hro : Fence.wide.round = none := rfl
  refine callsIn_of_wp_marks Try.func57 rfl trivial ?_ hro
  simp only [Try.ntmps57, List.size_toArray, List.length_cons, List.length_nil, Nat.reduceAdd, Nat.reduceSub, Array.replicate_succ, Array.replicate_zero, List.push_toArray, List.append_toArray, List.nil_append, List.cons_append]
  gi_wp2
  refine wpIn_scope_wide ?_
  gi_wp2
  refine wpIn_label ?_
  gi_wp2_with (refine ⟨trivial, ?_⟩; gi_at_call 62; refine (callsIn_wide.2 (way_any _ _ _ _ _)).mono ?_; rintro e w' ⟨rfl, rfl⟩)
  have b0 := Blk.new w 9 [.string key]
  have b1 := Blk.new (w.alloc (.cells #[.string key] 9)) 3 [.int .i64 (-1)]
  have b2 := Blk.new ((w.alloc (.cells #[.string key] 9)).alloc (.cells #[.int .i64 (-1)] 3)) 56 [.slice A l.length c]
  have b3 := Blk.new (((w.alloc (.cells #[.string key] 9)).alloc (.cells #[.int .i64 (-1)] 3)).alloc (.cells #[.slice A l.length c] 56)) 9 [.string key]
  have hB0 : Below w.heap.size w ((((w.alloc (.cells #[.string key] 9)).alloc (.cells #[.int .i64 (-1)] 3)).alloc (.cells #[.slice A l.length c] 56)).alloc (.cells #[.string key] 9)) := ((((Below.refl _ w).alloc (Nat.le_refl _) _).alloc (by simp) _).alloc (by simp; omega) _).alloc (by simp; omega) _
  replace b0 := ((b0.alloc (.cells #[.int .i64 (-1)] 3)).alloc (.cells #[.slice A l.length c] 56)).alloc (.cells #[.string key] 9)
  replace b1 := (b1.alloc (.cells #[.slice A l.length c] 56)).alloc (.cells #[.string key] 9)
  replace b2 := b2.alloc (.cells #[.string key] 9)
  have hsz : ((((w.alloc (.cells #[.string key] 9)).alloc (.cells #[.int .i64 (-1)] 3)).alloc (.cells #[.slice A l.length c] 56)).alloc (.cells #[.string key] 9)).heap.size = w.heap.size + 4 := by simp
  simp only [World.size_alloc] at b0 b1 b2 b3
  obtain ⟨W0, hW0⟩ : ∃ W0, ((((w.alloc (.cells #[.string key] 9)).alloc (.cells #[.int .i64 (-1)] 3)).alloc (.cells #[.slice A l.length c] 56)).alloc (.cells #[.string key] 9)) = W0 := ⟨_, rfl⟩
  rw [hW0] at hB0 hsz ⊢
  replace b0 : Blk W0 w.heap.size 9 [.string key] := by rw [← hW0]; exact b0
  replace b1 : Blk W0 (w.heap.size + 1) 3 [.int .i64 (-1)] := by rw [← hW0]; exact b1
  replace b2 : Blk W0 (w.heap.size + 1 + 1) 56 [.slice A l.length c] := by rw [← hW0]; exact b2
  replace b3 : Blk W0 (w.heap.size + 1 + 1 + 1) 9 [.string key] := by rw [← hW0]; exact b3
  clear hW0
  have HH := Lib.hid hsz
  clear hsz
  refine wpIn_rangeFunc_ownH hro (by omega) (gf := 66) (lb := #[.pointer (some ⟨w.heap.size + 1 + 1 + 1, 0, none⟩), .pointer (some ⟨w.heap.size + 1 + 1, 0, none⟩)]) rfl trivial (enters_of Try.func66 (by kernel_rfl) rfl)
    (way_stops (6 - 1) (by omega) (w.heap.size + 1 + 1 + 1) (w.heap.size + 1 + 1) w.heap.size A c l key hl hd hh w W0 rfl hC hB0 b3.lt b2.lt (by rw [b3.cell]; rfl) (by rw [b2.cell]; rfl)) kp_t (kp_b hB0.size) (Below.refl _ _) (fun _ => rfl)
    (fun pre W => (Blk W w.heap.size 9 [.string key] ∧ Blk W (w.heap.size + 1) 3 [.int .i64 (-1)]) ∧ Below w.heap.size w W ∧ ∀ p ∈ pre, goesOn key p.2)
    (fun c pre W => (c = .exit 0 ∧ ∃ (ini : List (Int × S95)) (last : Int × S95), pre = ini ++ [last] ∧ (∀ p ∈ ini, goesOn key p.2) ∧ ¬ goesOn key last.2 ∧ Blk W (w.heap.size + 1) 3 [.int .i64 (if last.2.f0 = 0 then -1 else last.1)]) ∧ Below w.heap.size w W)
    ((OwnFrom.and (blk_ownFrom _ _ _ _) (blk_ownFrom _ _ _ _)).and ((ownFrom_below (Nat.le_refl _) hB0.size).and (OwnFrom.pure _)))
    (fun c => OwnFrom.and (fun s W W' row ⟨h1, ini, last, h2, h3, h4, h5⟩ hg hr => ⟨h1, ini, last, h2, h3, h4, blk_ownFrom (β := Unit) W0.heap.size _ _ (fun _ => _) () W W' row h5 hg hr⟩) (ownFrom_below (Nat.le_refl _) hB0.size))
    ⟨⟨b0, b1⟩, hB0, by simp⟩
    (fun x a' W => ∃ Bx, w.heap.size + 1 < Bx ∧ Blk W Bx 95 [.int .i64 x.2.f0, .string x.2.f1, .int .i64 x.2.f2, .int .i64 x.2.f3] ∧ a' = { tmps := #[.slice A l.length c, .string key, undef, .pointer (some ⟨w.heap.size, 0, none⟩), .int .i64 0, .pointer (some ⟨w.heap.size + 1, 0, none⟩), .int .i64 x.1, .pointer (some ⟨Bx, 0, none⟩), .slice A l.length c, .string key, .func (.func 66) #[] #[.pointer (some ⟨w.heap.size + 1 + 1 + 1, 0, none⟩), .pointer (some ⟨w.heap.size + 1 + 1, 0, none⟩)], .int .i64 x.1, entV x.2, undef, undef, undef, undef, undef, undef, undef, undef, undef, undef, undef, undef, undef, undef, undef, undef], defers := [] })
    (fun x a' s W W' row ⟨Bx, h1, h2, h3⟩ hg hr => ⟨Bx, h1, blk_ownFrom (β := Unit) W0.heap.size _ _ (fun _ => _) () W W' row h2 hg hr, h3⟩) ?assign ?body ?done ?stop
  case assign =>
    rintro y pre x W K ⟨⟨c0, c1⟩, hB, hp⟩ hK
    gi_wp2
    exact hK _ _ ((KeepsOthers.alloc _ _).from _) ((KpB.refl _ _ _).alloc hB.size _) ⟨⟨c0.alloc _, c1.alloc _⟩, hB.alloc hB.size _, hp⟩ ⟨_, c1.lt, Blk.new W 95 [.int .i64 x.2.f0, .string x.2.f1, .int .i64 x.2.f2, .int .i64 x.2.f3], rfl⟩
  case body =>
    rintro y pre x a' W hy ⟨r, hr⟩ ⟨⟨c0, c1⟩, hB, hp⟩ ⟨Bx, hBx, cx, rfl⟩ hlt
    have d0 : W.cell? ⟨w.heap.size, 0, none⟩ = some (.string key) := c0.cell 0
    have e0 : W.cell? ⟨Bx, 0, none⟩ = some (.int .i64 x.2.f0) := cx.cell 0
    have e1 : W.cell? ⟨Bx, 1, none⟩ = some (.string x.2.f1) := cx.cell 1
    by_cases h0 : x.2.f0 = 0
    · have q0 : (x.2.f0 == 0) = true := by simpa using h0
      have hx : ¬ goesOn key x.2 := fun h => h.1 h0
      have hz : (if x.2.f0 = 0 then (-1 : Int) else x.1) = -1 := if_pos h0
      have H0 := Lib.hid h0
      have HZ := Lib.hid hz
      clear h0 hz
      gi_wp2
      refine ⟨KeepsFrom.refl _ _, ⟨rfl, pre, x, rfl, hp, hx, ?_⟩, hB⟩
      rw [HZ.out]; exact c1
    · have q0 : (x.2.f0 == 0) = false := by simpa using h0
      have hz : (if x.2.f0 = 0 then (-1 : Int) else x.1) = x.1 := if_neg h0
      have HZ := Lib.hid hz
      have H0 := Lib.hid h0
      clear h0 hz
      by_cases h1 : x.2.f0 = 1
      · have q1 : (x.2.f0 == 1) = true := by simpa using h1
        have H1 := Lib.hid h1
        clear h1
        by_cases hk : x.2.f1 = key
        · have hx : ¬ goesOn key x.2 := fun h => h.2 ⟨H1.out, hk⟩
          have q2 : (x.2.f1.toList == key.toList) = true := by rw [hk]; simp
          have f1 := c1.frozen 0
          have g1 := c1.cell 0
          have HK := Lib.hid hk
          clear hk
          gi_wp2
          refine ⟨(KeepsOthers.setCell _ _ _).from _, ⟨rfl, pre, x, rfl, hp, hx, ?_⟩, hB.setCell (p := ⟨w.heap.size + 1, 0, none⟩) (by simp) _⟩
          rw [HZ.out]; exact c1.set1 _
        · have hx : goesOn key x.2 := ⟨H0.out, fun h => hk h.2⟩
          have q2 : (x.2.f1.toList == key.toList) = false := by
            rw [beq_eq_false_iff_ne]; intro e; exact hk (bytes_eq e)
          have HK := Lib.hid hk
          clear hk
          gi_wp2
          exact ⟨KeepsFrom.refl _ _, KpB.refl _ _ _, ⟨c0, c1⟩, hB, fun p hp' => (List.mem_append.1 hp').elim (hp p) (fun e => by simp at e; subst e; exact hx)⟩
      · have q1 : (x.2.f0 == 1) = false := by simpa using h1
        have hx : goesOn key x.2 := ⟨H0.out, fun h => h1 h.1⟩
        clear h1
        gi_wp2
        exact ⟨KeepsFrom.refl _ _, KpB.refl _ _ _, ⟨c0, c1⟩, hB, fun p hp' => (List.mem_append.1 hp').elim (hp p) (fun e => by simp at e; subst e; exact hx)⟩
  case done =>
    rintro D ys W hD rfl ⟨⟨c0, c1⟩, hB, hp⟩ hK
    have g1 : W.cell? ⟨w.heap.size + 1, 0, none⟩ = some (.int .i64 (-1)) := c1.cell 0
    gi_wp2
    refine ⟨by simp, .inl ⟨_, _, rfl, run_takeDeferred hK, ?_⟩⟩
    refine ⟨_, results_tmp rfl _ _ _, ?_, hB.trans (belowK_b (w := w) (Nat.le_refl _) W D _ _ (Nat.le_trans hB0.size hD) hK rfl rfl)⟩
    have e := findIn_on (upto (wayAt l hd) l.length) [] hp
    rw [List.append_nil] at e
    rw [e]; rfl
  case stop =>
    rintro D cc pre W hD ⟨k, hk, rfl⟩ ⟨⟨rfl, ini, last, e1, e2, e3, c1⟩, hB⟩ hK
    have hf : (if last.2.f0 = 0 then (-1 : Int) else last.1) = findIn key (upto (wayAt l hd) l.length) := by
      obtain ⟨rest, hr⟩ := upto_split (wayAt l hd) hk
      rw [hr, e1, List.append_assoc, findIn_on _ _ e2]
      simp only [List.cons_append, findIn]
      by_cases h0 : last.2.f0 = 0
      · rw [if_pos h0, if_pos h0]
      · rw [if_neg h0, if_neg h0]
        have : last.2.f0 = 1 ∧ last.2.f1 = key := Classical.byContradiction fun h => e3 ⟨h0, h⟩
        rw [if_pos this]
    rw [hf] at c1
    have g1 : W.cell? ⟨w.heap.size + 1, 0, none⟩ = some (.int .i64 (findIn key (upto (wayAt l hd) l.length))) := c1.cell 0
    gi_wp2
    refine ⟨by simp, .inl ⟨_, _, rfl, run_takeDeferred hK, ?_⟩⟩
    exact ⟨_, results_tmp rfl _ _ _, rfl, hB.trans (belowK_b (w := w) (Nat.le_refl _) W D _ _ (Nat.le_trans hB0.size hD) hK rfl rfl)⟩

theorem probe_Find.calls (A0 : Option Addr) (c0 : Nat) (l0 : List S95) (a1 : ByteArray) (r : Int) (w : World) (hr0 : Kd.C k95 w A0 l0.length l0) (hc0 : l0.length ≤ c0) (h : probe_Find.f l0 a1 = some r) :
    Calls Try.prog 57 #[.slice A0 l0.length c0, .string a1] w fun e w' => e = .returned (.int .i64 r) ∧ Below w.heap.size w w' := by
  unfold probe_Find.f at h
  by_cases hl : l0.length ≤ 1000000
  · rw [if_pos hl] at h
    obtain ⟨hd, hh, h⟩ := Option.bind_eq_some_iff.mp h
    obtain rfl := Option.some.inj h
    exact Find_any A0 c0 l0 a1 hl hd hh w hr0
  · rw [if_neg hl] at h
    exact absurd h (by simp)
end

/-! ### probe_Room: function 58 -/
section
open Go.Shelf Go.Proofs.Ytbbgeobnjdgpfaa.Hand
attribute [local go_sem] Oper.semAt_some
def roomIn : List (Int × S95) → Int
  | [] => -1
  | (j, x) :: r => if x.f0 = 1 then roomIn r else j
theorem roomIn_on : ∀ (a b : List (Int × S95)), (∀ p ∈ a, p.2.f0 = 1) → roomIn (a ++ b) = roomIn b
  | [], _, _ => rfl
  | (j, x) :: a, b, h => by
    have hx := h (j, x) (by simp)
    simp only [List.cons_append, roomIn]
    rw [if_pos hx]
    exact roomIn_on a b (fun p hp => h p (by simp [hp]))
def probe_Room.f (l0 : List S95) (a1 : ByteArray) : Option Int :=
  (probe_Find.f l0 a1).bind fun t => if 0 ≤ t then some (-1) else (probe_Home.f a1 l0.length).bind fun hd => some (roomIn (upto (wayAt l0 hd) l0.length))

set_option maxRecDepth 100000 in
set_option maxHeartbeats 8000000 in
theorem Room_any (A : Option Addr) (c : Nat) (l : List S95) (key : ByteArray) (hcap : l.length ≤ c) (hl : l.length ≤ 1000000) (t : Int) (ht : probe_Find.f l key = some t) (hd : Int) (hh : probe_Home.f key l.length = some hd) (w : World) (hC : Kd.C k95 w A l.length l) :
    Calls Try.prog 58 #[.slice A l.length c, .string key] w fun e W' => e = .returned (.int .i64 (if 0 ≤ t then -1 else roomIn (upto (wayAt l hd) l.length))) ∧ Below w.heap.size w W' := by
  refine (callsIn_wide (n := 6)).1 ?_
  have hro : Fence.wide.round = none := rfl
  by_cases htp : 0 ≤ t
  · rw [if_pos htp]
    have hq : decide (0 ≤ t) = true := decide_eq_true htp
    clear htp
    refine callsIn_of_wp_marks Try.func58 rfl trivial ?_ hro
    simp only [Try.ntmps58, List.size_toArray, List.length_cons, List.length_nil, Nat.reduceAdd, Nat.reduceSub, Array.replicate_succ, Array.replicate_zero, List.push_toArray, List.append_toArray, List.nil_append, List.cons_append]
    have b0 := Blk.new w 3 [.int .i64 0]
    gi_wp2_with (refine ⟨trivial, ?_⟩; gi_at_call 57; refine (callsIn_wide.2 (probe_Find.calls _ _ _ _ _ _ (Kd.C_alloc hC _) hcap ht)).mono ?_; rintro e w1 ⟨rfl, hb1⟩; have b1 := b0.below hb1; have g1 := b1.cell 0; have f1 := b1.frozen 0)
    have g2 := (b1.set1 (.int .i64 (-1))).cell 0
    refine ⟨.int .i64 (-1), ?_, rfl, (((Below.refl _ w).alloc (Nat.le_refl _) _).trans (hb1.mono (by simp))).setCell (p := ⟨w.heap.size, 0, none⟩) (Nat.le_refl _) _⟩
    simp [results, Try.f58, go_sem, g2]
  · rw [if_neg htp]
    have hq : decide (0 ≤ t) = false := decide_eq_false htp
    clear htp
    refine callsIn_of_wp_marks Try.func58 rfl trivial ?_ hro
    simp only [Try.ntmps58, List.size_toArray, List.length_cons, List.length_nil, Nat.reduceAdd, Nat.reduceSub, Array.replicate_succ, Array.replicate_zero, List.push_toArray, List.append_toArray, List.nil_append, List.cons_append]
    have b0 := Blk.new w 3 [.int .i64 0]
    gi_wp2_with (first | (refine ⟨trivial, ?_⟩; gi_at_call 57; refine (callsIn_wide.2 (probe_Find.calls _ _ _ _ _ _ (Kd.C_alloc hC _) hcap ht)).mono ?_; rintro e w1 ⟨rfl, hb1⟩; have b1 := b0.below hb1; have g1 := b1.cell 0; have f1 := b1.frozen 0; have hB1 := ((Below.refl w.heap.size w).alloc (Nat.le_refl _) (.cells #[.int .i64 0] 3)).trans (hb1.mono (by simp)); clear hb1) | (refine ⟨trivial, ?_⟩; gi_at_call 62; refine (callsIn_wide.2 (way_any _ _ _ _ _)).mono ?_; rintro e w' ⟨rfl, rfl⟩))
    have b2 := Blk.new w1 56 [.slice A l.length c]
    have b3 := Blk.new (w1.alloc (.cells #[.slice A l.length c] 56)) 9 [.string key]
    have hB0 : Below w.heap.size w ((w1.alloc (.cells #[.slice A l.length c] 56)).alloc (.cells #[.string key] 9)) := (hB1.alloc hB1.size _).alloc (by have := hB1.size; simp; omega) _
    replace b1 := (b1.alloc (.cells #[.slice A l.length c] 56)).alloc (.cells #[.string key] 9)
    replace b2 := b2.alloc (.cells #[.string key] 9)
    simp only [World.size_alloc] at b2 b3
    obtain ⟨W0, hW0⟩ : ∃ W0, ((w1.alloc (.cells #[.slice A l.length c] 56)).alloc (.cells #[.string key] 9)) = W0 := ⟨_, rfl⟩
    rw [hW0] at hB0 ⊢
    replace b1 : Blk W0 w.heap.size 3 [.int .i64 0] := by rw [← hW0]; exact b1
    replace b2 : Blk W0 w1.heap.size 56 [.slice A l.length c] := by rw [← hW0]; exact b2
    replace b3 : Blk W0 (w1.heap.size + 1) 9 [.string key] := by rw [← hW0]; exact b3
    clear hW0
    refine wpIn_rangeFunc_ownH hro (by omega) (gf := 66) (lb := #[.pointer (some ⟨w1.heap.size + 1, 0, none⟩), .pointer (some ⟨w1.heap.size, 0, none⟩)]) rfl trivial (enters_of Try.func66 (by kernel_rfl) rfl)
      (way_stops (6 - 1) (by omega) (w1.heap.size + 1) w1.heap.size w.heap.size A c l key hl hd hh w W0 rfl hC hB0 b3.lt b2.lt (by rw [b3.cell]; rfl) (by rw [b2.cell]; rfl)) kp_t (kp_b hB0.size) (Below.refl _ _) (fun _ => rfl)
      (fun pre W => Blk W w.heap.size 3 [.int .i64 0] ∧ Below w.heap.size w W ∧ ∀ p ∈ pre, p.2.f0 = 1)
      (fun c pre W => (c = .ret ∧ ∃ (ini : List (Int × S95)) (last : Int × S95), pre = ini ++ [last] ∧ (∀ p ∈ ini, p.2.f0 = 1) ∧ ¬ last.2.f0 = 1 ∧ Blk W w.heap.size 3 [.int .i64 last.1]) ∧ Below w.heap.size w W)
      ((blk_ownFrom _ _ _ _).and ((ownFrom_below (Nat.le_refl _) hB0.size).and (OwnFrom.pure _)))
      (fun c => OwnFrom.and (fun s W W' row ⟨h1, ini, last, h2, h3, h4, h5⟩ hg hr => ⟨h1, ini, last, h2, h3, h4, blk_ownFrom (β := Unit) W0.heap.size _ _ (fun _ => _) () W W' row h5 hg hr⟩) (ownFrom_below (Nat.le_refl _) hB0.size))
      ⟨b1, hB0, by simp⟩
      (fun x a' W => ∃ Bx, w.heap.size < Bx ∧ Blk W Bx 95 [.int .i64 x.2.f0, .string x.2.f1, .int .i64 x.2.f2, .int .i64 x.2.f3] ∧ a' = { tmps := #[.slice A l.length c, .string key, undef, undef, .pointer (some ⟨w.heap.size, 0, none⟩), .int .i64 x.1, .pointer (some ⟨Bx, 0, none⟩), .slice A l.length c, .string key, .int .i64 t, .bool false, .slice A l.length c, .string key, .func (.func 66) #[] #[.pointer (some ⟨w1.heap.size + 1, 0, none⟩), .pointer (some ⟨w1.heap.size, 0, none⟩)], .int .i64 x.1, entV x.2, undef, undef, undef, undef], defers := [] })
      (fun x a' s W W' row ⟨Bx, h1, h2, h3⟩ hg hr => ⟨Bx, h1, blk_ownFrom (β := Unit) W0.heap.size _ _ (fun _ => _) () W W' row h2 hg hr, h3⟩) ?assign ?body ?done ?stop
    case assign =>
      rintro y pre x W K ⟨c0, hB, hp⟩ hK
      gi_wp2
      exact hK _ _ ((KeepsOthers.alloc _ _).from _) ((KpB.refl _ _ _).alloc hB.size _) ⟨c0.alloc _, hB.alloc hB.size _, hp⟩ ⟨_, c0.lt, Blk.new W 95 [.int .i64 x.2.f0, .string x.2.f1, .int .i64 x.2.f2, .int .i64 x.2.f3], rfl⟩
    case body =>
      rintro y pre x a' W hy ⟨r, hr⟩ ⟨c0, hB, hp⟩ ⟨Bx, hBx, cx, rfl⟩ hlt
      have e0 : W.cell? ⟨Bx, 0, none⟩ = some (.int .i64 x.2.f0) := cx.cell 0
      by_cases h0 : x.2.f0 = 1
      · have q0 : (x.2.f0 != 1) = false := by simpa using h0
        have H0 := Lib.hid h0
        clear h0
        gi_wp2
        exact ⟨KeepsFrom.refl _ _, KpB.refl _ _ _, c0, hB, fun p hp' => (List.mem_append.1 hp').elim (hp p) (fun e => by simp at e; subst e; exact H0.out)⟩
      · have q0 : (x.2.f0 != 1) = true := by simpa using h0
        have H0 := Lib.hid h0
        clear h0
        have f1 := c0.frozen 0
        have g1 := c0.cell 0
        gi_wp2
        exact ⟨(KeepsOthers.setCell _ _ _).from _, ⟨rfl, pre, x, rfl, hp, H0.out, c0.set1 _⟩, hB.setCell (p := ⟨w.heap.size, 0, none⟩) (Nat.le_refl _) _⟩
    case done =>
      rintro D ys W hD rfl ⟨c0, hB, hp⟩ hK
      have f1 := c0.frozen 0
      have g1 := c0.cell 0
      gi_wp2
      have hK' := (KeepsOthers.setCell W ⟨w.heap.size, 0, none⟩ (.int .i64 (-1))).same D _ hK rfl
      refine ⟨by simp, .inl ⟨_, _, rfl, run_takeDeferred hK', ?_⟩⟩
      have g2 := cell_kept ((c0.set1 (.int .i64 (-1))).cell 0) (grownBy_putObj' _ D (.deferred none)) (fun r e => by cases e; exact ⟨_, hK', rfl⟩)
      have e := roomIn_on (upto (wayAt l hd) l.length) [] hp
      rw [List.append_nil] at e
      refine ⟨.int .i64 (-1), ?_, by rw [e]; rfl, (hB.setCell (p := ⟨w.heap.size, 0, none⟩) (Nat.le_refl _) _).trans (belowK_b (w := w) (Nat.le_refl _) _ D _ _ (Nat.le_trans hB0.size hD) hK' rfl rfl)⟩
      simp [results, Try.f58, go_sem, g2]
    case stop =>
      rintro D cc pre W hD ⟨k, hk, rfl⟩ ⟨⟨rfl, ini, last, e1, e2, e3, c1⟩, hB⟩ hK
      have hf : last.1 = roomIn (upto (wayAt l hd) l.length) := by
        obtain ⟨rest, hr⟩ := upto_split (wayAt l hd) hk
        rw [hr, e1, List.append_assoc, roomIn_on _ _ e2]
        simp only [List.cons_append, roomIn]
        rw [if_neg e3]
      rw [hf] at c1
      gi_wp2
      refine ⟨by simp, .inl ⟨_, _, rfl, run_takeDeferred hK, ?_⟩⟩
      have g2 := cell_kept (c1.cell 0) (grownBy_putObj' _ D (.deferred none)) (fun r e => by cases e; exact ⟨_, hK, rfl⟩)
      refine ⟨_, ?_, rfl, hB.trans (belowK_b (w := w) (Nat.le_refl _) W D _ _ (Nat.le_trans hB0.size hD) hK rfl rfl)⟩
      simp [results, Try.f58, go_sem, g2]

theorem probe_Room.calls (A0 : Option Addr) (c0 : Nat) (l0 : List S95) (a1 : ByteArray) (r : Int) (w : World) (hr0 : Kd.C k95 w A0 l0.length l0) (hc0 : l0.length ≤ c0) (h : probe_Room.f l0 a1 = some r) :
    Calls Try.prog 58 #[.slice A0 l0.length c0, .string a1] w fun e w' => e = .returned (.int .i64 r) ∧ Below w.heap.size w w' := by
  unfold probe_Room.f at h
  obtain ⟨t, ht, h⟩ := Option.bind_eq_some_iff.mp h
  have ht' := ht
  unfold probe_Find.f at ht'
  by_cases hl : l0.length ≤ 1000000
  · rw [if_pos hl] at ht'
    obtain ⟨hd, hh, _⟩ := Option.bind_eq_some_iff.mp ht'
    have hr : r = if 0 ≤ t then -1 else roomIn (upto (wayAt l0 hd) l0.length) := by
      by_cases h0 : 0 ≤ t
      · rw [if_pos h0] at h ⊢; exact (Option.some.inj h).symm
      · rw [if_neg h0, hh] at h
        rw [if_neg h0]
        exact (Option.some.inj h).symm
    rw [hr]
    exact Room_any A0 c0 l0 a1 hc0 hl t ht hd hh w hr0
  · rw [if_neg hl] at ht'
    exact absurd ht' (by simp)
end

end Go.Proofs.Ytbbgeobnjdgpfaa.P
