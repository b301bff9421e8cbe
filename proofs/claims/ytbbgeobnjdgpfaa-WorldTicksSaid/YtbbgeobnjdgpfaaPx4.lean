/- Each Go function that the laws reach, as a plain function, with the proof that the machine's call comes to what it says; of a law: its row. Made by a program of this seat (wip/hp.py, over the print). -/
import Derived.Test.YtbbgeobnjdgpfaaPx0
import Derived.Test.YtbbgeobnjdgpfaaPx1
import Derived.Test.YtbbgeobnjdgpfaaPx2
import Derived.Test.YtbbgeobnjdgpfaaPx3
namespace Go.Proofs.Ytbbgeobnjdgpfaa.P
open Go.RowKit Go.Proofs.YtbbgeobnjdgpfaaW.PrintWords Go.Proofs.YtbbgeobnjdgpfaaW.PrintLast Go.Proofs.YtbbgeobnjdgpfaaW.PrintMore
attribute [local go_sem] max2_int min2_int max_two min_two max_three min_three max_four min_four   -- for this text's walks alone
set_option linter.unusedVariables false
set_option linter.unusedSimpArgs false

/-! ### gangplankref18_New: function 10 -/
section
open Go.Shelf Go.Proofs.Ytbbgeobnjdgpfaa.Hand
theorem refWorld (W : World) (a c d e : Int) (n x y : Nat) (pins places : Value) : let V := ((((W.alloc (.cells #[.int .i64 a, .int .i64 (n : Int), .int .i64 c, .int .i64 d, .int .i64 e] 23)).alloc (.cells (ints (List.replicate x 0)).toArray 3)).alloc (.cells (ints (List.replicate y 0)).toArray 3)).alloc (.cells #[.int .i64 a, .int .i64 (n : Int), .int .i64 c, .int .i64 d, .int .i64 e, .int .i64 0, .int .i64 0, pins, .slice none 0 0, .slice none 0 0, .slice none 0 0, .slice none 0 0, places, .int .i64 0] 43)).drew
    Blk V W.heap.size 23 [.int .i64 a, .int .i64 (n : Int), .int .i64 c, .int .i64 d, .int .i64 e] ∧ Blk V (W.heap.size + 1 + 1 + 1) 43 [.int .i64 a, .int .i64 (n : Int), .int .i64 c, .int .i64 d, .int .i64 e, .int .i64 0, .int .i64 0, pins, .slice none 0 0, .slice none 0 0, .slice none 0 0, .slice none 0 0, places, .int .i64 0] ∧ Below W.heap.size W V ∧ V.heap.size = W.heap.size + 1 + 1 + 1 + 1 := by
  intro V
  have h0 := ((Blk.new W 23 [.int .i64 a, .int .i64 (n : Int), .int .i64 c, .int .i64 d, .int .i64 e]).alloc (.cells (ints (List.replicate x 0)).toArray 3)).alloc (.cells (ints (List.replicate y 0)).toArray 3)
  have h1 := Blk.new (((W.alloc (.cells #[.int .i64 a, .int .i64 (n : Int), .int .i64 c, .int .i64 d, .int .i64 e] 23)).alloc (.cells (ints (List.replicate x 0)).toArray 3)).alloc (.cells (ints (List.replicate y 0)).toArray 3)) 43 [.int .i64 a, .int .i64 (n : Int), .int .i64 c, .int .i64 d, .int .i64 e, .int .i64 0, .int .i64 0, pins, .slice none 0 0, .slice none 0 0, .slice none 0 0, .slice none 0 0, places, .int .i64 0]
  have hb := below_drew (below_alloc (below_alloc (below_alloc (below_alloc (Below.refl _ W) (.cells #[.int .i64 a, .int .i64 (n : Int), .int .i64 c, .int .i64 d, .int .i64 e] 23)) (.cells (ints (List.replicate x 0)).toArray 3)) (.cells (ints (List.replicate y 0)).toArray 3)) (.cells #[.int .i64 a, .int .i64 (n : Int), .int .i64 c, .int .i64 d, .int .i64 e, .int .i64 0, .int .i64 0, pins, .slice none 0 0, .slice none 0 0, .slice none 0 0, .slice none 0 0, places, .int .i64 0] 43))
  have hs : ((((W.alloc (.cells #[.int .i64 a, .int .i64 (n : Int), .int .i64 c, .int .i64 d, .int .i64 e] 23)).alloc (.cells (ints (List.replicate x 0)).toArray 3)).alloc (.cells (ints (List.replicate y 0)).toArray 3)).heap.size) = W.heap.size + 1 + 1 + 1 := by simp
  rw [hs] at h1
  refine ⟨h0.alloc _, h1, hb, ?_⟩
  show (World.alloc _ _).heap.size = _
  rw [World.size_alloc, hs]
set_option maxRecDepth 100000 in
set_option maxHeartbeats 16000000 in
theorem ref18New_any (a c d e : Int) (n m n1 : Nat) (sl : List S151) (kl : List S153) (ha : wrap64 (a + 1) = (n1 : Int)) (hn1 : n1 ≤ 1024) (hn16 : n ≤ 16) (hc : gangplankref12_New.f c = some (List.replicate m z95)) (hs : gangplankref16_New.f e = some sl) (hk : gangplankref15_New.f e = some kl) (W : World) :
    Calls Try.prog 10 #[.agg #[.int .i64 a, .int .i64 (n : Int), .int .i64 c, .int .i64 d, .int .i64 e]] W fun r W' => ∃ g N pins places lv tv sv kv, r = .returned (.pointer (some ⟨g, 0, none⟩)) ∧ (Blk W' g 43 [.int .i64 a, .int .i64 (n : Int), .int .i64 c, .int .i64 d, .int .i64 e, .int .i64 0, .int .i64 0, pins, lv, sv, kv, tv, places, .int .i64 0]) ∧ Kd.R (Kd.slice 95 k95) 56 W' N (fun _ => True) tv (List.replicate n (List.replicate m z95)) ∧ Kd.R (Kd.int .i64) 3 W' N (fun _ => True) lv (List.replicate n (-1)) ∧ W.heap.size ≤ g ∧ W.heap.size ≤ N ∧ Below W.heap.size W W' := by
  have r1 := fun w => run_make_int n1 hn1 w
  have r2 := fun w => run_make_int n (by omega) w
  have hwa : IntKind.i64.wrap (a + 1) = (n1 : Int) := (i64_w _).trans ha
  have b0 := Blk.new W 23 [.int .i64 a, .int .i64 (n : Int), .int .i64 c, .int .i64 d, .int .i64 e]
  have HB0 := Lib.hid b0
  have HC := Lib.hid hc
  have HS := Lib.hid hs
  have HKE := Lib.hid hk
  have H16 := Lib.hid hn16
  have HK := Lib.hid (show ∀ V : World, Blk V W.heap.size 23 [.int .i64 a, .int .i64 (n : Int), .int .i64 c, .int .i64 d, .int .i64 e] → V.cell? ⟨W.heap.size, 0, none⟩ = some (.int .i64 a) ∧ V.cell? ⟨W.heap.size, 1, none⟩ = some (.int .i64 (n : Int)) ∧ V.cell? ⟨W.heap.size, 2, none⟩ = some (.int .i64 c) ∧ V.cell? ⟨W.heap.size, 3, none⟩ = some (.int .i64 d) ∧ V.cell? ⟨W.heap.size, 4, none⟩ = some (.int .i64 e) from fun V h => ⟨h.cell 0, h.cell 1, h.cell 2, h.cell 3, h.cell 4⟩)
  clear b0 hc hs hk hn16 hn1
  go_enter Try.func10, Try.ntmps10
  go_wp2
  go_region_held3 (fun w' => w'.cell? ⟨W.heap.size, 0, none⟩ = some (.int .i64 a) ∧ w'.cell? ⟨W.heap.size, 1, none⟩ = some (.int .i64 (n : Int)) ∧ w'.cell? ⟨W.heap.size, 2, none⟩ = some (.int .i64 c) ∧ w'.cell? ⟨W.heap.size, 3, none⟩ = some (.int .i64 d) ∧ w'.cell? ⟨W.heap.size, 4, none⟩ = some (.int .i64 e))
    (exact HK.out _ (by (repeat (first | with_reducible exact HB0.out | with_reducible apply blkDrewW | with_reducible apply Blk.alloc))))
    (fail)
  · have hf := refWorld W a c d e n n1 n (.slice (some ⟨W.heap.size + 1, 0, none⟩) n1 n1) (.slice (some ⟨W.heap.size + 1 + 1, 0, none⟩) n n)
    obtain ⟨Wg, hWg⟩ : ∃ Wg, ((((W.alloc (.cells #[.int .i64 a, .int .i64 (n : Int), .int .i64 c, .int .i64 d, .int .i64 e] 23)).alloc (.cells (ints (List.replicate n1 0)).toArray 3)).alloc (.cells (ints (List.replicate n 0)).toArray 3)).alloc (.cells #[.int .i64 a, .int .i64 (n : Int), .int .i64 c, .int .i64 d, .int .i64 e, .int .i64 0, .int .i64 0, .slice (some ⟨W.heap.size + 1, 0, none⟩) n1 n1, .slice none 0 0, .slice none 0 0, .slice none 0 0, .slice none 0 0, .slice (some ⟨W.heap.size + 1 + 1, 0, none⟩) n n, .int .i64 0] 43)).drew = Wg := ⟨_, rfl⟩
    dsimp only at hf
    rw [hWg] at hf ⊢
    obtain ⟨fB, fG, fb, fs⟩ := hf
    have hNE : ¬ ((W.heap.size) = (W.heap.size + 1 + 1 + 1)) := by omega
    have HNE := Lib.hid hNE
    have HB := Lib.hid fB
    have HP := Lib.hid fG
    have HFB := Lib.hid fb
    have HFS := Lib.hid fs
    clear hWg fB fG fb fs hNE r1 r2 HB0
    go_wp2
    go_loopw [4] (fun i wr => ∃ k : Nat, k ≤ n ∧ i = .int .i64 k ∧ ∃ lv tv, Blk wr (W.heap.size + 1 + 1 + 1) 43 [.int .i64 a, .int .i64 (n : Int), .int .i64 c, .int .i64 d, .int .i64 e, .int .i64 0, .int .i64 0, .slice (some ⟨W.heap.size + 1, 0, none⟩) n1 n1, lv, .slice none 0 0, .slice none 0 0, tv, .slice (some ⟨W.heap.size + 1 + 1, 0, none⟩) n n, .int .i64 0] ∧ Kd.R (Kd.int .i64) 3 wr Wg.heap.size (fun _ => True) lv (List.replicate k (-1)) ∧ Kd.R (Kd.slice 95 k95) 56 wr Wg.heap.size (fun _ => True) tv (List.replicate k (List.replicate m z95)) ∧ OnlyP Wg wr (W.heap.size + 1 + 1 + 1)) (fun i _ => n - (intOf i).toNat)
    case atStart => exact ⟨0, Nat.zero_le _, rfl, _, _, HP.out, Kd.R_nil _ _ _ _ _, Kd.R_nil _ _ _ _ _, OnlyP.refl _ _⟩
    case round =>
      obtain ⟨k, hk, rfl, lv, tv, hp, hl, ht, ho⟩ := hrel
      by_cases hlt : k < n
      · have HR := Lib.hid hp
        have HT := Lib.hid ht
        have HL := Lib.hid hl
        have HO := Lib.hid ho
        have BB := Lib.hid (ho.blk HB.out HNE.out)
        clear hp ht hl ho HP HB
        have z1 : wr.cell? ⟨(W.heap.size), 1, none⟩ = some (.int .i64 (n : Int)) := BB.out.cell 1
        have z8 : wr.cell? ⟨(W.heap.size + 1 + 1 + 1), 8, none⟩ = some lv := HR.out.cell 8
        have p1 : decide ((k : Int) < (n : Int)) = true := decide_eq_true (by omega)
        have hw : wrap64 ((k : Int) + 1) = ((k + 1 : Nat) : Int) := by have := H16.out; unfold wrap64; omega
        go_wp2_with (at_builtin; refine Kd.R_append (Kd.int .i64) (w0 := wr) Wg.heap.size rfl (.tmp 25) (.tmp 26) 24 3 (.int .i64 0) 8 rfl Try.underlying24 infoInt rfl (by decide) (by omega) lv (List.replicate k (-1)) (-1) [.int .i64 (-1)] (fun _ => True) (fun _ => False) rfl rfl rfl (fun _ hk => hk.elim) (fun _ _ => trivial) HL.out (Below.refl _ _) HO.out.size (by have := H16.out; rw [List.length_replicate]; omega) ?_; intro pv2 w4 hl2 hb2 hg2 _; obtain ⟨A4, c4, rfl⟩ : ∃ A4 c4, pv2 = .slice A4 (k + 1) c4 := (by have h := Kd.R_slice hl2; rw [List.length_append, List.length_replicate] at h; exact h); have HR4 := Lib.hid (blkGrown HR.out hg2 (Kd.R_ne HL.out HR.out (by decide))); have BB4 := Lib.hid (blkGrown BB.out hg2 (Kd.R_ne HL.out BB.out (by decide))); have HT4 := Lib.hid (Kd.R_over HT.out HL.out (by decide) hg2); have HL4 := Lib.hid hl2; have HO4 := Lib.hid (HO.out.grown hg2 (Kd.R_base HL.out)); clear hl2 hb2 hg2; have z38 : w4.cell? ⟨(W.heap.size + 1 + 1 + 1), 8, none⟩ = some lv := HR4.out.cell 8; have zf8 : w4.frozen? ⟨(W.heap.size + 1 + 1 + 1), 8, none⟩ = false := HR4.out.frozen 8)
        obtain ⟨W5, hW5⟩ : ∃ W5, w4.setCell ⟨(W.heap.size + 1 + 1 + 1), 8, none⟩ (.slice A4 (k + 1) c4) = W5 := ⟨_, rfl⟩
        have n1 := Lib.hid (show Blk W5 (W.heap.size + 1 + 1 + 1) 43 [.int .i64 a, .int .i64 (n : Int), .int .i64 c, .int .i64 d, .int .i64 e, .int .i64 0, .int .i64 0, .slice (some ⟨W.heap.size + 1, 0, none⟩) n1 n1, (.slice A4 (k + 1) c4), .slice none 0 0, .slice none 0 0, tv, .slice (some ⟨W.heap.size + 1 + 1, 0, none⟩) n n, .int .i64 0] from by rw [← hW5]; exact blk_putL HR4.out 8 _)
        have n2 := Lib.hid (show Kd.R (Kd.slice 95 k95) 56 W5 Wg.heap.size (fun _ => True) tv (List.replicate k (List.replicate m z95)) from by rw [← hW5]; exact Kd.R_set HT4.out (show w4.heap[(W.heap.size + 1 + 1 + 1)]? = _ from HR4.out) (by decide) 8 _)
        have n3 := Lib.hid (show Kd.R (Kd.int .i64) 3 W5 Wg.heap.size (fun _ => True) (.slice A4 (k + 1) c4) (List.replicate (k + 1) (-1)) from by rw [← hW5, List.replicate_succ']; exact Kd.R_set HL4.out (show w4.heap[(W.heap.size + 1 + 1 + 1)]? = _ from HR4.out) (by decide) 8 _)
        have n4 := Lib.hid (show OnlyP Wg W5 (W.heap.size + 1 + 1 + 1) from by rw [← hW5]; exact HO4.out.trans (OnlyP.set _ _ _ _))
        have n5 := Lib.hid (show Blk W5 (W.heap.size) 23 [.int .i64 a, .int .i64 (n : Int), .int .i64 c, .int .i64 d, .int .i64 e] from by rw [← hW5]; exact BB4.out.far _ (fun h => HNE.out h.symm) _)
        rw [hW5]
        clear hW5 HR HT HL HO BB HR4 HT4 HL4 HO4 BB4 z38 zf8 z1 z8
        have HR := n1
        have HT := n2
        have HL := n3
        have HO := n4
        have BB := n5
        clear n1 n2 n3 n4 n5
        have z2 : W5.cell? ⟨(W.heap.size), 2, none⟩ = some (.int .i64 c) := BB.out.cell 2
        have z11 : W5.cell? ⟨(W.heap.size + 1 + 1 + 1), 11, none⟩ = some tv := HR.out.cell 11
        refine wp_region_noPanic ?_
        refine start_ (n := 13) (S := fun w' => w'.cell? ⟨(W.heap.size), 2, none⟩ = some (.int .i64 c) ∧ w'.cell? ⟨(W.heap.size + 1 + 1 + 1), 11, none⟩ = some tv) (ds := [12]) #[false, false, false, false, false, false, false, false, false, false, false, false, false] (by kernel_rfl) rfl rfl ⟨z2, z11⟩ (fun hHeld => ?_)
        refine pure_ (i := 0) (N := some 30) (v := ?_) (a' := ?_) #[true, false, false, false, false, false, false, false, false, false, false, false, false] rfl rfl (by kernel_rfl) (fun _ _ _ h => h) (Or.inl ⟨by rfl, ?_⟩) ?_ ?_
        rotate_left
        · intro w'
          go_simp
          with_reducible rfl
        rotate_left
        · simp only [Act.put, List.setIfInBounds_toArray, List.set_cons_zero, List.set_cons_succ, i64_w, i32_w]
          rfl
        refine pure_ (i := 1) (N := some 31) (v := ?_) (a' := ?_) #[true, true, false, false, false, false, false, false, false, false, false, false, false] rfl rfl (by kernel_rfl) (fun _ _ _ h => h) (Or.inl ⟨by rfl, ?_⟩) ?_ ?_
        rotate_left
        · intro w'
          go_simp
          with_reducible rfl
        rotate_left
        · simp only [Act.put, List.setIfInBounds_toArray, List.set_cons_zero, List.set_cons_succ, i64_w, i32_w]
          rfl
        refine pure_ (i := 2) (N := some 32) (v := ?_) (a' := ?_) #[true, true, true, false, false, false, false, false, false, false, false, false, false] rfl rfl (by kernel_rfl) (fun _ _ _ h => h) (Or.inl ⟨by rfl, ?_⟩) ?_ ?_
        rotate_left
        · intro w'
          go_simp
          with_reducible rfl
        rotate_left
        · simp only [Act.put, List.setIfInBounds_toArray, List.set_cons_zero, List.set_cons_succ, i64_w, i32_w]
          rfl
        refine pure_ (i := 3) (N := some 33) (v := ?_) (a' := ?_) #[true, true, true, true, false, false, false, false, false, false, false, false, false] rfl rfl (by kernel_rfl) (fun _ _ _ h => h) (Or.inl ⟨by rfl, ?_⟩) ?_ ?_
        rotate_left
        · intro w'
          go_simp
          with_reducible rfl
        rotate_left
        · simp only [Act.put, List.setIfInBounds_toArray, List.set_cons_zero, List.set_cons_succ, i64_w, i32_w]
          rfl
        refine pure_ (i := 5) (N := some 35) (v := ?_) (a' := ?_) #[true, true, true, true, false, true, false, false, false, false, false, false, false] rfl rfl (by kernel_rfl) (fun _ _ _ h => h) (Or.inl ⟨by rfl, ?_⟩) ?_ ?_
        rotate_left
        · intro w'
          go_simp
          with_reducible rfl
        rotate_left
        · simp only [Act.put, List.setIfInBounds_toArray, List.set_cons_zero, List.set_cons_succ, i64_w, i32_w]
          rfl
        refine take_ (i := 4) (N := some 34) (v := ?_) (a' := ?_) #[true, true, true, true, true, true, false, false, false, false, false, false, false] rfl rfl (by kernel_rfl) (fun _ _ _ h => h) (Or.inl ⟨by rfl, ?_⟩) hHeld ?_ ?_
        rotate_left
        · rintro w' ⟨s0, s1⟩
          go_simp
          with_reducible rfl
        rotate_left
        · simp only [Act.put, List.setIfInBounds_toArray, List.set_cons_zero, List.set_cons_succ, i64_w, i32_w]
          rfl
        refine take_ (i := 6) (N := some 36) (v := ?_) (a' := ?_) #[true, true, true, true, true, true, true, false, false, false, false, false, false] rfl rfl (by kernel_rfl) (fun _ _ _ h => h) (Or.inl ⟨by rfl, ?_⟩) hHeld ?_ ?_
        rotate_left
        · rintro w' ⟨s0, s1⟩
          go_simp
          with_reducible rfl
        rotate_left
        · simp only [Act.put, List.setIfInBounds_toArray, List.set_cons_zero, List.set_cons_succ, i64_w, i32_w]
          rfl
        refine one_ (i := 7) (N := some 37) #[true, true, true, true, true, true, true, true, false, false, false, false, false] rfl rfl (by kernel_rfl) (by decide) (fun K hK => ?_)
        refine goes_ Try.func37 (by kernel_rfl) rfl #[.int .i64 c] (by rfl) rfl rfl (by simp only [List.map_toArray, List.map_cons, List.map_nil]; rfl) ?_
        with_reducible refine (gangplankref12_New.calls c _ _ HC.out).mono ?_
        rintro r w1 ⟨v0, rfl, hv, hb⟩
        refine ⟨_, rfl, ?_⟩
        obtain ⟨A0, c0, rfl⟩ : ∃ A0 c0, v0 = .slice A0 m c0 := (by have h := Kd.R_slice hv; rw [List.length_replicate] at h; exact h)
        have BB1 := Lib.hid (show Blk w1 (W.heap.size) 23 [.int .i64 a, .int .i64 (n : Int), .int .i64 c, .int .i64 d, .int .i64 e] from (blkDrewW BB.out).below hb)
        have HR1 := Lib.hid (show Blk w1 (W.heap.size + 1 + 1 + 1) 43 [.int .i64 a, .int .i64 (n : Int), .int .i64 c, .int .i64 d, .int .i64 e, .int .i64 0, .int .i64 0, .slice (some ⟨W.heap.size + 1, 0, none⟩) n1 n1, (.slice A4 (k + 1) c4), .slice none 0 0, .slice none 0 0, tv, .slice (some ⟨W.heap.size + 1 + 1, 0, none⟩) n n, .int .i64 0] from (blkDrewW HR.out).below hb)
        have HT1 := Lib.hid (Kd.R_below (w := W5.drew) HT.out hb)
        have HL1 := Lib.hid (Kd.R_below (w := W5.drew) HL.out hb)
        have HV1 := Lib.hid (Kd.R_lower (Kd.R_newR hv HT.out) HO.out.size)
        have HO1 := Lib.hid (HO.out.trans ((OnlyP.drew W5 (W.heap.size + 1 + 1 + 1)).trans (.of_below hb)))
        clear hv hb
        refine hK.out _ _ ⟨(BB1.out.cell 2), (HR1.out.cell 11)⟩ (fun hHeld => ?_)
        clear hK K
        refine norm_ (a' := ?_) ?_ ?_
        rotate_left
        · show Act.put _ (some 37) _ = _
          simp only [Act.put, List.setIfInBounds_toArray, List.set_cons_zero, List.set_cons_succ, i64_w, i32_w]
          rfl
        refine one_ (i := 8) (N := some 38) #[true, true, true, true, true, true, true, true, true, false, false, false, false] rfl rfl (by kernel_rfl) (by decide) (fun K hK => ?_)
        refine value_ (w1 := ?_) (v := ?_) (by rfl) rfl ?_ ?_
        rotate_left 2
        · go_simp
          constructor
          · rfl
          · rfl
        refine hK.out _ _ ⟨((BB1.out.alloc _).cell 2), ((HR1.out.alloc _).cell 11)⟩ (fun hHeld => ?_)
        clear hK K
        refine norm_ (a' := ?_) ?_ ?_
        rotate_left
        · show Act.put _ (some 38) _ = _
          simp only [Act.put, List.setIfInBounds_toArray, List.set_cons_zero, List.set_cons_succ, i64_w, i32_w]
          rfl
        refine one_ (i := 9) (N := some 39) #[true, true, true, true, true, true, true, true, true, true, false, false, false] rfl rfl (by kernel_rfl) (by decide) (fun K hK => ?_)
        refine Kd.R_append_step (Kd.slice 95 k95) (w0 := w1) Wg.heap.size (by rfl) (.tmp 34) (.tmp 38) 36 56 (.slice none 0 0) 24 (by rfl) Try.underlying36 infoTab rfl (by decide) (by omega) tv (List.replicate k (List.replicate m z95)) (List.replicate m z95) [.slice A0 m c0] (fun _ => True) _ (by rfl) (by rfl) ⟨_, rfl, HV1.out⟩ (fun _ hk => hk) (fun _ _ => trivial) HT1.out (Below.refl _ _) HO1.out.size (by have := H16.out; rw [List.length_replicate]; omega) ?_
        intro tv2 w2 ht2 hb2 hg2 _
        obtain ⟨A2, c2, rfl⟩ : ∃ A2 c2, tv2 = .slice A2 (k + 1) c2 := (by have h := Kd.R_slice ht2; rw [List.length_append, List.length_replicate] at h; exact h)
        have BB2 := Lib.hid (blkGrown BB1.out hg2 (Kd.R_ne HT1.out BB1.out (by decide)))
        have HR2 := Lib.hid (blkGrown HR1.out hg2 (Kd.R_ne HT1.out HR1.out (by decide)))
        have HT2 := Lib.hid ht2
        have HL2 := Lib.hid (Kd.R_over HL1.out HT1.out (by decide) hg2)
        have HO2 := Lib.hid (HO1.out.grown hg2 (Kd.R_base HT1.out))
        clear ht2 hb2 hg2
        have zf2 : w2.frozen? ⟨(W.heap.size + 1 + 1 + 1), 11, none⟩ = false := HR2.out.frozen 11
        have z89 : w2.cell? ⟨(W.heap.size + 1 + 1 + 1), 11, none⟩ = some tv := HR2.out.cell 11
        refine hK.out _ _ ⟨(BB2.out.cell 2), z89⟩ (fun hHeld => ?_)
        clear hK K
        refine norm_ (a' := ?_) ?_ ?_
        rotate_left
        · show Act.put _ (some 39) _ = _
          simp only [Act.put, List.setIfInBounds_toArray, List.set_cons_zero, List.set_cons_succ, i64_w, i32_w]
          rfl
        refine pure_ (i := 10) (N := some 40) (v := ?_) (a' := ?_) #[true, true, true, true, true, true, true, true, true, true, true, false, false] rfl rfl (by kernel_rfl) (fun _ _ _ h => h) (Or.inl ⟨by rfl, ?_⟩) ?_ ?_
        rotate_left
        · intro w'
          go_simp
          with_reducible rfl
        rotate_left
        · simp only [Act.put, List.setIfInBounds_toArray, List.set_cons_zero, List.set_cons_succ, i64_w, i32_w]
          rfl
        refine pure_ (i := 11) (N := some 41) (v := ?_) (a' := ?_) #[true, true, true, true, true, true, true, true, true, true, true, true, false] rfl rfl (by kernel_rfl) (fun _ _ _ h => h) (Or.inl ⟨by rfl, ?_⟩) ?_ ?_
        rotate_left
        · intro w'
          go_simp
          with_reducible rfl
        rotate_left
        · simp only [Act.put, List.setIfInBounds_toArray, List.set_cons_zero, List.set_cons_succ, i64_w, i32_w]
          rfl
        refine last_ (i := 12) (N := none) #[true, true, true, true, true, true, true, true, true, true, true, true, true] rfl rfl (by kernel_rfl) (by decide) (fun K hK => ?_)
        refine skip_ (w1 := ?_) (by rfl) rfl ?_ ?_
        rotate_left
        · go_simp
          rfl
        refine hK.out _ _ ?_
        clear hK K
        refine done_ (by kernel_rfl) ?_
        refine NoPanic.normal ?_
        obtain ⟨W3, hW3⟩ : ∃ W3, w2.setCell ⟨(W.heap.size + 1 + 1 + 1), 11, none⟩ (.slice A2 (k + 1) c2) = W3 := ⟨_, rfl⟩
        have HR3 := Lib.hid (show Blk W3 (W.heap.size + 1 + 1 + 1) 43 [.int .i64 a, .int .i64 (n : Int), .int .i64 c, .int .i64 d, .int .i64 e, .int .i64 0, .int .i64 0, .slice (some ⟨W.heap.size + 1, 0, none⟩) n1 n1, (.slice A4 (k + 1) c4), .slice none 0 0, .slice none 0 0, (.slice A2 (k + 1) c2), .slice (some ⟨W.heap.size + 1 + 1, 0, none⟩) n n, .int .i64 0] from by rw [← hW3]; exact blk_putL HR2.out 11 _)
        have HT3 := Lib.hid (show Kd.R (Kd.slice 95 k95) 56 W3 Wg.heap.size (fun _ => True) (.slice A2 (k + 1) c2) (List.replicate (k + 1) (List.replicate m z95)) from by rw [← hW3, List.replicate_succ']; exact Kd.R_set HT2.out (show w2.heap[(W.heap.size + 1 + 1 + 1)]? = _ from HR2.out) (by decide) 11 _)
        have HL3 := Lib.hid (show Kd.R (Kd.int .i64) 3 W3 Wg.heap.size (fun _ => True) (.slice A4 (k + 1) c4) (List.replicate (k + 1) (-1)) from by rw [← hW3]; exact Kd.R_set HL2.out (show w2.heap[(W.heap.size + 1 + 1 + 1)]? = _ from HR2.out) (by decide) 11 _)
        have HO3 := Lib.hid (show OnlyP Wg W3 (W.heap.size + 1 + 1 + 1) from by rw [← hW3]; exact HO2.out.trans (OnlyP.set _ _ _ _))
        rw [hW3]
        clear hW3 HR2 HT2 HL2 HO2 BB2 zf2 z89 z2 z11 HR HT HL HO BB BB1 HR1 HT1 HL1 HV1 HO1
        go_wp2
        go_roundw
        case rel => exact ⟨k + 1, by omega, by rw [hw], _, _, HR3.out, HL3.out, HT3.out, HO3.out⟩
        case measure =>
          rw [hw]
          show n - (((k + 1 : Nat) : Int)).toNat < n - ((k : Int)).toNat
          rw [Int.toNat_natCast, Int.toNat_natCast]
          omega
      · obtain rfl : n = k := by omega
        have HR := Lib.hid hp
        have HT := Lib.hid ht
        have HL := Lib.hid hl
        have HO := Lib.hid ho
        have BB := Lib.hid (ho.blk HB.out HNE.out)
        clear hp ht hl ho HP HB
        have z1 : wr.cell? ⟨(W.heap.size), 1, none⟩ = some (.int .i64 (n : Int)) := BB.out.cell 1
        have z4 : wr.cell? ⟨(W.heap.size), 4, none⟩ = some (.int .i64 e) := BB.out.cell 4
        have p1 : decide ((n : Int) < (n : Int)) = false := decide_eq_false (by omega)
        go_wp2_with fail
        go_at_call 38
        refine (gangplankref16_New.calls e _ _ HS.out).mono ?_
        rintro r w7 ⟨sv, rfl, hv, hb⟩
        obtain ⟨As, cs, rfl⟩ := Kd.S_slice hv
        have n1 := Lib.hid (show Blk w7 (W.heap.size + 1 + 1 + 1) 43 [.int .i64 a, .int .i64 (n : Int), .int .i64 c, .int .i64 d, .int .i64 e, .int .i64 0, .int .i64 0, .slice (some ⟨W.heap.size + 1, 0, none⟩) n1 n1, lv, .slice none 0 0, .slice none 0 0, tv, .slice (some ⟨W.heap.size + 1 + 1, 0, none⟩) n n, .int .i64 0] from HR.out.below hb)
        have n2 := Lib.hid (Kd.R_below HT.out hb)
        have n3 := Lib.hid (Kd.R_below HL.out hb)
        have n4 := Lib.hid (HO.out.trans (.of_below hb))
        have n5 := Lib.hid (BB.out.below hb)
        clear HR HT HL HO BB hv hb z1 z4
        have HR := n1
        have HT := n2
        have HL := n3
        have HO := n4
        have BB := n5
        clear n1 n2 n3 n4 n5
        have z9 : w7.cell? ⟨(W.heap.size + 1 + 1 + 1), 9, none⟩ = some (.slice none 0 0) := HR.out.cell 9
        have zf9 : w7.frozen? ⟨(W.heap.size + 1 + 1 + 1), 9, none⟩ = false := HR.out.frozen 9
        have z4 : (w7.setCell ⟨(W.heap.size + 1 + 1 + 1), 9, none⟩ (.slice As sl.length cs)).cell? ⟨(W.heap.size), 4, none⟩ = some (.int .i64 e) := (BB.out.far _ (fun h => HNE.out h.symm) _).cell 4
        go_wp2_with fail
        go_at_call 39
        refine (gangplankref15_New.calls e _ _ HKE.out).mono ?_
        rintro r w8 ⟨kv, rfl, hv, hb⟩
        obtain ⟨Ak, ck, rfl⟩ := Kd.R_slice hv
        have n1 := Lib.hid (show Blk w8 (W.heap.size + 1 + 1 + 1) 43 [.int .i64 a, .int .i64 (n : Int), .int .i64 c, .int .i64 d, .int .i64 e, .int .i64 0, .int .i64 0, .slice (some ⟨W.heap.size + 1, 0, none⟩) n1 n1, lv, .slice As sl.length cs, .slice none 0 0, tv, .slice (some ⟨W.heap.size + 1 + 1, 0, none⟩) n n, .int .i64 0] from (blk_putL HR.out 9 _).below hb)
        have n2 := Lib.hid (Kd.R_below (Kd.R_set HT.out (show w7.heap[(W.heap.size + 1 + 1 + 1)]? = _ from HR.out) (by decide) 9 _) hb)
        have n3 := Lib.hid (Kd.R_below (Kd.R_set HL.out (show w7.heap[(W.heap.size + 1 + 1 + 1)]? = _ from HR.out) (by decide) 9 _) hb)
        have n4 := Lib.hid ((HO.out.trans (OnlyP.set _ _ _ _)).trans (.of_below hb))
        clear HR HT HL HO BB hv hb z4 z9 zf9
        have HR := n1
        have HT := n2
        have HL := n3
        have HO := n4
        clear n1 n2 n3 n4
        have z10 : w8.cell? ⟨(W.heap.size + 1 + 1 + 1), 10, none⟩ = some (.slice none 0 0) := HR.out.cell 10
        have zf10 : w8.frozen? ⟨(W.heap.size + 1 + 1 + 1), 10, none⟩ = false := HR.out.frozen 10
        go_wp2_with fail
        go_ret
        have hs := HFS.out
        exact ⟨(W.heap.size + 1 + 1 + 1), Wg.heap.size, _, _, _, _, _, _, rfl, blk_putL HR.out 10 _, Kd.R_set HT.out (show w8.heap[(W.heap.size + 1 + 1 + 1)]? = _ from HR.out) (by decide) 10 _, Kd.R_set HL.out (show w8.heap[(W.heap.size + 1 + 1 + 1)]? = _ from HR.out) (by decide) 10 _, by omega, by omega, HFB.out.trans ((HO.out.trans (OnlyP.set _ _ _ _)).below W.heap.size (by omega) (by omega))⟩
  · have hf := refWorld W a c d e n n n1 (.slice (some ⟨W.heap.size + 1 + 1, 0, none⟩) n1 n1) (.slice (some ⟨W.heap.size + 1, 0, none⟩) n n)
    obtain ⟨Wg, hWg⟩ : ∃ Wg, ((((W.alloc (.cells #[.int .i64 a, .int .i64 (n : Int), .int .i64 c, .int .i64 d, .int .i64 e] 23)).alloc (.cells (ints (List.replicate n 0)).toArray 3)).alloc (.cells (ints (List.replicate n1 0)).toArray 3)).alloc (.cells #[.int .i64 a, .int .i64 (n : Int), .int .i64 c, .int .i64 d, .int .i64 e, .int .i64 0, .int .i64 0, .slice (some ⟨W.heap.size + 1 + 1, 0, none⟩) n1 n1, .slice none 0 0, .slice none 0 0, .slice none 0 0, .slice none 0 0, .slice (some ⟨W.heap.size + 1, 0, none⟩) n n, .int .i64 0] 43)).drew = Wg := ⟨_, rfl⟩
    dsimp only at hf
    rw [hWg] at hf ⊢
    obtain ⟨fB, fG, fb, fs⟩ := hf
    have hNE : ¬ ((W.heap.size) = (W.heap.size + 1 + 1 + 1)) := by omega
    have HNE := Lib.hid hNE
    have HB := Lib.hid fB
    have HP := Lib.hid fG
    have HFB := Lib.hid fb
    have HFS := Lib.hid fs
    clear hWg fB fG fb fs hNE r1 r2 HB0
    go_wp2
    go_loopw [4] (fun i wr => ∃ k : Nat, k ≤ n ∧ i = .int .i64 k ∧ ∃ lv tv, Blk wr (W.heap.size + 1 + 1 + 1) 43 [.int .i64 a, .int .i64 (n : Int), .int .i64 c, .int .i64 d, .int .i64 e, .int .i64 0, .int .i64 0, .slice (some ⟨W.heap.size + 1 + 1, 0, none⟩) n1 n1, lv, .slice none 0 0, .slice none 0 0, tv, .slice (some ⟨W.heap.size + 1, 0, none⟩) n n, .int .i64 0] ∧ Kd.R (Kd.int .i64) 3 wr Wg.heap.size (fun _ => True) lv (List.replicate k (-1)) ∧ Kd.R (Kd.slice 95 k95) 56 wr Wg.heap.size (fun _ => True) tv (List.replicate k (List.replicate m z95)) ∧ OnlyP Wg wr (W.heap.size + 1 + 1 + 1)) (fun i _ => n - (intOf i).toNat)
    case atStart => exact ⟨0, Nat.zero_le _, rfl, _, _, HP.out, Kd.R_nil _ _ _ _ _, Kd.R_nil _ _ _ _ _, OnlyP.refl _ _⟩
    case round =>
      obtain ⟨k, hk, rfl, lv, tv, hp, hl, ht, ho⟩ := hrel
      by_cases hlt : k < n
      · have HR := Lib.hid hp
        have HT := Lib.hid ht
        have HL := Lib.hid hl
        have HO := Lib.hid ho
        have BB := Lib.hid (ho.blk HB.out HNE.out)
        clear hp ht hl ho HP HB
        have z1 : wr.cell? ⟨(W.heap.size), 1, none⟩ = some (.int .i64 (n : Int)) := BB.out.cell 1
        have z8 : wr.cell? ⟨(W.heap.size + 1 + 1 + 1), 8, none⟩ = some lv := HR.out.cell 8
        have p1 : decide ((k : Int) < (n : Int)) = true := decide_eq_true (by omega)
        have hw : wrap64 ((k : Int) + 1) = ((k + 1 : Nat) : Int) := by have := H16.out; unfold wrap64; omega
        go_wp2_with (at_builtin; refine Kd.R_append (Kd.int .i64) (w0 := wr) Wg.heap.size rfl (.tmp 25) (.tmp 26) 24 3 (.int .i64 0) 8 rfl Try.underlying24 infoInt rfl (by decide) (by omega) lv (List.replicate k (-1)) (-1) [.int .i64 (-1)] (fun _ => True) (fun _ => False) rfl rfl rfl (fun _ hk => hk.elim) (fun _ _ => trivial) HL.out (Below.refl _ _) HO.out.size (by have := H16.out; rw [List.length_replicate]; omega) ?_; intro pv2 w4 hl2 hb2 hg2 _; obtain ⟨A4, c4, rfl⟩ : ∃ A4 c4, pv2 = .slice A4 (k + 1) c4 := (by have h := Kd.R_slice hl2; rw [List.length_append, List.length_replicate] at h; exact h); have HR4 := Lib.hid (blkGrown HR.out hg2 (Kd.R_ne HL.out HR.out (by decide))); have BB4 := Lib.hid (blkGrown BB.out hg2 (Kd.R_ne HL.out BB.out (by decide))); have HT4 := Lib.hid (Kd.R_over HT.out HL.out (by decide) hg2); have HL4 := Lib.hid hl2; have HO4 := Lib.hid (HO.out.grown hg2 (Kd.R_base HL.out)); clear hl2 hb2 hg2; have z38 : w4.cell? ⟨(W.heap.size + 1 + 1 + 1), 8, none⟩ = some lv := HR4.out.cell 8; have zf8 : w4.frozen? ⟨(W.heap.size + 1 + 1 + 1), 8, none⟩ = false := HR4.out.frozen 8)
        obtain ⟨W5, hW5⟩ : ∃ W5, w4.setCell ⟨(W.heap.size + 1 + 1 + 1), 8, none⟩ (.slice A4 (k + 1) c4) = W5 := ⟨_, rfl⟩
        have n1 := Lib.hid (show Blk W5 (W.heap.size + 1 + 1 + 1) 43 [.int .i64 a, .int .i64 (n : Int), .int .i64 c, .int .i64 d, .int .i64 e, .int .i64 0, .int .i64 0, .slice (some ⟨W.heap.size + 1 + 1, 0, none⟩) n1 n1, (.slice A4 (k + 1) c4), .slice none 0 0, .slice none 0 0, tv, .slice (some ⟨W.heap.size + 1, 0, none⟩) n n, .int .i64 0] from by rw [← hW5]; exact blk_putL HR4.out 8 _)
        have n2 := Lib.hid (show Kd.R (Kd.slice 95 k95) 56 W5 Wg.heap.size (fun _ => True) tv (List.replicate k (List.replicate m z95)) from by rw [← hW5]; exact Kd.R_set HT4.out (show w4.heap[(W.heap.size + 1 + 1 + 1)]? = _ from HR4.out) (by decide) 8 _)
        have n3 := Lib.hid (show Kd.R (Kd.int .i64) 3 W5 Wg.heap.size (fun _ => True) (.slice A4 (k + 1) c4) (List.replicate (k + 1) (-1)) from by rw [← hW5, List.replicate_succ']; exact Kd.R_set HL4.out (show w4.heap[(W.heap.size + 1 + 1 + 1)]? = _ from HR4.out) (by decide) 8 _)
        have n4 := Lib.hid (show OnlyP Wg W5 (W.heap.size + 1 + 1 + 1) from by rw [← hW5]; exact HO4.out.trans (OnlyP.set _ _ _ _))
        have n5 := Lib.hid (show Blk W5 (W.heap.size) 23 [.int .i64 a, .int .i64 (n : Int), .int .i64 c, .int .i64 d, .int .i64 e] from by rw [← hW5]; exact BB4.out.far _ (fun h => HNE.out h.symm) _)
        rw [hW5]
        clear hW5 HR HT HL HO BB HR4 HT4 HL4 HO4 BB4 z38 zf8 z1 z8
        have HR := n1
        have HT := n2
        have HL := n3
        have HO := n4
        have BB := n5
        clear n1 n2 n3 n4 n5
        have z2 : W5.cell? ⟨(W.heap.size), 2, none⟩ = some (.int .i64 c) := BB.out.cell 2
        have z11 : W5.cell? ⟨(W.heap.size + 1 + 1 + 1), 11, none⟩ = some tv := HR.out.cell 11
        refine wp_region_noPanic ?_
        refine start_ (n := 13) (S := fun w' => w'.cell? ⟨(W.heap.size), 2, none⟩ = some (.int .i64 c) ∧ w'.cell? ⟨(W.heap.size + 1 + 1 + 1), 11, none⟩ = some tv) (ds := [12]) #[false, false, false, false, false, false, false, false, false, false, false, false, false] (by kernel_rfl) rfl rfl ⟨z2, z11⟩ (fun hHeld => ?_)
        refine pure_ (i := 0) (N := some 30) (v := ?_) (a' := ?_) #[true, false, false, false, false, false, false, false, false, false, false, false, false] rfl rfl (by kernel_rfl) (fun _ _ _ h => h) (Or.inl ⟨by rfl, ?_⟩) ?_ ?_
        rotate_left
        · intro w'
          go_simp
          with_reducible rfl
        rotate_left
        · simp only [Act.put, List.setIfInBounds_toArray, List.set_cons_zero, List.set_cons_succ, i64_w, i32_w]
          rfl
        refine pure_ (i := 1) (N := some 31) (v := ?_) (a' := ?_) #[true, true, false, false, false, false, false, false, false, false, false, false, false] rfl rfl (by kernel_rfl) (fun _ _ _ h => h) (Or.inl ⟨by rfl, ?_⟩) ?_ ?_
        rotate_left
        · intro w'
          go_simp
          with_reducible rfl
        rotate_left
        · simp only [Act.put, List.setIfInBounds_toArray, List.set_cons_zero, List.set_cons_succ, i64_w, i32_w]
          rfl
        refine pure_ (i := 2) (N := some 32) (v := ?_) (a' := ?_) #[true, true, true, false, false, false, false, false, false, false, false, false, false] rfl rfl (by kernel_rfl) (fun _ _ _ h => h) (Or.inl ⟨by rfl, ?_⟩) ?_ ?_
        rotate_left
        · intro w'
          go_simp
          with_reducible rfl
        rotate_left
        · simp only [Act.put, List.setIfInBounds_toArray, List.set_cons_zero, List.set_cons_succ, i64_w, i32_w]
          rfl
        refine pure_ (i := 3) (N := some 33) (v := ?_) (a' := ?_) #[true, true, true, true, false, false, false, false, false, false, false, false, false] rfl rfl (by kernel_rfl) (fun _ _ _ h => h) (Or.inl ⟨by rfl, ?_⟩) ?_ ?_
        rotate_left
        · intro w'
          go_simp
          with_reducible rfl
        rotate_left
        · simp only [Act.put, List.setIfInBounds_toArray, List.set_cons_zero, List.set_cons_succ, i64_w, i32_w]
          rfl
        refine pure_ (i := 5) (N := some 35) (v := ?_) (a' := ?_) #[true, true, true, true, false, true, false, false, false, false, false, false, false] rfl rfl (by kernel_rfl) (fun _ _ _ h => h) (Or.inl ⟨by rfl, ?_⟩) ?_ ?_
        rotate_left
        · intro w'
          go_simp
          with_reducible rfl
        rotate_left
        · simp only [Act.put, List.setIfInBounds_toArray, List.set_cons_zero, List.set_cons_succ, i64_w, i32_w]
          rfl
        refine take_ (i := 4) (N := some 34) (v := ?_) (a' := ?_) #[true, true, true, true, true, true, false, false, false, false, false, false, false] rfl rfl (by kernel_rfl) (fun _ _ _ h => h) (Or.inl ⟨by rfl, ?_⟩) hHeld ?_ ?_
        rotate_left
        · rintro w' ⟨s0, s1⟩
          go_simp
          with_reducible rfl
        rotate_left
        · simp only [Act.put, List.setIfInBounds_toArray, List.set_cons_zero, List.set_cons_succ, i64_w, i32_w]
          rfl
        refine take_ (i := 6) (N := some 36) (v := ?_) (a' := ?_) #[true, true, true, true, true, true, true, false, false, false, false, false, false] rfl rfl (by kernel_rfl) (fun _ _ _ h => h) (Or.inl ⟨by rfl, ?_⟩) hHeld ?_ ?_
        rotate_left
        · rintro w' ⟨s0, s1⟩
          go_simp
          with_reducible rfl
        rotate_left
        · simp only [Act.put, List.setIfInBounds_toArray, List.set_cons_zero, List.set_cons_succ, i64_w, i32_w]
          rfl
        refine one_ (i := 7) (N := some 37) #[true, true, true, true, true, true, true, true, false, false, false, false, false] rfl rfl (by kernel_rfl) (by decide) (fun K hK => ?_)
        refine goes_ Try.func37 (by kernel_rfl) rfl #[.int .i64 c] (by rfl) rfl rfl (by simp only [List.map_toArray, List.map_cons, List.map_nil]; rfl) ?_
        with_reducible refine (gangplankref12_New.calls c _ _ HC.out).mono ?_
        rintro r w1 ⟨v0, rfl, hv, hb⟩
        refine ⟨_, rfl, ?_⟩
        obtain ⟨A0, c0, rfl⟩ : ∃ A0 c0, v0 = .slice A0 m c0 := (by have h := Kd.R_slice hv; rw [List.length_replicate] at h; exact h)
        have BB1 := Lib.hid (show Blk w1 (W.heap.size) 23 [.int .i64 a, .int .i64 (n : Int), .int .i64 c, .int .i64 d, .int .i64 e] from (blkDrewW BB.out).below hb)
        have HR1 := Lib.hid (show Blk w1 (W.heap.size + 1 + 1 + 1) 43 [.int .i64 a, .int .i64 (n : Int), .int .i64 c, .int .i64 d, .int .i64 e, .int .i64 0, .int .i64 0, .slice (some ⟨W.heap.size + 1 + 1, 0, none⟩) n1 n1, (.slice A4 (k + 1) c4), .slice none 0 0, .slice none 0 0, tv, .slice (some ⟨W.heap.size + 1, 0, none⟩) n n, .int .i64 0] from (blkDrewW HR.out).below hb)
        have HT1 := Lib.hid (Kd.R_below (w := W5.drew) HT.out hb)
        have HL1 := Lib.hid (Kd.R_below (w := W5.drew) HL.out hb)
        have HV1 := Lib.hid (Kd.R_lower (Kd.R_newR hv HT.out) HO.out.size)
        have HO1 := Lib.hid (HO.out.trans ((OnlyP.drew W5 (W.heap.size + 1 + 1 + 1)).trans (.of_below hb)))
        clear hv hb
        refine hK.out _ _ ⟨(BB1.out.cell 2), (HR1.out.cell 11)⟩ (fun hHeld => ?_)
        clear hK K
        refine norm_ (a' := ?_) ?_ ?_
        rotate_left
        · show Act.put _ (some 37) _ = _
          simp only [Act.put, List.setIfInBounds_toArray, List.set_cons_zero, List.set_cons_succ, i64_w, i32_w]
          rfl
        refine one_ (i := 8) (N := some 38) #[true, true, true, true, true, true, true, true, true, false, false, false, false] rfl rfl (by kernel_rfl) (by decide) (fun K hK => ?_)
        refine value_ (w1 := ?_) (v := ?_) (by rfl) rfl ?_ ?_
        rotate_left 2
        · go_simp
          constructor
          · rfl
          · rfl
        refine hK.out _ _ ⟨((BB1.out.alloc _).cell 2), ((HR1.out.alloc _).cell 11)⟩ (fun hHeld => ?_)
        clear hK K
        refine norm_ (a' := ?_) ?_ ?_
        rotate_left
        · show Act.put _ (some 38) _ = _
          simp only [Act.put, List.setIfInBounds_toArray, List.set_cons_zero, List.set_cons_succ, i64_w, i32_w]
          rfl
        refine one_ (i := 9) (N := some 39) #[true, true, true, true, true, true, true, true, true, true, false, false, false] rfl rfl (by kernel_rfl) (by decide) (fun K hK => ?_)
        refine Kd.R_append_step (Kd.slice 95 k95) (w0 := w1) Wg.heap.size (by rfl) (.tmp 34) (.tmp 38) 36 56 (.slice none 0 0) 24 (by rfl) Try.underlying36 infoTab rfl (by decide) (by omega) tv (List.replicate k (List.replicate m z95)) (List.replicate m z95) [.slice A0 m c0] (fun _ => True) _ (by rfl) (by rfl) ⟨_, rfl, HV1.out⟩ (fun _ hk => hk) (fun _ _ => trivial) HT1.out (Below.refl _ _) HO1.out.size (by have := H16.out; rw [List.length_replicate]; omega) ?_
        intro tv2 w2 ht2 hb2 hg2 _
        obtain ⟨A2, c2, rfl⟩ : ∃ A2 c2, tv2 = .slice A2 (k + 1) c2 := (by have h := Kd.R_slice ht2; rw [List.length_append, List.length_replicate] at h; exact h)
        have BB2 := Lib.hid (blkGrown BB1.out hg2 (Kd.R_ne HT1.out BB1.out (by decide)))
        have HR2 := Lib.hid (blkGrown HR1.out hg2 (Kd.R_ne HT1.out HR1.out (by decide)))
        have HT2 := Lib.hid ht2
        have HL2 := Lib.hid (Kd.R_over HL1.out HT1.out (by decide) hg2)
        have HO2 := Lib.hid (HO1.out.grown hg2 (Kd.R_base HT1.out))
        clear ht2 hb2 hg2
        have zf2 : w2.frozen? ⟨(W.heap.size + 1 + 1 + 1), 11, none⟩ = false := HR2.out.frozen 11
        have z89 : w2.cell? ⟨(W.heap.size + 1 + 1 + 1), 11, none⟩ = some tv := HR2.out.cell 11
        refine hK.out _ _ ⟨(BB2.out.cell 2), z89⟩ (fun hHeld => ?_)
        clear hK K
        refine norm_ (a' := ?_) ?_ ?_
        rotate_left
        · show Act.put _ (some 39) _ = _
          simp only [Act.put, List.setIfInBounds_toArray, List.set_cons_zero, List.set_cons_succ, i64_w, i32_w]
          rfl
        refine pure_ (i := 10) (N := some 40) (v := ?_) (a' := ?_) #[true, true, true, true, true, true, true, true, true, true, true, false, false] rfl rfl (by kernel_rfl) (fun _ _ _ h => h) (Or.inl ⟨by rfl, ?_⟩) ?_ ?_
        rotate_left
        · intro w'
          go_simp
          with_reducible rfl
        rotate_left
        · simp only [Act.put, List.setIfInBounds_toArray, List.set_cons_zero, List.set_cons_succ, i64_w, i32_w]
          rfl
        refine pure_ (i := 11) (N := some 41) (v := ?_) (a' := ?_) #[true, true, true, true, true, true, true, true, true, true, true, true, false] rfl rfl (by kernel_rfl) (fun _ _ _ h => h) (Or.inl ⟨by rfl, ?_⟩) ?_ ?_
        rotate_left
        · intro w'
          go_simp
          with_reducible rfl
        rotate_left
        · simp only [Act.put, List.setIfInBounds_toArray, List.set_cons_zero, List.set_cons_succ, i64_w, i32_w]
          rfl
        refine last_ (i := 12) (N := none) #[true, true, true, true, true, true, true, true, true, true, true, true, true] rfl rfl (by kernel_rfl) (by decide) (fun K hK => ?_)
        refine skip_ (w1 := ?_) (by rfl) rfl ?_ ?_
        rotate_left
        · go_simp
          rfl
        refine hK.out _ _ ?_
        clear hK K
        refine done_ (by kernel_rfl) ?_
        refine NoPanic.normal ?_
        obtain ⟨W3, hW3⟩ : ∃ W3, w2.setCell ⟨(W.heap.size + 1 + 1 + 1), 11, none⟩ (.slice A2 (k + 1) c2) = W3 := ⟨_, rfl⟩
        have HR3 := Lib.hid (show Blk W3 (W.heap.size + 1 + 1 + 1) 43 [.int .i64 a, .int .i64 (n : Int), .int .i64 c, .int .i64 d, .int .i64 e, .int .i64 0, .int .i64 0, .slice (some ⟨W.heap.size + 1 + 1, 0, none⟩) n1 n1, (.slice A4 (k + 1) c4), .slice none 0 0, .slice none 0 0, (.slice A2 (k + 1) c2), .slice (some ⟨W.heap.size + 1, 0, none⟩) n n, .int .i64 0] from by rw [← hW3]; exact blk_putL HR2.out 11 _)
        have HT3 := Lib.hid (show Kd.R (Kd.slice 95 k95) 56 W3 Wg.heap.size (fun _ => True) (.slice A2 (k + 1) c2) (List.replicate (k + 1) (List.replicate m z95)) from by rw [← hW3, List.replicate_succ']; exact Kd.R_set HT2.out (show w2.heap[(W.heap.size + 1 + 1 + 1)]? = _ from HR2.out) (by decide) 11 _)
        have HL3 := Lib.hid (show Kd.R (Kd.int .i64) 3 W3 Wg.heap.size (fun _ => True) (.slice A4 (k + 1) c4) (List.replicate (k + 1) (-1)) from by rw [← hW3]; exact Kd.R_set HL2.out (show w2.heap[(W.heap.size + 1 + 1 + 1)]? = _ from HR2.out) (by decide) 11 _)
        have HO3 := Lib.hid (show OnlyP Wg W3 (W.heap.size + 1 + 1 + 1) from by rw [← hW3]; exact HO2.out.trans (OnlyP.set _ _ _ _))
        rw [hW3]
        clear hW3 HR2 HT2 HL2 HO2 BB2 zf2 z89 z2 z11 HR HT HL HO BB BB1 HR1 HT1 HL1 HV1 HO1
        go_wp2
        go_roundw
        case rel => exact ⟨k + 1, by omega, by rw [hw], _, _, HR3.out, HL3.out, HT3.out, HO3.out⟩
        case measure =>
          rw [hw]
          show n - (((k + 1 : Nat) : Int)).toNat < n - ((k : Int)).toNat
          rw [Int.toNat_natCast, Int.toNat_natCast]
          omega
      · obtain rfl : n = k := by omega
        have HR := Lib.hid hp
        have HT := Lib.hid ht
        have HL := Lib.hid hl
        have HO := Lib.hid ho
        have BB := Lib.hid (ho.blk HB.out HNE.out)
        clear hp ht hl ho HP HB
        have z1 : wr.cell? ⟨(W.heap.size), 1, none⟩ = some (.int .i64 (n : Int)) := BB.out.cell 1
        have z4 : wr.cell? ⟨(W.heap.size), 4, none⟩ = some (.int .i64 e) := BB.out.cell 4
        have p1 : decide ((n : Int) < (n : Int)) = false := decide_eq_false (by omega)
        go_wp2_with fail
        go_at_call 38
        refine (gangplankref16_New.calls e _ _ HS.out).mono ?_
        rintro r w7 ⟨sv, rfl, hv, hb⟩
        obtain ⟨As, cs, rfl⟩ := Kd.S_slice hv
        have n1 := Lib.hid (show Blk w7 (W.heap.size + 1 + 1 + 1) 43 [.int .i64 a, .int .i64 (n : Int), .int .i64 c, .int .i64 d, .int .i64 e, .int .i64 0, .int .i64 0, .slice (some ⟨W.heap.size + 1 + 1, 0, none⟩) n1 n1, lv, .slice none 0 0, .slice none 0 0, tv, .slice (some ⟨W.heap.size + 1, 0, none⟩) n n, .int .i64 0] from HR.out.below hb)
        have n2 := Lib.hid (Kd.R_below HT.out hb)
        have n3 := Lib.hid (Kd.R_below HL.out hb)
        have n4 := Lib.hid (HO.out.trans (.of_below hb))
        have n5 := Lib.hid (BB.out.below hb)
        clear HR HT HL HO BB hv hb z1 z4
        have HR := n1
        have HT := n2
        have HL := n3
        have HO := n4
        have BB := n5
        clear n1 n2 n3 n4 n5
        have z9 : w7.cell? ⟨(W.heap.size + 1 + 1 + 1), 9, none⟩ = some (.slice none 0 0) := HR.out.cell 9
        have zf9 : w7.frozen? ⟨(W.heap.size + 1 + 1 + 1), 9, none⟩ = false := HR.out.frozen 9
        have z4 : (w7.setCell ⟨(W.heap.size + 1 + 1 + 1), 9, none⟩ (.slice As sl.length cs)).cell? ⟨(W.heap.size), 4, none⟩ = some (.int .i64 e) := (BB.out.far _ (fun h => HNE.out h.symm) _).cell 4
        go_wp2_with fail
        go_at_call 39
        refine (gangplankref15_New.calls e _ _ HKE.out).mono ?_
        rintro r w8 ⟨kv, rfl, hv, hb⟩
        obtain ⟨Ak, ck, rfl⟩ := Kd.R_slice hv
        have n1 := Lib.hid (show Blk w8 (W.heap.size + 1 + 1 + 1) 43 [.int .i64 a, .int .i64 (n : Int), .int .i64 c, .int .i64 d, .int .i64 e, .int .i64 0, .int .i64 0, .slice (some ⟨W.heap.size + 1 + 1, 0, none⟩) n1 n1, lv, .slice As sl.length cs, .slice none 0 0, tv, .slice (some ⟨W.heap.size + 1, 0, none⟩) n n, .int .i64 0] from (blk_putL HR.out 9 _).below hb)
        have n2 := Lib.hid (Kd.R_below (Kd.R_set HT.out (show w7.heap[(W.heap.size + 1 + 1 + 1)]? = _ from HR.out) (by decide) 9 _) hb)
        have n3 := Lib.hid (Kd.R_below (Kd.R_set HL.out (show w7.heap[(W.heap.size + 1 + 1 + 1)]? = _ from HR.out) (by decide) 9 _) hb)
        have n4 := Lib.hid ((HO.out.trans (OnlyP.set _ _ _ _)).trans (.of_below hb))
        clear HR HT HL HO BB hv hb z4 z9 zf9
        have HR := n1
        have HT := n2
        have HL := n3
        have HO := n4
        clear n1 n2 n3 n4
        have z10 : w8.cell? ⟨(W.heap.size + 1 + 1 + 1), 10, none⟩ = some (.slice none 0 0) := HR.out.cell 10
        have zf10 : w8.frozen? ⟨(W.heap.size + 1 + 1 + 1), 10, none⟩ = false := HR.out.frozen 10
        go_wp2_with fail
        go_ret
        have hs := HFS.out
        exact ⟨(W.heap.size + 1 + 1 + 1), Wg.heap.size, _, _, _, _, _, _, rfl, blk_putL HR.out 10 _, Kd.R_set HT.out (show w8.heap[(W.heap.size + 1 + 1 + 1)]? = _ from HR.out) (by decide) 10 _, Kd.R_set HL.out (show w8.heap[(W.heap.size + 1 + 1 + 1)]? = _ from HR.out) (by decide) 10 _, by omega, by omega, HFB.out.trans ((HO.out.trans (OnlyP.set _ _ _ _)).below W.heap.size (by omega) (by omega))⟩
end

/-- A state of type 43 at block g of W; what its slices lead to came in by w0. -/
def IsS43 (w0 W : World) (g : Nat) (f0 : Int) (f1 : Int) (f2 : Int) (f3 : Int) (f4 : Int) (f5 : Int) (f6 : Int) (f7 : List Int) (f8 : List Int) (f9 : List (S151)) (f10 : List (S153)) (f11 : List (List (S95))) (f12 : List Int) (f13 : Int) : Prop := ∃ A7 c7, ∃ A8 c8, ∃ A9 c9, ∃ A10 c10, ∃ A11 c11, ∃ A12 c12, W.heap[g]? = some (.cells #[.int .i64 f0, .int .i64 f1, .int .i64 f2, .int .i64 f3, .int .i64 f4, .int .i64 f5, .int .i64 f6, .slice A7 f7.length c7, .slice A8 f8.length c8, .slice A9 f9.length c9, .slice A10 f10.length c10, .slice A11 f11.length c11, .slice A12 f12.length c12, .int .i64 f13] 43 (0, 0)) ∧ w0.heap.size ≤ g ∧ Kd.C (Kd.int .i64) w0 A7 f7.length f7 ∧ Kd.C (Kd.int .i64) w0 A8 f8.length f8 ∧ Kd.C k151 w0 A9 f9.length f9 ∧ Kd.C k153 w0 A10 f10.length f10 ∧ Kd.C (Kd.slice 95 k95) w0 A11 f11.length f11 ∧ Kd.C (Kd.int .i64) w0 A12 f12.length f12
theorem IsS43.grown {w0 W : World} {g : Nat} {f0 : Int} {f1 : Int} {f2 : Int} {f3 : Int} {f4 : Int} {f5 : Int} {f6 : Int} {f7 : List Int} {f8 : List Int} {f9 : List (S151)} {f10 : List (S153)} {f11 : List (List (S95))} {f12 : List Int} {f13 : Int} {W1 : World} {row : Option Nat} (h : IsS43 w0 W g f0 f1 f2 f3 f4 f5 f6 f7 f8 f9 f10 f11 f12 f13) (hw : W.grownBy W1 row) (hne : some g ≠ row) : IsS43 w0 W1 g f0 f1 f2 f3 f4 f5 f6 f7 f8 f9 f10 f11 f12 f13 := by
  obtain ⟨A7, c7, A8, c8, A9, c9, A10, c10, A11, c11, A12, c12, hb, hg, hr7, hr8, hr9, hr10, hr11, hr12⟩ := h
  exact ⟨A7, c7, A8, c8, A9, c9, A10, c10, A11, c11, A12, c12, blk_grown hb hw hne, hg, hr7, hr8, hr9, hr10, hr11, hr12⟩
theorem IsS43.own_neN {w0 W : World} {g : Nat} {f0 : Int} {f1 : Int} {f2 : Int} {f3 : Int} {f4 : Int} {f5 : Int} {f6 : Int} {f7 : List Int} {f8 : List Int} {f9 : List (S151)} {f10 : List (S153)} {f11 : List (List (S95))} {f12 : List Int} {f13 : Int} {α : Type} {d : Kd α} {e : Nat} {base : Nat} {ok : Nat → Prop} {v : Value} {xs : List α} (h : IsS43 w0 W g f0 f1 f2 f3 f4 f5 f6 f7 f8 f9 f10 f11 f12 f13) (ho : Kd.N d e W base ok v xs) (ht : e ≠ 43) : some g ≠ v.ownBlock := by
  obtain ⟨A7, c7, A8, c8, A9, c9, A10, c10, A11, c11, A12, c12, hb, hg, hr7, hr8, hr9, hr10, hr11, hr12⟩ := h
  exact Kd.N_ne ho hb ht
theorem IsS43.fresh {w0 W : World} {g : Nat} {f0 : Int} {f1 : Int} {f2 : Int} {f3 : Int} {f4 : Int} {f5 : Int} {f6 : Int} {f7 : List Int} {f8 : List Int} {f9 : List (S151)} {f10 : List (S153)} {f11 : List (List (S95))} {f12 : List Int} {f13 : Int} (h : IsS43 w0 W g f0 f1 f2 f3 f4 f5 f6 f7 f8 f9 f10 f11 f12 f13) : ∀ k, W.heap.size ≤ k → k ≠ g := by
  obtain ⟨A7, c7, A8, c8, A9, c9, A10, c10, A11, c11, A12, c12, hb, hg, hr7, hr8, hr9, hr10, hr11, hr12⟩ := h
  exact Kd.freshB hb
theorem IsS43.kept {w0 W : World} {g : Nat} {f0 : Int} {f1 : Int} {f2 : Int} {f3 : Int} {f4 : Int} {f5 : Int} {f6 : Int} {f7 : List Int} {f8 : List Int} {f9 : List (S151)} {f10 : List (S153)} {f11 : List (List (S95))} {f12 : List Int} {f13 : Int} {W1 : World} {S : Nat → Prop} (h : IsS43 w0 W g f0 f1 f2 f3 f4 f5 f6 f7 f8 f9 f10 f11 f12 f13) (hk : Kept W W1 S) (hne : ¬ S g) : IsS43 w0 W1 g f0 f1 f2 f3 f4 f5 f6 f7 f8 f9 f10 f11 f12 f13 := by
  obtain ⟨A7, c7, A8, c8, A9, c9, A10, c10, A11, c11, A12, c12, hb, hg, hr7, hr8, hr9, hr10, hr11, hr12⟩ := h
  exact ⟨A7, c7, A8, c8, A9, c9, A10, c10, A11, c11, A12, c12, blk_kept hb hk hne, hg, hr7, hr8, hr9, hr10, hr11, hr12⟩
theorem IsS43.below {w0 W : World} {g : Nat} {f0 : Int} {f1 : Int} {f2 : Int} {f3 : Int} {f4 : Int} {f5 : Int} {f6 : Int} {f7 : List Int} {f8 : List Int} {f9 : List (S151)} {f10 : List (S153)} {f11 : List (List (S95))} {f12 : List Int} {f13 : Int} {W1 : World} (h : IsS43 w0 W g f0 f1 f2 f3 f4 f5 f6 f7 f8 f9 f10 f11 f12 f13) (hw : Below W.heap.size W W1) : IsS43 w0 W1 g f0 f1 f2 f3 f4 f5 f6 f7 f8 f9 f10 f11 f12 f13 := h.grown (grown_of_below hw none) (by simp)
theorem IsS43.alloc {w0 W : World} {g : Nat} {f0 : Int} {f1 : Int} {f2 : Int} {f3 : Int} {f4 : Int} {f5 : Int} {f6 : Int} {f7 : List Int} {f8 : List Int} {f9 : List (S151)} {f10 : List (S153)} {f11 : List (List (S95))} {f12 : List Int} {f13 : Int} (h : IsS43 w0 W g f0 f1 f2 f3 f4 f5 f6 f7 f8 f9 f10 f11 f12 f13) (o : Obj) : IsS43 w0 (W.alloc o) g f0 f1 f2 f3 f4 f5 f6 f7 f8 f9 f10 f11 f12 f13 := h.below (below_alloc (Below.refl _ _) o)
theorem IsS43.drewN {w0 W : World} {g : Nat} {f0 : Int} {f1 : Int} {f2 : Int} {f3 : Int} {f4 : Int} {f5 : Int} {f6 : Int} {f7 : List Int} {f8 : List Int} {f9 : List (S151)} {f10 : List (S153)} {f11 : List (List (S95))} {f12 : List Int} {f13 : Int} (h : IsS43 w0 W g f0 f1 f2 f3 f4 f5 f6 f7 f8 f9 f10 f11 f12 f13) (m : Nat) : IsS43 w0 (W.drewN m) g f0 f1 f2 f3 f4 f5 f6 f7 f8 f9 f10 f11 f12 f13 := h
theorem IsS43.drew {w0 W : World} {g : Nat} {f0 : Int} {f1 : Int} {f2 : Int} {f3 : Int} {f4 : Int} {f5 : Int} {f6 : Int} {f7 : List Int} {f8 : List Int} {f9 : List (S151)} {f10 : List (S153)} {f11 : List (List (S95))} {f12 : List Int} {f13 : Int} (h : IsS43 w0 W g f0 f1 f2 f3 f4 f5 f6 f7 f8 f9 f10 f11 f12 f13) : IsS43 w0 W.drew g f0 f1 f2 f3 f4 f5 f6 f7 f8 f9 f10 f11 f12 f13 := h
theorem IsS43.at_ {w0 W : World} {g : Nat} {f0 : Int} {f1 : Int} {f2 : Int} {f3 : Int} {f4 : Int} {f5 : Int} {f6 : Int} {f7 : List Int} {f8 : List Int} {f9 : List (S151)} {f10 : List (S153)} {f11 : List (List (S95))} {f12 : List Int} {f13 : Int} {w' : World} {m : Nat} (hq : W.drewN m = w') (h : IsS43 w0 W g f0 f1 f2 f3 f4 f5 f6 f7 f8 f9 f10 f11 f12 f13) : IsS43 w0 w' g f0 f1 f2 f3 f4 f5 f6 f7 f8 f9 f10 f11 f12 f13 := by subst hq; exact IsS43.drewN h m
theorem IsS43.apart {w0 W : World} {g : Nat} {f0 : Int} {f1 : Int} {f2 : Int} {f3 : Int} {f4 : Int} {f5 : Int} {f6 : Int} {f7 : List Int} {f8 : List Int} {f9 : List (S151)} {f10 : List (S153)} {f11 : List (List (S95))} {f12 : List Int} {f13 : Int} {α : Type} {d : Kd α} {e : Nat} {base : Nat} {ok : Nat → Prop} {v : Value} {xs : List α} (h : IsS43 w0 W g f0 f1 f2 f3 f4 f5 f6 f7 f8 f9 f10 f11 f12 f13) (ho : d.R e W base ok v xs) (ht : ∀ q, q ∈ e :: d.E → q ≠ 43) : d.R e W base (fun k => ok k ∧ k ≠ g) v xs := by
  obtain ⟨A7, c7, A8, c8, A9, c9, A10, c10, A11, c11, A12, c12, hb, hg, hr7, hr8, hr9, hr10, hr11, hr12⟩ := h
  exact Kd.R_types ho hb ht
theorem IsS43.own_ne {w0 W : World} {g : Nat} {f0 : Int} {f1 : Int} {f2 : Int} {f3 : Int} {f4 : Int} {f5 : Int} {f6 : Int} {f7 : List Int} {f8 : List Int} {f9 : List (S151)} {f10 : List (S153)} {f11 : List (List (S95))} {f12 : List Int} {f13 : Int} {α : Type} {d : Kd α} {e : Nat} {base : Nat} {ok : Nat → Prop} {v : Value} {xs : List α} (h : IsS43 w0 W g f0 f1 f2 f3 f4 f5 f6 f7 f8 f9 f10 f11 f12 f13) (ho : d.R e W base ok v xs) (ht : e ≠ 43) : some g ≠ v.ownBlock := by
  obtain ⟨A7, c7, A8, c8, A9, c9, A10, c10, A11, c11, A12, c12, hb, hg, hr7, hr8, hr9, hr10, hr11, hr12⟩ := h
  exact Kd.R_ne ho hb ht
theorem IsS43.apartQ {w0 W : World} {g : Nat} {f0 : Int} {f1 : Int} {f2 : Int} {f3 : Int} {f4 : Int} {f5 : Int} {f6 : Int} {f7 : List Int} {f8 : List Int} {f9 : List (S151)} {f10 : List (S153)} {f11 : List (List (S95))} {f12 : List Int} {f13 : Int} {α : Type} {d : Kd α} {e : Nat} {base : Nat} {ok : Nat → Prop} {v : Value} {xs : List α} (h : IsS43 w0 W g f0 f1 f2 f3 f4 f5 f6 f7 f8 f9 f10 f11 f12 f13) (ho : d.Q e W base ok v xs) (ht : ∀ q, q ∈ e :: d.E → q ≠ 43) : d.Q e W base (fun k => ok k ∧ k ≠ g) v xs := by
  obtain ⟨A7, c7, A8, c8, A9, c9, A10, c10, A11, c11, A12, c12, hb, hg, hr7, hr8, hr9, hr10, hr11, hr12⟩ := h
  exact Kd.Q_types ho hb ht
theorem IsS43.own_neQ {w0 W : World} {g : Nat} {f0 : Int} {f1 : Int} {f2 : Int} {f3 : Int} {f4 : Int} {f5 : Int} {f6 : Int} {f7 : List Int} {f8 : List Int} {f9 : List (S151)} {f10 : List (S153)} {f11 : List (List (S95))} {f12 : List Int} {f13 : Int} {α : Type} {d : Kd α} {e : Nat} {base : Nat} {ok : Nat → Prop} {v : Value} {xs : List α} (h : IsS43 w0 W g f0 f1 f2 f3 f4 f5 f6 f7 f8 f9 f10 f11 f12 f13) (ho : d.Q e W base ok v xs) (ht : e ≠ 43) : some g ≠ v.ownBlock := by
  obtain ⟨A7, c7, A8, c8, A9, c9, A10, c10, A11, c11, A12, c12, hb, hg, hr7, hr8, hr9, hr10, hr11, hr12⟩ := h
  exact Kd.Q_ne ho hb ht
theorem IsS43.apartS {w0 W : World} {g : Nat} {f0 : Int} {f1 : Int} {f2 : Int} {f3 : Int} {f4 : Int} {f5 : Int} {f6 : Int} {f7 : List Int} {f8 : List Int} {f9 : List (S151)} {f10 : List (S153)} {f11 : List (List (S95))} {f12 : List Int} {f13 : Int} {α : Type} {d : Kd α} {e : Nat} {base : Nat} {ok : Nat → Prop} {v : Value} {xs : List α} (h : IsS43 w0 W g f0 f1 f2 f3 f4 f5 f6 f7 f8 f9 f10 f11 f12 f13) (ho : d.S e W base ok v xs) (ht : ∀ q, q ∈ e :: d.E → q ≠ 43) : d.S e W base (fun k => ok k ∧ k ≠ g) v xs := by
  obtain ⟨A7, c7, A8, c8, A9, c9, A10, c10, A11, c11, A12, c12, hb, hg, hr7, hr8, hr9, hr10, hr11, hr12⟩ := h
  exact Kd.S_types ho hb ht
theorem IsS43.own_neS {w0 W : World} {g : Nat} {f0 : Int} {f1 : Int} {f2 : Int} {f3 : Int} {f4 : Int} {f5 : Int} {f6 : Int} {f7 : List Int} {f8 : List Int} {f9 : List (S151)} {f10 : List (S153)} {f11 : List (List (S95))} {f12 : List Int} {f13 : Int} {α : Type} {d : Kd α} {e : Nat} {base : Nat} {ok : Nat → Prop} {v : Value} {xs : List α} (h : IsS43 w0 W g f0 f1 f2 f3 f4 f5 f6 f7 f8 f9 f10 f11 f12 f13) (ho : d.S e W base ok v xs) (ht : e ≠ 43) : some g ≠ v.ownBlock := by
  obtain ⟨A7, c7, A8, c8, A9, c9, A10, c10, A11, c11, A12, c12, hb, hg, hr7, hr8, hr9, hr10, hr11, hr12⟩ := h
  exact Kd.S_ne ho hb ht
theorem IsS43.lt {w0 W : World} {g : Nat} {f0 : Int} {f1 : Int} {f2 : Int} {f3 : Int} {f4 : Int} {f5 : Int} {f6 : Int} {f7 : List Int} {f8 : List Int} {f9 : List (S151)} {f10 : List (S153)} {f11 : List (List (S95))} {f12 : List Int} {f13 : Int} (h : IsS43 w0 W g f0 f1 f2 f3 f4 f5 f6 f7 f8 f9 f10 f11 f12 f13) : g < W.heap.size := by
  obtain ⟨A7, c7, A8, c8, A9, c9, A10, c10, A11, c11, A12, c12, hb, hg, hr7, hr8, hr9, hr10, hr11, hr12⟩ := h
  exact blk_lt hb
theorem IsS43.ge {w0 W : World} {g : Nat} {f0 : Int} {f1 : Int} {f2 : Int} {f3 : Int} {f4 : Int} {f5 : Int} {f6 : Int} {f7 : List Int} {f8 : List Int} {f9 : List (S151)} {f10 : List (S153)} {f11 : List (List (S95))} {f12 : List Int} {f13 : Int} (h : IsS43 w0 W g f0 f1 f2 f3 f4 f5 f6 f7 f8 f9 f10 f11 f12 f13) : w0.heap.size ≤ g := by
  obtain ⟨A7, c7, A8, c8, A9, c9, A10, c10, A11, c11, A12, c12, hb, hg, hr7, hr8, hr9, hr10, hr11, hr12⟩ := h
  exact hg
theorem IsS43.ne_blk {w0 W : World} {g : Nat} {f0 : Int} {f1 : Int} {f2 : Int} {f3 : Int} {f4 : Int} {f5 : Int} {f6 : Int} {f7 : List Int} {f8 : List Int} {f9 : List (S151)} {f10 : List (S153)} {f11 : List (List (S95))} {f12 : List Int} {f13 : Int} {a : Nat} {cs : Array Value} {t : TypeId} {fr : Nat × Nat} (h : IsS43 w0 W g f0 f1 f2 f3 f4 f5 f6 f7 f8 f9 f10 f11 f12 f13) (hb2 : W.heap[a]? = some (.cells cs t fr)) (ht : t ≠ 43) : g ≠ a := by
  obtain ⟨A7, c7, A8, c8, A9, c9, A10, c10, A11, c11, A12, c12, hb, hg, hr7, hr8, hr9, hr10, hr11, hr12⟩ := h
  rintro rfl
  rw [hb] at hb2
  injection hb2 with hb2
  injection hb2 with _ ht2
  exact ht ht2.symm
theorem IsS43.far {w0 W : World} {g : Nat} {f0 : Int} {f1 : Int} {f2 : Int} {f3 : Int} {f4 : Int} {f5 : Int} {f6 : Int} {f7 : List Int} {f8 : List Int} {f9 : List (S151)} {f10 : List (S153)} {f11 : List (List (S95))} {f12 : List Int} {f13 : Int} {p : Addr} (h : IsS43 w0 W g f0 f1 f2 f3 f4 f5 f6 f7 f8 f9 f10 f11 f12 f13) (hne : g ≠ p.block) (u : Value) : IsS43 w0 (W.setCell p u) g f0 f1 f2 f3 f4 f5 f6 f7 f8 f9 f10 f11 f12 f13 := by
  obtain ⟨A7, c7, A8, c8, A9, c9, A10, c10, A11, c11, A12, c12, hb, hg, hr7, hr8, hr9, hr10, hr11, hr12⟩ := h
  exact ⟨A7, c7, A8, c8, A9, c9, A10, c10, A11, c11, A12, c12, blk_far hb hne u, hg, hr7, hr8, hr9, hr10, hr11, hr12⟩
theorem cellS43_0 {W : World} {g : Nat} {A7 : Option Addr} {c7 : Nat} {A8 : Option Addr} {c8 : Nat} {A9 : Option Addr} {c9 : Nat} {A10 : Option Addr} {c10 : Nat} {A11 : Option Addr} {c11 : Nat} {A12 : Option Addr} {c12 : Nat} {f0 : Int} {f1 : Int} {f2 : Int} {f3 : Int} {f4 : Int} {f5 : Int} {f6 : Int} {f7 : List Int} {f8 : List Int} {f9 : List (S151)} {f10 : List (S153)} {f11 : List (List (S95))} {f12 : List Int} {f13 : Int} (h : W.heap[g]? = some (.cells #[.int .i64 f0, .int .i64 f1, .int .i64 f2, .int .i64 f3, .int .i64 f4, .int .i64 f5, .int .i64 f6, .slice A7 f7.length c7, .slice A8 f8.length c8, .slice A9 f9.length c9, .slice A10 f10.length c10, .slice A11 f11.length c11, .slice A12 f12.length c12, .int .i64 f13] 43 (0, 0))) : W.cell? ⟨g, 0, none⟩ = some (.int .i64 f0) := (blk_cell h 0).trans rfl
theorem IsS43.set_0 {w0 W : World} {g : Nat} {f0 : Int} {f1 : Int} {f2 : Int} {f3 : Int} {f4 : Int} {f5 : Int} {f6 : Int} {f7 : List Int} {f8 : List Int} {f9 : List (S151)} {f10 : List (S153)} {f11 : List (List (S95))} {f12 : List Int} {f13 : Int} (h : IsS43 w0 W g f0 f1 f2 f3 f4 f5 f6 f7 f8 f9 f10 f11 f12 f13) (x : Int) : IsS43 w0 (W.setCell ⟨g, 0, none⟩ (.int .i64 x)) g x f1 f2 f3 f4 f5 f6 f7 f8 f9 f10 f11 f12 f13 := by
  obtain ⟨A7, c7, A8, c8, A9, c9, A10, c10, A11, c11, A12, c12, hb, hg, hr7, hr8, hr9, hr10, hr11, hr12⟩ := h
  exact ⟨A7, c7, A8, c8, A9, c9, A10, c10, A11, c11, A12, c12, by simpa using blk_set hb 0 (.int .i64 x), hg, hr7, hr8, hr9, hr10, hr11, hr12⟩
theorem cellS43_1 {W : World} {g : Nat} {A7 : Option Addr} {c7 : Nat} {A8 : Option Addr} {c8 : Nat} {A9 : Option Addr} {c9 : Nat} {A10 : Option Addr} {c10 : Nat} {A11 : Option Addr} {c11 : Nat} {A12 : Option Addr} {c12 : Nat} {f0 : Int} {f1 : Int} {f2 : Int} {f3 : Int} {f4 : Int} {f5 : Int} {f6 : Int} {f7 : List Int} {f8 : List Int} {f9 : List (S151)} {f10 : List (S153)} {f11 : List (List (S95))} {f12 : List Int} {f13 : Int} (h : W.heap[g]? = some (.cells #[.int .i64 f0, .int .i64 f1, .int .i64 f2, .int .i64 f3, .int .i64 f4, .int .i64 f5, .int .i64 f6, .slice A7 f7.length c7, .slice A8 f8.length c8, .slice A9 f9.length c9, .slice A10 f10.length c10, .slice A11 f11.length c11, .slice A12 f12.length c12, .int .i64 f13] 43 (0, 0))) : W.cell? ⟨g, 1, none⟩ = some (.int .i64 f1) := (blk_cell h 1).trans rfl
theorem IsS43.set_1 {w0 W : World} {g : Nat} {f0 : Int} {f1 : Int} {f2 : Int} {f3 : Int} {f4 : Int} {f5 : Int} {f6 : Int} {f7 : List Int} {f8 : List Int} {f9 : List (S151)} {f10 : List (S153)} {f11 : List (List (S95))} {f12 : List Int} {f13 : Int} (h : IsS43 w0 W g f0 f1 f2 f3 f4 f5 f6 f7 f8 f9 f10 f11 f12 f13) (x : Int) : IsS43 w0 (W.setCell ⟨g, 1, none⟩ (.int .i64 x)) g f0 x f2 f3 f4 f5 f6 f7 f8 f9 f10 f11 f12 f13 := by
  obtain ⟨A7, c7, A8, c8, A9, c9, A10, c10, A11, c11, A12, c12, hb, hg, hr7, hr8, hr9, hr10, hr11, hr12⟩ := h
  exact ⟨A7, c7, A8, c8, A9, c9, A10, c10, A11, c11, A12, c12, by simpa using blk_set hb 1 (.int .i64 x), hg, hr7, hr8, hr9, hr10, hr11, hr12⟩
theorem cellS43_2 {W : World} {g : Nat} {A7 : Option Addr} {c7 : Nat} {A8 : Option Addr} {c8 : Nat} {A9 : Option Addr} {c9 : Nat} {A10 : Option Addr} {c10 : Nat} {A11 : Option Addr} {c11 : Nat} {A12 : Option Addr} {c12 : Nat} {f0 : Int} {f1 : Int} {f2 : Int} {f3 : Int} {f4 : Int} {f5 : Int} {f6 : Int} {f7 : List Int} {f8 : List Int} {f9 : List (S151)} {f10 : List (S153)} {f11 : List (List (S95))} {f12 : List Int} {f13 : Int} (h : W.heap[g]? = some (.cells #[.int .i64 f0, .int .i64 f1, .int .i64 f2, .int .i64 f3, .int .i64 f4, .int .i64 f5, .int .i64 f6, .slice A7 f7.length c7, .slice A8 f8.length c8, .slice A9 f9.length c9, .slice A10 f10.length c10, .slice A11 f11.length c11, .slice A12 f12.length c12, .int .i64 f13] 43 (0, 0))) : W.cell? ⟨g, 2, none⟩ = some (.int .i64 f2) := (blk_cell h 2).trans rfl
theorem IsS43.set_2 {w0 W : World} {g : Nat} {f0 : Int} {f1 : Int} {f2 : Int} {f3 : Int} {f4 : Int} {f5 : Int} {f6 : Int} {f7 : List Int} {f8 : List Int} {f9 : List (S151)} {f10 : List (S153)} {f11 : List (List (S95))} {f12 : List Int} {f13 : Int} (h : IsS43 w0 W g f0 f1 f2 f3 f4 f5 f6 f7 f8 f9 f10 f11 f12 f13) (x : Int) : IsS43 w0 (W.setCell ⟨g, 2, none⟩ (.int .i64 x)) g f0 f1 x f3 f4 f5 f6 f7 f8 f9 f10 f11 f12 f13 := by
  obtain ⟨A7, c7, A8, c8, A9, c9, A10, c10, A11, c11, A12, c12, hb, hg, hr7, hr8, hr9, hr10, hr11, hr12⟩ := h
  exact ⟨A7, c7, A8, c8, A9, c9, A10, c10, A11, c11, A12, c12, by simpa using blk_set hb 2 (.int .i64 x), hg, hr7, hr8, hr9, hr10, hr11, hr12⟩
theorem cellS43_3 {W : World} {g : Nat} {A7 : Option Addr} {c7 : Nat} {A8 : Option Addr} {c8 : Nat} {A9 : Option Addr} {c9 : Nat} {A10 : Option Addr} {c10 : Nat} {A11 : Option Addr} {c11 : Nat} {A12 : Option Addr} {c12 : Nat} {f0 : Int} {f1 : Int} {f2 : Int} {f3 : Int} {f4 : Int} {f5 : Int} {f6 : Int} {f7 : List Int} {f8 : List Int} {f9 : List (S151)} {f10 : List (S153)} {f11 : List (List (S95))} {f12 : List Int} {f13 : Int} (h : W.heap[g]? = some (.cells #[.int .i64 f0, .int .i64 f1, .int .i64 f2, .int .i64 f3, .int .i64 f4, .int .i64 f5, .int .i64 f6, .slice A7 f7.length c7, .slice A8 f8.length c8, .slice A9 f9.length c9, .slice A10 f10.length c10, .slice A11 f11.length c11, .slice A12 f12.length c12, .int .i64 f13] 43 (0, 0))) : W.cell? ⟨g, 3, none⟩ = some (.int .i64 f3) := (blk_cell h 3).trans rfl
theorem IsS43.set_3 {w0 W : World} {g : Nat} {f0 : Int} {f1 : Int} {f2 : Int} {f3 : Int} {f4 : Int} {f5 : Int} {f6 : Int} {f7 : List Int} {f8 : List Int} {f9 : List (S151)} {f10 : List (S153)} {f11 : List (List (S95))} {f12 : List Int} {f13 : Int} (h : IsS43 w0 W g f0 f1 f2 f3 f4 f5 f6 f7 f8 f9 f10 f11 f12 f13) (x : Int) : IsS43 w0 (W.setCell ⟨g, 3, none⟩ (.int .i64 x)) g f0 f1 f2 x f4 f5 f6 f7 f8 f9 f10 f11 f12 f13 := by
  obtain ⟨A7, c7, A8, c8, A9, c9, A10, c10, A11, c11, A12, c12, hb, hg, hr7, hr8, hr9, hr10, hr11, hr12⟩ := h
  exact ⟨A7, c7, A8, c8, A9, c9, A10, c10, A11, c11, A12, c12, by simpa using blk_set hb 3 (.int .i64 x), hg, hr7, hr8, hr9, hr10, hr11, hr12⟩
theorem cellS43_4 {W : World} {g : Nat} {A7 : Option Addr} {c7 : Nat} {A8 : Option Addr} {c8 : Nat} {A9 : Option Addr} {c9 : Nat} {A10 : Option Addr} {c10 : Nat} {A11 : Option Addr} {c11 : Nat} {A12 : Option Addr} {c12 : Nat} {f0 : Int} {f1 : Int} {f2 : Int} {f3 : Int} {f4 : Int} {f5 : Int} {f6 : Int} {f7 : List Int} {f8 : List Int} {f9 : List (S151)} {f10 : List (S153)} {f11 : List (List (S95))} {f12 : List Int} {f13 : Int} (h : W.heap[g]? = some (.cells #[.int .i64 f0, .int .i64 f1, .int .i64 f2, .int .i64 f3, .int .i64 f4, .int .i64 f5, .int .i64 f6, .slice A7 f7.length c7, .slice A8 f8.length c8, .slice A9 f9.length c9, .slice A10 f10.length c10, .slice A11 f11.length c11, .slice A12 f12.length c12, .int .i64 f13] 43 (0, 0))) : W.cell? ⟨g, 4, none⟩ = some (.int .i64 f4) := (blk_cell h 4).trans rfl
theorem IsS43.set_4 {w0 W : World} {g : Nat} {f0 : Int} {f1 : Int} {f2 : Int} {f3 : Int} {f4 : Int} {f5 : Int} {f6 : Int} {f7 : List Int} {f8 : List Int} {f9 : List (S151)} {f10 : List (S153)} {f11 : List (List (S95))} {f12 : List Int} {f13 : Int} (h : IsS43 w0 W g f0 f1 f2 f3 f4 f5 f6 f7 f8 f9 f10 f11 f12 f13) (x : Int) : IsS43 w0 (W.setCell ⟨g, 4, none⟩ (.int .i64 x)) g f0 f1 f2 f3 x f5 f6 f7 f8 f9 f10 f11 f12 f13 := by
  obtain ⟨A7, c7, A8, c8, A9, c9, A10, c10, A11, c11, A12, c12, hb, hg, hr7, hr8, hr9, hr10, hr11, hr12⟩ := h
  exact ⟨A7, c7, A8, c8, A9, c9, A10, c10, A11, c11, A12, c12, by simpa using blk_set hb 4 (.int .i64 x), hg, hr7, hr8, hr9, hr10, hr11, hr12⟩
theorem cellS43_5 {W : World} {g : Nat} {A7 : Option Addr} {c7 : Nat} {A8 : Option Addr} {c8 : Nat} {A9 : Option Addr} {c9 : Nat} {A10 : Option Addr} {c10 : Nat} {A11 : Option Addr} {c11 : Nat} {A12 : Option Addr} {c12 : Nat} {f0 : Int} {f1 : Int} {f2 : Int} {f3 : Int} {f4 : Int} {f5 : Int} {f6 : Int} {f7 : List Int} {f8 : List Int} {f9 : List (S151)} {f10 : List (S153)} {f11 : List (List (S95))} {f12 : List Int} {f13 : Int} (h : W.heap[g]? = some (.cells #[.int .i64 f0, .int .i64 f1, .int .i64 f2, .int .i64 f3, .int .i64 f4, .int .i64 f5, .int .i64 f6, .slice A7 f7.length c7, .slice A8 f8.length c8, .slice A9 f9.length c9, .slice A10 f10.length c10, .slice A11 f11.length c11, .slice A12 f12.length c12, .int .i64 f13] 43 (0, 0))) : W.cell? ⟨g, 5, none⟩ = some (.int .i64 f5) := (blk_cell h 5).trans rfl
theorem IsS43.set_5 {w0 W : World} {g : Nat} {f0 : Int} {f1 : Int} {f2 : Int} {f3 : Int} {f4 : Int} {f5 : Int} {f6 : Int} {f7 : List Int} {f8 : List Int} {f9 : List (S151)} {f10 : List (S153)} {f11 : List (List (S95))} {f12 : List Int} {f13 : Int} (h : IsS43 w0 W g f0 f1 f2 f3 f4 f5 f6 f7 f8 f9 f10 f11 f12 f13) (x : Int) : IsS43 w0 (W.setCell ⟨g, 5, none⟩ (.int .i64 x)) g f0 f1 f2 f3 f4 x f6 f7 f8 f9 f10 f11 f12 f13 := by
  obtain ⟨A7, c7, A8, c8, A9, c9, A10, c10, A11, c11, A12, c12, hb, hg, hr7, hr8, hr9, hr10, hr11, hr12⟩ := h
  exact ⟨A7, c7, A8, c8, A9, c9, A10, c10, A11, c11, A12, c12, by simpa using blk_set hb 5 (.int .i64 x), hg, hr7, hr8, hr9, hr10, hr11, hr12⟩
theorem cellS43_6 {W : World} {g : Nat} {A7 : Option Addr} {c7 : Nat} {A8 : Option Addr} {c8 : Nat} {A9 : Option Addr} {c9 : Nat} {A10 : Option Addr} {c10 : Nat} {A11 : Option Addr} {c11 : Nat} {A12 : Option Addr} {c12 : Nat} {f0 : Int} {f1 : Int} {f2 : Int} {f3 : Int} {f4 : Int} {f5 : Int} {f6 : Int} {f7 : List Int} {f8 : List Int} {f9 : List (S151)} {f10 : List (S153)} {f11 : List (List (S95))} {f12 : List Int} {f13 : Int} (h : W.heap[g]? = some (.cells #[.int .i64 f0, .int .i64 f1, .int .i64 f2, .int .i64 f3, .int .i64 f4, .int .i64 f5, .int .i64 f6, .slice A7 f7.length c7, .slice A8 f8.length c8, .slice A9 f9.length c9, .slice A10 f10.length c10, .slice A11 f11.length c11, .slice A12 f12.length c12, .int .i64 f13] 43 (0, 0))) : W.cell? ⟨g, 6, none⟩ = some (.int .i64 f6) := (blk_cell h 6).trans rfl
theorem IsS43.set_6 {w0 W : World} {g : Nat} {f0 : Int} {f1 : Int} {f2 : Int} {f3 : Int} {f4 : Int} {f5 : Int} {f6 : Int} {f7 : List Int} {f8 : List Int} {f9 : List (S151)} {f10 : List (S153)} {f11 : List (List (S95))} {f12 : List Int} {f13 : Int} (h : IsS43 w0 W g f0 f1 f2 f3 f4 f5 f6 f7 f8 f9 f10 f11 f12 f13) (x : Int) : IsS43 w0 (W.setCell ⟨g, 6, none⟩ (.int .i64 x)) g f0 f1 f2 f3 f4 f5 x f7 f8 f9 f10 f11 f12 f13 := by
  obtain ⟨A7, c7, A8, c8, A9, c9, A10, c10, A11, c11, A12, c12, hb, hg, hr7, hr8, hr9, hr10, hr11, hr12⟩ := h
  exact ⟨A7, c7, A8, c8, A9, c9, A10, c10, A11, c11, A12, c12, by simpa using blk_set hb 6 (.int .i64 x), hg, hr7, hr8, hr9, hr10, hr11, hr12⟩
theorem cellS43_7 {W : World} {g : Nat} {A7 : Option Addr} {c7 : Nat} {A8 : Option Addr} {c8 : Nat} {A9 : Option Addr} {c9 : Nat} {A10 : Option Addr} {c10 : Nat} {A11 : Option Addr} {c11 : Nat} {A12 : Option Addr} {c12 : Nat} {f0 : Int} {f1 : Int} {f2 : Int} {f3 : Int} {f4 : Int} {f5 : Int} {f6 : Int} {f7 : List Int} {f8 : List Int} {f9 : List (S151)} {f10 : List (S153)} {f11 : List (List (S95))} {f12 : List Int} {f13 : Int} (h : W.heap[g]? = some (.cells #[.int .i64 f0, .int .i64 f1, .int .i64 f2, .int .i64 f3, .int .i64 f4, .int .i64 f5, .int .i64 f6, .slice A7 f7.length c7, .slice A8 f8.length c8, .slice A9 f9.length c9, .slice A10 f10.length c10, .slice A11 f11.length c11, .slice A12 f12.length c12, .int .i64 f13] 43 (0, 0))) : W.cell? ⟨g, 7, none⟩ = some (.slice A7 f7.length c7) := (blk_cell h 7).trans rfl
theorem cellS43_8 {W : World} {g : Nat} {A7 : Option Addr} {c7 : Nat} {A8 : Option Addr} {c8 : Nat} {A9 : Option Addr} {c9 : Nat} {A10 : Option Addr} {c10 : Nat} {A11 : Option Addr} {c11 : Nat} {A12 : Option Addr} {c12 : Nat} {f0 : Int} {f1 : Int} {f2 : Int} {f3 : Int} {f4 : Int} {f5 : Int} {f6 : Int} {f7 : List Int} {f8 : List Int} {f9 : List (S151)} {f10 : List (S153)} {f11 : List (List (S95))} {f12 : List Int} {f13 : Int} (h : W.heap[g]? = some (.cells #[.int .i64 f0, .int .i64 f1, .int .i64 f2, .int .i64 f3, .int .i64 f4, .int .i64 f5, .int .i64 f6, .slice A7 f7.length c7, .slice A8 f8.length c8, .slice A9 f9.length c9, .slice A10 f10.length c10, .slice A11 f11.length c11, .slice A12 f12.length c12, .int .i64 f13] 43 (0, 0))) : W.cell? ⟨g, 8, none⟩ = some (.slice A8 f8.length c8) := (blk_cell h 8).trans rfl
theorem cellS43_9 {W : World} {g : Nat} {A7 : Option Addr} {c7 : Nat} {A8 : Option Addr} {c8 : Nat} {A9 : Option Addr} {c9 : Nat} {A10 : Option Addr} {c10 : Nat} {A11 : Option Addr} {c11 : Nat} {A12 : Option Addr} {c12 : Nat} {f0 : Int} {f1 : Int} {f2 : Int} {f3 : Int} {f4 : Int} {f5 : Int} {f6 : Int} {f7 : List Int} {f8 : List Int} {f9 : List (S151)} {f10 : List (S153)} {f11 : List (List (S95))} {f12 : List Int} {f13 : Int} (h : W.heap[g]? = some (.cells #[.int .i64 f0, .int .i64 f1, .int .i64 f2, .int .i64 f3, .int .i64 f4, .int .i64 f5, .int .i64 f6, .slice A7 f7.length c7, .slice A8 f8.length c8, .slice A9 f9.length c9, .slice A10 f10.length c10, .slice A11 f11.length c11, .slice A12 f12.length c12, .int .i64 f13] 43 (0, 0))) : W.cell? ⟨g, 9, none⟩ = some (.slice A9 f9.length c9) := (blk_cell h 9).trans rfl
theorem cellS43_10 {W : World} {g : Nat} {A7 : Option Addr} {c7 : Nat} {A8 : Option Addr} {c8 : Nat} {A9 : Option Addr} {c9 : Nat} {A10 : Option Addr} {c10 : Nat} {A11 : Option Addr} {c11 : Nat} {A12 : Option Addr} {c12 : Nat} {f0 : Int} {f1 : Int} {f2 : Int} {f3 : Int} {f4 : Int} {f5 : Int} {f6 : Int} {f7 : List Int} {f8 : List Int} {f9 : List (S151)} {f10 : List (S153)} {f11 : List (List (S95))} {f12 : List Int} {f13 : Int} (h : W.heap[g]? = some (.cells #[.int .i64 f0, .int .i64 f1, .int .i64 f2, .int .i64 f3, .int .i64 f4, .int .i64 f5, .int .i64 f6, .slice A7 f7.length c7, .slice A8 f8.length c8, .slice A9 f9.length c9, .slice A10 f10.length c10, .slice A11 f11.length c11, .slice A12 f12.length c12, .int .i64 f13] 43 (0, 0))) : W.cell? ⟨g, 10, none⟩ = some (.slice A10 f10.length c10) := (blk_cell h 10).trans rfl
theorem cellS43_11 {W : World} {g : Nat} {A7 : Option Addr} {c7 : Nat} {A8 : Option Addr} {c8 : Nat} {A9 : Option Addr} {c9 : Nat} {A10 : Option Addr} {c10 : Nat} {A11 : Option Addr} {c11 : Nat} {A12 : Option Addr} {c12 : Nat} {f0 : Int} {f1 : Int} {f2 : Int} {f3 : Int} {f4 : Int} {f5 : Int} {f6 : Int} {f7 : List Int} {f8 : List Int} {f9 : List (S151)} {f10 : List (S153)} {f11 : List (List (S95))} {f12 : List Int} {f13 : Int} (h : W.heap[g]? = some (.cells #[.int .i64 f0, .int .i64 f1, .int .i64 f2, .int .i64 f3, .int .i64 f4, .int .i64 f5, .int .i64 f6, .slice A7 f7.length c7, .slice A8 f8.length c8, .slice A9 f9.length c9, .slice A10 f10.length c10, .slice A11 f11.length c11, .slice A12 f12.length c12, .int .i64 f13] 43 (0, 0))) : W.cell? ⟨g, 11, none⟩ = some (.slice A11 f11.length c11) := (blk_cell h 11).trans rfl
theorem cellS43_12 {W : World} {g : Nat} {A7 : Option Addr} {c7 : Nat} {A8 : Option Addr} {c8 : Nat} {A9 : Option Addr} {c9 : Nat} {A10 : Option Addr} {c10 : Nat} {A11 : Option Addr} {c11 : Nat} {A12 : Option Addr} {c12 : Nat} {f0 : Int} {f1 : Int} {f2 : Int} {f3 : Int} {f4 : Int} {f5 : Int} {f6 : Int} {f7 : List Int} {f8 : List Int} {f9 : List (S151)} {f10 : List (S153)} {f11 : List (List (S95))} {f12 : List Int} {f13 : Int} (h : W.heap[g]? = some (.cells #[.int .i64 f0, .int .i64 f1, .int .i64 f2, .int .i64 f3, .int .i64 f4, .int .i64 f5, .int .i64 f6, .slice A7 f7.length c7, .slice A8 f8.length c8, .slice A9 f9.length c9, .slice A10 f10.length c10, .slice A11 f11.length c11, .slice A12 f12.length c12, .int .i64 f13] 43 (0, 0))) : W.cell? ⟨g, 12, none⟩ = some (.slice A12 f12.length c12) := (blk_cell h 12).trans rfl
theorem cellS43_13 {W : World} {g : Nat} {A7 : Option Addr} {c7 : Nat} {A8 : Option Addr} {c8 : Nat} {A9 : Option Addr} {c9 : Nat} {A10 : Option Addr} {c10 : Nat} {A11 : Option Addr} {c11 : Nat} {A12 : Option Addr} {c12 : Nat} {f0 : Int} {f1 : Int} {f2 : Int} {f3 : Int} {f4 : Int} {f5 : Int} {f6 : Int} {f7 : List Int} {f8 : List Int} {f9 : List (S151)} {f10 : List (S153)} {f11 : List (List (S95))} {f12 : List Int} {f13 : Int} (h : W.heap[g]? = some (.cells #[.int .i64 f0, .int .i64 f1, .int .i64 f2, .int .i64 f3, .int .i64 f4, .int .i64 f5, .int .i64 f6, .slice A7 f7.length c7, .slice A8 f8.length c8, .slice A9 f9.length c9, .slice A10 f10.length c10, .slice A11 f11.length c11, .slice A12 f12.length c12, .int .i64 f13] 43 (0, 0))) : W.cell? ⟨g, 13, none⟩ = some (.int .i64 f13) := (blk_cell h 13).trans rfl
theorem IsS43.set_13 {w0 W : World} {g : Nat} {f0 : Int} {f1 : Int} {f2 : Int} {f3 : Int} {f4 : Int} {f5 : Int} {f6 : Int} {f7 : List Int} {f8 : List Int} {f9 : List (S151)} {f10 : List (S153)} {f11 : List (List (S95))} {f12 : List Int} {f13 : Int} (h : IsS43 w0 W g f0 f1 f2 f3 f4 f5 f6 f7 f8 f9 f10 f11 f12 f13) (x : Int) : IsS43 w0 (W.setCell ⟨g, 13, none⟩ (.int .i64 x)) g f0 f1 f2 f3 f4 f5 f6 f7 f8 f9 f10 f11 f12 x := by
  obtain ⟨A7, c7, A8, c8, A9, c9, A10, c10, A11, c11, A12, c12, hb, hg, hr7, hr8, hr9, hr10, hr11, hr12⟩ := h
  exact ⟨A7, c7, A8, c8, A9, c9, A10, c10, A11, c11, A12, c12, by simpa using blk_set hb 13 (.int .i64 x), hg, hr7, hr8, hr9, hr10, hr11, hr12⟩
theorem IsS43.new (w0 W : World) (A7 : Option Addr) (c7 : Nat) (A8 : Option Addr) (c8 : Nat) (A9 : Option Addr) (c9 : Nat) (A10 : Option Addr) (c10 : Nat) (A11 : Option Addr) (c11 : Nat) (A12 : Option Addr) (c12 : Nat) (f0 : Int) (f1 : Int) (f2 : Int) (f3 : Int) (f4 : Int) (f5 : Int) (f6 : Int) (f7 : List Int) (f8 : List Int) (f9 : List (S151)) (f10 : List (S153)) (f11 : List (List (S95))) (f12 : List Int) (f13 : Int) (hB : Below w0.heap.size w0 W) (hr7 : Kd.C (Kd.int .i64) w0 A7 f7.length f7) (hr8 : Kd.C (Kd.int .i64) w0 A8 f8.length f8) (hr9 : Kd.C k151 w0 A9 f9.length f9) (hr10 : Kd.C k153 w0 A10 f10.length f10) (hr11 : Kd.C (Kd.slice 95 k95) w0 A11 f11.length f11) (hr12 : Kd.C (Kd.int .i64) w0 A12 f12.length f12) : IsS43 w0 (W.alloc (.cells #[.int .i64 f0, .int .i64 f1, .int .i64 f2, .int .i64 f3, .int .i64 f4, .int .i64 f5, .int .i64 f6, .slice A7 f7.length c7, .slice A8 f8.length c8, .slice A9 f9.length c9, .slice A10 f10.length c10, .slice A11 f11.length c11, .slice A12 f12.length c12, .int .i64 f13] 43)) W.heap.size f0 f1 f2 f3 f4 f5 f6 f7 f8 f9 f10 f11 f12 f13 := ⟨A7, c7, A8, c8, A9, c9, A10, c10, A11, c11, A12, c12, by simpa using heap_alloc_new W _, hB.size, hr7, hr8, hr9, hr10, hr11, hr12⟩

/-! ### gangplankref18_World_Tick: function 12 -/
def gangplankref18_World_Tick.f (s0_0 : Int) (s0_1 : Int) (s0_2 : Int) (s0_3 : Int) (s0_4 : Int) (s0_5 : Int) (s0_6 : Int) (s0_7 : List Int) (s0_8 : List Int) (s0_9 : List (S151)) (s0_10 : List (S153)) (s0_11 : List (List (S95))) (s0_12 : List Int) (s0_13 : Int) (a1 : Int) : Option (Int × Int × Int × Int × Int × Int × Int × Int) := if a1 ≥ 0 then (if a1 ≤ 1000000 then (if (wrap64 (s0_13 + a1)) ≤ 1000000000 then (some (s0_0, s0_1, s0_2, s0_3, s0_4, s0_5, s0_6, wrap64 (s0_13 + a1))) else (some (s0_0, s0_1, s0_2, s0_3, s0_4, s0_5, s0_6, s0_13))) else (some (s0_0, s0_1, s0_2, s0_3, s0_4, s0_5, s0_6, s0_13))) else (some (s0_0, s0_1, s0_2, s0_3, s0_4, s0_5, s0_6, s0_13))
set_option maxHeartbeats 8000000 in
set_option maxRecDepth 100000 in
theorem gangplankref18_World_Tick.calls (g : Nat) (s0_0 : Int) (s0_1 : Int) (s0_2 : Int) (s0_3 : Int) (s0_4 : Int) (s0_5 : Int) (s0_6 : Int) (s0_7 : List Int) (s0_8 : List Int) (s0_9 : List (S151)) (s0_10 : List (S153)) (s0_11 : List (List (S95))) (s0_12 : List Int) (s0_13 : Int) (a1 : Int) (r1 : Int) (r2 : Int) (r3 : Int) (r4 : Int) (r5 : Int) (r6 : Int) (r7 : Int) (r8 : Int) (w0 w : World) (hI : IsS43 w0 w g s0_0 s0_1 s0_2 s0_3 s0_4 s0_5 s0_6 s0_7 s0_8 s0_9 s0_10 s0_11 s0_12 s0_13) (hB : Below w0.heap.size w0 w) (h : gangplankref18_World_Tick.f s0_0 s0_1 s0_2 s0_3 s0_4 s0_5 s0_6 s0_7 s0_8 s0_9 s0_10 s0_11 s0_12 s0_13 a1 = some (r1, r2, r3, r4, r5, r6, r7, r8)) :
    Calls Try.prog 12 #[.pointer (some ⟨g, 0, none⟩), .int .i64 a1] w fun e w' => e = .returned (.tuple #[]) ∧ IsS43 w0 w' g r1 r2 r3 r4 r5 r6 r7 s0_7 s0_8 s0_9 s0_10 s0_11 s0_12 r8 ∧ Below w0.heap.size w0 w' ∧ KeepBut w w' g none := by
  have HI0 := Aside0.mk hI
  have HK := Aside0.mk (KeepBut.refl w g none)
  have HL := Aside0.mk hB.size
  clear hI
  have HW0 := Aside0.mk hB.size
  have HB := Aside0.mk hB
  clear hB
  have H : (if a1 ≥ 0 then (if a1 ≤ 1000000 then (if (wrap64 (s0_13 + a1)) ≤ 1000000000 then (some (s0_0, s0_1, s0_2, s0_3, s0_4, s0_5, s0_6, wrap64 (s0_13 + a1))) else (some (s0_0, s0_1, s0_2, s0_3, s0_4, s0_5, s0_6, s0_13))) else (some (s0_0, s0_1, s0_2, s0_3, s0_4, s0_5, s0_6, s0_13))) else (some (s0_0, s0_1, s0_2, s0_3, s0_4, s0_5, s0_6, s0_13))) = some (r1, r2, r3, r4, r5, r6, r7, r8) := h
  clear h
  by_cases c3 : a1 ≥ 0
  · rw [if_pos c3] at H
    have c3b0 : decide (0 ≤ a1) = true := decide_eq_true c3
    clear c3
    by_cases c4 : a1 ≤ 1000000
    · rw [if_pos c4] at H
      have c4b0 : decide (a1 ≤ 1000000) = true := decide_eq_true c4
      clear c4
      by_cases c5 : (wrap64 (s0_13 + a1)) ≤ 1000000000
      · rw [if_pos c5] at H
        have c5b0 : decide ((wrap64 (s0_13 + a1)) ≤ 1000000000) = true := decide_eq_true c5
        clear c5
        simp only [Option.some.injEq, Prod.mk.injEq] at H
        obtain ⟨rfl, rfl, rfl, rfl, rfl, rfl, rfl, rfl⟩ := H
        obtain ⟨ASz6_7, cSz6_7, ASz6_8, cSz6_8, ASz6_9, cSz6_9, ASz6_10, cSz6_10, ASz6_11, cSz6_11, ASz6_12, cSz6_12, HGz6, hgz6, HSz6_7, HSz6_8, HSz6_9, HSz6_10, HSz6_11, HSz6_12⟩ := HI0.out
        have hcz6_0 := cellS43_0 HGz6
        have hcz6_1 := cellS43_1 HGz6
        have hcz6_2 := cellS43_2 HGz6
        have hcz6_3 := cellS43_3 HGz6
        have hcz6_4 := cellS43_4 HGz6
        have hcz6_5 := cellS43_5 HGz6
        have hcz6_6 := cellS43_6 HGz6
        have hcz6_7 := cellS43_7 HGz6
        have hcz6_8 := cellS43_8 HGz6
        have hcz6_9 := cellS43_9 HGz6
        have hcz6_10 := cellS43_10 HGz6
        have hcz6_11 := cellS43_11 HGz6
        have hcz6_12 := cellS43_12 HGz6
        have hcz6_13 := cellS43_13 HGz6
        have hfz6_0 := blk_frozen HGz6 0
        have hfz6_1 := blk_frozen HGz6 1
        have hfz6_2 := blk_frozen HGz6 2
        have hfz6_3 := blk_frozen HGz6 3
        have hfz6_4 := blk_frozen HGz6 4
        have hfz6_5 := blk_frozen HGz6 5
        have hfz6_6 := blk_frozen HGz6 6
        have hfz6_13 := blk_frozen HGz6 13
        clear HGz6 hgz6
        go_enter Try.func12, Try.ntmps12
        go_wp2
        first | go_end0 | ((try simp only [Exit.inBlock, Exit.then]); refine bodyPost_ret (results_none rfl _ _ _) rfl ?_)
        exact ⟨by first | rfl | (simp [errW_none, errW_some] <;> rfl) | (simp [*, errW_none, errW_some] <;> rfl), by repeat (first | (with_reducible first | exact HI0.out | apply IsS43.alloc | apply IsS43.drewN | apply IsS43.drew | apply IsS43.set_0 | apply IsS43.set_1 | apply IsS43.set_2 | apply IsS43.set_3 | apply IsS43.set_4 | apply IsS43.set_5 | apply IsS43.set_6 | apply IsS43.set_13) | exact HI0.out), by repeat (first | (with_reducible first | exact HB.out | apply below_alloc | apply pw_below_drewN | apply below_drew1 | refine below_set ?_ (IsS43.ge HI0.out)) | exact HB.out), by repeat (first | (with_reducible first | exact HK.out | apply KeepBut.set_ | apply keep_drewN | apply keep_drew | apply keep_alloc) | exact HK.out)⟩
      · rw [if_neg c5] at H
        have c5b0 : decide ((wrap64 (s0_13 + a1)) ≤ 1000000000) = false := decide_eq_false c5
        clear c5
        simp only [Option.some.injEq, Prod.mk.injEq] at H
        obtain ⟨rfl, rfl, rfl, rfl, rfl, rfl, rfl, rfl⟩ := H
        obtain ⟨ASz7_7, cSz7_7, ASz7_8, cSz7_8, ASz7_9, cSz7_9, ASz7_10, cSz7_10, ASz7_11, cSz7_11, ASz7_12, cSz7_12, HGz7, hgz7, HSz7_7, HSz7_8, HSz7_9, HSz7_10, HSz7_11, HSz7_12⟩ := HI0.out
        have hcz7_0 := cellS43_0 HGz7
        have hcz7_1 := cellS43_1 HGz7
        have hcz7_2 := cellS43_2 HGz7
        have hcz7_3 := cellS43_3 HGz7
        have hcz7_4 := cellS43_4 HGz7
        have hcz7_5 := cellS43_5 HGz7
        have hcz7_6 := cellS43_6 HGz7
        have hcz7_7 := cellS43_7 HGz7
        have hcz7_8 := cellS43_8 HGz7
        have hcz7_9 := cellS43_9 HGz7
        have hcz7_10 := cellS43_10 HGz7
        have hcz7_11 := cellS43_11 HGz7
        have hcz7_12 := cellS43_12 HGz7
        have hcz7_13 := cellS43_13 HGz7
        have hfz7_0 := blk_frozen HGz7 0
        have hfz7_1 := blk_frozen HGz7 1
        have hfz7_2 := blk_frozen HGz7 2
        have hfz7_3 := blk_frozen HGz7 3
        have hfz7_4 := blk_frozen HGz7 4
        have hfz7_5 := blk_frozen HGz7 5
        have hfz7_6 := blk_frozen HGz7 6
        have hfz7_13 := blk_frozen HGz7 13
        clear HGz7 hgz7
        go_enter Try.func12, Try.ntmps12
        go_wp2
        first | go_end0 | ((try simp only [Exit.inBlock, Exit.then]); refine bodyPost_ret (results_none rfl _ _ _) rfl ?_)
        exact ⟨by first | rfl | (simp [errW_none, errW_some] <;> rfl) | (simp [*, errW_none, errW_some] <;> rfl), by repeat (first | (with_reducible first | exact HI0.out | apply IsS43.alloc | apply IsS43.drewN | apply IsS43.drew | apply IsS43.set_0 | apply IsS43.set_1 | apply IsS43.set_2 | apply IsS43.set_3 | apply IsS43.set_4 | apply IsS43.set_5 | apply IsS43.set_6 | apply IsS43.set_13) | exact HI0.out), by repeat (first | (with_reducible first | exact HB.out | apply below_alloc | apply pw_below_drewN | apply below_drew1 | refine below_set ?_ (IsS43.ge HI0.out)) | exact HB.out), by repeat (first | (with_reducible first | exact HK.out | apply KeepBut.set_ | apply keep_drewN | apply keep_drew | apply keep_alloc) | exact HK.out)⟩
    · rw [if_neg c4] at H
      have c4b0 : decide (a1 ≤ 1000000) = false := decide_eq_false c4
      clear c4
      simp only [Option.some.injEq, Prod.mk.injEq] at H
      obtain ⟨rfl, rfl, rfl, rfl, rfl, rfl, rfl, rfl⟩ := H
      go_enter Try.func12, Try.ntmps12
      go_wp2
      first | go_end0 | ((try simp only [Exit.inBlock, Exit.then]); refine bodyPost_ret (results_none rfl _ _ _) rfl ?_)
      exact ⟨by first | rfl | (simp [errW_none, errW_some] <;> rfl) | (simp [*, errW_none, errW_some] <;> rfl), by repeat (first | (with_reducible first | exact HI0.out | apply IsS43.alloc | apply IsS43.drewN | apply IsS43.drew | apply IsS43.set_0 | apply IsS43.set_1 | apply IsS43.set_2 | apply IsS43.set_3 | apply IsS43.set_4 | apply IsS43.set_5 | apply IsS43.set_6 | apply IsS43.set_13) | exact HI0.out), by repeat (first | (with_reducible first | exact HB.out | apply below_alloc | apply pw_below_drewN | apply below_drew1 | refine below_set ?_ (IsS43.ge HI0.out)) | exact HB.out), by repeat (first | (with_reducible first | exact HK.out | apply KeepBut.set_ | apply keep_drewN | apply keep_drew | apply keep_alloc) | exact HK.out)⟩
  · rw [if_neg c3] at H
    have c3b0 : decide (0 ≤ a1) = false := decide_eq_false c3
    clear c3
    simp only [Option.some.injEq, Prod.mk.injEq] at H
    obtain ⟨rfl, rfl, rfl, rfl, rfl, rfl, rfl, rfl⟩ := H
    go_enter Try.func12, Try.ntmps12
    go_wp2
    first | go_end0 | ((try simp only [Exit.inBlock, Exit.then]); refine bodyPost_ret (results_none rfl _ _ _) rfl ?_)
    exact ⟨by first | rfl | (simp [errW_none, errW_some] <;> rfl) | (simp [*, errW_none, errW_some] <;> rfl), by repeat (first | (with_reducible first | exact HI0.out | apply IsS43.alloc | apply IsS43.drewN | apply IsS43.drew | apply IsS43.set_0 | apply IsS43.set_1 | apply IsS43.set_2 | apply IsS43.set_3 | apply IsS43.set_4 | apply IsS43.set_5 | apply IsS43.set_6 | apply IsS43.set_13) | exact HI0.out), by repeat (first | (with_reducible first | exact HB.out | apply below_alloc | apply pw_below_drewN | apply below_drew1 | refine below_set ?_ (IsS43.ge HI0.out)) | exact HB.out), by repeat (first | (with_reducible first | exact HK.out | apply KeepBut.set_ | apply keep_drewN | apply keep_drew | apply keep_alloc) | exact HK.out)⟩

end Go.Proofs.Ytbbgeobnjdgpfaa.P
