/- Each Go function that the laws reach, as a plain function, with the proof that the machine's call comes to what it says; of a law: its row. Made by a program of this seat (wip/hp.py, over the print). -/
import Derived.Test.YtklngklmeanhcaaPx0
import Derived.Test.YtklngklmeanhcaaPx2
import Derived.Test.YtklngklmeanhcaaPx4
import Derived.Test.YtklngklmeanhcaaPx5
namespace Go.Proofs.Ytklngklmeanhcaa.P
open Go.RowKit Go.Proofs.YtklngklmeanhcaaW.PrintWords Go.Proofs.YtklngklmeanhcaaW.PrintLast Go.Proofs.YtklngklmeanhcaaW.PrintMore
attribute [local go_sem] max2_int min2_int max_two min_two max_three min_three max_four min_four   -- for this text's walks alone
set_option linter.unusedVariables false
set_option linter.unusedSimpArgs false

/-! ### gangplanklaw08_works: function 32 -/
section
open Go.Shelf Go.Proofs.Ytklngklmeanhcaa.Hand
/-- The example's two backends lie where they lay; nothing else that lay there is changed. -/
structure K8 (w : World) (g1 g2 : Nat) (W : World) : Prop where
  hb : Below w.heap.size w W
  h1 : Blk W g1 56 [.int .i64 1, .int .i64 1]
  h2 : Blk W g2 56 [.int .i64 1, .int .i64 2]
theorem K8.below {w W W' : World} {g1 g2 : Nat} (h : K8 w g1 g2 W) (hb : Below W.heap.size W W') : K8 w g1 g2 W' := ⟨h.hb.trans (hb.mono h.hb.size), h.h1.below hb, h.h2.below hb⟩
theorem K8.alloc {w W : World} {g1 g2 : Nat} (h : K8 w g1 g2 W) (o : Obj) : K8 w g1 g2 (W.alloc o) := h.below (below_alloc (Below.refl _ _) o)
theorem K8.drew {w W : World} {g1 g2 : Nat} (h : K8 w g1 g2 W) : K8 w g1 g2 W.drew := h.below (below_drew (Below.refl _ _))
theorem K8.drewN {w W : World} {g1 g2 : Nat} (h : K8 w g1 g2 W) (n : Nat) : K8 w g1 g2 (W.drewN n) := h.below (pw_below_drewN (Below.refl _ _) n)
theorem K8.a0 {w W : World} {g1 g2 : Nat} (h : K8 w g1 g2 W) : W.cell? ⟨g1, 0, none⟩ = some (.int .i64 1) := h.h1.cell 0
theorem K8.a1 {w W : World} {g1 g2 : Nat} (h : K8 w g1 g2 W) : W.cell? ⟨g1, 1, none⟩ = some (.int .i64 1) := h.h1.cell 1
theorem K8.b0 {w W : World} {g1 g2 : Nat} (h : K8 w g1 g2 W) : W.cell? ⟨g2, 0, none⟩ = some (.int .i64 1) := h.h2.cell 0
theorem K8.b1 {w W : World} {g1 g2 : Nat} (h : K8 w g1 g2 W) : W.cell? ⟨g2, 1, none⟩ = some (.int .i64 2) := h.h2.cell 1
theorem lit8a (W : World) {n : Nat} (hn : W.heap.size = n) : Kd.R k56 56 (W.alloc (.cells #[.int .i64 1, .int .i64 1] 56)) 0 (fun _ => True) (.slice (some ⟨n, 0, none⟩) 1 1) [⟨1, 1⟩] := by subst hn; exact R_bk (World.ownsRow_lit W #[.int .i64 1, .int .i64 1] 1 (Nat.zero_le _) (by decide) rfl)
theorem lit8b (W : World) {n : Nat} (hn : W.heap.size = n) : Kd.R k56 56 (W.alloc (.cells #[.int .i64 1, .int .i64 2] 56)) 0 (fun _ => True) (.slice (some ⟨n, 0, none⟩) 1 1) [⟨1, 2⟩] := by subst hn; exact R_bk (World.ownsRow_lit W #[.int .i64 1, .int .i64 2] 1 (Nat.zero_le _) (by decide) rfl)
theorem lit8ab (W : World) {n : Nat} (hn : W.heap.size = n) : Kd.R k56 56 (W.alloc (.cells #[.int .i64 1, .int .i64 1, .int .i64 1, .int .i64 2] 56)) 0 (fun _ => True) (.slice (some ⟨n, 0, none⟩) 2 2) [⟨1, 1⟩, ⟨1, 2⟩] := by subst hn; exact R_bk (World.ownsRow_lit W #[.int .i64 1, .int .i64 1, .int .i64 1, .int .i64 2] 2 (Nat.zero_le _) (by decide) rfl)
theorem lit8i (W : World) : Kd.R (Kd.int .i64) 3 (W.alloc (.cells #[.int .i64 1] 3)) 0 (fun _ => True) (.slice (some ⟨W.heap.size, 0, none⟩) 1 1) [1] := Kd.R_of_own (World.ownsRow_lit W #[.int .i64 1] 1 (Nat.zero_le _) (by decide) rfl) (fun _ _ => trivial)
theorem nil8 (W : World) : Kd.C k56 W none 0 [] := (Kd.R_reads' (Kd.R_nil k56 56 W 0 (fun _ => True))).2.2
theorem with8 : pool_With.f [⟨1, 1⟩] 1 2 = some [⟨1, 2⟩] := by kernel_rfl
theorem same8b : gangplankref08_Same.f 9 [⟨1, 2⟩] [⟨1, 2⟩] = some true := by kernel_rfl
theorem psame8 : pool_Same.f 9 [⟨1, 1⟩] [⟨1, 1⟩] = some true := by kernel_rfl
theorem gone8 : pool_Gone.f [⟨1, 1⟩] [] = some [1] := by
  unfold pool_Gone.f
  rw [if_pos (by decide)]
  simp [goneL, onceL, idsL]
theorem ints8 : gangplankref08_Ints.f 9 [1] [1] = some true := by kernel_rfl
theorem check80 : pool_Check.f [] = some 0 := by kernel_rfl
theorem check8ab : pool_Check.f [⟨1, 1⟩, ⟨1, 2⟩] = some 10 := by kernel_rfl
theorem check8a : pool_Check.f [⟨1, 1⟩] = some 0 := by kernel_rfl
theorem find8a : pool_Find.f [⟨1, 1⟩] 1 = some 0 := by kernel_rfl
theorem find80 : pool_Find.f [] 1 = some (-1) := by kernel_rfl
theorem without8 : pool_Without.f [⟨1, 1⟩] 1 = some [] := by kernel_rfl
theorem sorted8 : pool_Sorted.f [⟨1, 1⟩] = some [⟨1, 1⟩] := by kernel_rfl
set_option maxRecDepth 100000 in
set_option maxHeartbeats 8000000 in
theorem works8_any (w : World) : Calls Try.prog 32 #[] w fun e w' => e = .returned (.bool true) ∧ Below w.heap.size w w' := by
  go_enter Try.func32, Try.ntmps32
  go_upto_region 2 with (fail)
  have hk : K8 w w.heap.size (w.heap.size + 1) ((w.alloc (.cells #[.int .i64 1, .int .i64 1] 56)).alloc (.cells #[.int .i64 1, .int .i64 2] 56)) := by
    refine ⟨below_alloc2 (Nat.le_refl _) (below_alloc (Below.refl _ _) _) _, (Blk.new w 56 [.int .i64 1, .int .i64 1]).alloc _, ?_⟩
    have h2 := Blk.new (w.alloc (.cells #[.int .i64 1, .int .i64 1] 56)) 56 [.int .i64 1, .int .i64 2]
    rw [show (w.alloc (.cells #[.int .i64 1, .int .i64 1] 56)).heap.size = w.heap.size + 1 from by simp] at h2
    exact h2
  obtain ⟨wr, hwr⟩ : ∃ wr, ((w.alloc (.cells #[.int .i64 1, .int .i64 1] 56)).alloc (.cells #[.int .i64 1, .int .i64 2] 56)) = wr := ⟨_, rfl⟩
  rw [hwr] at hk ⊢
  obtain ⟨g2, hg2⟩ : ∃ g2, w.heap.size + 1 = g2 := ⟨_, rfl⟩
  rw [hg2] at hk ⊢
  obtain ⟨g1, hg1⟩ : ∃ g1, w.heap.size = g1 := ⟨_, rfl⟩
  rw [hg1] at hk ⊢
  have HKD := Lib.hid hk.drew
  clear hwr hg1 hg2 hk
  refine start_ (n := 8) (S := fun w' => w'.cell? ⟨g1, 0, none⟩ = some (.int .i64 1) ∧ w'.cell? ⟨g1, 1, none⟩ = some (.int .i64 1) ∧ w'.cell? ⟨g2, 0, none⟩ = some (.int .i64 1) ∧ w'.cell? ⟨g2, 1, none⟩ = some (.int .i64 2)) (ds := []) #[false, false, false, false, false, false, false, false] (by kernel_rfl) rfl rfl ⟨HKD.out.a0, HKD.out.a1, HKD.out.b0, HKD.out.b1⟩ (fun hHeld => ?_)
  refine take_ (i := 0) (N := some 7) (v := ?_) (a' := ?_) #[true, false, false, false, false, false, false, false] rfl rfl (by kernel_rfl) (fun _ _ _ h => h) (Or.inl ⟨by rfl, ?_⟩) hHeld ?_ ?_
  rotate_left
  · rintro w' ⟨s0, s1, s2, s3⟩
    go_simp
    with_reducible rfl
  rotate_left
  · simp only [Act.put, List.setIfInBounds_toArray, List.set_cons_zero, List.set_cons_succ, i64_w, i32_w]
    rfl
  refine take_ (i := 2) (N := some 9) (v := ?_) (a' := ?_) #[true, false, true, false, false, false, false, false] rfl rfl (by kernel_rfl) (fun _ _ _ h => h) (Or.inl ⟨by rfl, ?_⟩) hHeld ?_ ?_
  rotate_left
  · rintro w' ⟨s0, s1, s2, s3⟩
    go_simp
    with_reducible rfl
  rotate_left
  · simp only [Act.put, List.setIfInBounds_toArray, List.set_cons_zero, List.set_cons_succ, i64_w, i32_w]
    rfl
  refine take_ (i := 4) (N := some 11) (v := ?_) (a' := ?_) #[true, false, true, false, true, false, false, false] rfl rfl (by kernel_rfl) (fun _ _ _ h => h) (Or.inl ⟨by rfl, ?_⟩) hHeld ?_ ?_
  rotate_left
  · rintro w' ⟨s0, s1, s2, s3⟩
    go_simp
    with_reducible rfl
  rotate_left
  · simp only [Act.put, List.setIfInBounds_toArray, List.set_cons_zero, List.set_cons_succ, i64_w, i32_w]
    rfl
  refine join_ (σ := Value × Value × Value) 2 #[true, true, true, true, true, true, false, false] (fun s_ => [(8, s_.1), (10, s_.2.1), (12, s_.2.2)]) (fun s_ w' => (w'.cell? ⟨g1, 0, none⟩ = some (.int .i64 1) ∧ w'.cell? ⟨g1, 1, none⟩ = some (.int .i64 1) ∧ w'.cell? ⟨g2, 0, none⟩ = some (.int .i64 1) ∧ w'.cell? ⟨g2, 1, none⟩ = some (.int .i64 2)) ∧ K8 w g1 g2 w' ∧ Kd.R k56 56 w' 0 (fun _ => True) s_.1 [⟨1, 1⟩] ∧ Kd.R k56 56 w' 0 (fun _ => True) s_.2.1 [⟨1, 2⟩] ∧ Kd.R k56 56 w' 0 (fun _ => True) s_.2.2 [⟨1, 2⟩]) ?_ ?_
  rotate_left
  · intro hCont
    refine two_ (i := 1) (j := 5) (Ni := some 8) (Nj := some 12) #[true, true, true, false, true, false, false, false] #[true, false, true, false, true, true, false, false] rfl rfl rfl rfl (by kernel_rfl) (by decide) (by decide) (fun K hK => ?_) (fun K hK => ?_)
    · skip
      refine value_ (w1 := ?_) (v := ?_) (by rfl) rfl ?_ ?_
      rotate_left 2
      · go_simp
        constructor
        · rfl
        · rfl
      have HK16 := Lib.hid (show K8 w g1 g2 (wr.alloc (.cells #[.int .i64 1, .int .i64 1] 56)).drew from HKD.out.alloc (.cells #[.int .i64 1, .int .i64 1] 56))
      have HR17 := Lib.hid (show Kd.R k56 56 (wr.alloc (.cells #[.int .i64 1, .int .i64 1] 56)).drew 0 (fun _ => True) (.slice (some ⟨wr.heap.size, 0, none⟩) 1 1) [⟨1, 1⟩] from lit8a (wr.drew) (n := wr.heap.size) (by simp))
      refine hK.out _ _ ⟨HK16.out.a0, HK16.out.a1, HK16.out.b0, HK16.out.b1⟩ (fun hHeld => ?_)
      clear hK K
      refine norm_ (a' := ?_) ?_ ?_
      rotate_left
      · show Act.put _ (some 8) _ = _
        simp only [Act.put, List.setIfInBounds_toArray, List.set_cons_zero, List.set_cons_succ, i64_w, i32_w]
        rfl
      refine two_ (i := 3) (j := 5) (Ni := some 10) (Nj := some 12) #[true, true, true, true, true, false, false, false] #[true, true, true, false, true, true, false, false] rfl rfl rfl rfl (by kernel_rfl) (by decide) (by decide) (fun K hK => ?_) (fun K hK => ?_)
      · skip
        refine goes_ Try.func36 (by kernel_rfl) rfl #[.slice (some ⟨wr.heap.size, 0, none⟩) ([⟨1, 1⟩] : List S56).length 1, .agg #[.int .i64 1, .int .i64 2]] (by rfl) rfl rfl (by simp only [List.map_toArray, List.map_cons, List.map_nil]; rfl) ?_
        with_reducible refine (pool_With.calls _ _ [⟨1, 1⟩] 1 2 _ _ (Kd.R_reads' HR17.out).2.2 (Kd.R_reads' HR17.out).2.1 with8).mono ?_
        rintro e w18 ⟨v_, rfl, hr, hb⟩
        refine ⟨_, rfl, ?_⟩
        obtain ⟨A_19, c_20, rfl⟩ : ∃ A c, v_ = .slice A 1 c := Kd.R_slice hr
        have HK21 := Lib.hid (HK16.out.below hb)
        have HR22 := Lib.hid (Kd.R_lower hr (Nat.zero_le _))
        have HR23 := Lib.hid (Kd.R_below HR17.out hb)
        clear hb hr
        refine hK.out _ _ ⟨HK21.out.a0, HK21.out.a1, HK21.out.b0, HK21.out.b1⟩ (fun hHeld => ?_)
        clear hK K
        refine norm_ (a' := ?_) ?_ ?_
        rotate_left
        · show Act.put _ (some 10) _ = _
          simp only [Act.put, List.setIfInBounds_toArray, List.set_cons_zero, List.set_cons_succ, i64_w, i32_w]
          rfl
        refine one_ (i := 5) (N := some 12) #[true, true, true, true, true, true, false, false] rfl rfl (by kernel_rfl) (by decide) (fun K hK => ?_)
        refine value_ (w1 := ?_) (v := ?_) (by rfl) rfl ?_ ?_
        rotate_left 2
        · go_simp
          constructor
          · rfl
          · rfl
        have HK24 := Lib.hid (show K8 w g1 g2 (w18.alloc (.cells #[.int .i64 1, .int .i64 2] 56)) from HK21.out.alloc (.cells #[.int .i64 1, .int .i64 2] 56))
        have HR25 := Lib.hid (show Kd.R k56 56 (w18.alloc (.cells #[.int .i64 1, .int .i64 2] 56)) 0 (fun _ => True) (.slice (some ⟨w18.heap.size, 0, none⟩) 1 1) [⟨1, 2⟩] from lit8b (w18) (n := w18.heap.size) (by simp))
        have HR26 := Lib.hid (show Kd.R k56 56 (w18.alloc (.cells #[.int .i64 1, .int .i64 2] 56)) 0 (fun _ => True) (.slice A_19 1 c_20) [⟨1, 2⟩] from Kd.R_alloc HR22.out (.cells #[.int .i64 1, .int .i64 2] 56))
        have HR27 := Lib.hid (show Kd.R k56 56 (w18.alloc (.cells #[.int .i64 1, .int .i64 2] 56)) 0 (fun _ => True) (.slice (some ⟨wr.heap.size, 0, none⟩) 1 1) [⟨1, 1⟩] from Kd.R_alloc HR23.out (.cells #[.int .i64 1, .int .i64 2] 56))
        refine hK.out _ _ ⟨HK24.out.a0, HK24.out.a1, HK24.out.b0, HK24.out.b1⟩ (fun hHeld => ?_)
        clear hK K
        refine norm_ (a' := ?_) ?_ ?_
        rotate_left
        · show Act.put _ (some 12) _ = _
          simp only [Act.put, List.setIfInBounds_toArray, List.set_cons_zero, List.set_cons_succ, i64_w, i32_w]
          rfl
        exact norm_ (by simp only [putAll, Act.put, List.setIfInBounds_toArray, List.set_cons_zero, List.set_cons_succ]) (hCont (.slice (some ⟨wr.heap.size, 0, none⟩) 1 1, .slice A_19 1 c_20, .slice (some ⟨w18.heap.size, 0, none⟩) 1 1) _ ⟨hHeld, HK24.out, HR27.out, HR26.out, HR25.out⟩)
      · skip
        refine value_ (w1 := ?_) (v := ?_) (by rfl) rfl ?_ ?_
        rotate_left 2
        · go_simp
          constructor
          · rfl
          · rfl
        have HK28 := Lib.hid (show K8 w g1 g2 ((wr.alloc (.cells #[.int .i64 1, .int .i64 1] 56)).alloc (.cells #[.int .i64 1, .int .i64 2] 56)).drew from HK16.out.alloc (.cells #[.int .i64 1, .int .i64 2] 56))
        have HR29 := Lib.hid (show Kd.R k56 56 ((wr.alloc (.cells #[.int .i64 1, .int .i64 1] 56)).alloc (.cells #[.int .i64 1, .int .i64 2] 56)).drew 0 (fun _ => True) (.slice (some ⟨wr.heap.size + 1, 0, none⟩) 1 1) [⟨1, 2⟩] from lit8b ((wr.alloc (.cells #[.int .i64 1, .int .i64 1] 56)).drew) (n := wr.heap.size + 1) (by simp))
        have HR30 := Lib.hid (show Kd.R k56 56 ((wr.alloc (.cells #[.int .i64 1, .int .i64 1] 56)).alloc (.cells #[.int .i64 1, .int .i64 2] 56)).drew 0 (fun _ => True) (.slice (some ⟨wr.heap.size, 0, none⟩) 1 1) [⟨1, 1⟩] from Kd.R_alloc HR17.out (.cells #[.int .i64 1, .int .i64 2] 56))
        refine hK.out _ _ ⟨HK28.out.a0, HK28.out.a1, HK28.out.b0, HK28.out.b1⟩ (fun hHeld => ?_)
        clear hK K
        refine norm_ (a' := ?_) ?_ ?_
        rotate_left
        · show Act.put _ (some 12) _ = _
          simp only [Act.put, List.setIfInBounds_toArray, List.set_cons_zero, List.set_cons_succ, i64_w, i32_w]
          rfl
        refine one_ (i := 3) (N := some 10) #[true, true, true, true, true, true, false, false] rfl rfl (by kernel_rfl) (by decide) (fun K hK => ?_)
        refine goes_ Try.func36 (by kernel_rfl) rfl #[.slice (some ⟨wr.heap.size, 0, none⟩) ([⟨1, 1⟩] : List S56).length 1, .agg #[.int .i64 1, .int .i64 2]] (by rfl) rfl rfl (by simp only [List.map_toArray, List.map_cons, List.map_nil]; rfl) ?_
        with_reducible refine (pool_With.calls _ _ [⟨1, 1⟩] 1 2 _ _ (Kd.R_reads' HR30.out).2.2 (Kd.R_reads' HR30.out).2.1 with8).mono ?_
        rintro e w31 ⟨v_, rfl, hr, hb⟩
        refine ⟨_, rfl, ?_⟩
        obtain ⟨A_32, c_33, rfl⟩ : ∃ A c, v_ = .slice A 1 c := Kd.R_slice hr
        have HK34 := Lib.hid (HK28.out.below hb)
        have HR35 := Lib.hid (Kd.R_lower hr (Nat.zero_le _))
        have HR36 := Lib.hid (Kd.R_below HR29.out hb)
        have HR37 := Lib.hid (Kd.R_below HR30.out hb)
        clear hb hr
        refine hK.out _ _ ⟨HK34.out.a0, HK34.out.a1, HK34.out.b0, HK34.out.b1⟩ (fun hHeld => ?_)
        clear hK K
        refine norm_ (a' := ?_) ?_ ?_
        rotate_left
        · show Act.put _ (some 10) _ = _
          simp only [Act.put, List.setIfInBounds_toArray, List.set_cons_zero, List.set_cons_succ, i64_w, i32_w]
          rfl
        exact norm_ (by simp only [putAll, Act.put, List.setIfInBounds_toArray, List.set_cons_zero, List.set_cons_succ]) (hCont (.slice (some ⟨wr.heap.size, 0, none⟩) 1 1, .slice A_32 1 c_33, .slice (some ⟨wr.heap.size + 1, 0, none⟩) 1 1) _ ⟨hHeld, HK34.out, HR37.out, HR35.out, HR36.out⟩)
    · skip
      refine value_ (w1 := ?_) (v := ?_) (by rfl) rfl ?_ ?_
      rotate_left 2
      · go_simp
        constructor
        · rfl
        · rfl
      have HK38 := Lib.hid (show K8 w g1 g2 (wr.alloc (.cells #[.int .i64 1, .int .i64 2] 56)).drew from HKD.out.alloc (.cells #[.int .i64 1, .int .i64 2] 56))
      have HR39 := Lib.hid (show Kd.R k56 56 (wr.alloc (.cells #[.int .i64 1, .int .i64 2] 56)).drew 0 (fun _ => True) (.slice (some ⟨wr.heap.size, 0, none⟩) 1 1) [⟨1, 2⟩] from lit8b (wr.drew) (n := wr.heap.size) (by simp))
      refine hK.out _ _ ⟨HK38.out.a0, HK38.out.a1, HK38.out.b0, HK38.out.b1⟩ (fun hHeld => ?_)
      clear hK K
      refine norm_ (a' := ?_) ?_ ?_
      rotate_left
      · show Act.put _ (some 12) _ = _
        simp only [Act.put, List.setIfInBounds_toArray, List.set_cons_zero, List.set_cons_succ, i64_w, i32_w]
        rfl
      refine one_ (i := 1) (N := some 8) #[true, true, true, false, true, true, false, false] rfl rfl (by kernel_rfl) (by decide) (fun K hK => ?_)
      refine value_ (w1 := ?_) (v := ?_) (by rfl) rfl ?_ ?_
      rotate_left 2
      · go_simp
        constructor
        · rfl
        · rfl
      have HK40 := Lib.hid (show K8 w g1 g2 ((wr.alloc (.cells #[.int .i64 1, .int .i64 2] 56)).alloc (.cells #[.int .i64 1, .int .i64 1] 56)).drew from HK38.out.alloc (.cells #[.int .i64 1, .int .i64 1] 56))
      have HR41 := Lib.hid (show Kd.R k56 56 ((wr.alloc (.cells #[.int .i64 1, .int .i64 2] 56)).alloc (.cells #[.int .i64 1, .int .i64 1] 56)).drew 0 (fun _ => True) (.slice (some ⟨wr.heap.size + 1, 0, none⟩) 1 1) [⟨1, 1⟩] from lit8a ((wr.alloc (.cells #[.int .i64 1, .int .i64 2] 56)).drew) (n := wr.heap.size + 1) (by simp))
      have HR42 := Lib.hid (show Kd.R k56 56 ((wr.alloc (.cells #[.int .i64 1, .int .i64 2] 56)).alloc (.cells #[.int .i64 1, .int .i64 1] 56)).drew 0 (fun _ => True) (.slice (some ⟨wr.heap.size, 0, none⟩) 1 1) [⟨1, 2⟩] from Kd.R_alloc HR39.out (.cells #[.int .i64 1, .int .i64 1] 56))
      refine hK.out _ _ ⟨HK40.out.a0, HK40.out.a1, HK40.out.b0, HK40.out.b1⟩ (fun hHeld => ?_)
      clear hK K
      refine norm_ (a' := ?_) ?_ ?_
      rotate_left
      · show Act.put _ (some 8) _ = _
        simp only [Act.put, List.setIfInBounds_toArray, List.set_cons_zero, List.set_cons_succ, i64_w, i32_w]
        rfl
      refine one_ (i := 3) (N := some 10) #[true, true, true, true, true, true, false, false] rfl rfl (by kernel_rfl) (by decide) (fun K hK => ?_)
      refine goes_ Try.func36 (by kernel_rfl) rfl #[.slice (some ⟨wr.heap.size + 1, 0, none⟩) ([⟨1, 1⟩] : List S56).length 1, .agg #[.int .i64 1, .int .i64 2]] (by rfl) rfl rfl (by simp only [List.map_toArray, List.map_cons, List.map_nil]; rfl) ?_
      with_reducible refine (pool_With.calls _ _ [⟨1, 1⟩] 1 2 _ _ (Kd.R_reads' HR41.out).2.2 (Kd.R_reads' HR41.out).2.1 with8).mono ?_
      rintro e w43 ⟨v_, rfl, hr, hb⟩
      refine ⟨_, rfl, ?_⟩
      obtain ⟨A_44, c_45, rfl⟩ : ∃ A c, v_ = .slice A 1 c := Kd.R_slice hr
      have HK46 := Lib.hid (HK40.out.below hb)
      have HR47 := Lib.hid (Kd.R_lower hr (Nat.zero_le _))
      have HR48 := Lib.hid (Kd.R_below HR41.out hb)
      have HR49 := Lib.hid (Kd.R_below HR42.out hb)
      clear hb hr
      refine hK.out _ _ ⟨HK46.out.a0, HK46.out.a1, HK46.out.b0, HK46.out.b1⟩ (fun hHeld => ?_)
      clear hK K
      refine norm_ (a' := ?_) ?_ ?_
      rotate_left
      · show Act.put _ (some 10) _ = _
        simp only [Act.put, List.setIfInBounds_toArray, List.set_cons_zero, List.set_cons_succ, i64_w, i32_w]
        rfl
      exact norm_ (by simp only [putAll, Act.put, List.setIfInBounds_toArray, List.set_cons_zero, List.set_cons_succ]) (hCont (.slice (some ⟨wr.heap.size + 1, 0, none⟩) 1 1, .slice A_44 1 c_45, .slice (some ⟨wr.heap.size, 0, none⟩) 1 1) _ ⟨hHeld, HK46.out, HR48.out, HR47.out, HR49.out⟩)
  rintro ⟨v5, v6, v7⟩ W8 ⟨hS_, hK_, h8_, h10_, h12_⟩
  have HK1 := Lib.hid hK_
  clear hK_
  obtain ⟨A_9, c_10, rfl⟩ : ∃ A c, v5 = .slice A 1 c := Kd.R_slice h8_
  have HR2 := Lib.hid h8_
  clear h8_
  obtain ⟨A_11, c_12, rfl⟩ : ∃ A c, v6 = .slice A 1 c := Kd.R_slice h10_
  have HR3 := Lib.hid h10_
  clear h10_
  obtain ⟨A_13, c_14, rfl⟩ : ∃ A c, v7 = .slice A 1 c := Kd.R_slice h12_
  have HR4 := Lib.hid h12_
  clear h12_
  have hHeld := hS_
  clear hS_
  refine norm_ (a' := ?_) ?_ ?_
  rotate_left
  · simp only [putAll, Act.put, List.setIfInBounds_toArray, List.set_cons_zero, List.set_cons_succ]
    rfl
  refine one_ (i := 6) (N := some 13) #[true, true, true, true, true, true, true, false] rfl rfl (by kernel_rfl) (by decide) (fun K hK => ?_)
  refine goes_ Try.func33 (by kernel_rfl) rfl #[.slice A_11 ([⟨1, 2⟩] : List S56).length c_12, .slice A_13 ([⟨1, 2⟩] : List S56).length c_14] (by rfl) rfl rfl (by simp only [List.map_toArray, List.map_cons, List.map_nil]; rfl) ?_
  with_reducible refine (gangplankref08_Same.calls 9 _ _ [⟨1, 2⟩] _ _ [⟨1, 2⟩] _ _ (Kd.R_reads' HR3.out).2.2 (Kd.R_reads' HR3.out).2.1 (Kd.R_reads' HR4.out).2.2 (Kd.R_reads' HR4.out).2.1 same8b).mono ?_
  rintro e wS ⟨rfl, ⟨nS, rfl⟩⟩
  refine ⟨_, rfl, ?_⟩
  have HK15 := Lib.hid (HK1.out.drewN nS)
  refine hK.out _ _ ⟨HK15.out.a0, HK15.out.a1, HK15.out.b0, HK15.out.b1⟩ (fun hHeld => ?_)
  clear hK K
  refine norm_ (a' := ?_) ?_ ?_
  rotate_left
  · show Act.put _ (some 13) _ = _
    simp only [Act.put, List.setIfInBounds_toArray, List.set_cons_zero, List.set_cons_succ, i64_w, i32_w]
    rfl
  refine pure_ (i := 7) (N := some 3) (v := ?_) (a' := ?_) #[true, true, true, true, true, true, true, true] rfl rfl (by kernel_rfl) (fun _ _ _ h => h) (Or.inl ⟨by rfl, ?_⟩) ?_ ?_
  rotate_left
  · intro w'
    go_simp
    with_reducible rfl
  rotate_left
  · simp only [Act.put, List.setIfInBounds_toArray, List.set_cons_zero, List.set_cons_succ, i64_w, i32_w]
    rfl
  refine done_ (by kernel_rfl) ?_
  go_upto_region 4 with (first
    | (go_at_call 41; refine (pool_Gone.calls _ _ [⟨1, 1⟩] none 0 [] _ _ (Kd.R_reads' (lit8a _ rfl)).2.2 (Nat.le_refl _) (nil8 _) (Nat.le_refl _) gone8).mono ?_; rintro e w6 ⟨v6, rfl, hr6, hb6⟩; obtain ⟨A6, c6, rfl⟩ : ∃ A c, v6 = .slice A 1 c := Kd.R_slice hr6; have HR6 := Lib.hid (Kd.R_lower hr6 (Nat.zero_le _)); have HK6 := Lib.hid ((HK15.out.alloc _).below hb6); clear hr6 hb6)
    | (go_at_call 40; refine (gangplankref08_Ints.calls 9 _ _ [1] _ _ [1] _ _ (Kd.R_reads' (Kd.R_alloc HR6.out _)).2.2 (Kd.R_reads' HR6.out).2.1 (Kd.R_reads' (lit8i _)).2.2 (Nat.le_refl _) ints8).mono ?_; rintro e w7 ⟨rfl, ⟨n7, rfl⟩⟩))
  have hk7 := (HK6.out.alloc (.cells #[.int .i64 1] 3)).drewN n7
  obtain ⟨wq, hwq⟩ : ∃ wq, ((w6.alloc (.cells #[.int .i64 1] 3)).drewN n7) = wq := ⟨_, rfl⟩
  rw [hwq] at hk7 ⊢
  have HKQ := Lib.hid hk7.drew
  clear hwq hk7 HR6 HK6
  refine start_ (n := 47) (S := fun w' => w'.cell? ⟨g1, 0, none⟩ = some (.int .i64 1) ∧ w'.cell? ⟨g1, 1, none⟩ = some (.int .i64 1) ∧ w'.cell? ⟨g2, 0, none⟩ = some (.int .i64 1) ∧ w'.cell? ⟨g2, 1, none⟩ = some (.int .i64 2)) (ds := []) #[false, false, false, false, false, false, false, false, false, false, false, false, false, false, false, false, false, false, false, false, false, false, false, false, false, false, false, false, false, false, false, false, false, false, false, false, false, false, false, false, false, false, false, false, false, false, false] (by kernel_rfl) rfl rfl ⟨HKQ.out.a0, HKQ.out.a1, HKQ.out.b0, HKQ.out.b1⟩ (fun hHeld => ?_)
  refine one_ (i := 0) (N := some 19) #[true, false, false, false, false, false, false, false, false, false, false, false, false, false, false, false, false, false, false, false, false, false, false, false, false, false, false, false, false, false, false, false, false, false, false, false, false, false, false, false, false, false, false, false, false, false, false] rfl rfl (by kernel_rfl) (by decide) (fun K hK => ?_)
  refine goes_ Try.func26 (by kernel_rfl) rfl #[.slice none ([] : List S56).length 0] (by rfl) rfl rfl (by simp only [List.map_toArray, List.map_cons, List.map_nil]; rfl) ?_
  with_reducible refine (pool_Check.calls none 0 [] 0 _ (nil8 _) (Nat.le_refl _) check80).mono ?_
  rintro e w50 ⟨rfl, hb⟩
  refine ⟨_, rfl, ?_⟩
  have HK51 := Lib.hid (HKQ.out.below hb)
  clear hb
  refine hK.out _ _ ⟨HK51.out.a0, HK51.out.a1, HK51.out.b0, HK51.out.b1⟩ (fun hHeld => ?_)
  clear hK K
  refine norm_ (a' := ?_) ?_ ?_
  rotate_left
  · show Act.put _ (some 19) _ = _
    simp only [Act.put, List.setIfInBounds_toArray, List.set_cons_zero, List.set_cons_succ, i64_w, i32_w]
    rfl
  refine pure_ (i := 1) (N := some 20) (v := ?_) (a' := ?_) #[true, true, false, false, false, false, false, false, false, false, false, false, false, false, false, false, false, false, false, false, false, false, false, false, false, false, false, false, false, false, false, false, false, false, false, false, false, false, false, false, false, false, false, false, false, false, false] rfl rfl (by kernel_rfl) (fun _ _ _ h => h) (Or.inl ⟨by rfl, ?_⟩) ?_ ?_
  rotate_left
  · intro w'
    go_simp
    with_reducible rfl
  rotate_left
  · simp only [Act.put, List.setIfInBounds_toArray, List.set_cons_zero, List.set_cons_succ, i64_w, i32_w]
    rfl
  refine pure_ (i := 2) (N := some 21) (v := ?_) (a' := ?_) #[true, true, true, false, false, false, false, false, false, false, false, false, false, false, false, false, false, false, false, false, false, false, false, false, false, false, false, false, false, false, false, false, false, false, false, false, false, false, false, false, false, false, false, false, false, false, false] rfl rfl (by kernel_rfl) (fun _ _ _ h => h) (Or.inl ⟨by rfl, ?_⟩) ?_ ?_
  rotate_left
  · intro w'
    go_simp
    with_reducible rfl
  rotate_left
  · simp only [Act.put, List.setIfInBounds_toArray, List.set_cons_zero, List.set_cons_succ, i64_w, i32_w]
    rfl
  refine take_ (i := 3) (N := some 22) (v := ?_) (a' := ?_) #[true, true, true, true, false, false, false, false, false, false, false, false, false, false, false, false, false, false, false, false, false, false, false, false, false, false, false, false, false, false, false, false, false, false, false, false, false, false, false, false, false, false, false, false, false, false, false] rfl rfl (by kernel_rfl) (fun _ _ _ h => h) (Or.inl ⟨by rfl, ?_⟩) hHeld ?_ ?_
  rotate_left
  · rintro w' ⟨s0, s1, s2, s3⟩
    go_simp
    with_reducible rfl
  rotate_left
  · simp only [Act.put, List.setIfInBounds_toArray, List.set_cons_zero, List.set_cons_succ, i64_w, i32_w]
    rfl
  refine take_ (i := 4) (N := some 23) (v := ?_) (a' := ?_) #[true, true, true, true, true, false, false, false, false, false, false, false, false, false, false, false, false, false, false, false, false, false, false, false, false, false, false, false, false, false, false, false, false, false, false, false, false, false, false, false, false, false, false, false, false, false, false] rfl rfl (by kernel_rfl) (fun _ _ _ h => h) (Or.inl ⟨by rfl, ?_⟩) hHeld ?_ ?_
  rotate_left
  · rintro w' ⟨s0, s1, s2, s3⟩
    go_simp
    with_reducible rfl
  rotate_left
  · simp only [Act.put, List.setIfInBounds_toArray, List.set_cons_zero, List.set_cons_succ, i64_w, i32_w]
    rfl
  refine one_ (i := 5) (N := some 24) #[true, true, true, true, true, true, false, false, false, false, false, false, false, false, false, false, false, false, false, false, false, false, false, false, false, false, false, false, false, false, false, false, false, false, false, false, false, false, false, false, false, false, false, false, false, false, false] rfl rfl (by kernel_rfl) (by decide) (fun K hK => ?_)
  refine value_ (w1 := ?_) (v := ?_) (by rfl) rfl ?_ ?_
  rotate_left 2
  · go_simp
    constructor
    · rfl
    · rfl
  have HK52 := Lib.hid (show K8 w g1 g2 (w50.alloc (.cells #[.int .i64 1, .int .i64 1, .int .i64 1, .int .i64 2] 56)) from HK51.out.alloc (.cells #[.int .i64 1, .int .i64 1, .int .i64 1, .int .i64 2] 56))
  have HR53 := Lib.hid (show Kd.R k56 56 (w50.alloc (.cells #[.int .i64 1, .int .i64 1, .int .i64 1, .int .i64 2] 56)) 0 (fun _ => True) (.slice (some ⟨w50.heap.size, 0, none⟩) 2 2) [⟨1, 1⟩, ⟨1, 2⟩] from lit8ab (w50) (n := w50.heap.size) (by simp))
  refine hK.out _ _ ⟨HK52.out.a0, HK52.out.a1, HK52.out.b0, HK52.out.b1⟩ (fun hHeld => ?_)
  clear hK K
  refine norm_ (a' := ?_) ?_ ?_
  rotate_left
  · show Act.put _ (some 24) _ = _
    simp only [Act.put, List.setIfInBounds_toArray, List.set_cons_zero, List.set_cons_succ, i64_w, i32_w]
    rfl
  refine one_ (i := 6) (N := some 25) #[true, true, true, true, true, true, true, false, false, false, false, false, false, false, false, false, false, false, false, false, false, false, false, false, false, false, false, false, false, false, false, false, false, false, false, false, false, false, false, false, false, false, false, false, false, false, false] rfl rfl (by kernel_rfl) (by decide) (fun K hK => ?_)
  refine goes_ Try.func26 (by kernel_rfl) rfl #[.slice (some ⟨w50.heap.size, 0, none⟩) ([⟨1, 1⟩, ⟨1, 2⟩] : List S56).length 2] (by rfl) rfl rfl (by simp only [List.map_toArray, List.map_cons, List.map_nil]; rfl) ?_
  with_reducible refine (pool_Check.calls _ _ [⟨1, 1⟩, ⟨1, 2⟩] 10 _ (Kd.R_reads' HR53.out).2.2 (Kd.R_reads' HR53.out).2.1 check8ab).mono ?_
  rintro e w54 ⟨rfl, hb⟩
  refine ⟨_, rfl, ?_⟩
  have HK55 := Lib.hid (HK52.out.below hb)
  have HR56 := Lib.hid (Kd.R_below HR53.out hb)
  clear hb
  refine hK.out _ _ ⟨HK55.out.a0, HK55.out.a1, HK55.out.b0, HK55.out.b1⟩ (fun hHeld => ?_)
  clear hK K
  refine norm_ (a' := ?_) ?_ ?_
  rotate_left
  · show Act.put _ (some 25) _ = _
    simp only [Act.put, List.setIfInBounds_toArray, List.set_cons_zero, List.set_cons_succ, i64_w, i32_w]
    rfl
  refine pure_ (i := 7) (N := some 26) (v := ?_) (a' := ?_) #[true, true, true, true, true, true, true, true, false, false, false, false, false, false, false, false, false, false, false, false, false, false, false, false, false, false, false, false, false, false, false, false, false, false, false, false, false, false, false, false, false, false, false, false, false, false, false] rfl rfl (by kernel_rfl) (fun _ _ _ h => h) (Or.inl ⟨by rfl, ?_⟩) ?_ ?_
  rotate_left
  · intro w'
    go_simp
    with_reducible rfl
  rotate_left
  · simp only [Act.put, List.setIfInBounds_toArray, List.set_cons_zero, List.set_cons_succ, i64_w, i32_w]
    rfl
  refine pure_ (i := 8) (N := some 27) (v := ?_) (a' := ?_) #[true, true, true, true, true, true, true, true, true, false, false, false, false, false, false, false, false, false, false, false, false, false, false, false, false, false, false, false, false, false, false, false, false, false, false, false, false, false, false, false, false, false, false, false, false, false, false] rfl rfl (by kernel_rfl) (fun _ _ _ h => h) (Or.inl ⟨by rfl, ?_⟩) ?_ ?_
  rotate_left
  · intro w'
    go_simp
    with_reducible rfl
  rotate_left
  · simp only [Act.put, List.setIfInBounds_toArray, List.set_cons_zero, List.set_cons_succ, i64_w, i32_w]
    rfl
  refine pure_ (i := 9) (N := some 28) (v := ?_) (a' := ?_) #[true, true, true, true, true, true, true, true, true, true, false, false, false, false, false, false, false, false, false, false, false, false, false, false, false, false, false, false, false, false, false, false, false, false, false, false, false, false, false, false, false, false, false, false, false, false, false] rfl rfl (by kernel_rfl) (fun _ _ _ h => h) (Or.inl ⟨by rfl, ?_⟩) ?_ ?_
  rotate_left
  · intro w'
    go_simp
    with_reducible rfl
  rotate_left
  · simp only [Act.put, List.setIfInBounds_toArray, List.set_cons_zero, List.set_cons_succ, i64_w, i32_w]
    rfl
  refine take_ (i := 10) (N := some 29) (v := ?_) (a' := ?_) #[true, true, true, true, true, true, true, true, true, true, true, false, false, false, false, false, false, false, false, false, false, false, false, false, false, false, false, false, false, false, false, false, false, false, false, false, false, false, false, false, false, false, false, false, false, false, false] rfl rfl (by kernel_rfl) (fun _ _ _ h => h) (Or.inl ⟨by rfl, ?_⟩) hHeld ?_ ?_
  rotate_left
  · rintro w' ⟨s0, s1, s2, s3⟩
    go_simp
    with_reducible rfl
  rotate_left
  · simp only [Act.put, List.setIfInBounds_toArray, List.set_cons_zero, List.set_cons_succ, i64_w, i32_w]
    rfl
  refine one_ (i := 11) (N := some 30) #[true, true, true, true, true, true, true, true, true, true, true, true, false, false, false, false, false, false, false, false, false, false, false, false, false, false, false, false, false, false, false, false, false, false, false, false, false, false, false, false, false, false, false, false, false, false, false] rfl rfl (by kernel_rfl) (by decide) (fun K hK => ?_)
  refine value_ (w1 := ?_) (v := ?_) (by rfl) rfl ?_ ?_
  rotate_left 2
  · go_simp
    constructor
    · rfl
    · rfl
  have HK57 := Lib.hid (show K8 w g1 g2 (w54.alloc (.cells #[.int .i64 1, .int .i64 1] 56)) from HK55.out.alloc (.cells #[.int .i64 1, .int .i64 1] 56))
  have HR58 := Lib.hid (show Kd.R k56 56 (w54.alloc (.cells #[.int .i64 1, .int .i64 1] 56)) 0 (fun _ => True) (.slice (some ⟨w54.heap.size, 0, none⟩) 1 1) [⟨1, 1⟩] from lit8a (w54) (n := w54.heap.size) (by simp))
  refine hK.out _ _ ⟨HK57.out.a0, HK57.out.a1, HK57.out.b0, HK57.out.b1⟩ (fun hHeld => ?_)
  clear hK K
  refine norm_ (a' := ?_) ?_ ?_
  rotate_left
  · show Act.put _ (some 30) _ = _
    simp only [Act.put, List.setIfInBounds_toArray, List.set_cons_zero, List.set_cons_succ, i64_w, i32_w]
    rfl
  refine one_ (i := 12) (N := some 31) #[true, true, true, true, true, true, true, true, true, true, true, true, true, false, false, false, false, false, false, false, false, false, false, false, false, false, false, false, false, false, false, false, false, false, false, false, false, false, false, false, false, false, false, false, false, false, false] rfl rfl (by kernel_rfl) (by decide) (fun K hK => ?_)
  refine goes_ Try.func26 (by kernel_rfl) rfl #[.slice (some ⟨w54.heap.size, 0, none⟩) ([⟨1, 1⟩] : List S56).length 1] (by rfl) rfl rfl (by simp only [List.map_toArray, List.map_cons, List.map_nil]; rfl) ?_
  with_reducible refine (pool_Check.calls _ _ [⟨1, 1⟩] 0 _ (Kd.R_reads' HR58.out).2.2 (Kd.R_reads' HR58.out).2.1 check8a).mono ?_
  rintro e w59 ⟨rfl, hb⟩
  refine ⟨_, rfl, ?_⟩
  have HK60 := Lib.hid (HK57.out.below hb)
  have HR61 := Lib.hid (Kd.R_below HR58.out hb)
  clear hb
  refine hK.out _ _ ⟨HK60.out.a0, HK60.out.a1, HK60.out.b0, HK60.out.b1⟩ (fun hHeld => ?_)
  clear hK K
  refine norm_ (a' := ?_) ?_ ?_
  rotate_left
  · show Act.put _ (some 31) _ = _
    simp only [Act.put, List.setIfInBounds_toArray, List.set_cons_zero, List.set_cons_succ, i64_w, i32_w]
    rfl
  refine pure_ (i := 13) (N := some 32) (v := ?_) (a' := ?_) #[true, true, true, true, true, true, true, true, true, true, true, true, true, true, false, false, false, false, false, false, false, false, false, false, false, false, false, false, false, false, false, false, false, false, false, false, false, false, false, false, false, false, false, false, false, false, false] rfl rfl (by kernel_rfl) (fun _ _ _ h => h) (Or.inl ⟨by rfl, ?_⟩) ?_ ?_
  rotate_left
  · intro w'
    go_simp
    with_reducible rfl
  rotate_left
  · simp only [Act.put, List.setIfInBounds_toArray, List.set_cons_zero, List.set_cons_succ, i64_w, i32_w]
    rfl
  refine pure_ (i := 14) (N := some 33) (v := ?_) (a' := ?_) #[true, true, true, true, true, true, true, true, true, true, true, true, true, true, true, false, false, false, false, false, false, false, false, false, false, false, false, false, false, false, false, false, false, false, false, false, false, false, false, false, false, false, false, false, false, false, false] rfl rfl (by kernel_rfl) (fun _ _ _ h => h) (Or.inl ⟨by rfl, ?_⟩) ?_ ?_
  rotate_left
  · intro w'
    go_simp
    with_reducible rfl
  rotate_left
  · simp only [Act.put, List.setIfInBounds_toArray, List.set_cons_zero, List.set_cons_succ, i64_w, i32_w]
    rfl
  refine pure_ (i := 15) (N := some 34) (v := ?_) (a' := ?_) #[true, true, true, true, true, true, true, true, true, true, true, true, true, true, true, true, false, false, false, false, false, false, false, false, false, false, false, false, false, false, false, false, false, false, false, false, false, false, false, false, false, false, false, false, false, false, false] rfl rfl (by kernel_rfl) (fun _ _ _ h => h) (Or.inl ⟨by rfl, ?_⟩) ?_ ?_
  rotate_left
  · intro w'
    go_simp
    with_reducible rfl
  rotate_left
  · simp only [Act.put, List.setIfInBounds_toArray, List.set_cons_zero, List.set_cons_succ, i64_w, i32_w]
    rfl
  refine take_ (i := 16) (N := some 35) (v := ?_) (a' := ?_) #[true, true, true, true, true, true, true, true, true, true, true, true, true, true, true, true, true, false, false, false, false, false, false, false, false, false, false, false, false, false, false, false, false, false, false, false, false, false, false, false, false, false, false, false, false, false, false] rfl rfl (by kernel_rfl) (fun _ _ _ h => h) (Or.inl ⟨by rfl, ?_⟩) hHeld ?_ ?_
  rotate_left
  · rintro w' ⟨s0, s1, s2, s3⟩
    go_simp
    with_reducible rfl
  rotate_left
  · simp only [Act.put, List.setIfInBounds_toArray, List.set_cons_zero, List.set_cons_succ, i64_w, i32_w]
    rfl
  refine one_ (i := 17) (N := some 36) #[true, true, true, true, true, true, true, true, true, true, true, true, true, true, true, true, true, true, false, false, false, false, false, false, false, false, false, false, false, false, false, false, false, false, false, false, false, false, false, false, false, false, false, false, false, false, false] rfl rfl (by kernel_rfl) (by decide) (fun K hK => ?_)
  refine value_ (w1 := ?_) (v := ?_) (by rfl) rfl ?_ ?_
  rotate_left 2
  · go_simp
    constructor
    · rfl
    · rfl
  have HK62 := Lib.hid (show K8 w g1 g2 (w59.alloc (.cells #[.int .i64 1, .int .i64 1] 56)) from HK60.out.alloc (.cells #[.int .i64 1, .int .i64 1] 56))
  have HR63 := Lib.hid (show Kd.R k56 56 (w59.alloc (.cells #[.int .i64 1, .int .i64 1] 56)) 0 (fun _ => True) (.slice (some ⟨w59.heap.size, 0, none⟩) 1 1) [⟨1, 1⟩] from lit8a (w59) (n := w59.heap.size) (by simp))
  refine hK.out _ _ ⟨HK62.out.a0, HK62.out.a1, HK62.out.b0, HK62.out.b1⟩ (fun hHeld => ?_)
  clear hK K
  refine norm_ (a' := ?_) ?_ ?_
  rotate_left
  · show Act.put _ (some 36) _ = _
    simp only [Act.put, List.setIfInBounds_toArray, List.set_cons_zero, List.set_cons_succ, i64_w, i32_w]
    rfl
  refine one_ (i := 18) (N := some 37) #[true, true, true, true, true, true, true, true, true, true, true, true, true, true, true, true, true, true, true, false, false, false, false, false, false, false, false, false, false, false, false, false, false, false, false, false, false, false, false, false, false, false, false, false, false, false, false] rfl rfl (by kernel_rfl) (by decide) (fun K hK => ?_)
  refine goes_ Try.func29 (by kernel_rfl) rfl #[.slice (some ⟨w59.heap.size, 0, none⟩) ([⟨1, 1⟩] : List S56).length 1, .int .i64 1] (by rfl) rfl rfl (by simp only [List.map_toArray, List.map_cons, List.map_nil]; rfl) ?_
  with_reducible refine (pool_Find.calls _ _ [⟨1, 1⟩] 1 0 _ (Kd.R_reads' HR63.out).2.2 (Kd.R_reads' HR63.out).2.1 find8a).mono ?_
  rintro e w64 ⟨rfl, hb⟩
  refine ⟨_, rfl, ?_⟩
  have HK65 := Lib.hid (HK62.out.below hb)
  have HR66 := Lib.hid (Kd.R_below HR63.out hb)
  clear hb
  refine hK.out _ _ ⟨HK65.out.a0, HK65.out.a1, HK65.out.b0, HK65.out.b1⟩ (fun hHeld => ?_)
  clear hK K
  refine norm_ (a' := ?_) ?_ ?_
  rotate_left
  · show Act.put _ (some 37) _ = _
    simp only [Act.put, List.setIfInBounds_toArray, List.set_cons_zero, List.set_cons_succ, i64_w, i32_w]
    rfl
  refine pure_ (i := 19) (N := some 38) (v := ?_) (a' := ?_) #[true, true, true, true, true, true, true, true, true, true, true, true, true, true, true, true, true, true, true, true, false, false, false, false, false, false, false, false, false, false, false, false, false, false, false, false, false, false, false, false, false, false, false, false, false, false, false] rfl rfl (by kernel_rfl) (fun _ _ _ h => h) (Or.inl ⟨by rfl, ?_⟩) ?_ ?_
  rotate_left
  · intro w'
    go_simp
    with_reducible rfl
  rotate_left
  · simp only [Act.put, List.setIfInBounds_toArray, List.set_cons_zero, List.set_cons_succ, i64_w, i32_w]
    rfl
  refine pure_ (i := 20) (N := some 39) (v := ?_) (a' := ?_) #[true, true, true, true, true, true, true, true, true, true, true, true, true, true, true, true, true, true, true, true, true, false, false, false, false, false, false, false, false, false, false, false, false, false, false, false, false, false, false, false, false, false, false, false, false, false, false] rfl rfl (by kernel_rfl) (fun _ _ _ h => h) (Or.inl ⟨by rfl, ?_⟩) ?_ ?_
  rotate_left
  · intro w'
    go_simp
    with_reducible rfl
  rotate_left
  · simp only [Act.put, List.setIfInBounds_toArray, List.set_cons_zero, List.set_cons_succ, i64_w, i32_w]
    rfl
  refine pure_ (i := 21) (N := some 40) (v := ?_) (a' := ?_) #[true, true, true, true, true, true, true, true, true, true, true, true, true, true, true, true, true, true, true, true, true, true, false, false, false, false, false, false, false, false, false, false, false, false, false, false, false, false, false, false, false, false, false, false, false, false, false] rfl rfl (by kernel_rfl) (fun _ _ _ h => h) (Or.inl ⟨by rfl, ?_⟩) ?_ ?_
  rotate_left
  · intro w'
    go_simp
    with_reducible rfl
  rotate_left
  · simp only [Act.put, List.setIfInBounds_toArray, List.set_cons_zero, List.set_cons_succ, i64_w, i32_w]
    rfl
  refine one_ (i := 22) (N := some 41) #[true, true, true, true, true, true, true, true, true, true, true, true, true, true, true, true, true, true, true, true, true, true, true, false, false, false, false, false, false, false, false, false, false, false, false, false, false, false, false, false, false, false, false, false, false, false, false] rfl rfl (by kernel_rfl) (by decide) (fun K hK => ?_)
  refine goes_ Try.func29 (by kernel_rfl) rfl #[.slice none ([] : List S56).length 0, .int .i64 1] (by rfl) rfl rfl (by simp only [List.map_toArray, List.map_cons, List.map_nil]; rfl) ?_
  with_reducible refine (pool_Find.calls none 0 [] 1 (-1) _ (nil8 _) (Nat.le_refl _) find80).mono ?_
  rintro e w67 ⟨rfl, hb⟩
  refine ⟨_, rfl, ?_⟩
  have HK68 := Lib.hid (HK65.out.below hb)
  clear hb
  refine hK.out _ _ ⟨HK68.out.a0, HK68.out.a1, HK68.out.b0, HK68.out.b1⟩ (fun hHeld => ?_)
  clear hK K
  refine norm_ (a' := ?_) ?_ ?_
  rotate_left
  · show Act.put _ (some 41) _ = _
    simp only [Act.put, List.setIfInBounds_toArray, List.set_cons_zero, List.set_cons_succ, i64_w, i32_w]
    rfl
  refine pure_ (i := 23) (N := some 42) (v := ?_) (a' := ?_) #[true, true, true, true, true, true, true, true, true, true, true, true, true, true, true, true, true, true, true, true, true, true, true, true, false, false, false, false, false, false, false, false, false, false, false, false, false, false, false, false, false, false, false, false, false, false, false] rfl rfl (by kernel_rfl) (fun _ _ _ h => h) (Or.inl ⟨by rfl, ?_⟩) ?_ ?_
  rotate_left
  · intro w'
    go_simp
    with_reducible rfl
  rotate_left
  · simp only [Act.put, List.setIfInBounds_toArray, List.set_cons_zero, List.set_cons_succ, i64_w, i32_w]
    rfl
  refine pure_ (i := 24) (N := some 43) (v := ?_) (a' := ?_) #[true, true, true, true, true, true, true, true, true, true, true, true, true, true, true, true, true, true, true, true, true, true, true, true, true, false, false, false, false, false, false, false, false, false, false, false, false, false, false, false, false, false, false, false, false, false, false] rfl rfl (by kernel_rfl) (fun _ _ _ h => h) (Or.inl ⟨by rfl, ?_⟩) ?_ ?_
  rotate_left
  · intro w'
    go_simp
    with_reducible rfl
  rotate_left
  · simp only [Act.put, List.setIfInBounds_toArray, List.set_cons_zero, List.set_cons_succ, i64_w, i32_w]
    rfl
  refine pure_ (i := 25) (N := some 44) (v := ?_) (a' := ?_) #[true, true, true, true, true, true, true, true, true, true, true, true, true, true, true, true, true, true, true, true, true, true, true, true, true, true, false, false, false, false, false, false, false, false, false, false, false, false, false, false, false, false, false, false, false, false, false] rfl rfl (by kernel_rfl) (fun _ _ _ h => h) (Or.inl ⟨by rfl, ?_⟩) ?_ ?_
  rotate_left
  · intro w'
    go_simp
    with_reducible rfl
  rotate_left
  · simp only [Act.put, List.setIfInBounds_toArray, List.set_cons_zero, List.set_cons_succ, i64_w, i32_w]
    rfl
  refine pure_ (i := 26) (N := some 45) (v := ?_) (a' := ?_) #[true, true, true, true, true, true, true, true, true, true, true, true, true, true, true, true, true, true, true, true, true, true, true, true, true, true, true, false, false, false, false, false, false, false, false, false, false, false, false, false, false, false, false, false, false, false, false] rfl rfl (by kernel_rfl) (fun _ _ _ h => h) (Or.inl ⟨by rfl, ?_⟩) ?_ ?_
  rotate_left
  · intro w'
    go_simp
    with_reducible rfl
  rotate_left
  · simp only [Act.put, List.setIfInBounds_toArray, List.set_cons_zero, List.set_cons_succ, i64_w, i32_w]
    rfl
  refine pure_ (i := 27) (N := some 46) (v := ?_) (a' := ?_) #[true, true, true, true, true, true, true, true, true, true, true, true, true, true, true, true, true, true, true, true, true, true, true, true, true, true, true, true, false, false, false, false, false, false, false, false, false, false, false, false, false, false, false, false, false, false, false] rfl rfl (by kernel_rfl) (fun _ _ _ h => h) (Or.inl ⟨by rfl, ?_⟩) ?_ ?_
  rotate_left
  · intro w'
    go_simp
    with_reducible rfl
  rotate_left
  · simp only [Act.put, List.setIfInBounds_toArray, List.set_cons_zero, List.set_cons_succ, i64_w, i32_w]
    rfl
  refine pure_ (i := 28) (N := some 47) (v := ?_) (a' := ?_) #[true, true, true, true, true, true, true, true, true, true, true, true, true, true, true, true, true, true, true, true, true, true, true, true, true, true, true, true, true, false, false, false, false, false, false, false, false, false, false, false, false, false, false, false, false, false, false] rfl rfl (by kernel_rfl) (fun _ _ _ h => h) (Or.inl ⟨by rfl, ?_⟩) ?_ ?_
  rotate_left
  · intro w'
    go_simp
    with_reducible rfl
  rotate_left
  · simp only [Act.put, List.setIfInBounds_toArray, List.set_cons_zero, List.set_cons_succ, i64_w, i32_w]
    rfl
  refine pure_ (i := 29) (N := some 48) (v := ?_) (a' := ?_) #[true, true, true, true, true, true, true, true, true, true, true, true, true, true, true, true, true, true, true, true, true, true, true, true, true, true, true, true, true, true, false, false, false, false, false, false, false, false, false, false, false, false, false, false, false, false, false] rfl rfl (by kernel_rfl) (fun _ _ _ h => h) (Or.inl ⟨by rfl, ?_⟩) ?_ ?_
  rotate_left
  · intro w'
    go_simp
    with_reducible rfl
  rotate_left
  · simp only [Act.put, List.setIfInBounds_toArray, List.set_cons_zero, List.set_cons_succ, i64_w, i32_w]
    rfl
  refine pure_ (i := 30) (N := some 49) (v := ?_) (a' := ?_) #[true, true, true, true, true, true, true, true, true, true, true, true, true, true, true, true, true, true, true, true, true, true, true, true, true, true, true, true, true, true, true, false, false, false, false, false, false, false, false, false, false, false, false, false, false, false, false] rfl rfl (by kernel_rfl) (fun _ _ _ h => h) (Or.inl ⟨by rfl, ?_⟩) ?_ ?_
  rotate_left
  · intro w'
    go_simp
    with_reducible rfl
  rotate_left
  · simp only [Act.put, List.setIfInBounds_toArray, List.set_cons_zero, List.set_cons_succ, i64_w, i32_w]
    rfl
  refine pure_ (i := 31) (N := some 50) (v := ?_) (a' := ?_) #[true, true, true, true, true, true, true, true, true, true, true, true, true, true, true, true, true, true, true, true, true, true, true, true, true, true, true, true, true, true, true, true, false, false, false, false, false, false, false, false, false, false, false, false, false, false, false] rfl rfl (by kernel_rfl) (fun _ _ _ h => h) (Or.inl ⟨by rfl, ?_⟩) ?_ ?_
  rotate_left
  · intro w'
    go_simp
    with_reducible rfl
  rotate_left
  · simp only [Act.put, List.setIfInBounds_toArray, List.set_cons_zero, List.set_cons_succ, i64_w, i32_w]
    rfl
  refine take_ (i := 32) (N := some 51) (v := ?_) (a' := ?_) #[true, true, true, true, true, true, true, true, true, true, true, true, true, true, true, true, true, true, true, true, true, true, true, true, true, true, true, true, true, true, true, true, true, false, false, false, false, false, false, false, false, false, false, false, false, false, false] rfl rfl (by kernel_rfl) (fun _ _ _ h => h) (Or.inl ⟨by rfl, ?_⟩) hHeld ?_ ?_
  rotate_left
  · rintro w' ⟨s0, s1, s2, s3⟩
    go_simp
    with_reducible rfl
  rotate_left
  · simp only [Act.put, List.setIfInBounds_toArray, List.set_cons_zero, List.set_cons_succ, i64_w, i32_w]
    rfl
  refine one_ (i := 33) (N := some 52) #[true, true, true, true, true, true, true, true, true, true, true, true, true, true, true, true, true, true, true, true, true, true, true, true, true, true, true, true, true, true, true, true, true, true, false, false, false, false, false, false, false, false, false, false, false, false, false] rfl rfl (by kernel_rfl) (by decide) (fun K hK => ?_)
  refine value_ (w1 := ?_) (v := ?_) (by rfl) rfl ?_ ?_
  rotate_left 2
  · go_simp
    constructor
    · rfl
    · rfl
  have HK69 := Lib.hid (show K8 w g1 g2 (w67.alloc (.cells #[.int .i64 1, .int .i64 1] 56)) from HK68.out.alloc (.cells #[.int .i64 1, .int .i64 1] 56))
  have HR70 := Lib.hid (show Kd.R k56 56 (w67.alloc (.cells #[.int .i64 1, .int .i64 1] 56)) 0 (fun _ => True) (.slice (some ⟨w67.heap.size, 0, none⟩) 1 1) [⟨1, 1⟩] from lit8a (w67) (n := w67.heap.size) (by simp))
  refine hK.out _ _ ⟨HK69.out.a0, HK69.out.a1, HK69.out.b0, HK69.out.b1⟩ (fun hHeld => ?_)
  clear hK K
  refine norm_ (a' := ?_) ?_ ?_
  rotate_left
  · show Act.put _ (some 52) _ = _
    simp only [Act.put, List.setIfInBounds_toArray, List.set_cons_zero, List.set_cons_succ, i64_w, i32_w]
    rfl
  refine one_ (i := 34) (N := some 53) #[true, true, true, true, true, true, true, true, true, true, true, true, true, true, true, true, true, true, true, true, true, true, true, true, true, true, true, true, true, true, true, true, true, true, true, false, false, false, false, false, false, false, false, false, false, false, false] rfl rfl (by kernel_rfl) (by decide) (fun K hK => ?_)
  refine goes_ Try.func38 (by kernel_rfl) rfl #[.slice (some ⟨w67.heap.size, 0, none⟩) ([⟨1, 1⟩] : List S56).length 1, .int .i64 1] (by rfl) rfl rfl (by simp only [List.map_toArray, List.map_cons, List.map_nil]; rfl) ?_
  with_reducible refine (pool_Without.calls _ _ [⟨1, 1⟩] 1 [] _ (Kd.R_reads' HR70.out).2.2 (Kd.R_reads' HR70.out).2.1 without8).mono ?_
  rintro e w71 ⟨v_, rfl, hr, hb⟩
  refine ⟨_, rfl, ?_⟩
  obtain ⟨A_72, c_73, rfl⟩ : ∃ A c, v_ = .slice A 0 c := Kd.R_slice hr
  have HK74 := Lib.hid (HK69.out.below hb)
  have HR75 := Lib.hid (Kd.R_below HR70.out hb)
  clear hb
  clear hr
  refine hK.out _ _ ⟨HK74.out.a0, HK74.out.a1, HK74.out.b0, HK74.out.b1⟩ (fun hHeld => ?_)
  clear hK K
  refine norm_ (a' := ?_) ?_ ?_
  rotate_left
  · show Act.put _ (some 53) _ = _
    simp only [Act.put, List.setIfInBounds_toArray, List.set_cons_zero, List.set_cons_succ, i64_w, i32_w]
    rfl
  refine pure_ (i := 35) (N := some 54) (v := ?_) (a' := ?_) #[true, true, true, true, true, true, true, true, true, true, true, true, true, true, true, true, true, true, true, true, true, true, true, true, true, true, true, true, true, true, true, true, true, true, true, true, false, false, false, false, false, false, false, false, false, false, false] rfl rfl (by kernel_rfl) (fun _ _ _ h => h) (Or.inl ⟨by rfl, ?_⟩) ?_ ?_
  rotate_left
  · intro w'
    go_simp
    with_reducible rfl
  rotate_left
  · simp only [Act.put, List.setIfInBounds_toArray, List.set_cons_zero, List.set_cons_succ, i64_w, i32_w]
    rfl
  refine pure_ (i := 36) (N := some 55) (v := ?_) (a' := ?_) #[true, true, true, true, true, true, true, true, true, true, true, true, true, true, true, true, true, true, true, true, true, true, true, true, true, true, true, true, true, true, true, true, true, true, true, true, true, false, false, false, false, false, false, false, false, false, false] rfl rfl (by kernel_rfl) (fun _ _ _ h => h) (Or.inl ⟨by rfl, ?_⟩) ?_ ?_
  rotate_left
  · intro w'
    go_simp
    with_reducible rfl
  rotate_left
  · simp only [Act.put, List.setIfInBounds_toArray, List.set_cons_zero, List.set_cons_succ, i64_w, i32_w]
    rfl
  refine pure_ (i := 37) (N := some 56) (v := ?_) (a' := ?_) #[true, true, true, true, true, true, true, true, true, true, true, true, true, true, true, true, true, true, true, true, true, true, true, true, true, true, true, true, true, true, true, true, true, true, true, true, true, true, false, false, false, false, false, false, false, false, false] rfl rfl (by kernel_rfl) (fun _ _ _ h => h) (Or.inl ⟨by rfl, ?_⟩) ?_ ?_
  rotate_left
  · intro w'
    go_simp
    with_reducible rfl
  rotate_left
  · simp only [Act.put, List.setIfInBounds_toArray, List.set_cons_zero, List.set_cons_succ, i64_w, i32_w]
    rfl
  refine pure_ (i := 38) (N := some 57) (v := ?_) (a' := ?_) #[true, true, true, true, true, true, true, true, true, true, true, true, true, true, true, true, true, true, true, true, true, true, true, true, true, true, true, true, true, true, true, true, true, true, true, true, true, true, true, false, false, false, false, false, false, false, false] rfl rfl (by kernel_rfl) (fun _ _ _ h => h) (Or.inl ⟨by rfl, ?_⟩) ?_ ?_
  rotate_left
  · intro w'
    go_simp
    with_reducible rfl
  rotate_left
  · simp only [Act.put, List.setIfInBounds_toArray, List.set_cons_zero, List.set_cons_succ, i64_w, i32_w]
    rfl
  refine take_ (i := 39) (N := some 58) (v := ?_) (a' := ?_) #[true, true, true, true, true, true, true, true, true, true, true, true, true, true, true, true, true, true, true, true, true, true, true, true, true, true, true, true, true, true, true, true, true, true, true, true, true, true, true, true, false, false, false, false, false, false, false] rfl rfl (by kernel_rfl) (fun _ _ _ h => h) (Or.inl ⟨by rfl, ?_⟩) hHeld ?_ ?_
  rotate_left
  · rintro w' ⟨s0, s1, s2, s3⟩
    go_simp
    with_reducible rfl
  rotate_left
  · simp only [Act.put, List.setIfInBounds_toArray, List.set_cons_zero, List.set_cons_succ, i64_w, i32_w]
    rfl
  refine take_ (i := 41) (N := some 60) (v := ?_) (a' := ?_) #[true, true, true, true, true, true, true, true, true, true, true, true, true, true, true, true, true, true, true, true, true, true, true, true, true, true, true, true, true, true, true, true, true, true, true, true, true, true, true, true, false, true, false, false, false, false, false] rfl rfl (by kernel_rfl) (fun _ _ _ h => h) (Or.inl ⟨by rfl, ?_⟩) hHeld ?_ ?_
  rotate_left
  · rintro w' ⟨s0, s1, s2, s3⟩
    go_simp
    with_reducible rfl
  rotate_left
  · simp only [Act.put, List.setIfInBounds_toArray, List.set_cons_zero, List.set_cons_succ, i64_w, i32_w]
    rfl
  refine join_ (σ := Value × Value × Value) 3 #[true, true, true, true, true, true, true, true, true, true, true, true, true, true, true, true, true, true, true, true, true, true, true, true, true, true, true, true, true, true, true, true, true, true, true, true, true, true, true, true, true, true, true, true, false, false, false] (fun s_ => [(59, s_.1), (61, s_.2.1), (62, s_.2.2)]) (fun s_ w' => (w'.cell? ⟨g1, 0, none⟩ = some (.int .i64 1) ∧ w'.cell? ⟨g1, 1, none⟩ = some (.int .i64 1) ∧ w'.cell? ⟨g2, 0, none⟩ = some (.int .i64 1) ∧ w'.cell? ⟨g2, 1, none⟩ = some (.int .i64 2)) ∧ K8 w g1 g2 w' ∧ Kd.R k56 56 w' 0 (fun _ => True) s_.1 [⟨1, 1⟩] ∧ Kd.R k56 56 w' 0 (fun _ => True) s_.2.1 [⟨1, 1⟩] ∧ Kd.R k56 56 w' 0 (fun _ => True) s_.2.2 [⟨1, 1⟩]) ?_ ?_
  rotate_left
  · intro hCont
    refine two_ (i := 40) (j := 42) (Ni := some 59) (Nj := some 61) #[true, true, true, true, true, true, true, true, true, true, true, true, true, true, true, true, true, true, true, true, true, true, true, true, true, true, true, true, true, true, true, true, true, true, true, true, true, true, true, true, true, true, false, false, false, false, false] #[true, true, true, true, true, true, true, true, true, true, true, true, true, true, true, true, true, true, true, true, true, true, true, true, true, true, true, true, true, true, true, true, true, true, true, true, true, true, true, true, false, true, true, false, false, false, false] rfl rfl rfl rfl (by kernel_rfl) (by decide) (by decide) (fun K hK => ?_) (fun K hK => ?_)
    · skip
      refine value_ (w1 := ?_) (v := ?_) (by rfl) rfl ?_ ?_
      rotate_left 2
      · go_simp
        constructor
        · rfl
        · rfl
      have HK91 := Lib.hid (show K8 w g1 g2 (w71.alloc (.cells #[.int .i64 1, .int .i64 1] 56)) from HK74.out.alloc (.cells #[.int .i64 1, .int .i64 1] 56))
      have HR92 := Lib.hid (show Kd.R k56 56 (w71.alloc (.cells #[.int .i64 1, .int .i64 1] 56)) 0 (fun _ => True) (.slice (some ⟨w71.heap.size, 0, none⟩) 1 1) [⟨1, 1⟩] from lit8a (w71) (n := w71.heap.size) (by simp))
      refine hK.out _ _ ⟨HK91.out.a0, HK91.out.a1, HK91.out.b0, HK91.out.b1⟩ (fun hHeld => ?_)
      clear hK K
      refine norm_ (a' := ?_) ?_ ?_
      rotate_left
      · show Act.put _ (some 59) _ = _
        simp only [Act.put, List.setIfInBounds_toArray, List.set_cons_zero, List.set_cons_succ, i64_w, i32_w]
        rfl
      refine one_ (i := 42) (N := some 61) #[true, true, true, true, true, true, true, true, true, true, true, true, true, true, true, true, true, true, true, true, true, true, true, true, true, true, true, true, true, true, true, true, true, true, true, true, true, true, true, true, true, true, true, false, false, false, false] rfl rfl (by kernel_rfl) (by decide) (fun K hK => ?_)
      refine value_ (w1 := ?_) (v := ?_) (by rfl) rfl ?_ ?_
      rotate_left 2
      · go_simp
        constructor
        · rfl
        · rfl
      have HK93 := Lib.hid (show K8 w g1 g2 ((w71.alloc (.cells #[.int .i64 1, .int .i64 1] 56)).alloc (.cells #[.int .i64 1, .int .i64 1] 56)) from HK91.out.alloc (.cells #[.int .i64 1, .int .i64 1] 56))
      have HR94 := Lib.hid (show Kd.R k56 56 ((w71.alloc (.cells #[.int .i64 1, .int .i64 1] 56)).alloc (.cells #[.int .i64 1, .int .i64 1] 56)) 0 (fun _ => True) (.slice (some ⟨w71.heap.size + 1, 0, none⟩) 1 1) [⟨1, 1⟩] from lit8a ((w71.alloc (.cells #[.int .i64 1, .int .i64 1] 56))) (n := w71.heap.size + 1) (by simp))
      have HR95 := Lib.hid (show Kd.R k56 56 ((w71.alloc (.cells #[.int .i64 1, .int .i64 1] 56)).alloc (.cells #[.int .i64 1, .int .i64 1] 56)) 0 (fun _ => True) (.slice (some ⟨w71.heap.size, 0, none⟩) 1 1) [⟨1, 1⟩] from Kd.R_alloc HR92.out (.cells #[.int .i64 1, .int .i64 1] 56))
      refine hK.out _ _ ⟨HK93.out.a0, HK93.out.a1, HK93.out.b0, HK93.out.b1⟩ (fun hHeld => ?_)
      clear hK K
      refine norm_ (a' := ?_) ?_ ?_
      rotate_left
      · show Act.put _ (some 61) _ = _
        simp only [Act.put, List.setIfInBounds_toArray, List.set_cons_zero, List.set_cons_succ, i64_w, i32_w]
        rfl
      refine one_ (i := 43) (N := some 62) #[true, true, true, true, true, true, true, true, true, true, true, true, true, true, true, true, true, true, true, true, true, true, true, true, true, true, true, true, true, true, true, true, true, true, true, true, true, true, true, true, true, true, true, true, false, false, false] rfl rfl (by kernel_rfl) (by decide) (fun K hK => ?_)
      refine goes_ Try.func34 (by kernel_rfl) rfl #[.slice (some ⟨w71.heap.size + 1, 0, none⟩) ([⟨1, 1⟩] : List S56).length 1] (by rfl) rfl rfl (by simp only [List.map_toArray, List.map_cons, List.map_nil]; rfl) ?_
      with_reducible refine (pool_Sorted.calls _ _ [⟨1, 1⟩] [⟨1, 1⟩] _ (Kd.R_reads' HR94.out).2.2 (Kd.R_reads' HR94.out).2.1 sorted8).mono ?_
      rintro e w96 ⟨v_, rfl, hr, hb⟩
      refine ⟨_, rfl, ?_⟩
      obtain ⟨A_97, c_98, rfl⟩ : ∃ A c, v_ = .slice A 1 c := Kd.R_slice hr
      have HK99 := Lib.hid (HK93.out.below hb)
      have HR100 := Lib.hid (Kd.R_lower hr (Nat.zero_le _))
      have HR101 := Lib.hid (Kd.R_below HR94.out hb)
      have HR102 := Lib.hid (Kd.R_below HR95.out hb)
      clear hb hr
      refine hK.out _ _ ⟨HK99.out.a0, HK99.out.a1, HK99.out.b0, HK99.out.b1⟩ (fun hHeld => ?_)
      clear hK K
      refine norm_ (a' := ?_) ?_ ?_
      rotate_left
      · show Act.put _ (some 62) _ = _
        simp only [Act.put, List.setIfInBounds_toArray, List.set_cons_zero, List.set_cons_succ, i64_w, i32_w]
        rfl
      exact norm_ (by simp only [putAll, Act.put, List.setIfInBounds_toArray, List.set_cons_zero, List.set_cons_succ]) (hCont (.slice (some ⟨w71.heap.size, 0, none⟩) 1 1, .slice (some ⟨w71.heap.size + 1, 0, none⟩) 1 1, .slice A_97 1 c_98) _ ⟨hHeld, HK99.out, HR102.out, HR101.out, HR100.out⟩)
    · skip
      refine value_ (w1 := ?_) (v := ?_) (by rfl) rfl ?_ ?_
      rotate_left 2
      · go_simp
        constructor
        · rfl
        · rfl
      have HK103 := Lib.hid (show K8 w g1 g2 (w71.alloc (.cells #[.int .i64 1, .int .i64 1] 56)) from HK74.out.alloc (.cells #[.int .i64 1, .int .i64 1] 56))
      have HR104 := Lib.hid (show Kd.R k56 56 (w71.alloc (.cells #[.int .i64 1, .int .i64 1] 56)) 0 (fun _ => True) (.slice (some ⟨w71.heap.size, 0, none⟩) 1 1) [⟨1, 1⟩] from lit8a (w71) (n := w71.heap.size) (by simp))
      refine hK.out _ _ ⟨HK103.out.a0, HK103.out.a1, HK103.out.b0, HK103.out.b1⟩ (fun hHeld => ?_)
      clear hK K
      refine norm_ (a' := ?_) ?_ ?_
      rotate_left
      · show Act.put _ (some 61) _ = _
        simp only [Act.put, List.setIfInBounds_toArray, List.set_cons_zero, List.set_cons_succ, i64_w, i32_w]
        rfl
      refine two_ (i := 40) (j := 43) (Ni := some 59) (Nj := some 62) #[true, true, true, true, true, true, true, true, true, true, true, true, true, true, true, true, true, true, true, true, true, true, true, true, true, true, true, true, true, true, true, true, true, true, true, true, true, true, true, true, true, true, true, false, false, false, false] #[true, true, true, true, true, true, true, true, true, true, true, true, true, true, true, true, true, true, true, true, true, true, true, true, true, true, true, true, true, true, true, true, true, true, true, true, true, true, true, true, false, true, true, true, false, false, false] rfl rfl rfl rfl (by kernel_rfl) (by decide) (by decide) (fun K hK => ?_) (fun K hK => ?_)
      · skip
        refine value_ (w1 := ?_) (v := ?_) (by rfl) rfl ?_ ?_
        rotate_left 2
        · go_simp
          constructor
          · rfl
          · rfl
        have HK105 := Lib.hid (show K8 w g1 g2 ((w71.alloc (.cells #[.int .i64 1, .int .i64 1] 56)).alloc (.cells #[.int .i64 1, .int .i64 1] 56)) from HK103.out.alloc (.cells #[.int .i64 1, .int .i64 1] 56))
        have HR106 := Lib.hid (show Kd.R k56 56 ((w71.alloc (.cells #[.int .i64 1, .int .i64 1] 56)).alloc (.cells #[.int .i64 1, .int .i64 1] 56)) 0 (fun _ => True) (.slice (some ⟨w71.heap.size + 1, 0, none⟩) 1 1) [⟨1, 1⟩] from lit8a ((w71.alloc (.cells #[.int .i64 1, .int .i64 1] 56))) (n := w71.heap.size + 1) (by simp))
        have HR107 := Lib.hid (show Kd.R k56 56 ((w71.alloc (.cells #[.int .i64 1, .int .i64 1] 56)).alloc (.cells #[.int .i64 1, .int .i64 1] 56)) 0 (fun _ => True) (.slice (some ⟨w71.heap.size, 0, none⟩) 1 1) [⟨1, 1⟩] from Kd.R_alloc HR104.out (.cells #[.int .i64 1, .int .i64 1] 56))
        refine hK.out _ _ ⟨HK105.out.a0, HK105.out.a1, HK105.out.b0, HK105.out.b1⟩ (fun hHeld => ?_)
        clear hK K
        refine norm_ (a' := ?_) ?_ ?_
        rotate_left
        · show Act.put _ (some 59) _ = _
          simp only [Act.put, List.setIfInBounds_toArray, List.set_cons_zero, List.set_cons_succ, i64_w, i32_w]
          rfl
        refine one_ (i := 43) (N := some 62) #[true, true, true, true, true, true, true, true, true, true, true, true, true, true, true, true, true, true, true, true, true, true, true, true, true, true, true, true, true, true, true, true, true, true, true, true, true, true, true, true, true, true, true, true, false, false, false] rfl rfl (by kernel_rfl) (by decide) (fun K hK => ?_)
        refine goes_ Try.func34 (by kernel_rfl) rfl #[.slice (some ⟨w71.heap.size, 0, none⟩) ([⟨1, 1⟩] : List S56).length 1] (by rfl) rfl rfl (by simp only [List.map_toArray, List.map_cons, List.map_nil]; rfl) ?_
        with_reducible refine (pool_Sorted.calls _ _ [⟨1, 1⟩] [⟨1, 1⟩] _ (Kd.R_reads' HR107.out).2.2 (Kd.R_reads' HR107.out).2.1 sorted8).mono ?_
        rintro e w108 ⟨v_, rfl, hr, hb⟩
        refine ⟨_, rfl, ?_⟩
        obtain ⟨A_109, c_110, rfl⟩ : ∃ A c, v_ = .slice A 1 c := Kd.R_slice hr
        have HK111 := Lib.hid (HK105.out.below hb)
        have HR112 := Lib.hid (Kd.R_lower hr (Nat.zero_le _))
        have HR113 := Lib.hid (Kd.R_below HR106.out hb)
        have HR114 := Lib.hid (Kd.R_below HR107.out hb)
        clear hb hr
        refine hK.out _ _ ⟨HK111.out.a0, HK111.out.a1, HK111.out.b0, HK111.out.b1⟩ (fun hHeld => ?_)
        clear hK K
        refine norm_ (a' := ?_) ?_ ?_
        rotate_left
        · show Act.put _ (some 62) _ = _
          simp only [Act.put, List.setIfInBounds_toArray, List.set_cons_zero, List.set_cons_succ, i64_w, i32_w]
          rfl
        exact norm_ (by simp only [putAll, Act.put, List.setIfInBounds_toArray, List.set_cons_zero, List.set_cons_succ]) (hCont (.slice (some ⟨w71.heap.size + 1, 0, none⟩) 1 1, .slice (some ⟨w71.heap.size, 0, none⟩) 1 1, .slice A_109 1 c_110) _ ⟨hHeld, HK111.out, HR113.out, HR114.out, HR112.out⟩)
      · skip
        refine goes_ Try.func34 (by kernel_rfl) rfl #[.slice (some ⟨w71.heap.size, 0, none⟩) ([⟨1, 1⟩] : List S56).length 1] (by rfl) rfl rfl (by simp only [List.map_toArray, List.map_cons, List.map_nil]; rfl) ?_
        with_reducible refine (pool_Sorted.calls _ _ [⟨1, 1⟩] [⟨1, 1⟩] _ (Kd.R_reads' HR104.out).2.2 (Kd.R_reads' HR104.out).2.1 sorted8).mono ?_
        rintro e w115 ⟨v_, rfl, hr, hb⟩
        refine ⟨_, rfl, ?_⟩
        obtain ⟨A_116, c_117, rfl⟩ : ∃ A c, v_ = .slice A 1 c := Kd.R_slice hr
        have HK118 := Lib.hid (HK103.out.below hb)
        have HR119 := Lib.hid (Kd.R_lower hr (Nat.zero_le _))
        have HR120 := Lib.hid (Kd.R_below HR104.out hb)
        clear hb hr
        refine hK.out _ _ ⟨HK118.out.a0, HK118.out.a1, HK118.out.b0, HK118.out.b1⟩ (fun hHeld => ?_)
        clear hK K
        refine norm_ (a' := ?_) ?_ ?_
        rotate_left
        · show Act.put _ (some 62) _ = _
          simp only [Act.put, List.setIfInBounds_toArray, List.set_cons_zero, List.set_cons_succ, i64_w, i32_w]
          rfl
        refine one_ (i := 40) (N := some 59) #[true, true, true, true, true, true, true, true, true, true, true, true, true, true, true, true, true, true, true, true, true, true, true, true, true, true, true, true, true, true, true, true, true, true, true, true, true, true, true, true, true, true, true, true, false, false, false] rfl rfl (by kernel_rfl) (by decide) (fun K hK => ?_)
        refine value_ (w1 := ?_) (v := ?_) (by rfl) rfl ?_ ?_
        rotate_left 2
        · go_simp
          constructor
          · rfl
          · rfl
        have HK121 := Lib.hid (show K8 w g1 g2 (w115.alloc (.cells #[.int .i64 1, .int .i64 1] 56)) from HK118.out.alloc (.cells #[.int .i64 1, .int .i64 1] 56))
        have HR122 := Lib.hid (show Kd.R k56 56 (w115.alloc (.cells #[.int .i64 1, .int .i64 1] 56)) 0 (fun _ => True) (.slice (some ⟨w115.heap.size, 0, none⟩) 1 1) [⟨1, 1⟩] from lit8a (w115) (n := w115.heap.size) (by simp))
        have HR123 := Lib.hid (show Kd.R k56 56 (w115.alloc (.cells #[.int .i64 1, .int .i64 1] 56)) 0 (fun _ => True) (.slice A_116 1 c_117) [⟨1, 1⟩] from Kd.R_alloc HR119.out (.cells #[.int .i64 1, .int .i64 1] 56))
        have HR124 := Lib.hid (show Kd.R k56 56 (w115.alloc (.cells #[.int .i64 1, .int .i64 1] 56)) 0 (fun _ => True) (.slice (some ⟨w71.heap.size, 0, none⟩) 1 1) [⟨1, 1⟩] from Kd.R_alloc HR120.out (.cells #[.int .i64 1, .int .i64 1] 56))
        refine hK.out _ _ ⟨HK121.out.a0, HK121.out.a1, HK121.out.b0, HK121.out.b1⟩ (fun hHeld => ?_)
        clear hK K
        refine norm_ (a' := ?_) ?_ ?_
        rotate_left
        · show Act.put _ (some 59) _ = _
          simp only [Act.put, List.setIfInBounds_toArray, List.set_cons_zero, List.set_cons_succ, i64_w, i32_w]
          rfl
        exact norm_ (by simp only [putAll, Act.put, List.setIfInBounds_toArray, List.set_cons_zero, List.set_cons_succ]) (hCont (.slice (some ⟨w115.heap.size, 0, none⟩) 1 1, .slice (some ⟨w71.heap.size, 0, none⟩) 1 1, .slice A_116 1 c_117) _ ⟨hHeld, HK121.out, HR122.out, HR124.out, HR123.out⟩)
  rintro ⟨v80, v81, v82⟩ W83 ⟨hS_, hK_, h59_, h61_, h62_⟩
  have HK76 := Lib.hid hK_
  clear hK_
  obtain ⟨A_84, c_85, rfl⟩ : ∃ A c, v80 = .slice A 1 c := Kd.R_slice h59_
  have HR77 := Lib.hid h59_
  clear h59_
  obtain ⟨A_86, c_87, rfl⟩ : ∃ A c, v81 = .slice A 1 c := Kd.R_slice h61_
  have HR78 := Lib.hid h61_
  clear h61_
  obtain ⟨A_88, c_89, rfl⟩ : ∃ A c, v82 = .slice A 1 c := Kd.R_slice h62_
  have HR79 := Lib.hid h62_
  clear h62_
  have hHeld := hS_
  clear hS_
  refine norm_ (a' := ?_) ?_ ?_
  rotate_left
  · simp only [putAll, Act.put, List.setIfInBounds_toArray, List.set_cons_zero, List.set_cons_succ]
    rfl
  refine one_ (i := 44) (N := some 63) #[true, true, true, true, true, true, true, true, true, true, true, true, true, true, true, true, true, true, true, true, true, true, true, true, true, true, true, true, true, true, true, true, true, true, true, true, true, true, true, true, true, true, true, true, true, false, false] rfl rfl (by kernel_rfl) (by decide) (fun K hK => ?_)
  refine goes_ Try.func45 (by kernel_rfl) rfl #[.slice A_84 ([⟨1, 1⟩] : List S56).length c_85, .slice A_88 ([⟨1, 1⟩] : List S56).length c_89] (by rfl) rfl rfl (by simp only [List.map_toArray, List.map_cons, List.map_nil]; rfl) ?_
  with_reducible refine (pool_Same.calls 9 _ _ [⟨1, 1⟩] _ _ [⟨1, 1⟩] _ _ (Kd.R_reads' HR77.out).2.2 (Kd.R_reads' HR77.out).2.1 (Kd.R_reads' HR79.out).2.2 (Kd.R_reads' HR79.out).2.1 psame8).mono ?_
  rintro e wS ⟨rfl, ⟨nS, rfl⟩⟩
  refine ⟨_, rfl, ?_⟩
  have HK90 := Lib.hid (HK76.out.drewN nS)
  refine hK.out _ _ ⟨HK90.out.a0, HK90.out.a1, HK90.out.b0, HK90.out.b1⟩ (fun hHeld => ?_)
  clear hK K
  refine norm_ (a' := ?_) ?_ ?_
  rotate_left
  · show Act.put _ (some 63) _ = _
    simp only [Act.put, List.setIfInBounds_toArray, List.set_cons_zero, List.set_cons_succ, i64_w, i32_w]
    rfl
  refine pure_ (i := 45) (N := some 64) (v := ?_) (a' := ?_) #[true, true, true, true, true, true, true, true, true, true, true, true, true, true, true, true, true, true, true, true, true, true, true, true, true, true, true, true, true, true, true, true, true, true, true, true, true, true, true, true, true, true, true, true, true, true, false] rfl rfl (by kernel_rfl) (fun _ _ _ h => h) (Or.inl ⟨by rfl, ?_⟩) ?_ ?_
  rotate_left
  · intro w'
    go_simp
    with_reducible rfl
  rotate_left
  · simp only [Act.put, List.setIfInBounds_toArray, List.set_cons_zero, List.set_cons_succ, i64_w, i32_w]
    rfl
  refine pure_ (i := 46) (N := some 0) (v := ?_) (a' := ?_) #[true, true, true, true, true, true, true, true, true, true, true, true, true, true, true, true, true, true, true, true, true, true, true, true, true, true, true, true, true, true, true, true, true, true, true, true, true, true, true, true, true, true, true, true, true, true, true] rfl rfl (by kernel_rfl) (fun _ _ _ h => h) (Or.inl ⟨by rfl, ?_⟩) ?_ ?_
  rotate_left
  · intro w'
    go_simp
    with_reducible rfl
  rotate_left
  · simp only [Act.put, List.setIfInBounds_toArray, List.set_cons_zero, List.set_cons_succ, i64_w, i32_w]
    rfl
  refine done_ (by kernel_rfl) ?_
  go_wp2
  go_ret
  exact ⟨rfl, HK90.out.hb⟩
def gangplanklaw08_works.f : Option Bool := some true
theorem gangplanklaw08_works.calls (r : Bool) (w : World) (h : gangplanklaw08_works.f = some r) : Calls Try.prog 32 #[] w fun e w' => e = .returned (.bool r) ∧ Below w.heap.size w w' := by
  obtain rfl : true = r := Option.some.inj h
  exact works8_any w
end

end Go.Proofs.Ytklngklmeanhcaa.P
