/- Each Go function that the laws reach, as a plain function, with the proof that the machine's call comes to what it says; of a law: its row. Made by a program of this seat (wip/hp.py, over the print). -/
import Derived.Test.YtbbgeobnjdgpfaaPx0
import Derived.Test.YtbbgeobnjdgpfaaPx1
import Derived.Test.YtbbgeobnjdgpfaaPx2
import Derived.Test.YtbbgeobnjdgpfaaPx3
namespace Go.Proofs.Ytbbgeobnjdgpfaa.P
open Go.RowKit Go.Proofs.YtbbgeobnjdgpfaaW.PrintWords Go.Proofs.YtbbgeobnjdgpfaaW.PrintLast Go.Proofs.YtbbgeobnjdgpfaaW.PrintMore
attribute [local go_sem] max2_int min2_int max_two min_two max_three min_three max_four min_four   -- for this text's walks alone
set_option linter.unusedVariables false
set_option linter.unusedSimpArgs false

/-! ### gangplanklaw18_WorldNew: function 5 -/
section
open Go.Shelf Go.Proofs.Ytbbgeobnjdgpfaa.Hand
theorem keysL_zero (k : Nat) : keysL (List.replicate k z95) = [] := by
  unfold keysL liveL liveUpto
  rw [List.map_eq_nil_iff, List.filter_eq_nil_iff]
  intro p hp
  obtain ⟨i, _, rfl⟩ := mem_upto.1 hp
  have : rd_T95 (List.replicate k z95) i = z95 := by
    unfold rd_T95
    rw [List.getD_eq_getElem?_getD, List.getElem?_replicate]
    split <;> rfl
  dsimp only
  rw [this]
  decide
theorem keysT_zero (j k : Nat) : keysT (List.replicate j (List.replicate k z95)) = [] := by
  unfold keysT
  rw [List.flatMap_eq_nil_iff]
  intro l hl
  rw [List.eq_of_mem_replicate hl]
  exact keysL_zero k
theorem getD_rep0 (n i : Nat) : (List.replicate n (0 : Int)).getD i 0 = 0 := by
  rw [List.getD_eq_getElem?_getD, List.getElem?_replicate]
  split <;> rfl
theorem getD_rep1 (n i : Nat) (h : i < n) : (List.replicate n (-1 : Int)).getD i 0 = -1 := by
  rw [List.getD_eq_getElem?_getD, List.getElem?_replicate, if_pos h]
  rfl
theorem new_cells (n m : Nat) (i : Int) : ∃ s1 s2 s3, CS.load ⟨List.replicate n 0, List.replicate m (-1), 0⟩ i = (0, s1) ∧ s1.owner i = -1 ∧ s1.swap i 0 1 = (decide (0 ≤ i ∧ i < (n : Int)), s2) ∧ s2.lock i 0 = (decide (0 ≤ i ∧ i < (m : Int)), s3) := by
  have ho : ∀ q, CS.owner ⟨List.replicate n 0, List.replicate m (-1), q⟩ i = -1 := by
    intro q
    unfold CS.owner
    dsimp only
    rw [List.length_replicate]
    split
    · rename_i h
      exact getD_rep1 m _ (by omega)
    · rfl
  have hl : ∀ cs q, ∃ s3, CS.lock ⟨cs, List.replicate m (-1), q⟩ i 0 = (decide (0 ≤ i ∧ i < (m : Int)), s3) := by
    intro cs q
    unfold CS.lock CS.turn
    dsimp only
    rw [List.length_replicate]
    by_cases h : 0 ≤ i ∧ i < (m : Int)
    · rw [if_pos h, if_pos ⟨Int.le_refl _, getD_rep1 m _ (by omega)⟩, decide_eq_true h]
      exact ⟨_, rfl⟩
    · rw [if_neg h, decide_eq_false h]
      exact ⟨_, rfl⟩
  by_cases h : 0 ≤ i ∧ i < (n : Int)
  · obtain ⟨s3, h3⟩ := hl ((List.replicate n 0).set i.toNat 1) (wrap64 (wrap64 (0 + 1) + 1))
    refine ⟨⟨List.replicate n 0, List.replicate m (-1), wrap64 (0 + 1)⟩, ⟨(List.replicate n 0).set i.toNat 1, List.replicate m (-1), wrap64 (wrap64 (0 + 1) + 1)⟩, s3, ?_, ho _, ?_, h3⟩
    · unfold CS.load
      dsimp only
      rw [List.length_replicate, if_pos h, getD_rep0]
    · unfold CS.swap
      dsimp only
      rw [List.length_replicate, if_pos h, if_pos (getD_rep0 _ _), decide_eq_true h]
  · obtain ⟨s3, h3⟩ := hl (List.replicate n 0) 0
    refine ⟨⟨List.replicate n 0, List.replicate m (-1), 0⟩, ⟨List.replicate n 0, List.replicate m (-1), 0⟩, s3, ?_, ho _, ?_, h3⟩
    · unfold CS.load
      dsimp only
      rw [List.length_replicate, if_neg h]
    · unfold CS.swap
      dsimp only
      rw [List.length_replicate, if_neg h, decide_eq_false h]
def gangplanklaw18_WorldNew.f (a b c d e : Int) (i : Int) : Option Bool := some true
set_option maxRecDepth 100000 in
set_option maxHeartbeats 16000000 in
theorem gangplanklaw18_WorldNew.calls (a b c d e : Int) (i : Int) (r : Bool) (W : World) (h : gangplanklaw18_WorldNew.f a b c d e i = some r) :
    Calls Try.prog 5 #[.agg #[.int .i64 a, .int .i64 b, .int .i64 c, .int .i64 d, .int .i64 e], .int .i64 i] W fun e w' => e = .returned (.bool r) ∧ Below W.heap.size W w' := by
  obtain rfl : true = r := Option.some.inj h
  clear h
  obtain ⟨sm, hsm⟩ : ∃ sm, gangplankref17_Small.f a b c d e = some sm := by
    unfold gangplankref17_Small.f
    split
    · split
      · exact ⟨_, rfl⟩
      · exact ⟨_, rfl⟩
    · exact ⟨_, rfl⟩
  have HSM := Lib.hid hsm
  clear hsm
  have b0 := Blk.new W 23 [.int .i64 a, .int .i64 b, .int .i64 c, .int .i64 d, .int .i64 e]
  have l0 := below_alloc (Below.refl _ W) (.cells #[.int .i64 a, .int .i64 b, .int .i64 c, .int .i64 d, .int .i64 e] 23)
  have HK := Lib.hid b0
  have HB := Lib.hid l0
  clear b0 l0
  go_enter Try.func5, Try.ntmps5
  go_wp2_with fail
  go_at_call 7
  refine (works18_any _).mono ?_
  rintro e1 w1 ⟨rfl, hb⟩
  have n0 := Lib.hid (show Blk w1 W.heap.size 23 [.int .i64 a, .int .i64 b, .int .i64 c, .int .i64 d, .int .i64 e] from HK.out.below hb)
  have n1 := Lib.hid (show Below W.heap.size W w1 from HB.out.trans (hb.mono HB.out.size))
  clear HK HB hb
  have HK := n0
  have HB := n1
  clear n0 n1
  have y0 : w1.cell? ⟨W.heap.size, 0, none⟩ = some (.int .i64 a) := HK.out.cell 0
  have y1 : w1.cell? ⟨W.heap.size, 1, none⟩ = some (.int .i64 b) := HK.out.cell 1
  have y2 : w1.cell? ⟨W.heap.size, 2, none⟩ = some (.int .i64 c) := HK.out.cell 2
  have y3 : w1.cell? ⟨W.heap.size, 3, none⟩ = some (.int .i64 d) := HK.out.cell 3
  have y4 : w1.cell? ⟨W.heap.size, 4, none⟩ = some (.int .i64 e) := HK.out.cell 4
  go_wp2_with fail
  go_at_call 8
  refine (gangplankref17_Small.calls a b c d e sm _ HSM.out).mono ?_
  rintro e2 w2 ⟨rfl, hb⟩
  clear y0 y1 y2 y3 y4
  have n0 := Lib.hid (show Blk w2 W.heap.size 23 [.int .i64 a, .int .i64 b, .int .i64 c, .int .i64 d, .int .i64 e] from HK.out.below hb)
  have n1 := Lib.hid (show Below W.heap.size W w2 from HB.out.trans (hb.mono HB.out.size))
  clear HK HB hb
  have HK := n0
  have HB := n1
  clear n0 n1
  have y0 : w2.cell? ⟨W.heap.size, 0, none⟩ = some (.int .i64 a) := HK.out.cell 0
  have y1 : w2.cell? ⟨W.heap.size, 1, none⟩ = some (.int .i64 b) := HK.out.cell 1
  have y2 : w2.cell? ⟨W.heap.size, 2, none⟩ = some (.int .i64 c) := HK.out.cell 2
  have y3 : w2.cell? ⟨W.heap.size, 3, none⟩ = some (.int .i64 d) := HK.out.cell 3
  have y4 : w2.cell? ⟨W.heap.size, 4, none⟩ = some (.int .i64 e) := HK.out.cell 4
  cases sm
  · go_wp2
    go_ret
    exact ⟨rfl, HB.out⟩
  by_cases hck : chk a b c d e ≠ 0
  · go_wp2_with fail
    go_at_call 9
    refine (New_bad a b c d e hck _).mono ?_
    rintro e3 w3 ⟨rfl, hb⟩
    clear y0 y1 y2 y3 y4
    have n0 := Lib.hid (show Blk w3 W.heap.size 23 [.int .i64 a, .int .i64 b, .int .i64 c, .int .i64 d, .int .i64 e] from HK.out.below hb)
    have n1 := Lib.hid (show Below W.heap.size W w3 from HB.out.trans (hb.mono HB.out.size))
    clear HK HB hb
    have HK := n0
    have HB := n1
    clear n0 n1
    have y0 : w3.cell? ⟨W.heap.size, 0, none⟩ = some (.int .i64 a) := HK.out.cell 0
    have y1 : w3.cell? ⟨W.heap.size, 1, none⟩ = some (.int .i64 b) := HK.out.cell 1
    have y2 : w3.cell? ⟨W.heap.size, 2, none⟩ = some (.int .i64 c) := HK.out.cell 2
    have y3 : w3.cell? ⟨W.heap.size, 3, none⟩ = some (.int .i64 d) := HK.out.cell 3
    have y4 : w3.cell? ⟨W.heap.size, 4, none⟩ = some (.int .i64 e) := HK.out.cell 4
    go_wp2_with fail
    go_at_call 16
    refine (Check_any a b c d e _).mono ?_
    rintro e4 w4 ⟨rfl, hb⟩
    clear y0 y1 y2 y3 y4
    have n0 := Lib.hid (show Blk w4 W.heap.size 23 [.int .i64 a, .int .i64 b, .int .i64 c, .int .i64 d, .int .i64 e] from HK.out.below hb)
    have n1 := Lib.hid (show Below W.heap.size W w4 from HB.out.trans (hb.mono HB.out.size))
    clear HK HB hb
    have HK := n0
    have HB := n1
    clear n0 n1
    obtain ⟨x, hx⟩ : ∃ x, chk a b c d e = x := ⟨_, rfl⟩
    rw [hx] at hck ⊢
    have q : (x != 0) = true := bne_iff_ne.mpr hck
    clear hx hck
    go_wp2
    go_ret
    exact ⟨rfl, HB.out⟩
  replace hck : chk a b c d e = 0 := Classical.not_not.mp hck
  obtain ⟨⟨ha0, ha1⟩, ⟨hb0, hb1⟩, ⟨hc0, hc1⟩, _, ⟨he0, he1⟩⟩ := chk_zero hck
  obtain ⟨n, hn⟩ : ∃ n : Nat, b = (n : Int) := ⟨b.toNat, by omega⟩
  obtain ⟨m, hm⟩ : ∃ m : Nat, e = (m : Int) := ⟨e.toNat, by omega⟩
  subst hn
  subst hm
  have hCK := fun w => Check_any a n c d m w
  rw [hck] at hCK
  have HCK := Lib.hid hCK
  clear hCK
  go_wp2_with fail
  go_at_call 9
  refine (New_good a n c d m hck _).mono ?_
  rintro e3 w3 ⟨p, q, b1, b2, qs, ss, qk, tv, pv, rfl, hw, hb⟩
  rw [Int.toNat_natCast, Int.toNat_natCast] at hw
  have HW := Lib.hid (hw.lower HB.out.size)
  clear y0 y1 y2 y3 y4 hw hck
  have n0 := Lib.hid (show Blk w3 W.heap.size 23 [.int .i64 a, .int .i64 (n : Int), .int .i64 c, .int .i64 d, .int .i64 (m : Int)] from HK.out.below hb)
  have n1 := Lib.hid (show Below W.heap.size W w3 from HB.out.trans (hb.mono HB.out.size))
  clear HK HB hb
  have HK := n0
  have HB := n1
  clear n0 n1
  have y0 : w3.cell? ⟨W.heap.size, 0, none⟩ = some (.int .i64 a) := HK.out.cell 0
  have y1 : w3.cell? ⟨W.heap.size, 1, none⟩ = some (.int .i64 (n : Int)) := HK.out.cell 1
  have y2 : w3.cell? ⟨W.heap.size, 2, none⟩ = some (.int .i64 c) := HK.out.cell 2
  have y3 : w3.cell? ⟨W.heap.size, 3, none⟩ = some (.int .i64 d) := HK.out.cell 3
  have y4 : w3.cell? ⟨W.heap.size, 4, none⟩ = some (.int .i64 (m : Int)) := HK.out.cell 4
  go_wp2_with fail
  go_at_call 16
  refine (HCK.out _).mono ?_
  rintro e4 w4 ⟨rfl, hb⟩
  have n2 := Lib.hid (HW.out.below hb)
  clear y0 y1 y2 y3 y4 HW
  have HW := n2
  clear n2
  have n0 := Lib.hid (show Blk w4 W.heap.size 23 [.int .i64 a, .int .i64 (n : Int), .int .i64 c, .int .i64 d, .int .i64 (m : Int)] from HK.out.below hb)
  have n1 := Lib.hid (show Below W.heap.size W w4 from HB.out.trans (hb.mono HB.out.size))
  clear HK HB hb
  have HK := n0
  have HB := n1
  clear n0 n1
  obtain ⟨gt, ct, htv, hC⟩ := HW.out.tabsG (by rw [List.length_replicate]; omega)
  obtain ⟨Ap, cp, hpv⟩ := HW.out.hv
  rw [List.length_replicate] at htv
  subst htv
  subst hpv
  have HP := Lib.hid (show Blk w4 p 38 [.int .i64 a, .int .i64 (n : Int), .int .i64 c, .int .i64 d, .int .i64 (m : Int), .pointer (some ⟨q, 0, none⟩), .pointer (some ⟨qs, 0, none⟩), .pointer (some ⟨qk, 0, none⟩), .slice (some ⟨gt, 0, none⟩) n ct, .slice Ap n cp, .int .i64 0] from HW.out.hp)
  have HC := Lib.hid hC
  have HS := Lib.hid (show ∀ V : World, Blk V p 38 [.int .i64 a, .int .i64 (n : Int), .int .i64 c, .int .i64 d, .int .i64 (m : Int), .pointer (some ⟨q, 0, none⟩), .pointer (some ⟨qs, 0, none⟩), .pointer (some ⟨qk, 0, none⟩), .slice (some ⟨gt, 0, none⟩) n ct, .slice Ap n cp, .int .i64 0] → Blk V W.heap.size 23 [.int .i64 a, .int .i64 (n : Int), .int .i64 c, .int .i64 d, .int .i64 (m : Int)] → V.cell? ⟨p, 0, none⟩ = some (.int .i64 a) ∧ V.cell? ⟨p, 1, none⟩ = some (.int .i64 (n : Int)) ∧ V.cell? ⟨p, 2, none⟩ = some (.int .i64 c) ∧ V.cell? ⟨p, 3, none⟩ = some (.int .i64 d) ∧ V.cell? ⟨p, 4, none⟩ = some (.int .i64 (m : Int)) ∧ V.cell? ⟨p, 5, none⟩ = some (.pointer (some ⟨q, 0, none⟩)) ∧ V.cell? ⟨p, 6, none⟩ = some (.pointer (some ⟨qs, 0, none⟩)) ∧ V.cell? ⟨p, 7, none⟩ = some (.pointer (some ⟨qk, 0, none⟩)) ∧ V.cell? ⟨p, 8, none⟩ = some (.slice (some ⟨gt, 0, none⟩) n ct) ∧ V.cell? ⟨p, 9, none⟩ = some (.slice Ap n cp) ∧ V.cell? ⟨p, 10, none⟩ = some (.int .i64 0) ∧ V.cell? ⟨W.heap.size, 0, none⟩ = some (.int .i64 a) ∧ V.cell? ⟨W.heap.size, 1, none⟩ = some (.int .i64 (n : Int)) ∧ V.cell? ⟨W.heap.size, 2, none⟩ = some (.int .i64 c) ∧ V.cell? ⟨W.heap.size, 3, none⟩ = some (.int .i64 d) ∧ V.cell? ⟨W.heap.size, 4, none⟩ = some (.int .i64 (m : Int)) from fun V h h' => ⟨h.cell 0, h.cell 1, h.cell 2, h.cell 3, h.cell 4, h.cell 5, h.cell 6, h.cell 7, h.cell 8, h.cell 9, h.cell 10, h'.cell 0, h'.cell 1, h'.cell 2, h'.cell 3, h'.cell 4⟩)
  have hkz := keysT_zero n c.toNat
  have HKZ := Lib.hid hkz
  have HBD := Lib.hid (And.intro ha0 (And.intro ha1 (And.intro hb0 (And.intro hb1 (And.intro hc0 (And.intro hc1 (And.intro he0 he1)))))))
  have hdr := below_drew (Below.refl w4.heap.size w4)
  have n0 := Lib.hid (HW.out.below hdr)
  have n1 := Lib.hid (show Blk w4.drew p _ _ from HP.out.below hdr)
  have n2 := Lib.hid (show Blk w4.drew W.heap.size _ _ from HK.out.below hdr)
  have n3 := Lib.hid (below_drew HB.out)
  have n4 := Lib.hid (Kd.C_drew HC.out)
  clear HW HP HK HB HC hdr
  have HW := n0
  have HP := n1
  have HK := n2
  have HB := n3
  have HC := n4
  clear n0 n1 n2 n3 n4
  clear hC hkz ha0 ha1 hb0 hb1 hc0 hc1 he0 he1
  go_wp2_with fail
  simp only [List.append_eq, List.cons_append, List.nil_append]
  go_region_held3 (fun w' => w'.cell? ⟨p, 0, none⟩ = some (.int .i64 a) ∧ w'.cell? ⟨p, 1, none⟩ = some (.int .i64 (n : Int)) ∧ w'.cell? ⟨p, 2, none⟩ = some (.int .i64 c) ∧ w'.cell? ⟨p, 3, none⟩ = some (.int .i64 d) ∧ w'.cell? ⟨p, 4, none⟩ = some (.int .i64 (m : Int)) ∧ w'.cell? ⟨p, 5, none⟩ = some (.pointer (some ⟨q, 0, none⟩)) ∧ w'.cell? ⟨p, 6, none⟩ = some (.pointer (some ⟨qs, 0, none⟩)) ∧ w'.cell? ⟨p, 7, none⟩ = some (.pointer (some ⟨qk, 0, none⟩)) ∧ w'.cell? ⟨p, 8, none⟩ = some (.slice (some ⟨gt, 0, none⟩) n ct) ∧ w'.cell? ⟨p, 9, none⟩ = some (.slice Ap n cp) ∧ w'.cell? ⟨p, 10, none⟩ = some (.int .i64 0) ∧ w'.cell? ⟨W.heap.size, 0, none⟩ = some (.int .i64 a) ∧ w'.cell? ⟨W.heap.size, 1, none⟩ = some (.int .i64 (n : Int)) ∧ w'.cell? ⟨W.heap.size, 2, none⟩ = some (.int .i64 c) ∧ w'.cell? ⟨W.heap.size, 3, none⟩ = some (.int .i64 d) ∧ w'.cell? ⟨W.heap.size, 4, none⟩ = some (.int .i64 (m : Int)))
    (first | exact HS.out _ HP.out HK.out)
    (first
      | (go_at_call 17; refine (Live_any p _ ct (List.replicate n (List.replicate c.toNat z95)) (by have := HBD.out; rw [List.length_replicate]; omega) (by have := HBD.out; intro l hl; rw [List.eq_of_mem_replicate hl, List.length_replicate]; omega) (by rw [HKZ.out]; decide) _ HP.out.lt (by rw [List.length_replicate]; exact HP.out.cell 8) HC.out).mono ?_; rintro r w5 ⟨lv, rfl, hr, hb⟩; rw [HKZ.out] at hr; obtain ⟨Al, cl, rfl⟩ : ∃ Al cl, lv = .slice Al 0 cl := Kd.R_slice hr; have n0 := Lib.hid (HW.out.below hb); have n1 := Lib.hid (show Blk w5 p _ _ from HP.out.below hb); have n2 := Lib.hid (show Blk w5 W.heap.size _ _ from HK.out.below hb); have n3 := Lib.hid (HB.out.trans (hb.mono HB.out.size)); clear HW HP HK HB HC hr hb; have HW := n0; have HP := n1; have HK := n2; have HB := n3; clear n0 n1 n2 n3)
      | (go_at_call 18; refine (Owners_any p q b1 b2 _ _ ct n (by have := HBD.out; omega) _ (HP.out.cell 5) (HP.out.cell 8) HW.out.hh).mono ?_; rintro r w6 ⟨ov, rfl, hr, hb⟩; obtain ⟨Ao, co, rfl⟩ : ∃ Ao co, ov = .slice Ao n co := (by have h := Kd.R_slice hr; rw [upto_length] at h; exact h); have n0 := Lib.hid (HW.out.below hb); have n1 := Lib.hid (show Blk w6 p _ _ from HP.out.below hb); have n2 := Lib.hid (show Blk w6 W.heap.size _ _ from HK.out.below hb); have n3 := Lib.hid (HB.out.trans (hb.mono HB.out.size)); clear HW HP HK HB hr hb; have HW := n0; have HP := n1; have HK := n2; have HB := n3; clear n0 n1 n2 n3))
  clear HP HS
  obtain ⟨s1, s2, s3, g1, g2, g3, g4⟩ := new_cells (2 + a).toNat n i
  obtain ⟨x, hx⟩ : ∃ x, decide (0 ≤ i ∧ i < (((2 + a).toNat : Nat) : Int)) = x := ⟨_, rfl⟩
  obtain ⟨y, hy⟩ : ∃ y, decide (0 ≤ i ∧ i < (n : Int)) = y := ⟨_, rfl⟩
  obtain ⟨z, hz⟩ : ∃ z, decide (0 ≤ i ∧ i < (m : Int)) = z := ⟨_, rfl⟩
  obtain ⟨st, hst⟩ : ∃ st : Int, (if 0 ≤ i ∧ i < (m : Int) then 0 else -1) = st := ⟨_, rfl⟩
  rw [hx] at g3
  rw [hy] at g4
  have f4 : (st == 0) = z := by
    rw [← hst, ← hz]
    by_cases h : 0 ≤ i ∧ i < (m : Int)
    · rw [if_pos h, decide_eq_true h]; rfl
    · rw [if_neg h, decide_eq_false h]; rfl
  have fw : wrap64 (a + 2) = a + 2 := by have := HBD.out; unfold wrap64; omega
  have G1 := Lib.hid g1
  have G2 := Lib.hid g2
  have G3 := Lib.hid g3
  have G4 := Lib.hid g4
  have HX := Lib.hid hx
  have HY := Lib.hid hy
  have HZ := Lib.hid hz
  have HST := Lib.hid hst
  clear g1 g2 g3 g4 hx hy hz hst
  by_cases h0 : 0 ≤ i
  · have f0 : decide (0 ≤ i) = true := decide_eq_true h0
    have f1 : decide (i < a + 2) = x := by rw [← HX.out]; apply decide_eq_decide.mpr; have := HBD.out; omega
    have f2 : decide (i < (n : Int)) = y := by rw [← HY.out]; apply decide_eq_decide.mpr; omega
    have f3 : decide (i < (m : Int)) = z := by rw [← HZ.out]; apply decide_eq_decide.mpr; omega
    clear h0
    have y5 : w6.cell? ⟨p, 5, none⟩ = some (.pointer (some ⟨q, 0, none⟩)) := HW.out.hp.cell 5
    have k0 : w6.cell? ⟨W.heap.size, 0, none⟩ = some (.int .i64 a) := HK.out.cell 0
    have k1 : w6.cell? ⟨W.heap.size, 1, none⟩ = some (.int .i64 (n : Int)) := HK.out.cell 1
    go_wp2_with fail
    go_at_call 15
    refine (Load_any q b1 b2 _ i _ HW.out.hh).mono ?_
    rintro e5 w7 ⟨he, hh, ht⟩
    rw [G1.out] at he hh
    obtain rfl : e5 = .returned (.int .i64 0) := he
    have n0 := Lib.hid (HW.out.touch hh ht)
    have n1 := Lib.hid (HB.out.trans (ht.below W.heap.size HW.out.lo.2.1 HW.out.lo.2.2.1 HW.out.lo.2.2.2.1 HB.out.size))
    have n2 := Lib.hid (ht.blk HK.out (blkNe HK.out HW.out.hh.hp (by decide)) (blkNe HK.out HW.out.hh.h1 (by decide)) (blkNe HK.out HW.out.hh.h2 (by decide)))
    clear HW HB HK hh ht y5 k0 k1
    have HW := n0
    have HB := n1
    have HK := n2
    clear n0 n1 n2
    have y5 : w7.cell? ⟨p, 5, none⟩ = some (.pointer (some ⟨q, 0, none⟩)) := HW.out.hp.cell 5
    have k0 : w7.cell? ⟨W.heap.size, 0, none⟩ = some (.int .i64 a) := HK.out.cell 0
    have k1 : w7.cell? ⟨W.heap.size, 1, none⟩ = some (.int .i64 (n : Int)) := HK.out.cell 1
    go_wp2_with fail
    go_at_call 19
    refine (Owner_any q b1 b2 _ i _ HW.out.hh).mono ?_
    rintro e5 w8 ⟨he, hww⟩
    rw [G2.out] at he
    subst he
    subst hww
    go_wp2_with fail
    go_at_call 14
    refine (Swap_any q b1 b2 _ i 0 1 _ HW.out.hh).mono ?_
    rintro e5 w9 ⟨he, hh, ht⟩
    rw [G3.out] at he hh
    obtain rfl : e5 = .returned (.bool x) := he
    have n0 := Lib.hid (HW.out.touch hh ht)
    have n1 := Lib.hid (HB.out.trans (ht.below W.heap.size HW.out.lo.2.1 HW.out.lo.2.2.1 HW.out.lo.2.2.2.1 HB.out.size))
    have n2 := Lib.hid (ht.blk HK.out (blkNe HK.out HW.out.hh.hp (by decide)) (blkNe HK.out HW.out.hh.h1 (by decide)) (blkNe HK.out HW.out.hh.h2 (by decide)))
    clear HW HB HK hh ht y5 k0 k1
    have HW := n0
    have HB := n1
    have HK := n2
    clear n0 n1 n2
    have y5 : w9.cell? ⟨p, 5, none⟩ = some (.pointer (some ⟨q, 0, none⟩)) := HW.out.hp.cell 5
    have k0 : w9.cell? ⟨W.heap.size, 0, none⟩ = some (.int .i64 a) := HK.out.cell 0
    have k1 : w9.cell? ⟨W.heap.size, 1, none⟩ = some (.int .i64 (n : Int)) := HK.out.cell 1
    go_wp2_with fail
    go_at_call 20
    refine (Lock_any q b1 b2 _ i 0 _ HW.out.hh).mono ?_
    rintro e5 w10 ⟨he, hh, ht⟩
    rw [G4.out] at he hh
    obtain rfl : e5 = .returned (.bool y) := he
    have n0 := Lib.hid (HW.out.touch hh ht)
    have n1 := Lib.hid (HB.out.trans (ht.below W.heap.size HW.out.lo.2.1 HW.out.lo.2.2.1 HW.out.lo.2.2.2.1 HB.out.size))
    have n2 := Lib.hid (ht.blk HK.out (blkNe HK.out HW.out.hh.hp (by decide)) (blkNe HK.out HW.out.hh.h1 (by decide)) (blkNe HK.out HW.out.hh.h2 (by decide)))
    clear HW HB HK hh ht y5 k0 k1
    have HW := n0
    have HB := n1
    have HK := n2
    clear n0 n1 n2
    have y5 : w10.cell? ⟨p, 5, none⟩ = some (.pointer (some ⟨q, 0, none⟩)) := HW.out.hp.cell 5
    have k0 : w10.cell? ⟨W.heap.size, 0, none⟩ = some (.int .i64 a) := HK.out.cell 0
    have k1 : w10.cell? ⟨W.heap.size, 1, none⟩ = some (.int .i64 (n : Int)) := HK.out.cell 1
    have y6 : w10.cell? ⟨p, 6, none⟩ = some (.pointer (some ⟨qs, 0, none⟩)) := HW.out.hp.cell 6
    go_wp2_with fail
    go_at_call 21
    refine (Begin_any qs ss m i _ (by rw [List.length_replicate]) _ HW.out.h1 HW.out.h2).mono ?_
    rintro e5 w11 ⟨he, hf, hb⟩
    rw [HZ.out] at he
    subst he
    have n0 := Lib.hid (show Blk w11 p _ _ from (hf p (blkNe HW.out.hp HW.out.h1 (by decide))).trans HW.out.hp)
    have n1 := Lib.hid (show Blk w11 qk _ _ from (hf qk (blkNe HW.out.h3 HW.out.h1 (by decide))).trans HW.out.h3)
    have n2 := Lib.hid (show Blk w11 W.heap.size _ _ from (hf W.heap.size (blkNe HK.out HW.out.h1 (by decide))).trans HK.out)
    have n3 := Lib.hid (HB.out.trans (hb W.heap.size HW.out.lo.2.2.2.2.2.1))
    have n4 := Lib.hid HW.out.lo.2.2.2.2.2.2
    clear HW HB HK hf hb y5 k0 k1 y6
    have HP := n0
    have HQ := n1
    have HK := n2
    have HB := n3
    have HLO := n4
    clear n0 n1 n2 n3 n4
    have y7 : w11.cell? ⟨p, 7, none⟩ = some (.pointer (some ⟨qk, 0, none⟩)) := HP.out.cell 7
    have k4 : w11.cell? ⟨W.heap.size, 4, none⟩ = some (.int .i64 (m : Int)) := HK.out.cell 4
    go_wp2_with fail
    go_at_call 22
    refine (State_any qk m i (by have := HBD.out; omega) _ HQ.out).mono ?_
    rintro e5 w12 ⟨he, hww⟩
    rw [HST.out] at he
    subst he
    subst hww
    go_wp2_with fail
    go_at_call 23
    refine (Take_any qk m (by have := HBD.out; omega) (by have := HBD.out; omega) _ HQ.out).mono ?_
    rintro e5 w13 ⟨rfl, hb⟩
    have n3 := Lib.hid (HB.out.trans (hb W.heap.size HLO.out))
    clear HB hb HP HQ HK y7 k4
    have HB := n3
    clear n3
    go_wp2_with fail
    go_ret
    exact ⟨rfl, HB.out⟩
  · have f0 : decide (0 ≤ i) = false := decide_eq_false h0
    obtain rfl : false = x := by rw [← HX.out]; exact (decide_eq_false (fun h => h0 h.1)).symm
    obtain rfl : false = y := by rw [← HY.out]; exact (decide_eq_false (fun h => h0 h.1)).symm
    obtain rfl : false = z := by rw [← HZ.out]; exact (decide_eq_false (fun h => h0 h.1)).symm
    clear h0
    have y5 : w6.cell? ⟨p, 5, none⟩ = some (.pointer (some ⟨q, 0, none⟩)) := HW.out.hp.cell 5
    have k0 : w6.cell? ⟨W.heap.size, 0, none⟩ = some (.int .i64 a) := HK.out.cell 0
    have k1 : w6.cell? ⟨W.heap.size, 1, none⟩ = some (.int .i64 (n : Int)) := HK.out.cell 1
    go_wp2_with fail
    go_at_call 15
    refine (Load_any q b1 b2 _ i _ HW.out.hh).mono ?_
    rintro e5 w7 ⟨he, hh, ht⟩
    rw [G1.out] at he hh
    obtain rfl : e5 = .returned (.int .i64 0) := he
    have n0 := Lib.hid (HW.out.touch hh ht)
    have n1 := Lib.hid (HB.out.trans (ht.below W.heap.size HW.out.lo.2.1 HW.out.lo.2.2.1 HW.out.lo.2.2.2.1 HB.out.size))
    have n2 := Lib.hid (ht.blk HK.out (blkNe HK.out HW.out.hh.hp (by decide)) (blkNe HK.out HW.out.hh.h1 (by decide)) (blkNe HK.out HW.out.hh.h2 (by decide)))
    clear HW HB HK hh ht y5 k0 k1
    have HW := n0
    have HB := n1
    have HK := n2
    clear n0 n1 n2
    have y5 : w7.cell? ⟨p, 5, none⟩ = some (.pointer (some ⟨q, 0, none⟩)) := HW.out.hp.cell 5
    have k0 : w7.cell? ⟨W.heap.size, 0, none⟩ = some (.int .i64 a) := HK.out.cell 0
    have k1 : w7.cell? ⟨W.heap.size, 1, none⟩ = some (.int .i64 (n : Int)) := HK.out.cell 1
    go_wp2_with fail
    go_at_call 19
    refine (Owner_any q b1 b2 _ i _ HW.out.hh).mono ?_
    rintro e5 w8 ⟨he, hww⟩
    rw [G2.out] at he
    subst he
    subst hww
    go_wp2_with fail
    go_at_call 14
    refine (Swap_any q b1 b2 _ i 0 1 _ HW.out.hh).mono ?_
    rintro e5 w9 ⟨he, hh, ht⟩
    rw [G3.out] at he hh
    obtain rfl : e5 = .returned (.bool false) := he
    have n0 := Lib.hid (HW.out.touch hh ht)
    have n1 := Lib.hid (HB.out.trans (ht.below W.heap.size HW.out.lo.2.1 HW.out.lo.2.2.1 HW.out.lo.2.2.2.1 HB.out.size))
    have n2 := Lib.hid (ht.blk HK.out (blkNe HK.out HW.out.hh.hp (by decide)) (blkNe HK.out HW.out.hh.h1 (by decide)) (blkNe HK.out HW.out.hh.h2 (by decide)))
    clear HW HB HK hh ht y5 k0 k1
    have HW := n0
    have HB := n1
    have HK := n2
    clear n0 n1 n2
    have y5 : w9.cell? ⟨p, 5, none⟩ = some (.pointer (some ⟨q, 0, none⟩)) := HW.out.hp.cell 5
    have k0 : w9.cell? ⟨W.heap.size, 0, none⟩ = some (.int .i64 a) := HK.out.cell 0
    have k1 : w9.cell? ⟨W.heap.size, 1, none⟩ = some (.int .i64 (n : Int)) := HK.out.cell 1
    go_wp2_with fail
    go_at_call 20
    refine (Lock_any q b1 b2 _ i 0 _ HW.out.hh).mono ?_
    rintro e5 w10 ⟨he, hh, ht⟩
    rw [G4.out] at he hh
    obtain rfl : e5 = .returned (.bool false) := he
    have n0 := Lib.hid (HW.out.touch hh ht)
    have n1 := Lib.hid (HB.out.trans (ht.below W.heap.size HW.out.lo.2.1 HW.out.lo.2.2.1 HW.out.lo.2.2.2.1 HB.out.size))
    have n2 := Lib.hid (ht.blk HK.out (blkNe HK.out HW.out.hh.hp (by decide)) (blkNe HK.out HW.out.hh.h1 (by decide)) (blkNe HK.out HW.out.hh.h2 (by decide)))
    clear HW HB HK hh ht y5 k0 k1
    have HW := n0
    have HB := n1
    have HK := n2
    clear n0 n1 n2
    have y5 : w10.cell? ⟨p, 5, none⟩ = some (.pointer (some ⟨q, 0, none⟩)) := HW.out.hp.cell 5
    have k0 : w10.cell? ⟨W.heap.size, 0, none⟩ = some (.int .i64 a) := HK.out.cell 0
    have k1 : w10.cell? ⟨W.heap.size, 1, none⟩ = some (.int .i64 (n : Int)) := HK.out.cell 1
    have y6 : w10.cell? ⟨p, 6, none⟩ = some (.pointer (some ⟨qs, 0, none⟩)) := HW.out.hp.cell 6
    go_wp2_with fail
    go_at_call 21
    refine (Begin_any qs ss m i _ (by rw [List.length_replicate]) _ HW.out.h1 HW.out.h2).mono ?_
    rintro e5 w11 ⟨he, hf, hb⟩
    rw [HZ.out] at he
    subst he
    have n0 := Lib.hid (show Blk w11 p _ _ from (hf p (blkNe HW.out.hp HW.out.h1 (by decide))).trans HW.out.hp)
    have n1 := Lib.hid (show Blk w11 qk _ _ from (hf qk (blkNe HW.out.h3 HW.out.h1 (by decide))).trans HW.out.h3)
    have n2 := Lib.hid (show Blk w11 W.heap.size _ _ from (hf W.heap.size (blkNe HK.out HW.out.h1 (by decide))).trans HK.out)
    have n3 := Lib.hid (HB.out.trans (hb W.heap.size HW.out.lo.2.2.2.2.2.1))
    have n4 := Lib.hid HW.out.lo.2.2.2.2.2.2
    clear HW HB HK hf hb y5 k0 k1 y6
    have HP := n0
    have HQ := n1
    have HK := n2
    have HB := n3
    have HLO := n4
    clear n0 n1 n2 n3 n4
    have y7 : w11.cell? ⟨p, 7, none⟩ = some (.pointer (some ⟨qk, 0, none⟩)) := HP.out.cell 7
    have k4 : w11.cell? ⟨W.heap.size, 4, none⟩ = some (.int .i64 (m : Int)) := HK.out.cell 4
    go_wp2_with fail
    go_at_call 22
    refine (State_any qk m i (by have := HBD.out; omega) _ HQ.out).mono ?_
    rintro e5 w12 ⟨he, hww⟩
    rw [HST.out] at he
    subst he
    subst hww
    go_wp2_with fail
    go_at_call 23
    refine (Take_any qk m (by have := HBD.out; omega) (by have := HBD.out; omega) _ HQ.out).mono ?_
    rintro e5 w13 ⟨rfl, hb⟩
    have n3 := Lib.hid (HB.out.trans (hb W.heap.size HLO.out))
    clear HB hb HP HQ HK y7 k4
    have HB := n3
    clear n3
    go_wp2_with fail
    go_ret
    exact ⟨rfl, HB.out⟩
end


/-- THE PURE STATEMENT of gangplanklaw18_WorldNew. -/
def gangplanklaw18_WorldNew.Pure : Prop := ∀ (a0_0 : Int) (a0_1 : Int) (a0_2 : Int) (a0_3 : Int) (a0_4 : Int) (a1 : Int), ((Lit.int .i64 a0_0).wf = true) → ((Lit.int .i64 a0_1).wf = true) → ((Lit.int .i64 a0_2).wf = true) → ((Lit.int .i64 a0_3).wf = true) → ((Lit.int .i64 a0_4).wf = true) → ((Lit.int .i64 a1).wf = true) → gangplanklaw18_WorldNew.f a0_0 a0_1 a0_2 a0_3 a0_4 a1 = some true

end Go.Proofs.Ytbbgeobnjdgpfaa.P
