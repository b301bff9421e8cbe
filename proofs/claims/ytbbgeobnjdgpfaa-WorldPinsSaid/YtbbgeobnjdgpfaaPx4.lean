/- Each Go function that the laws reach, as a plain function, with the proof that the machine's call comes to what it says; of a law: its row. Made by a program of this seat (wip/hp.py, over the print). -/
import Derived.Test.YtbbgeobnjdgpfaaPx0
import Derived.Test.YtbbgeobnjdgpfaaPx1
import Derived.Test.YtbbgeobnjdgpfaaPx2
import Derived.Test.YtbbgeobnjdgpfaaPx3
namespace Go.Proofs.Ytbbgeobnjdgpfaa.P
open Go.RowKit Go.Proofs.YtbbgeobnjdgpfaaW.PrintWords Go.Proofs.YtbbgeobnjdgpfaaW.PrintLast Go.Proofs.YtbbgeobnjdgpfaaW.PrintMore
attribute [local go_sem] max2_int min2_int max_two min_two max_three min_three max_four min_four   -- for this text's walks alone
set_option linter.unusedVariables false
set_option linter.unusedSimpArgs false

/-! ### gangplanklaw18_WorldPins: function 4 -/
section
open Go.Shelf Go.Proofs.Ytbbgeobnjdgpfaa.Hand
theorem getD_rep (n i : Nat) (x : Int) (h : i < n) : (List.replicate n x).getD i 0 = x := by simp [h]
theorem swap_new (n : Nat) (os : List Int) (i : Int) (h0 : 2 ≤ i) (h1 : i < n) : CS.swap ⟨List.replicate n 0, os, 0⟩ i 0 7 = (true, ⟨(List.replicate n 0).set i.toNat 7, os, wrap64 (0 + 1)⟩) ∧ CS.load ⟨(List.replicate n 0).set i.toNat 7, os, wrap64 (0 + 1)⟩ i = (7, ⟨(List.replicate n 0).set i.toNat 7, os, wrap64 (wrap64 (0 + 1) + 1)⟩) ∧ CS.load ⟨(List.replicate n 0).set i.toNat 7, os, wrap64 (wrap64 (0 + 1) + 1)⟩ 1 = (0, ⟨(List.replicate n 0).set i.toNat 7, os, wrap64 (wrap64 (wrap64 (0 + 1) + 1) + 1)⟩) := by
  have hl : ((List.replicate n (0 : Int)).set i.toNat 7).length = n := by simp
  refine ⟨?_, ?_, ?_⟩
  · unfold CS.swap
    rw [if_pos ⟨by omega, by simpa using h1⟩, if_pos (getD_rep n i.toNat 0 (by omega))]
  · unfold CS.load
    rw [if_pos ⟨by omega, by dsimp only; rw [hl]; exact h1⟩]
    have : ((List.replicate n (0 : Int)).set i.toNat 7).getD i.toNat 0 = 7 := by
      rw [List.getD_eq_getElem?_getD, List.getElem?_set_self (by simp; omega)]
      rfl
    dsimp only
    rw [this]
  · unfold CS.load
    rw [if_pos ⟨by omega, by dsimp only; rw [hl]; omega⟩]
    have : ((List.replicate n (0 : Int)).set i.toNat 7).getD (1 : Int).toNat 0 = 0 := by
      have h2 : 1 < n := by omega
      rw [List.getD_eq_getElem?_getD, List.getElem?_set_ne (by omega)]
      simp [h2]
    dsimp only
    rw [this]
def gangplanklaw18_WorldPins.f (a b c d e : Int) (who other : Int) : Option Bool := some true
set_option maxRecDepth 100000 in
set_option maxHeartbeats 16000000 in
theorem gangplanklaw18_WorldPins.calls (a b c d e : Int) (who other : Int) (r : Bool) (W : World) (h : gangplanklaw18_WorldPins.f a b c d e who other = some r) :
    Calls Try.prog 4 #[.agg #[.int .i64 a, .int .i64 b, .int .i64 c, .int .i64 d, .int .i64 e], .int .i64 who, .int .i64 other] W fun e w' => e = .returned (.bool r) ∧ Below W.heap.size W w' := by
  obtain rfl : true = r := Option.some.inj h
  clear h
  obtain ⟨sm, hsm⟩ : ∃ sm, gangplankref17_Small.f a b c d e = some sm := by
    unfold gangplankref17_Small.f
    split
    · split
      · exact ⟨_, rfl⟩
      · exact ⟨_, rfl⟩
    · exact ⟨_, rfl⟩
  have HSM := Lib.hid hsm
  clear hsm
  have b0 := Blk.new W 23 [.int .i64 a, .int .i64 b, .int .i64 c, .int .i64 d, .int .i64 e]
  have l0 := below_alloc (Below.refl _ W) (.cells #[.int .i64 a, .int .i64 b, .int .i64 c, .int .i64 d, .int .i64 e] 23)
  have HK := Lib.hid b0
  have HB := Lib.hid l0
  clear b0 l0
  go_enter Try.func4, Try.ntmps4
  go_wp2_with fail
  go_at_call 7
  refine (works18_any _).mono ?_
  rintro e1 w1 ⟨rfl, hb⟩
  have n0 := Lib.hid (show Blk w1 W.heap.size 23 [.int .i64 a, .int .i64 b, .int .i64 c, .int .i64 d, .int .i64 e] from HK.out.below hb)
  have n1 := Lib.hid (show Below W.heap.size W w1 from HB.out.trans (hb.mono HB.out.size))
  clear HK HB hb
  have HK := n0
  have HB := n1
  clear n0 n1
  have y0 : w1.cell? ⟨W.heap.size, 0, none⟩ = some (.int .i64 a) := HK.out.cell 0
  have y1 : w1.cell? ⟨W.heap.size, 1, none⟩ = some (.int .i64 b) := HK.out.cell 1
  have y2 : w1.cell? ⟨W.heap.size, 2, none⟩ = some (.int .i64 c) := HK.out.cell 2
  have y3 : w1.cell? ⟨W.heap.size, 3, none⟩ = some (.int .i64 d) := HK.out.cell 3
  have y4 : w1.cell? ⟨W.heap.size, 4, none⟩ = some (.int .i64 e) := HK.out.cell 4
  go_wp2_with fail
  go_at_call 8
  refine (gangplankref17_Small.calls a b c d e sm _ HSM.out).mono ?_
  rintro e2 w2 ⟨rfl, hb⟩
  clear y0 y1 y2 y3 y4
  have n0 := Lib.hid (show Blk w2 W.heap.size 23 [.int .i64 a, .int .i64 b, .int .i64 c, .int .i64 d, .int .i64 e] from HK.out.below hb)
  have n1 := Lib.hid (show Below W.heap.size W w2 from HB.out.trans (hb.mono HB.out.size))
  clear HK HB hb
  have HK := n0
  have HB := n1
  clear n0 n1
  have y0 : w2.cell? ⟨W.heap.size, 0, none⟩ = some (.int .i64 a) := HK.out.cell 0
  have y1 : w2.cell? ⟨W.heap.size, 1, none⟩ = some (.int .i64 b) := HK.out.cell 1
  have y2 : w2.cell? ⟨W.heap.size, 2, none⟩ = some (.int .i64 c) := HK.out.cell 2
  have y3 : w2.cell? ⟨W.heap.size, 3, none⟩ = some (.int .i64 d) := HK.out.cell 3
  have y4 : w2.cell? ⟨W.heap.size, 4, none⟩ = some (.int .i64 e) := HK.out.cell 4
  cases sm
  · go_wp2
    go_ret
    exact ⟨rfl, HB.out⟩
  by_cases hck : chk a b c d e ≠ 0
  · go_wp2_with fail
    go_at_call 9
    refine (New_bad a b c d e hck _).mono ?_
    rintro e3 w3 ⟨rfl, hb⟩
    have n0 := Lib.hid (show Blk w3 W.heap.size 23 [.int .i64 a, .int .i64 b, .int .i64 c, .int .i64 d, .int .i64 e] from HK.out.below hb)
    have n1 := Lib.hid (show Below W.heap.size W w3 from HB.out.trans (hb.mono HB.out.size))
    clear HK HB hb
    have HK := n0
    have HB := n1
    clear n0 n1
    obtain ⟨x, hx⟩ : ∃ x, chk a b c d e = x := ⟨_, rfl⟩
    rw [hx] at hck ⊢
    have q : (x != 0) = true := bne_iff_ne.mpr hck
    clear hx hck
    go_wp2
    go_ret
    exact ⟨rfl, HB.out⟩
  replace hck : chk a b c d e = 0 := Classical.not_not.mp hck
  obtain ⟨⟨ha0, ha1⟩, ⟨hb0, hb1⟩, _⟩ := chk_zero hck
  go_wp2_with fail
  go_at_call 9
  refine (New_good a b c d e hck _).mono ?_
  rintro e3 w3 ⟨p, q, b1, b2, qs, ss, qk, tv, pv, rfl, hw, hb⟩
  have HW := Lib.hid (hw.lower HB.out.size)
  clear y0 y1 y2 y3 y4 hw hck
  have n0 := Lib.hid (show Blk w3 W.heap.size 23 [.int .i64 a, .int .i64 b, .int .i64 c, .int .i64 d, .int .i64 e] from HK.out.below hb)
  have n1 := Lib.hid (show Below W.heap.size W w3 from HB.out.trans (hb.mono HB.out.size))
  clear HK HB hb
  have HK := n0
  have HB := n1
  clear n0 n1
  have HA := Lib.hid (And.intro ha0 ha1)
  clear ha0 ha1 hb0 hb1
  have y0 : w3.cell? ⟨W.heap.size, 0, none⟩ = some (.int .i64 a) := HK.out.cell 0
  have z5 : w3.cell? ⟨p, 5, none⟩ = some (.pointer (some ⟨q, 0, none⟩)) := HW.out.hp.cell 5
  obtain ⟨qv, hqv⟩ : ∃ qv, (if other < 1 ∨ a < other then (-1 : Int) else wrap64 (wrap64 (2 + other) - 1)) = qv := ⟨_, rfl⟩
  by_cases his : 1 ≤ who ∧ who ≤ a
  · obtain ⟨P, hP⟩ : ∃ P : Int, who + 1 = P := ⟨_, rfl⟩
    have hpv : (if who < 1 ∨ a < who then (-1 : Int) else wrap64 (wrap64 (2 + who) - 1)) = P := by
      have := HA.out
      rw [if_neg (by omega)]
      unfold wrap64
      omega
    have hpq : (P == qv) = (who == other) := by
      have := HA.out
      rw [← hqv, Bool.eq_iff_iff, beq_iff_eq, beq_iff_eq]
      unfold wrap64
      split <;> omega
    have f0 : decide (0 ≤ P) = true := decide_eq_true (by omega)
    have f1 : decide (1 ≤ who) = true := decide_eq_true his.1
    have f2 : decide (who ≤ a) = true := decide_eq_true his.2
    have f3 : decide (P < -1) = false := decide_eq_false (by omega)
    have f4 : (P == 0) = false := beq_eq_false_iff_ne.mpr (by omega)
    have f5 : (P == 1) = false := beq_eq_false_iff_ne.mpr (by omega)
    have f6 : decide (P < 0) = false := decide_eq_false (by omega)
    obtain ⟨g1, g2, g3⟩ := swap_new (2 + a).toNat (List.replicate b.toNat (-1)) P (by omega) (by have := HA.out; omega)
    have G1 := Lib.hid g1
    have G2 := Lib.hid g2
    have G3 := Lib.hid g3
    have HPV := Lib.hid hpv
    have HQV := Lib.hid hqv
    clear his hP hpv hqv g1 g2 g3
    go_wp2_with fail
    go_at_call 13
    refine (Pin_any p a who _ _ _ _ _ _ _ _ _ _ _ HW.out.hp).mono ?_
    rintro e4 w4 ⟨he, hww⟩
    rw [HPV.out] at he
    subst he
    subst hww
    go_wp2_with fail
    go_at_call 13
    refine (Pin_any p a other _ _ _ _ _ _ _ _ _ _ _ HW.out.hp).mono ?_
    rintro e4 w5 ⟨he, hww⟩
    rw [HQV.out] at he
    subst he
    subst hww
    go_wp2_with fail
    go_at_call 14
    refine (Swap_any q b1 b2 _ P 0 7 _ HW.out.hh).mono ?_
    rintro e4 w6 ⟨he, hh, ht⟩
    rw [G1.out] at he hh
    obtain rfl : e4 = .returned (.bool true) := he
    have n1 := Lib.hid (HB.out.trans (ht.below W.heap.size HW.out.lo.2.1 HW.out.lo.2.2.1 HW.out.lo.2.2.2.1 HB.out.size))
    have n0 := Lib.hid (HW.out.touch hh ht)
    clear HW HB HK y0 z5 hh ht
    have HW := n0
    have HB := n1
    clear n0 n1
    have z5 : w6.cell? ⟨p, 5, none⟩ = some (.pointer (some ⟨q, 0, none⟩)) := HW.out.hp.cell 5
    go_wp2_with fail
    go_at_call 15
    refine (Load_any q b1 b2 _ P _ HW.out.hh).mono ?_
    rintro e4 w6 ⟨he, hh, ht⟩
    rw [G2.out] at he hh
    obtain rfl : e4 = .returned (.int .i64 7) := he
    have n1 := Lib.hid (HB.out.trans (ht.below W.heap.size HW.out.lo.2.1 HW.out.lo.2.2.1 HW.out.lo.2.2.2.1 HB.out.size))
    have n0 := Lib.hid (HW.out.touch hh ht)
    clear HW HB z5 hh ht
    have HW := n0
    have HB := n1
    clear n0 n1
    have z5 : w6.cell? ⟨p, 5, none⟩ = some (.pointer (some ⟨q, 0, none⟩)) := HW.out.hp.cell 5
    go_wp2_with fail
    go_at_call 15
    refine (Load_any q b1 b2 _ 1 _ HW.out.hh).mono ?_
    rintro e4 w6 ⟨he, hh, ht⟩
    rw [G3.out] at he hh
    obtain rfl : e4 = .returned (.int .i64 0) := he
    have n1 := Lib.hid (HB.out.trans (ht.below W.heap.size HW.out.lo.2.1 HW.out.lo.2.2.1 HW.out.lo.2.2.2.1 HB.out.size))
    have n0 := Lib.hid (HW.out.touch hh ht)
    clear HW HB hh ht
    have HW := n0
    have HB := n1
    clear n0 n1
    go_wp2_with fail
    go_ret
    exact ⟨rfl, HB.out⟩
  · have hpv : (if who < 1 ∨ a < who then (-1 : Int) else wrap64 (wrap64 (2 + who) - 1)) = -1 := if_pos (by omega)
    have HPV := Lib.hid hpv
    have HQV := Lib.hid hqv
    clear hpv hqv
    by_cases h1 : 1 ≤ who
    · have f1 : decide (1 ≤ who) = true := decide_eq_true h1
      have f2 : decide (who ≤ a) = false := decide_eq_false (fun h => his ⟨h1, h⟩)
      clear h1 his
      go_wp2_with fail
      go_at_call 13
      refine (Pin_any p a who _ _ _ _ _ _ _ _ _ _ _ HW.out.hp).mono ?_
      rintro e4 w4 ⟨he, hww⟩
      rw [HPV.out] at he
      subst he
      subst hww
      go_wp2_with fail
      go_at_call 13
      refine (Pin_any p a other _ _ _ _ _ _ _ _ _ _ _ HW.out.hp).mono ?_
      rintro e4 w5 ⟨he, hww⟩
      rw [HQV.out] at he
      subst he
      subst hww
      go_wp2_with fail
      go_ret
      exact ⟨rfl, HB.out⟩
    · have f1 : decide (1 ≤ who) = false := decide_eq_false h1
      clear h1 his
      go_wp2_with fail
      go_at_call 13
      refine (Pin_any p a who _ _ _ _ _ _ _ _ _ _ _ HW.out.hp).mono ?_
      rintro e4 w4 ⟨he, hww⟩
      rw [HPV.out] at he
      subst he
      subst hww
      go_wp2_with fail
      go_at_call 13
      refine (Pin_any p a other _ _ _ _ _ _ _ _ _ _ _ HW.out.hp).mono ?_
      rintro e4 w5 ⟨he, hww⟩
      rw [HQV.out] at he
      subst he
      subst hww
      go_wp2_with fail
      go_ret
      exact ⟨rfl, HB.out⟩
end


/-- THE PURE STATEMENT of gangplanklaw18_WorldPins. -/
def gangplanklaw18_WorldPins.Pure : Prop := ∀ (a0_0 : Int) (a0_1 : Int) (a0_2 : Int) (a0_3 : Int) (a0_4 : Int) (a1 : Int) (a2 : Int), ((Lit.int .i64 a0_0).wf = true) → ((Lit.int .i64 a0_1).wf = true) → ((Lit.int .i64 a0_2).wf = true) → ((Lit.int .i64 a0_3).wf = true) → ((Lit.int .i64 a0_4).wf = true) → ((Lit.int .i64 a1).wf = true) → ((Lit.int .i64 a2).wf = true) → gangplanklaw18_WorldPins.f a0_0 a0_1 a0_2 a0_3 a0_4 a1 a2 = some true

end Go.Proofs.Ytbbgeobnjdgpfaa.P
