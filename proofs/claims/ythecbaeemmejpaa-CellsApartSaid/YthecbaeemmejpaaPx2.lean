/- Each Go function that the laws reach, as a plain function, with the proof that the machine's call comes to what it says; of a law: its row. Made by a program of this seat (wip/hp.py, over the print). -/
import Derived.Test.YthecbaeemmejpaaPx0
import Derived.Test.YthecbaeemmejpaaPx1
namespace Go.Proofs.Ythecbaeemmejpaa.P
open Go.RowKit Go.Proofs.YthecbaeemmejpaaW.PrintWords Go.Proofs.YthecbaeemmejpaaW.PrintLast Go.Proofs.YthecbaeemmejpaaW.PrintMore
attribute [local go_sem] max2_int min2_int max_two min_two max_three min_three max_four min_four   -- for this text's walks alone
set_option linter.unusedVariables false
set_option linter.unusedSimpArgs false

/-! ### gangplanklaw14_works: function 21 -/
section
open Go.Shelf Go.Proofs.Ythecbaeemmejpaa.Hand
theorem w14_0 : CS.add ⟨[0], [-1], 0⟩ 0 5 = (5, ⟨[5], [-1], 1⟩) := by kernel_rfl
theorem w14_1 : CS.lock ⟨[5], [-1], 1⟩ 0 3 = (true, ⟨[5], [3], 2⟩) := by kernel_rfl
theorem w14_2 : CS.lock ⟨[5], [3], 2⟩ 0 4 = (false, ⟨[5], [3], 3⟩) := by kernel_rfl
theorem w14_3 : CS.owner ⟨[5], [3], 3⟩ 0 = 3 := by kernel_rfl
theorem w14_4 : CS.unlock ⟨[5], [3], 3⟩ 0 4 = (false, ⟨[5], [3], 4⟩) := by kernel_rfl
theorem w14_5 : CS.unlock ⟨[5], [3], 4⟩ 0 3 = (true, ⟨[5], [-1], 5⟩) := by kernel_rfl
theorem w14_6 : CS.swap ⟨[5], [-1], 5⟩ 0 5 7 = (true, ⟨[7], [-1], 6⟩) := by kernel_rfl
theorem w14_7 : CS.swap ⟨[7], [-1], 6⟩ 0 5 8 = (false, ⟨[7], [-1], 7⟩) := by kernel_rfl
theorem w14_8 : CS.owner ⟨[7], [-1], 7⟩ 0 = (-1) := by kernel_rfl
theorem w14_9 : CS.load ⟨[7], [-1], 7⟩ 0 = (7, ⟨[7], [-1], 8⟩) := by kernel_rfl
theorem w14_10 : CS.load ⟨[7], [-1], 8⟩ 1 = (0, ⟨[7], [-1], 8⟩) := by kernel_rfl
theorem w14_11 : CS.owner ⟨[7], [-1], 8⟩ 9 = (-1) := by kernel_rfl
set_option maxRecDepth 100000 in
set_option maxHeartbeats 8000000 in
theorem works14_any (W : World) : Calls Try.prog 21 #[] W fun e W' => e = .returned (.bool true) ∧ Below W.heap.size W W' := by
  go_enter Try.func21, Try.ntmps21
  go_wp2_with fail
  go_at_call 22
  refine (New_any 1 1 1 1 (by decide) (by decide) _).mono ?_
  rintro e w1 ⟨p, b1, b2, rfl, hh, hp, hp1, hp2, hb⟩
  have HS := Lib.hid (show Held w1 p b1 b2 ⟨[0], [-1], 0⟩ from hh)
  have HP := Lib.hid (show W.heap.size ≤ p ∧ W.heap.size ≤ b1 ∧ W.heap.size ≤ b2 from ⟨hp, hp1, hp2⟩)
  have HB := Lib.hid hb
  clear hh hp hp1 hp2 hb
  go_wp2_with fail
  go_at_call 23
  refine (Add_any p b1 b2 ⟨[0], [-1], 0⟩ 0 5 _ HS.out).mono ?_
  rintro e w1 ⟨he, hh, ht⟩
  rw [w14_0] at he hh
  obtain rfl : e = .returned (.int .i64 5) := he
  have n0 := Lib.hid (show Held w1 p b1 b2 ⟨[5], [-1], 1⟩ from hh)
  have n1 := Lib.hid (HB.out.trans (ht.below W.heap.size HP.out.1 HP.out.2.1 HP.out.2.2 HB.out.size))
  clear HS HB hh ht
  have HS := n0
  have HB := n1
  clear n0 n1
  go_wp2_with fail
  go_at_call 32
  refine (Lock_any p b1 b2 ⟨[5], [-1], 1⟩ 0 3 _ HS.out).mono ?_
  rintro e w1 ⟨he, hh, ht⟩
  rw [w14_1] at he hh
  obtain rfl : e = .returned (.bool true) := he
  have n0 := Lib.hid (show Held w1 p b1 b2 ⟨[5], [3], 2⟩ from hh)
  have n1 := Lib.hid (HB.out.trans (ht.below W.heap.size HP.out.1 HP.out.2.1 HP.out.2.2 HB.out.size))
  clear HS HB hh ht
  have HS := n0
  have HB := n1
  clear n0 n1
  go_wp2_with fail
  go_at_call 32
  refine (Lock_any p b1 b2 ⟨[5], [3], 2⟩ 0 4 _ HS.out).mono ?_
  rintro e w1 ⟨he, hh, ht⟩
  rw [w14_2] at he hh
  obtain rfl : e = .returned (.bool false) := he
  have n0 := Lib.hid (show Held w1 p b1 b2 ⟨[5], [3], 3⟩ from hh)
  have n1 := Lib.hid (HB.out.trans (ht.below W.heap.size HP.out.1 HP.out.2.1 HP.out.2.2 HB.out.size))
  clear HS HB hh ht
  have HS := n0
  have HB := n1
  clear n0 n1
  go_wp2_with fail
  go_at_call 31
  refine (Owner_any p b1 b2 ⟨[5], [3], 3⟩ 0 _ HS.out).mono ?_
  rintro e w1 ⟨he, rfl⟩
  rw [w14_3] at he
  obtain rfl : e = .returned (.int .i64 3) := he
  go_wp2_with fail
  go_at_call 33
  refine (Unlock_any p b1 b2 ⟨[5], [3], 3⟩ 0 4 _ HS.out).mono ?_
  rintro e w1 ⟨he, hh, ht⟩
  rw [w14_4] at he hh
  obtain rfl : e = .returned (.bool false) := he
  have n0 := Lib.hid (show Held w1 p b1 b2 ⟨[5], [3], 4⟩ from hh)
  have n1 := Lib.hid (HB.out.trans (ht.below W.heap.size HP.out.1 HP.out.2.1 HP.out.2.2 HB.out.size))
  clear HS HB hh ht
  have HS := n0
  have HB := n1
  clear n0 n1
  go_wp2_with fail
  go_at_call 33
  refine (Unlock_any p b1 b2 ⟨[5], [3], 4⟩ 0 3 _ HS.out).mono ?_
  rintro e w1 ⟨he, hh, ht⟩
  rw [w14_5] at he hh
  obtain rfl : e = .returned (.bool true) := he
  have n0 := Lib.hid (show Held w1 p b1 b2 ⟨[5], [-1], 5⟩ from hh)
  have n1 := Lib.hid (HB.out.trans (ht.below W.heap.size HP.out.1 HP.out.2.1 HP.out.2.2 HB.out.size))
  clear HS HB hh ht
  have HS := n0
  have HB := n1
  clear n0 n1
  go_wp2_with fail
  go_at_call 30
  refine (Swap_any p b1 b2 ⟨[5], [-1], 5⟩ 0 5 7 _ HS.out).mono ?_
  rintro e w1 ⟨he, hh, ht⟩
  rw [w14_6] at he hh
  obtain rfl : e = .returned (.bool true) := he
  have n0 := Lib.hid (show Held w1 p b1 b2 ⟨[7], [-1], 6⟩ from hh)
  have n1 := Lib.hid (HB.out.trans (ht.below W.heap.size HP.out.1 HP.out.2.1 HP.out.2.2 HB.out.size))
  clear HS HB hh ht
  have HS := n0
  have HB := n1
  clear n0 n1
  go_wp2_with fail
  go_at_call 30
  refine (Swap_any p b1 b2 ⟨[7], [-1], 6⟩ 0 5 8 _ HS.out).mono ?_
  rintro e w1 ⟨he, hh, ht⟩
  rw [w14_7] at he hh
  obtain rfl : e = .returned (.bool false) := he
  have n0 := Lib.hid (show Held w1 p b1 b2 ⟨[7], [-1], 7⟩ from hh)
  have n1 := Lib.hid (HB.out.trans (ht.below W.heap.size HP.out.1 HP.out.2.1 HP.out.2.2 HB.out.size))
  clear HS HB hh ht
  have HS := n0
  have HB := n1
  clear n0 n1
  go_wp2_with fail
  go_at_call 31
  refine (Owner_any p b1 b2 ⟨[7], [-1], 7⟩ 0 _ HS.out).mono ?_
  rintro e w1 ⟨he, rfl⟩
  rw [w14_8] at he
  obtain rfl : e = .returned (.int .i64 (-1)) := he
  go_wp2_with fail
  go_at_call 24
  refine (Load_any p b1 b2 ⟨[7], [-1], 7⟩ 0 _ HS.out).mono ?_
  rintro e w1 ⟨he, hh, ht⟩
  rw [w14_9] at he hh
  obtain rfl : e = .returned (.int .i64 7) := he
  have n0 := Lib.hid (show Held w1 p b1 b2 ⟨[7], [-1], 8⟩ from hh)
  have n1 := Lib.hid (HB.out.trans (ht.below W.heap.size HP.out.1 HP.out.2.1 HP.out.2.2 HB.out.size))
  clear HS HB hh ht
  have HS := n0
  have HB := n1
  clear n0 n1
  go_wp2_with fail
  go_at_call 24
  refine (Load_any p b1 b2 ⟨[7], [-1], 8⟩ 1 _ HS.out).mono ?_
  rintro e w1 ⟨he, hh, ht⟩
  rw [w14_10] at he hh
  obtain rfl : e = .returned (.int .i64 0) := he
  have n0 := Lib.hid (show Held w1 p b1 b2 ⟨[7], [-1], 8⟩ from hh)
  have n1 := Lib.hid (HB.out.trans (ht.below W.heap.size HP.out.1 HP.out.2.1 HP.out.2.2 HB.out.size))
  clear HS HB hh ht
  have HS := n0
  have HB := n1
  clear n0 n1
  go_wp2_with fail
  go_at_call 31
  refine (Owner_any p b1 b2 ⟨[7], [-1], 8⟩ 9 _ HS.out).mono ?_
  rintro e w1 ⟨he, rfl⟩
  rw [w14_11] at he
  obtain rfl : e = .returned (.int .i64 (-1)) := he
  go_wp2_with fail
  go_at_call 28
  refine (Shared_any p b1 b2 ⟨[7], [-1], 8⟩ _ HS.out).mono ?_
  rintro e w1 ⟨he, rfl⟩
  obtain rfl : e = .returned (.int .i64 8) := he
  go_wp2_with fail
  go_ret
  exact ⟨rfl, HB.out⟩
end

-- NOT PRINTED: function 29 (cells_Cells_Store)

-- NOT PRINTED: function 26 (gangplanklaw14_do)

/-! ### gangplanklaw14_CellsHold: function 11 -/
section
open Go.Shelf Go.Proofs.Ythecbaeemmejpaa.Hand
theorem act_len (s : CS) (k i a b : Int) : (s.act k i a b).2.cells.length = s.cells.length ∧ (s.act k i a b).2.owners.length = s.owners.length := by
  unfold CS.act CS.load CS.store CS.add CS.swap CS.lock CS.unlock CS.turn
  repeat' split
  all_goals simp
theorem act_other (s : CS) (k i a b : Int) (j : Int) (hj : 0 ≤ j) (h : i ≠ j) : (s.act k i a b).2.cells.getD j.toNat 0 = s.cells.getD j.toNat 0 := by
  have hn : 0 ≤ i → i.toNat ≠ j.toNat := fun h0 => by omega
  have hs : ∀ v : Int, 0 ≤ i → (s.cells.set i.toNat v).getD j.toNat 0 = s.cells.getD j.toNat 0 := fun v h0 => by
    rw [List.getD_eq_getElem?_getD, List.getElem?_set_ne (hn h0), ← List.getD_eq_getElem?_getD]
  unfold CS.act CS.load CS.store CS.add CS.swap CS.lock CS.unlock CS.turn
  repeat' split
  all_goals first | rfl | exact hs _ (by omega)
theorem getD_set (l : List Int) (i : Int) (h0 : 0 ≤ i) (h1 : i < l.length) (v : Int) : (l.set i.toNat v).getD i.toNat 0 = v := by
  rw [List.getD_eq_getElem?_getD, List.getElem?_set_self (by omega)]; rfl
theorem store_in (s : CS) (i v : Int) (h0 : 0 ≤ i) (h1 : i < s.cells.length) : s.store i v = { s with shared := wrap64 (s.shared + 1), cells := s.cells.set i.toNat v } := if_pos ⟨h0, h1⟩
theorem load_in (s : CS) (i : Int) (h0 : 0 ≤ i) (h1 : i < s.cells.length) : s.load i = (s.cells.getD i.toNat 0, { s with shared := wrap64 (s.shared + 1) }) := if_pos ⟨h0, h1⟩
theorem add_in (s : CS) (i d : Int) (h0 : 0 ≤ i) (h1 : i < s.cells.length) : s.add i d = (wrap64 (s.cells.getD i.toNat 0 + d), { s with shared := wrap64 (s.shared + 1), cells := s.cells.set i.toNat (wrap64 (s.cells.getD i.toNat 0 + d)) }) := if_pos ⟨h0, h1⟩
theorem w14s {x : Int} (h : -1000000000 ≤ x ∧ x ≤ 1000000000) : wrap64 x = x := by unfold wrap64; omega
theorem w3 (n : Int) : wrap64 (wrap64 (wrap64 (n + 1) + 1) + 1) = wrap64 (n + 3) := by unfold wrap64; omega
theorem w_ne (v : Int) : v ≠ wrap64 (v + 1) := by unfold wrap64; omega
/-- What is held, looked at: the five tells of the law. -/
theorem hold_tells (s : CS) (i v w : Int) (h0 : 0 ≤ i) (h1 : i < s.cells.length) (hv : s.cells.getD i.toNat 0 = v) :
    ∃ s1 s2 s3 s4 s5, s.load i = (v, s1) ∧ s1.add i w = (wrap64 (v + w), s2) ∧ s2.swap i (wrap64 (v + w)) v = (true, s3) ∧ s3.load i = (v, s4) ∧ s4.shared = wrap64 (s1.shared + 3) ∧ s4.swap i (wrap64 (v + 1)) 0 = (false, s5) := by
  have e1 := load_in s i h0 h1
  rw [hv] at e1
  have e2 := add_in { s with shared := wrap64 (s.shared + 1) } i w h0 h1
  dsimp only at e2
  rw [hv] at e2
  have l2 : (s.cells.set i.toNat (wrap64 (v + w))).length = s.cells.length := List.length_set
  have e3 : CS.swap { s with shared := wrap64 (wrap64 (s.shared + 1) + 1), cells := s.cells.set i.toNat (wrap64 (v + w)) } i (wrap64 (v + w)) v = (true, { s with shared := wrap64 (wrap64 (wrap64 (s.shared + 1) + 1) + 1), cells := (s.cells.set i.toNat (wrap64 (v + w))).set i.toNat v }) := by
    unfold CS.swap
    rw [if_pos ⟨h0, by dsimp only; omega⟩, if_pos (getD_set _ _ h0 h1 _)]
  have l3 : ((s.cells.set i.toNat (wrap64 (v + w))).set i.toNat v).length = s.cells.length := by rw [List.length_set, List.length_set]
  have hv3 : ((s.cells.set i.toNat (wrap64 (v + w))).set i.toNat v).getD i.toNat 0 = v := getD_set _ _ h0 (by omega) _
  have e4 := load_in { s with shared := wrap64 (wrap64 (wrap64 (s.shared + 1) + 1) + 1), cells := (s.cells.set i.toNat (wrap64 (v + w))).set i.toNat v } i h0 (by dsimp only; omega)
  dsimp only at e4
  rw [hv3] at e4
  have e5 : CS.swap { s with shared := wrap64 (wrap64 (wrap64 (wrap64 (s.shared + 1) + 1) + 1) + 1), cells := (s.cells.set i.toNat (wrap64 (v + w))).set i.toNat v } i (wrap64 (v + 1)) 0 = (false, { s with shared := wrap64 (wrap64 (wrap64 (wrap64 (wrap64 (s.shared + 1) + 1) + 1) + 1) + 1), cells := (s.cells.set i.toNat (wrap64 (v + w))).set i.toNat v }) := by
    unfold CS.swap
    rw [if_pos ⟨h0, by dsimp only; omega⟩, if_neg (by dsimp only; rw [hv3]; exact w_ne v)]
  exact ⟨_, _, _, _, _, e1, e2, e3, e4, w3 _, e5⟩
def gangplanklaw14_CellsHold.f (a0 : Int) (l1 : List S47) (a2 : Int) (a3 : Int) (a4 : Int) : Option Bool := some true
set_option maxRecDepth 100000 in
set_option maxHeartbeats 16000000 in
theorem gangplanklaw14_CellsHold.calls (a0 : Int) (A1 : Option Addr) (c1 : Nat) (l1 : List S47) (a2 : Int) (a3 : Int) (a4 : Int) (r : Bool) (w : World) (hr1 : Kd.C k47 w A1 l1.length l1) (hc1 : l1.length ≤ c1) (h : gangplanklaw14_CellsHold.f a0 l1 a2 a3 a4 = some r) :
    Calls Try.prog 11 #[.int .i64 a0, .slice A1 l1.length c1, .int .i64 a2, .int .i64 a3, .int .i64 a4] w fun e w' => e = .returned (.bool r) ∧ Below w.heap.size w w' := by
  obtain rfl : true = r := Option.some.inj h
  clear h
  have HR := Lib.hid hr1
  clear hr1
  refine (callsIn_wide (n := 6)).1 ?_
  have hro : Fence.wide.round = none := rfl
  refine callsIn_of_wp Try.func11 rfl trivial ?_ hro
  simp only [Try.ntmps11, List.size_toArray, List.length_cons, List.length_nil, Nat.reduceAdd, Nat.reduceSub, Array.replicate_succ, Array.replicate_zero, List.push_toArray, List.append_toArray, List.nil_append, List.cons_append]
  by_cases g0 : 60 < (l1.length : Int)
  · have q0 : decide (60 < (l1.length : Int)) = true := decide_eq_true g0
    gi_wp2_with (refine ⟨trivial, ?_⟩; gi_at_call 21; refine (callsIn_wide.2 (works14_any _)).mono ?_; rintro e w1 ⟨rfl, hb⟩)
    go_ret
    exact ⟨rfl, hb⟩
  have q0 : decide (60 < (l1.length : Int)) = false := decide_eq_false g0
  by_cases g1 : a2 < 0
  · have q1 : decide (a2 < 0) = true := decide_eq_true g1
    gi_wp2_with (refine ⟨trivial, ?_⟩; gi_at_call 21; refine (callsIn_wide.2 (works14_any _)).mono ?_; rintro e w1 ⟨rfl, hb⟩)
    go_ret
    exact ⟨rfl, hb⟩
  have q1 : decide (a2 < 0) = false := decide_eq_false g1
  by_cases g2 : a0 ≤ a2
  · have q2 : decide (a0 ≤ a2) = true := decide_eq_true g2
    gi_wp2_with (refine ⟨trivial, ?_⟩; gi_at_call 21; refine (callsIn_wide.2 (works14_any _)).mono ?_; rintro e w1 ⟨rfl, hb⟩)
    go_ret
    exact ⟨rfl, hb⟩
  have q2 : decide (a0 ≤ a2) = false := decide_eq_false g2
  by_cases g3 : 1024 ≤ a2
  · have q3 : decide (1024 ≤ a2) = true := decide_eq_true g3
    gi_wp2_with (refine ⟨trivial, ?_⟩; gi_at_call 21; refine (callsIn_wide.2 (works14_any _)).mono ?_; rintro e w1 ⟨rfl, hb⟩)
    go_ret
    exact ⟨rfl, hb⟩
  have q3 : decide (1024 ≤ a2) = false := decide_eq_false g3
  obtain ⟨N, hN⟩ : ∃ N : Nat, mn (mx a0 0) 1024 = (N : Int) := ⟨(mn (mx a0 0) 1024).toNat, by unfold mn mx; split <;> split <;> omega⟩
  have hiN : a2 < N := by rw [← hN]; unfold mn mx; split <;> split <;> omega
  have HI := Lib.hid (show 0 ≤ a2 ∧ a2 < (N : Int) from ⟨by omega, hiN⟩)
  have HN := Lib.hid hN
  have HLl := Lib.hid (show (l1.length : Int) ≤ 60 from by omega)
  clear hN hiN g0 g1 g2 g3
  gi_wp2_with (first
    | (refine ⟨trivial, ?_⟩; gi_at_call 21; refine (callsIn_wide.2 (works14_any _)).mono ?_; rintro e w1 ⟨rfl, hb⟩; have HB := Lib.hid hb; clear hb)
    | (refine ⟨trivial, ?_⟩; gi_at_call 22; refine (callsIn_wide.2 (New_any a0 a0 N N HN.out HN.out _)).mono ?_; rintro e w2 ⟨p, b1, b2, rfl, hh, hp, hp1, hp2, hb2⟩; have HS := Lib.hid (show ∃ s, Held w2 p b1 b2 s ∧ s.cells.length = N from ⟨_, hh, by simp⟩); have HP := Lib.hid (show w.heap.size ≤ p ∧ w.heap.size ≤ b1 ∧ w.heap.size ≤ b2 from ⟨Nat.le_trans HB.out.size hp, Nat.le_trans HB.out.size hp1, Nat.le_trans HB.out.size hp2⟩); have HB2 := Lib.hid (HB.out.trans (hb2.mono HB.out.size)); clear hh hp hp1 hp2 hb2))
  gi_loopw [13] (fun i wr => ∃ j : Int, 0 ≤ j ∧ j ≤ l1.length ∧ i = .int .i64 j ∧ (∃ s, Held wr p b1 b2 s ∧ s.cells.length = N) ∧ Below w.heap.size w wr) (fun i _ => l1.length - (intOf i).toNat)
  case atStart => exact ⟨0, Int.le_refl _, by omega, rfl, HS.out, HB2.out⟩
  case round =>
    obtain ⟨j, hj0, hj1, rfl, ⟨s, hs, hsl⟩, hB⟩ := hrel
    clear HS HB2 HB
    have HB := Lib.hid hB
    have HS := Lib.hid hs
    have HSL := Lib.hid hsl
    clear hB hs hsl
    by_cases hlt : j < l1.length
    · obtain ⟨ad, hA, x0, x1, x2, x3⟩ := at_T47 (Kd.C_below HR.out HB.out) j hj0 hlt
      subst hA
      have hw := w14s (x := j + 1) (by have := HLl.out; omega)
      have HJ := Lib.hid (show 0 ≤ j ∧ j < l1.length from ⟨hj0, hlt⟩)
      have p0 : decide (0 ≤ j) = true := decide_eq_true hj0
      have p1 : decide (j < (l1.length : Int)) = true := decide_eq_true hlt
      gi_wp2_with (refine ⟨trivial, ?_⟩; gi_at_call 26; refine (callsIn_wide.2 (do_any p b1 b2 s _ _ _ _ _ HS.out)).mono ?_; rintro e w3 ⟨rfl, hh, ht⟩; have HS3 := Lib.hid hh; have HB3 := Lib.hid (HB.out.trans (ht.below w.heap.size HP.out.1 HP.out.2.1 HP.out.2.2 HB.out.size)); clear hh ht x0 x1 x2 x3)
      go_roundw
      case rel => exact ⟨j + 1, by have := HJ.out; omega, by have := HJ.out; omega, by rw [hw], ⟨_, HS3.out, by rw [(act_len _ _ _ _ _).1]; exact HSL.out⟩, HB3.out⟩
      case measure =>
        rw [hw]
        show l1.length - (j + 1).toNat < l1.length - j.toNat
        have := HJ.out
        omega
    · obtain rfl : j = l1.length := by omega
      clear hj0 hj1 hlt
      gi_wp2_with (refine ⟨trivial, ?_⟩; gi_at_call 29; refine (callsIn_wide.2 (Store_any p b1 b2 s a2 a3 _ HS.out)).mono ?_; rintro e w3 ⟨rfl, hh, ht⟩; have HS3 := Lib.hid (show ∃ s, Held w3 p b1 b2 s ∧ s.cells.length = N ∧ s.cells.getD a2.toNat 0 = a3 from ⟨_, hh, by rw [store_in _ _ _ HI.out.1 (by rw [HSL.out]; exact HI.out.2)]; exact ⟨by dsimp only; rw [List.length_set]; exact HSL.out, getD_set _ _ HI.out.1 (by rw [HSL.out]; exact HI.out.2) _⟩⟩); have HB3 := Lib.hid (HB.out.trans (ht.below w.heap.size HP.out.1 HP.out.2.1 HP.out.2.2 HB.out.size)); clear hh ht)
      gi_loopw [14] (fun i wr => ∃ j : Int, 0 ≤ j ∧ j ≤ l1.length ∧ i = .int .i64 j ∧ (∃ s, Held wr p b1 b2 s ∧ s.cells.length = N ∧ s.cells.getD a2.toNat 0 = a3) ∧ Below w.heap.size w wr) (fun i _ => l1.length - (intOf i).toNat)
      case atStart => exact ⟨0, Int.le_refl _, by omega, rfl, HS3.out, HB3.out⟩
      clear HS HB HSL HS3 HB3
      obtain ⟨j, hj0, hj1, rfl, ⟨s, hs, hsl, hsv⟩, hB⟩ := hrel
      have HB := Lib.hid hB
      have HS := Lib.hid hs
      have HSL := Lib.hid hsl
      have HSV := Lib.hid hsv
      clear hB hs hsl hsv
      by_cases hlt : j < l1.length
      · obtain ⟨ad, hA, x0, x1, x2, x3⟩ := at_T47 (Kd.C_below HR.out HB.out) j hj0 hlt
        subst hA
        have hw := w14s (x := j + 1) (by have := HLl.out; omega)
        have HJ := Lib.hid (show 0 ≤ j ∧ j < l1.length from ⟨hj0, hlt⟩)
        have p0 : decide (0 ≤ j) = true := decide_eq_true hj0
        have p1 : decide (j < (l1.length : Int)) = true := decide_eq_true hlt
        by_cases hx : (rd_T47 l1 j).f1 = a2
        · have z0 : ((rd_T47 l1 j).f1 != a2) = false := bne_eq_false_iff_eq.mpr hx
          have z1 : ((rd_T47 l1 j).f1 == a2) = true := beq_iff_eq.mpr hx
          clear hx
          gi_wp2
          go_roundw
          case rel => exact ⟨j + 1, by have := HJ.out; omega, by have := HJ.out; omega, by rw [hw], ⟨_, HS.out, HSL.out, HSV.out⟩, HB.out⟩
          case measure =>
            rw [hw]
            show l1.length - (j + 1).toNat < l1.length - j.toNat
            have := HJ.out
            omega
        · have z0 : ((rd_T47 l1 j).f1 != a2) = true := bne_iff_ne.mpr hx
          have z1 : ((rd_T47 l1 j).f1 == a2) = false := beq_eq_false_iff_ne.mpr hx
          have HX := Lib.hid hx
          clear hx
          gi_wp2_with (refine ⟨trivial, ?_⟩; gi_at_call 26; refine (callsIn_wide.2 (do_any p b1 b2 s _ _ _ _ _ HS.out)).mono ?_; rintro e w3 ⟨rfl, hh, ht⟩; have HS3 := Lib.hid hh; have HB3 := Lib.hid (HB.out.trans (ht.below w.heap.size HP.out.1 HP.out.2.1 HP.out.2.2 HB.out.size)); clear hh ht x0 x1 x2 x3)
          go_roundw
          case rel => exact ⟨j + 1, by have := HJ.out; omega, by have := HJ.out; omega, by rw [hw], ⟨_, HS3.out, by rw [(act_len _ _ _ _ _).1]; exact HSL.out, by rw [act_other _ _ _ _ _ _ HI.out.1 HX.out]; exact HSV.out⟩, HB3.out⟩
          case measure =>
            rw [hw]
            show l1.length - (j + 1).toNat < l1.length - j.toNat
            have := HJ.out
            omega
      obtain rfl : j = l1.length := by omega
      clear hj0 hj1 hlt
      obtain ⟨s1, s2, s3, s4, s5, t1, t2, t3, t4, t5, t6⟩ := hold_tells s a2 a3 a4 HI.out.1 (by rw [HSL.out]; exact HI.out.2) HSV.out
      gi_wp2_with fail
      refine ⟨trivial, ?_⟩
      gi_at_call 24
      refine (callsIn_wide.2 (Load_any p b1 b2 s a2 _ HS.out)).mono ?_
      rintro e w4 ⟨he, hh, ht⟩
      rw [t1] at he hh
      obtain rfl : e = .returned (.int .i64 a3) := he
      have n0 := Lib.hid (show Held w4 p b1 b2 s1 from hh)
      have n1 := Lib.hid (HB.out.trans (ht.below w.heap.size HP.out.1 HP.out.2.1 HP.out.2.2 HB.out.size))
      clear HS HB hh ht
      have HS := n0
      have HB := n1
      clear n0 n1
      gi_wp2_with fail
      refine ⟨trivial, ?_⟩
      gi_at_call 28
      refine (callsIn_wide.2 (Shared_any p b1 b2 s1 _ HS.out)).mono ?_
      rintro e w5 ⟨he, rfl⟩
      obtain rfl : e = .returned (.int .i64 s1.shared) := he
      gi_wp2_with fail
      refine ⟨trivial, ?_⟩
      gi_at_call 23
      refine (callsIn_wide.2 (Add_any p b1 b2 s1 a2 a4 _ HS.out)).mono ?_
      rintro e w6 ⟨he, hh, ht⟩
      rw [t2] at he hh
      obtain rfl : e = .returned (.int .i64 (wrap64 (a3 + a4))) := he
      have n0 := Lib.hid (show Held w6 p b1 b2 s2 from hh)
      have n1 := Lib.hid (HB.out.trans (ht.below w.heap.size HP.out.1 HP.out.2.1 HP.out.2.2 HB.out.size))
      clear HS HB hh ht
      have HS := n0
      have HB := n1
      clear n0 n1
      gi_wp2_with fail
      refine ⟨trivial, ?_⟩
      gi_at_call 30
      refine (callsIn_wide.2 (Swap_any p b1 b2 s2 a2 (wrap64 (a3 + a4)) a3 _ HS.out)).mono ?_
      rintro e w7 ⟨he, hh, ht⟩
      rw [t3] at he hh
      obtain rfl : e = .returned (.bool true) := he
      have n0 := Lib.hid (show Held w7 p b1 b2 s3 from hh)
      have n1 := Lib.hid (HB.out.trans (ht.below w.heap.size HP.out.1 HP.out.2.1 HP.out.2.2 HB.out.size))
      clear HS HB hh ht
      have HS := n0
      have HB := n1
      clear n0 n1
      gi_wp2_with fail
      refine ⟨trivial, ?_⟩
      gi_at_call 24
      refine (callsIn_wide.2 (Load_any p b1 b2 s3 a2 _ HS.out)).mono ?_
      rintro e w8 ⟨he, hh, ht⟩
      rw [t4] at he hh
      obtain rfl : e = .returned (.int .i64 a3) := he
      have n0 := Lib.hid (show Held w8 p b1 b2 s4 from hh)
      have n1 := Lib.hid (HB.out.trans (ht.below w.heap.size HP.out.1 HP.out.2.1 HP.out.2.2 HB.out.size))
      clear HS HB hh ht
      have HS := n0
      have HB := n1
      clear n0 n1
      gi_wp2_with fail
      refine ⟨trivial, ?_⟩
      gi_at_call 28
      refine (callsIn_wide.2 (Shared_any p b1 b2 s4 _ HS.out)).mono ?_
      rintro e w9 ⟨he, rfl⟩
      rw [t5] at he
      obtain rfl : e = .returned (.int .i64 (wrap64 (s1.shared + 3))) := he
      gi_wp2_with fail
      refine ⟨trivial, ?_⟩
      gi_at_call 30
      refine (callsIn_wide.2 (Swap_any p b1 b2 s4 a2 (wrap64 (a3 + 1)) 0 _ HS.out)).mono ?_
      rintro e w10 ⟨he, hh, ht⟩
      rw [t6] at he hh
      obtain rfl : e = .returned (.bool false) := he
      have n0 := Lib.hid (show Held w10 p b1 b2 s5 from hh)
      have n1 := Lib.hid (HB.out.trans (ht.below w.heap.size HP.out.1 HP.out.2.1 HP.out.2.2 HB.out.size))
      clear HS HB hh ht
      have HS := n0
      have HB := n1
      clear n0 n1
      gi_wp2
      go_ret
      exact ⟨rfl, HB.out⟩
end


/-- THE PURE STATEMENT of gangplanklaw14_CellsHold. -/
def gangplanklaw14_CellsHold.Pure : Prop := ∀ (a0 : Int) (l1 : List (S47)) (a2 : Int) (a3 : Int) (a4 : Int), ((Lit.int .i64 a0).wf = true) → (l1.length ≤ maxLen) → ((∀ x ∈ l1, okS47 x)) → ((Lit.int .i64 a2).wf = true) → ((Lit.int .i64 a3).wf = true) → ((Lit.int .i64 a4).wf = true) → gangplanklaw14_CellsHold.f a0 l1 a2 a3 a4 = some true

/-! ### gangplanklaw14_CellsLock: function 12 -/
section
open Go.Shelf Go.Proofs.Ythecbaeemmejpaa.Hand
theorem getD_same (l : List Int) (i : Nat) (h : i < l.length) (v : Int) : (l.set i v).getD i 0 = v := by
  rw [List.getD_eq_getElem?_getD, List.getElem?_set_self h]; rfl
theorem turn_yes (s : CS) (i who old v : Int) (h0 : 0 ≤ i) (h1 : i < s.owners.length) (hw : 0 ≤ who) (hx : s.owners.getD i.toNat 0 = old) : ∃ s', s.turn i who old v = (true, s') ∧ s'.owners.length = s.owners.length ∧ s'.owners.getD i.toNat 0 = v := by
  refine ⟨{ s with shared := wrap64 (s.shared + 1), owners := s.owners.set i.toNat v }, ?_, by simp, getD_same _ _ (by omega) _⟩
  unfold CS.turn
  rw [if_pos ⟨h0, h1⟩, if_pos ⟨hw, hx⟩]
theorem turn_no (s : CS) (i who old v : Int) (h0 : 0 ≤ i) (h1 : i < s.owners.length) (hx : s.owners.getD i.toNat 0 ≠ old) : ∃ s', s.turn i who old v = (false, s') ∧ s'.owners.length = s.owners.length ∧ s'.owners.getD i.toNat 0 = s.owners.getD i.toNat 0 := by
  refine ⟨{ s with shared := wrap64 (s.shared + 1) }, ?_, rfl, rfl⟩
  unfold CS.turn
  rw [if_pos ⟨h0, h1⟩, if_neg (fun h => hx h.2)]
theorem owner_in (s : CS) (i : Int) (h0 : 0 ≤ i) (h1 : i < s.owners.length) : s.owner i = s.owners.getD i.toNat 0 := if_pos ⟨h0, h1⟩
theorem act_own (s : CS) (k i a b : Int) (h : ∀ j, j < s.owners.length → -1 ≤ s.owners.getD j 0) : ∀ j, j < (s.act k i a b).2.owners.length → -1 ≤ (s.act k i a b).2.owners.getD j 0 := by
  have hs : ∀ (v : Int) (m : Nat), -1 ≤ v → ∀ j, j < (s.owners.set m v).length → -1 ≤ (s.owners.set m v).getD j 0 := fun v m hv j hj => by
    rw [List.length_set] at hj
    by_cases e : m = j
    · subst e; rw [getD_same _ _ hj]; exact hv
    · rw [List.getD_eq_getElem?_getD, List.getElem?_set_ne e, ← List.getD_eq_getElem?_getD]; exact h j hj
  unfold CS.act CS.load CS.store CS.add CS.swap CS.lock CS.unlock CS.turn
  repeat' split
  all_goals first | exact h | exact hs _ _ (by omega)
theorem lock_free (s : CS) (i who other : Int) (h0 : 0 ≤ i) (h1 : i < s.owners.length) (hx : s.owners.getD i.toNat 0 = -1) (hw : 0 ≤ who) (ho : 0 ≤ other) (hne : who ≠ other) :
    ∃ s1 s2 s3 s4 s5 s6 s7, s.owner i = -1 ∧ s.lock i who = (true, s1) ∧ s1.owner i = who ∧ s1.lock i who = (false, s2) ∧ s2.lock i other = (false, s3) ∧ s3.unlock i other = (false, s4) ∧ s4.owner i = who ∧ s4.unlock i who = (true, s5) ∧ s5.unlock i who = (false, s6) ∧ s6.lock i other = (true, s7) := by
  obtain ⟨s1, e1, l1, x1⟩ := turn_yes s i who (-1) who h0 h1 hw hx
  obtain ⟨s2, e2, l2, x2⟩ := turn_no s1 i who (-1) who h0 (by omega) (by omega)
  obtain ⟨s3, e3, l3, x3⟩ := turn_no s2 i other (-1) other h0 (by omega) (by omega)
  obtain ⟨s4, e4, l4, x4⟩ := turn_no s3 i other other (-1) h0 (by omega) (by omega)
  obtain ⟨s5, e5, l5, x5⟩ := turn_yes s4 i who who (-1) h0 (by omega) hw (by omega)
  obtain ⟨s6, e6, l6, x6⟩ := turn_no s5 i who who (-1) h0 (by omega) (by omega)
  obtain ⟨s7, e7, l7, x7⟩ := turn_yes s6 i other (-1) other h0 (by omega) ho (by omega)
  exact ⟨s1, s2, s3, s4, s5, s6, s7, (owner_in s i h0 h1).trans hx, e1, (owner_in s1 i h0 (by omega)).trans x1, e2, e3, e4, (owner_in s4 i h0 (by omega)).trans (by omega), e5, e6, e7⟩
theorem lock_held (s : CS) (i who x : Int) (h0 : 0 ≤ i) (h1 : i < s.owners.length) (hx : s.owners.getD i.toNat 0 = x) (hx0 : 0 ≤ x) :
    ∃ s1 s2, s.owner i = x ∧ s.lock i who = (false, s1) ∧ s1.owner i = x ∧ s1.unlock i x = (true, s2) ∧ s2.owner i = -1 := by
  obtain ⟨s1, e1, l1, x1⟩ := turn_no s i who (-1) who h0 h1 (by omega)
  obtain ⟨s2, e2, l2, x2⟩ := turn_yes s1 i x x (-1) h0 (by omega) hx0 (by omega)
  exact ⟨s1, s2, (owner_in s i h0 h1).trans hx, e1, (owner_in s1 i h0 (by omega)).trans (by omega), e2, (owner_in s2 i h0 (by omega)).trans x2⟩
def gangplanklaw14_CellsLock.f (a0 : Int) (l1 : List S47) (a2 : Int) (a3 : Int) (a4 : Int) : Option Bool := some true
set_option maxRecDepth 100000 in
set_option maxHeartbeats 16000000 in
theorem gangplanklaw14_CellsLock.calls (a0 : Int) (A1 : Option Addr) (c1 : Nat) (l1 : List S47) (a2 : Int) (a3 : Int) (a4 : Int) (r : Bool) (w : World) (hr1 : Kd.C k47 w A1 l1.length l1) (hc1 : l1.length ≤ c1) (h : gangplanklaw14_CellsLock.f a0 l1 a2 a3 a4 = some r) :
    Calls Try.prog 12 #[.int .i64 a0, .slice A1 l1.length c1, .int .i64 a2, .int .i64 a3, .int .i64 a4] w fun e w' => e = .returned (.bool r) ∧ Below w.heap.size w w' := by
  obtain rfl : true = r := Option.some.inj h
  clear h
  have HR := Lib.hid hr1
  clear hr1
  refine (callsIn_wide (n := 6)).1 ?_
  have hro : Fence.wide.round = none := rfl
  refine callsIn_of_wp Try.func12 rfl trivial ?_ hro
  simp only [Try.ntmps12, List.size_toArray, List.length_cons, List.length_nil, Nat.reduceAdd, Nat.reduceSub, Array.replicate_succ, Array.replicate_zero, List.push_toArray, List.append_toArray, List.nil_append, List.cons_append]
  by_cases g0 : 60 < (l1.length : Int)
  · have q0 : decide (60 < (l1.length : Int)) = true := decide_eq_true g0
    gi_wp2_with (refine ⟨trivial, ?_⟩; gi_at_call 21; refine (callsIn_wide.2 (works14_any _)).mono ?_; rintro e w1 ⟨rfl, hb⟩)
    go_ret
    exact ⟨rfl, hb⟩
  have q0 : decide (60 < (l1.length : Int)) = false := decide_eq_false g0
  by_cases g1 : a2 < 0
  · have q1 : decide (a2 < 0) = true := decide_eq_true g1
    gi_wp2_with (refine ⟨trivial, ?_⟩; gi_at_call 21; refine (callsIn_wide.2 (works14_any _)).mono ?_; rintro e w1 ⟨rfl, hb⟩)
    go_ret
    exact ⟨rfl, hb⟩
  have q1 : decide (a2 < 0) = false := decide_eq_false g1
  by_cases g2 : a0 ≤ a2
  · have q2 : decide (a0 ≤ a2) = true := decide_eq_true g2
    gi_wp2_with (refine ⟨trivial, ?_⟩; gi_at_call 21; refine (callsIn_wide.2 (works14_any _)).mono ?_; rintro e w1 ⟨rfl, hb⟩)
    go_ret
    exact ⟨rfl, hb⟩
  have q2 : decide (a0 ≤ a2) = false := decide_eq_false g2
  by_cases g3 : 1024 ≤ a2
  · have q3 : decide (1024 ≤ a2) = true := decide_eq_true g3
    gi_wp2_with (refine ⟨trivial, ?_⟩; gi_at_call 21; refine (callsIn_wide.2 (works14_any _)).mono ?_; rintro e w1 ⟨rfl, hb⟩)
    go_ret
    exact ⟨rfl, hb⟩
  have q3 : decide (1024 ≤ a2) = false := decide_eq_false g3
  by_cases g4 : a3 < 0
  · have q4 : decide (a3 < 0) = true := decide_eq_true g4
    gi_wp2_with (refine ⟨trivial, ?_⟩; gi_at_call 21; refine (callsIn_wide.2 (works14_any _)).mono ?_; rintro e w1 ⟨rfl, hb⟩)
    go_ret
    exact ⟨rfl, hb⟩
  have q4 : decide (a3 < 0) = false := decide_eq_false g4
  by_cases g5 : a4 < 0
  · have q5 : decide (a4 < 0) = true := decide_eq_true g5
    gi_wp2_with (refine ⟨trivial, ?_⟩; gi_at_call 21; refine (callsIn_wide.2 (works14_any _)).mono ?_; rintro e w1 ⟨rfl, hb⟩)
    go_ret
    exact ⟨rfl, hb⟩
  have q5 : decide (a4 < 0) = false := decide_eq_false g5
  by_cases g6 : a3 = a4
  · have q6 : (a3 == a4) = true := beq_iff_eq.mpr g6
    clear g6
    gi_wp2_with (refine ⟨trivial, ?_⟩; gi_at_call 21; refine (callsIn_wide.2 (works14_any _)).mono ?_; rintro e w1 ⟨rfl, hb⟩)
    go_ret
    exact ⟨rfl, hb⟩
  have q6 : (a3 == a4) = false := beq_eq_false_iff_ne.mpr g6
  obtain ⟨N, hN⟩ : ∃ N : Nat, mn (mx a0 0) 1024 = (N : Int) := ⟨(mn (mx a0 0) 1024).toNat, by unfold mn mx; split <;> split <;> omega⟩
  have hiN : a2 < N := by rw [← hN]; unfold mn mx; split <;> split <;> omega
  have HI := Lib.hid (show 0 ≤ a2 ∧ a2 < (N : Int) from ⟨by omega, hiN⟩)
  have HN := Lib.hid hN
  have HLl := Lib.hid (show (l1.length : Int) ≤ 60 from by omega)
  have HG := Lib.hid (show 0 ≤ a3 ∧ 0 ≤ a4 ∧ a3 ≠ a4 from ⟨by omega, by omega, g6⟩)
  clear hN hiN g0 g1 g2 g3 g4 g5 g6
  gi_wp2_with (first
    | (refine ⟨trivial, ?_⟩; gi_at_call 21; refine (callsIn_wide.2 (works14_any _)).mono ?_; rintro e w1 ⟨rfl, hb⟩; have HB := Lib.hid hb; clear hb)
    | (refine ⟨trivial, ?_⟩; gi_at_call 22; refine (callsIn_wide.2 (New_any a0 a0 N N HN.out HN.out _)).mono ?_; rintro e w2 ⟨p, b1, b2, rfl, hh, hp, hp1, hp2, hb2⟩; have HS := Lib.hid (show ∃ s, Held w2 p b1 b2 s ∧ s.owners.length = N ∧ (∀ j, j < s.owners.length → -1 ≤ s.owners.getD j 0) from ⟨_, hh, by simp, fun j hj => by dsimp only at hj ⊢; rw [List.length_replicate] at hj; rw [List.getD_eq_getElem?_getD, List.getElem?_replicate, if_pos hj]; exact Int.le_refl _⟩); have HP := Lib.hid (show w.heap.size ≤ p ∧ w.heap.size ≤ b1 ∧ w.heap.size ≤ b2 from ⟨Nat.le_trans HB.out.size hp, Nat.le_trans HB.out.size hp1, Nat.le_trans HB.out.size hp2⟩); have HB2 := Lib.hid (HB.out.trans (hb2.mono HB.out.size)); clear hh hp hp1 hp2 hb2))
  gi_loopw [13] (fun i wr => ∃ j : Int, 0 ≤ j ∧ j ≤ l1.length ∧ i = .int .i64 j ∧ (∃ s, Held wr p b1 b2 s ∧ s.owners.length = N ∧ (∀ j, j < s.owners.length → -1 ≤ s.owners.getD j 0)) ∧ Below w.heap.size w wr) (fun i _ => l1.length - (intOf i).toNat)
  case atStart => exact ⟨0, Int.le_refl _, by omega, rfl, HS.out, HB2.out⟩
  case round =>
    obtain ⟨j, hj0, hj1, rfl, ⟨s, hs, hsl, hso⟩, hB⟩ := hrel
    clear HS HB2 HB
    have HB := Lib.hid hB
    have HS := Lib.hid hs
    have HSL := Lib.hid hsl
    have HSO := Lib.hid hso
    clear hB hs hsl hso
    by_cases hlt : j < l1.length
    · obtain ⟨ad, hA, x0, x1, x2, x3⟩ := at_T47 (Kd.C_below HR.out HB.out) j hj0 hlt
      subst hA
      have hw := w14s (x := j + 1) (by have := HLl.out; omega)
      have HJ := Lib.hid (show 0 ≤ j ∧ j < l1.length from ⟨hj0, hlt⟩)
      have p0 : decide (0 ≤ j) = true := decide_eq_true hj0
      have p1 : decide (j < (l1.length : Int)) = true := decide_eq_true hlt
      gi_wp2_with (refine ⟨trivial, ?_⟩; gi_at_call 26; refine (callsIn_wide.2 (do_any p b1 b2 s _ _ _ _ _ HS.out)).mono ?_; rintro e w3 ⟨rfl, hh, ht⟩; have HS3 := Lib.hid hh; have HB3 := Lib.hid (HB.out.trans (ht.below w.heap.size HP.out.1 HP.out.2.1 HP.out.2.2 HB.out.size)); clear hh ht x0 x1 x2 x3)
      go_roundw
      case rel => exact ⟨j + 1, by have := HJ.out; omega, by have := HJ.out; omega, by rw [hw], ⟨_, HS3.out, by rw [(act_len _ _ _ _ _).2]; exact HSL.out, act_own _ _ _ _ _ HSO.out⟩, HB3.out⟩
      case measure =>
        rw [hw]
        show l1.length - (j + 1).toNat < l1.length - j.toNat
        have := HJ.out
        omega
    · obtain rfl : j = l1.length := by omega
      clear hj0 hj1 hlt
      obtain ⟨x, hx⟩ : ∃ x, s.owners.getD a2.toNat 0 = x := ⟨_, rfl⟩
      have hxg : -1 ≤ x := by rw [← hx]; exact HSO.out _ (by have := HSL.out; have := HI.out; omega)
      by_cases hx0 : x < 0
      · have hxm : x = -1 := by omega
        obtain ⟨s1, s2, s3, s4, s5, s6, s7, t1, t2, t3, t4, t5, t6, t7, t8, t9, t10⟩ := lock_free s a2 a3 a4 HI.out.1 (by rw [HSL.out]; exact HI.out.2) (by rw [hx, hxm]) HG.out.1 HG.out.2.1 HG.out.2.2
        clear hx hxg hx0 hxm
        gi_wp2_with fail
        refine ⟨trivial, ?_⟩
        gi_at_call 31
        refine (callsIn_wide.2 (Owner_any p b1 b2 s a2 _ HS.out)).mono ?_
        rintro e w4 ⟨he, rfl⟩
        rw [t1] at he
        obtain rfl : e = .returned (.int .i64 (-1)) := he
        gi_wp2_with fail
        refine ⟨trivial, ?_⟩
        gi_at_call 32
        refine (callsIn_wide.2 (Lock_any p b1 b2 s a2 a3 _ HS.out)).mono ?_
        rintro e w5 ⟨he, hh, ht⟩
        rw [t2] at he hh
        obtain rfl : e = .returned (.bool true) := he
        have n0 := Lib.hid (show Held w5 p b1 b2 s1 from hh)
        have n1 := Lib.hid (HB.out.trans (ht.below w.heap.size HP.out.1 HP.out.2.1 HP.out.2.2 HB.out.size))
        clear HS HB hh ht
        have HS := n0
        have HB := n1
        clear n0 n1
        gi_wp2_with fail
        refine ⟨trivial, ?_⟩
        gi_at_call 31
        refine (callsIn_wide.2 (Owner_any p b1 b2 s1 a2 _ HS.out)).mono ?_
        rintro e w6 ⟨he, rfl⟩
        rw [t3] at he
        obtain rfl : e = .returned (.int .i64 a3) := he
        gi_wp2_with fail
        refine ⟨trivial, ?_⟩
        gi_at_call 32
        refine (callsIn_wide.2 (Lock_any p b1 b2 s1 a2 a3 _ HS.out)).mono ?_
        rintro e w7 ⟨he, hh, ht⟩
        rw [t4] at he hh
        obtain rfl : e = .returned (.bool false) := he
        have n0 := Lib.hid (show Held w7 p b1 b2 s2 from hh)
        have n1 := Lib.hid (HB.out.trans (ht.below w.heap.size HP.out.1 HP.out.2.1 HP.out.2.2 HB.out.size))
        clear HS HB hh ht
        have HS := n0
        have HB := n1
        clear n0 n1
        gi_wp2_with fail
        refine ⟨trivial, ?_⟩
        gi_at_call 32
        refine (callsIn_wide.2 (Lock_any p b1 b2 s2 a2 a4 _ HS.out)).mono ?_
        rintro e w8 ⟨he, hh, ht⟩
        rw [t5] at he hh
        obtain rfl : e = .returned (.bool false) := he
        have n0 := Lib.hid (show Held w8 p b1 b2 s3 from hh)
        have n1 := Lib.hid (HB.out.trans (ht.below w.heap.size HP.out.1 HP.out.2.1 HP.out.2.2 HB.out.size))
        clear HS HB hh ht
        have HS := n0
        have HB := n1
        clear n0 n1
        gi_wp2_with fail
        refine ⟨trivial, ?_⟩
        gi_at_call 33
        refine (callsIn_wide.2 (Unlock_any p b1 b2 s3 a2 a4 _ HS.out)).mono ?_
        rintro e w9 ⟨he, hh, ht⟩
        rw [t6] at he hh
        obtain rfl : e = .returned (.bool false) := he
        have n0 := Lib.hid (show Held w9 p b1 b2 s4 from hh)
        have n1 := Lib.hid (HB.out.trans (ht.below w.heap.size HP.out.1 HP.out.2.1 HP.out.2.2 HB.out.size))
        clear HS HB hh ht
        have HS := n0
        have HB := n1
        clear n0 n1
        gi_wp2_with fail
        refine ⟨trivial, ?_⟩
        gi_at_call 31
        refine (callsIn_wide.2 (Owner_any p b1 b2 s4 a2 _ HS.out)).mono ?_
        rintro e w10 ⟨he, rfl⟩
        rw [t7] at he
        obtain rfl : e = .returned (.int .i64 a3) := he
        gi_wp2_with fail
        refine ⟨trivial, ?_⟩
        gi_at_call 33
        refine (callsIn_wide.2 (Unlock_any p b1 b2 s4 a2 a3 _ HS.out)).mono ?_
        rintro e w11 ⟨he, hh, ht⟩
        rw [t8] at he hh
        obtain rfl : e = .returned (.bool true) := he
        have n0 := Lib.hid (show Held w11 p b1 b2 s5 from hh)
        have n1 := Lib.hid (HB.out.trans (ht.below w.heap.size HP.out.1 HP.out.2.1 HP.out.2.2 HB.out.size))
        clear HS HB hh ht
        have HS := n0
        have HB := n1
        clear n0 n1
        gi_wp2_with fail
        refine ⟨trivial, ?_⟩
        gi_at_call 33
        refine (callsIn_wide.2 (Unlock_any p b1 b2 s5 a2 a3 _ HS.out)).mono ?_
        rintro e w12 ⟨he, hh, ht⟩
        rw [t9] at he hh
        obtain rfl : e = .returned (.bool false) := he
        have n0 := Lib.hid (show Held w12 p b1 b2 s6 from hh)
        have n1 := Lib.hid (HB.out.trans (ht.below w.heap.size HP.out.1 HP.out.2.1 HP.out.2.2 HB.out.size))
        clear HS HB hh ht
        have HS := n0
        have HB := n1
        clear n0 n1
        gi_wp2_with fail
        refine ⟨trivial, ?_⟩
        gi_at_call 32
        refine (callsIn_wide.2 (Lock_any p b1 b2 s6 a2 a4 _ HS.out)).mono ?_
        rintro e w13 ⟨he, hh, ht⟩
        rw [t10] at he hh
        obtain rfl : e = .returned (.bool true) := he
        have n0 := Lib.hid (show Held w13 p b1 b2 s7 from hh)
        have n1 := Lib.hid (HB.out.trans (ht.below w.heap.size HP.out.1 HP.out.2.1 HP.out.2.2 HB.out.size))
        clear HS HB hh ht
        have HS := n0
        have HB := n1
        clear n0 n1
        gi_wp2
        go_ret
        exact ⟨rfl, HB.out⟩
      · have hxn : decide (x < 0) = false := decide_eq_false hx0
        obtain ⟨s1, s2, t1, t2, t3, t4, t5⟩ := lock_held s a2 a3 x HI.out.1 (by rw [HSL.out]; exact HI.out.2) hx (by omega)
        clear hx hxg hx0
        gi_wp2_with fail
        refine ⟨trivial, ?_⟩
        gi_at_call 31
        refine (callsIn_wide.2 (Owner_any p b1 b2 s a2 _ HS.out)).mono ?_
        rintro e w4 ⟨he, rfl⟩
        rw [t1] at he
        obtain rfl : e = .returned (.int .i64 x) := he
        gi_wp2_with fail
        refine ⟨trivial, ?_⟩
        gi_at_call 32
        refine (callsIn_wide.2 (Lock_any p b1 b2 s a2 a3 _ HS.out)).mono ?_
        rintro e w5 ⟨he, hh, ht⟩
        rw [t2] at he hh
        obtain rfl : e = .returned (.bool false) := he
        have n0 := Lib.hid (show Held w5 p b1 b2 s1 from hh)
        have n1 := Lib.hid (HB.out.trans (ht.below w.heap.size HP.out.1 HP.out.2.1 HP.out.2.2 HB.out.size))
        clear HS HB hh ht
        have HS := n0
        have HB := n1
        clear n0 n1
        gi_wp2_with fail
        refine ⟨trivial, ?_⟩
        gi_at_call 31
        refine (callsIn_wide.2 (Owner_any p b1 b2 s1 a2 _ HS.out)).mono ?_
        rintro e w6 ⟨he, rfl⟩
        rw [t3] at he
        obtain rfl : e = .returned (.int .i64 x) := he
        gi_wp2_with fail
        refine ⟨trivial, ?_⟩
        gi_at_call 31
        refine (callsIn_wide.2 (Owner_any p b1 b2 s1 a2 _ HS.out)).mono ?_
        rintro e w7 ⟨he, rfl⟩
        rw [t3] at he
        obtain rfl : e = .returned (.int .i64 x) := he
        gi_wp2_with fail
        refine ⟨trivial, ?_⟩
        gi_at_call 33
        refine (callsIn_wide.2 (Unlock_any p b1 b2 s1 a2 x _ HS.out)).mono ?_
        rintro e w8 ⟨he, hh, ht⟩
        rw [t4] at he hh
        obtain rfl : e = .returned (.bool true) := he
        have n0 := Lib.hid (show Held w8 p b1 b2 s2 from hh)
        have n1 := Lib.hid (HB.out.trans (ht.below w.heap.size HP.out.1 HP.out.2.1 HP.out.2.2 HB.out.size))
        clear HS HB hh ht
        have HS := n0
        have HB := n1
        clear n0 n1
        gi_wp2_with fail
        refine ⟨trivial, ?_⟩
        gi_at_call 31
        refine (callsIn_wide.2 (Owner_any p b1 b2 s2 a2 _ HS.out)).mono ?_
        rintro e w9 ⟨he, rfl⟩
        rw [t5] at he
        obtain rfl : e = .returned (.int .i64 (-1)) := he
        gi_wp2
        go_ret
        exact ⟨rfl, HB.out⟩
end


/-- THE PURE STATEMENT of gangplanklaw14_CellsLock. -/
def gangplanklaw14_CellsLock.Pure : Prop := ∀ (a0 : Int) (l1 : List (S47)) (a2 : Int) (a3 : Int) (a4 : Int), ((Lit.int .i64 a0).wf = true) → (l1.length ≤ maxLen) → ((∀ x ∈ l1, okS47 x)) → ((Lit.int .i64 a2).wf = true) → ((Lit.int .i64 a3).wf = true) → ((Lit.int .i64 a4).wf = true) → gangplanklaw14_CellsLock.f a0 l1 a2 a3 a4 = some true

end Go.Proofs.Ythecbaeemmejpaa.P
