/- Each Go function that the laws reach, as a plain function, with the proof that the machine's call comes to what it says; of a law: its row. Made by a program of this seat (wip/hp.py, over the print). -/
import Derived.Test.YthecbaeemmejpaaPx0
import Derived.Test.YthecbaeemmejpaaPx1
namespace Go.Proofs.Ythecbaeemmejpaa.P
open Go.RowKit Go.Proofs.YthecbaeemmejpaaW.PrintWords Go.Proofs.YthecbaeemmejpaaW.PrintLast Go.Proofs.YthecbaeemmejpaaW.PrintMore
attribute [local go_sem] max2_int min2_int max_two min_two max_three min_three max_four min_four   -- for this text's walks alone
set_option linter.unusedVariables false
set_option linter.unusedSimpArgs false

/-! ### gangplanklaw14_works: function 21 -/
section
open Go.Shelf Go.Proofs.Ythecbaeemmejpaa.Hand
theorem w14_0 : CS.add ⟨[0], [-1], 0⟩ 0 5 = (5, ⟨[5], [-1], 1⟩) := by kernel_rfl
theorem w14_1 : CS.lock ⟨[5], [-1], 1⟩ 0 3 = (true, ⟨[5], [3], 2⟩) := by kernel_rfl
theorem w14_2 : CS.lock ⟨[5], [3], 2⟩ 0 4 = (false, ⟨[5], [3], 3⟩) := by kernel_rfl
theorem w14_3 : CS.owner ⟨[5], [3], 3⟩ 0 = 3 := by kernel_rfl
theorem w14_4 : CS.unlock ⟨[5], [3], 3⟩ 0 4 = (false, ⟨[5], [3], 4⟩) := by kernel_rfl
theorem w14_5 : CS.unlock ⟨[5], [3], 4⟩ 0 3 = (true, ⟨[5], [-1], 5⟩) := by kernel_rfl
theorem w14_6 : CS.swap ⟨[5], [-1], 5⟩ 0 5 7 = (true, ⟨[7], [-1], 6⟩) := by kernel_rfl
theorem w14_7 : CS.swap ⟨[7], [-1], 6⟩ 0 5 8 = (false, ⟨[7], [-1], 7⟩) := by kernel_rfl
theorem w14_8 : CS.owner ⟨[7], [-1], 7⟩ 0 = (-1) := by kernel_rfl
theorem w14_9 : CS.load ⟨[7], [-1], 7⟩ 0 = (7, ⟨[7], [-1], 8⟩) := by kernel_rfl
theorem w14_10 : CS.load ⟨[7], [-1], 8⟩ 1 = (0, ⟨[7], [-1], 8⟩) := by kernel_rfl
theorem w14_11 : CS.owner ⟨[7], [-1], 8⟩ 9 = (-1) := by kernel_rfl
set_option maxRecDepth 100000 in
set_option maxHeartbeats 8000000 in
theorem works14_any (W : World) : Calls Try.prog 21 #[] W fun e W' => e = .returned (.bool true) ∧ Below W.heap.size W W' := by
  go_enter Try.func21, Try.ntmps21
  go_wp2_with fail
  go_at_call 22
  refine (New_any 1 1 1 1 (by decide) (by decide) _).mono ?_
  rintro e w1 ⟨p, b1, b2, rfl, hh, hp, hp1, hp2, hb⟩
  have HS := Lib.hid (show Held w1 p b1 b2 ⟨[0], [-1], 0⟩ from hh)
  have HP := Lib.hid (show W.heap.size ≤ p ∧ W.heap.size ≤ b1 ∧ W.heap.size ≤ b2 from ⟨hp, hp1, hp2⟩)
  have HB := Lib.hid hb
  clear hh hp hp1 hp2 hb
  go_wp2_with fail
  go_at_call 23
  refine (Add_any p b1 b2 ⟨[0], [-1], 0⟩ 0 5 _ HS.out).mono ?_
  rintro e w1 ⟨he, hh, ht⟩
  rw [w14_0] at he hh
  obtain rfl : e = .returned (.int .i64 5) := he
  have n0 := Lib.hid (show Held w1 p b1 b2 ⟨[5], [-1], 1⟩ from hh)
  have n1 := Lib.hid (HB.out.trans (ht.below W.heap.size HP.out.1 HP.out.2.1 HP.out.2.2 HB.out.size))
  clear HS HB hh ht
  have HS := n0
  have HB := n1
  clear n0 n1
  go_wp2_with fail
  go_at_call 32
  refine (Lock_any p b1 b2 ⟨[5], [-1], 1⟩ 0 3 _ HS.out).mono ?_
  rintro e w1 ⟨he, hh, ht⟩
  rw [w14_1] at he hh
  obtain rfl : e = .returned (.bool true) := he
  have n0 := Lib.hid (show Held w1 p b1 b2 ⟨[5], [3], 2⟩ from hh)
  have n1 := Lib.hid (HB.out.trans (ht.below W.heap.size HP.out.1 HP.out.2.1 HP.out.2.2 HB.out.size))
  clear HS HB hh ht
  have HS := n0
  have HB := n1
  clear n0 n1
  go_wp2_with fail
  go_at_call 32
  refine (Lock_any p b1 b2 ⟨[5], [3], 2⟩ 0 4 _ HS.out).mono ?_
  rintro e w1 ⟨he, hh, ht⟩
  rw [w14_2] at he hh
  obtain rfl : e = .returned (.bool false) := he
  have n0 := Lib.hid (show Held w1 p b1 b2 ⟨[5], [3], 3⟩ from hh)
  have n1 := Lib.hid (HB.out.trans (ht.below W.heap.size HP.out.1 HP.out.2.1 HP.out.2.2 HB.out.size))
  clear HS HB hh ht
  have HS := n0
  have HB := n1
  clear n0 n1
  go_wp2_with fail
  go_at_call 31
  refine (Owner_any p b1 b2 ⟨[5], [3], 3⟩ 0 _ HS.out).mono ?_
  rintro e w1 ⟨he, rfl⟩
  rw [w14_3] at he
  obtain rfl : e = .returned (.int .i64 3) := he
  go_wp2_with fail
  go_at_call 33
  refine (Unlock_any p b1 b2 ⟨[5], [3], 3⟩ 0 4 _ HS.out).mono ?_
  rintro e w1 ⟨he, hh, ht⟩
  rw [w14_4] at he hh
  obtain rfl : e = .returned (.bool false) := he
  have n0 := Lib.hid (show Held w1 p b1 b2 ⟨[5], [3], 4⟩ from hh)
  have n1 := Lib.hid (HB.out.trans (ht.below W.heap.size HP.out.1 HP.out.2.1 HP.out.2.2 HB.out.size))
  clear HS HB hh ht
  have HS := n0
  have HB := n1
  clear n0 n1
  go_wp2_with fail
  go_at_call 33
  refine (Unlock_any p b1 b2 ⟨[5], [3], 4⟩ 0 3 _ HS.out).mono ?_
  rintro e w1 ⟨he, hh, ht⟩
  rw [w14_5] at he hh
  obtain rfl : e = .returned (.bool true) := he
  have n0 := Lib.hid (show Held w1 p b1 b2 ⟨[5], [-1], 5⟩ from hh)
  have n1 := Lib.hid (HB.out.trans (ht.below W.heap.size HP.out.1 HP.out.2.1 HP.out.2.2 HB.out.size))
  clear HS HB hh ht
  have HS := n0
  have HB := n1
  clear n0 n1
  go_wp2_with fail
  go_at_call 30
  refine (Swap_any p b1 b2 ⟨[5], [-1], 5⟩ 0 5 7 _ HS.out).mono ?_
  rintro e w1 ⟨he, hh, ht⟩
  rw [w14_6] at he hh
  obtain rfl : e = .returned (.bool true) := he
  have n0 := Lib.hid (show Held w1 p b1 b2 ⟨[7], [-1], 6⟩ from hh)
  have n1 := Lib.hid (HB.out.trans (ht.below W.heap.size HP.out.1 HP.out.2.1 HP.out.2.2 HB.out.size))
  clear HS HB hh ht
  have HS := n0
  have HB := n1
  clear n0 n1
  go_wp2_with fail
  go_at_call 30
  refine (Swap_any p b1 b2 ⟨[7], [-1], 6⟩ 0 5 8 _ HS.out).mono ?_
  rintro e w1 ⟨he, hh, ht⟩
  rw [w14_7] at he hh
  obtain rfl : e = .returned (.bool false) := he
  have n0 := Lib.hid (show Held w1 p b1 b2 ⟨[7], [-1], 7⟩ from hh)
  have n1 := Lib.hid (HB.out.trans (ht.below W.heap.size HP.out.1 HP.out.2.1 HP.out.2.2 HB.out.size))
  clear HS HB hh ht
  have HS := n0
  have HB := n1
  clear n0 n1
  go_wp2_with fail
  go_at_call 31
  refine (Owner_any p b1 b2 ⟨[7], [-1], 7⟩ 0 _ HS.out).mono ?_
  rintro e w1 ⟨he, rfl⟩
  rw [w14_8] at he
  obtain rfl : e = .returned (.int .i64 (-1)) := he
  go_wp2_with fail
  go_at_call 24
  refine (Load_any p b1 b2 ⟨[7], [-1], 7⟩ 0 _ HS.out).mono ?_
  rintro e w1 ⟨he, hh, ht⟩
  rw [w14_9] at he hh
  obtain rfl : e = .returned (.int .i64 7) := he
  have n0 := Lib.hid (show Held w1 p b1 b2 ⟨[7], [-1], 8⟩ from hh)
  have n1 := Lib.hid (HB.out.trans (ht.below W.heap.size HP.out.1 HP.out.2.1 HP.out.2.2 HB.out.size))
  clear HS HB hh ht
  have HS := n0
  have HB := n1
  clear n0 n1
  go_wp2_with fail
  go_at_call 24
  refine (Load_any p b1 b2 ⟨[7], [-1], 8⟩ 1 _ HS.out).mono ?_
  rintro e w1 ⟨he, hh, ht⟩
  rw [w14_10] at he hh
  obtain rfl : e = .returned (.int .i64 0) := he
  have n0 := Lib.hid (show Held w1 p b1 b2 ⟨[7], [-1], 8⟩ from hh)
  have n1 := Lib.hid (HB.out.trans (ht.below W.heap.size HP.out.1 HP.out.2.1 HP.out.2.2 HB.out.size))
  clear HS HB hh ht
  have HS := n0
  have HB := n1
  clear n0 n1
  go_wp2_with fail
  go_at_call 31
  refine (Owner_any p b1 b2 ⟨[7], [-1], 8⟩ 9 _ HS.out).mono ?_
  rintro e w1 ⟨he, rfl⟩
  rw [w14_11] at he
  obtain rfl : e = .returned (.int .i64 (-1)) := he
  go_wp2_with fail
  go_at_call 28
  refine (Shared_any p b1 b2 ⟨[7], [-1], 8⟩ _ HS.out).mono ?_
  rintro e w1 ⟨he, rfl⟩
  obtain rfl : e = .returned (.int .i64 8) := he
  go_wp2_with fail
  go_ret
  exact ⟨rfl, HB.out⟩
end

/-! ### gangplanklaw14_CellsAdds: function 9 -/
section
open Go.Shelf Go.Proofs.Ythecbaeemmejpaa.Hand
theorem atI {w : World} {A : Option Addr} {n : Nat} {xs : List Int} (h : Kd.C (Kd.int .i64) w A n xs) (i : Int) (h0 : 0 ≤ i) (h1 : i < n) : ∃ ad, A = some ad ∧ w.cell? (ad.add i.toNat) = some (.int .i64 (xs.getD i.toNat 0)) := by
  obtain ⟨ad, c, e, _, hK, hc⟩ := Kd.C_get h 0 i h0 h1
  have hK' : c = [.int .i64 (xs.getD i.toNat 0)] := hK
  subst hK'
  have h2 : w.cell? (ad.add (i.toNat * 1 + 0)) = some (.int .i64 (xs.getD i.toNat 0)) := hc 0 _ rfl
  rw [Nat.mul_one, Nat.add_zero] at h2
  exact ⟨ad, e, h2⟩
/-- The first numbers' sum. -/
def psum (l : List Int) (k : Nat) : Int := (l.take k).foldl (· + ·) 0
theorem psum_succ (l : List Int) (k : Nat) (h : k < l.length) : psum l (k + 1) = psum l k + l.getD k 0 := by
  unfold psum
  rw [List.take_succ_eq_append_getElem h, List.foldl_append]
  simp [h]
theorem ww (a b : Int) : wrap64 (wrap64 a + b) = wrap64 (a + b) := by unfold wrap64; omega
theorem wz : wrap64 0 = 0 := by unfold wrap64; omega
theorem add_at (s : CS) (i d a : Int) (h0 : 0 ≤ i) (h1 : i < s.cells.length) (hv : s.cells.getD i.toNat 0 = wrap64 a) : ∃ s', s.add i d = (wrap64 (a + d), s') ∧ s'.cells.length = s.cells.length ∧ s'.cells.getD i.toNat 0 = wrap64 (a + d) ∧ s'.cells.getD (i + 1).toNat 0 = s.cells.getD (i + 1).toNat 0 := by
  refine ⟨{ s with shared := wrap64 (s.shared + 1), cells := s.cells.set i.toNat (wrap64 (a + d)) }, ?_, by simp, ?_, ?_⟩
  · unfold CS.add
    rw [if_pos ⟨h0, h1⟩, hv, ww]
  · dsimp only
    rw [List.getD_eq_getElem?_getD, List.getElem?_set_self (by omega)]; rfl
  · dsimp only
    rw [List.getD_eq_getElem?_getD, List.getElem?_set_ne (by omega), ← List.getD_eq_getElem?_getD]
theorem load_at (s : CS) (i v : Int) (h0 : 0 ≤ i) (h1 : i < s.cells.length) (hv : s.cells.getD i.toNat 0 = v) : ∃ s', s.load i = (v, s') ∧ s'.cells = s.cells := ⟨{ s with shared := wrap64 (s.shared + 1) }, by unfold CS.load; rw [if_pos ⟨h0, h1⟩, hv], rfl⟩
def gangplanklaw14_CellsAdds.f (a0 : Int) (l1 : List Int) (l2 : List Int) : Option Bool := some true
set_option maxRecDepth 100000 in
set_option maxHeartbeats 16000000 in
theorem gangplanklaw14_CellsAdds.calls (a0 : Int) (A1 : Option Addr) (c1 : Nat) (l1 : List Int) (A2 : Option Addr) (c2 : Nat) (l2 : List Int) (r : Bool) (w : World) (hr1 : Kd.C (Kd.int .i64) w A1 l1.length l1) (hc1 : l1.length ≤ c1) (hr2 : Kd.C (Kd.int .i64) w A2 l2.length l2) (hc2 : l2.length ≤ c2) (h : gangplanklaw14_CellsAdds.f a0 l1 l2 = some r) :
    Calls Try.prog 9 #[.int .i64 a0, .slice A1 l1.length c1, .slice A2 l2.length c2] w fun e w' => e = .returned (.bool r) ∧ Below w.heap.size w w' := by
  obtain rfl : true = r := Option.some.inj h
  clear h
  have HR := Lib.hid hr1
  have HR2 := Lib.hid hr2
  clear hr1 hr2
  go_enter Try.func9, Try.ntmps9
  by_cases g0 : 60 < (l1.length : Int)
  · have q0 : decide (60 < (l1.length : Int)) = true := decide_eq_true g0
    go_wp2_with (go_at_call 21; refine (works14_any _).mono ?_; rintro e w1 ⟨rfl, hb⟩)
    go_ret
    exact ⟨rfl, hb⟩
  have q0 : decide (60 < (l1.length : Int)) = false := decide_eq_false g0
  by_cases g1 : 60 < (l2.length : Int)
  · have q1 : decide (60 < (l2.length : Int)) = true := decide_eq_true g1
    go_wp2_with (go_at_call 21; refine (works14_any _).mono ?_; rintro e w1 ⟨rfl, hb⟩)
    go_ret
    exact ⟨rfl, hb⟩
  have q1 : decide (60 < (l2.length : Int)) = false := decide_eq_false g1
  by_cases g2 : a0 < 0
  · have q2 : decide (a0 < 0) = true := decide_eq_true g2
    go_wp2_with (go_at_call 21; refine (works14_any _).mono ?_; rintro e w1 ⟨rfl, hb⟩)
    go_ret
    exact ⟨rfl, hb⟩
  have q2 : decide (a0 < 0) = false := decide_eq_false g2
  by_cases g3 : 60 < a0
  · have q3 : decide (60 < a0) = true := decide_eq_true g3
    go_wp2_with (go_at_call 21; refine (works14_any _).mono ?_; rintro e w1 ⟨rfl, hb⟩)
    go_ret
    exact ⟨rfl, hb⟩
  have q3 : decide (60 < a0) = false := decide_eq_false g3
  have hw1 : wrap64 (a0 + 1) = a0 + 1 := w14s (by omega)
  have hw2 : wrap64 (a0 + 2) = a0 + 2 := w14s (by omega)
  have HN1 := Lib.hid (show mn (mx (a0 + 1) 0) 1024 = (((a0 + 1).toNat : Nat) : Int) from by unfold mn mx; split <;> split <;> omega)
  have HN2 := Lib.hid (show mn (mx (a0 + 2) 0) 1024 = (((a0 + 2).toNat : Nat) : Int) from by unfold mn mx; split <;> split <;> omega)
  have HLl := Lib.hid (show (l1.length : Int) ≤ 60 ∧ (l2.length : Int) ≤ 60 ∧ 0 ≤ a0 ∧ a0 ≤ 60 from by omega)
  clear g0 g1 g2 g3
  go_wp2_with fail
  go_at_call 21
  refine (works14_any _).mono ?_
  rintro e w1 ⟨rfl, hb⟩
  have HB := Lib.hid hb
  clear hb
  go_wp2_with fail
  go_at_call 22
  refine (New_any (a0 + 1) 0 (a0 + 1).toNat 0 HN1.out (by decide) _).mono ?_
  rintro e w2 ⟨p, b1, b2, rfl, hh, hp, hp1, hp2, hb2⟩
  have HC := Lib.hid hh
  have HP := Lib.hid (show w.heap.size ≤ p ∧ w.heap.size ≤ b1 ∧ w.heap.size ≤ b2 from ⟨Nat.le_trans HB.out.size hp, Nat.le_trans HB.out.size hp1, Nat.le_trans HB.out.size hp2⟩)
  have HB2 := Lib.hid (HB.out.trans (hb2.mono HB.out.size))
  clear hh hp hp1 hp2 hb2 HB
  go_wp2_with fail
  go_at_call 22
  refine (New_any (a0 + 2) 0 (a0 + 2).toNat 0 HN2.out (by decide) _).mono ?_
  rintro e w3 ⟨q, d1, d2, rfl, hh, hp, hp1, hp2, hb2⟩
  have HD := Lib.hid hh
  have HQ := Lib.hid (show w.heap.size ≤ q ∧ w.heap.size ≤ d1 ∧ w.heap.size ≤ d2 from ⟨Nat.le_trans HB2.out.size hp, Nat.le_trans HB2.out.size hp1, Nat.le_trans HB2.out.size hp2⟩)
  have HB := Lib.hid (HB2.out.trans (hb2.mono HB2.out.size))
  have HC3 := Lib.hid (show Held w3 p b1 b2 _ from ⟨HC.out.hp.below hb2, HC.out.h1.below hb2, HC.out.h2.below hb2, HC.out.ne, HC.out.n1, HC.out.n2⟩)
  have HS1 := Lib.hid (show (p < w2.heap.size ∧ b1 < w2.heap.size ∧ b2 < w2.heap.size) ∧ (w2.heap.size ≤ q ∧ w2.heap.size ≤ d1 ∧ w2.heap.size ≤ d2) from ⟨⟨HC.out.hp.lt, HC.out.h1.lt, HC.out.h2.lt⟩, ⟨hp, hp1, hp2⟩⟩)
  clear hh hp hp1 hp2 hb2 HC HB2
  have sepCD : ∀ k, (k = q ∨ k = d1 ∨ k = d2) → k ≠ p ∧ k ≠ b1 ∧ k ≠ b2 := fun k hk => by have := HS1.out; omega
  have sepDC : ∀ k, (k = p ∨ k = b1 ∨ k = b2) → k ≠ q ∧ k ≠ d1 ∧ k ≠ d2 := fun k hk => by have := HS1.out; omega
  have SCD := Lib.hid sepCD
  have SDC := Lib.hid sepDC
  clear sepCD sepDC HS1
  have HD0 := Lib.hid (show ∃ t, Held w3 q d1 d2 t ∧ t.cells.length = (a0 + 2).toNat ∧ t.cells.getD a0.toNat 0 = wrap64 0 ∧ t.cells.getD (a0 + 1).toNat 0 = 0 from ⟨_, HD.out, by simp, by rw [wz]; dsimp only; rw [List.getD_eq_getElem?_getD, List.getElem?_replicate]; split <;> rfl, by dsimp only; rw [List.getD_eq_getElem?_getD, List.getElem?_replicate]; split <;> rfl⟩)
  have HC0 := Lib.hid (show ∃ s, Held w3 p b1 b2 s ∧ s.cells.length = (a0 + 1).toNat ∧ s.cells.getD a0.toNat 0 = wrap64 0 from ⟨_, HC3.out, by simp, by rw [wz]; dsimp only; rw [List.getD_eq_getElem?_getD, List.getElem?_replicate]; split <;> rfl⟩)
  clear HD HC3
  go_wp2
  go_loopw [10, 11] (fun x i wr => ∃ j : Int, 0 ≤ j ∧ j ≤ l1.length ∧ i = .int .i64 j ∧ x = .int .i64 (wrap64 (psum l1 j.toNat)) ∧ (∃ s, Held wr p b1 b2 s ∧ s.cells.length = (a0 + 1).toNat ∧ s.cells.getD a0.toNat 0 = wrap64 (psum l1 j.toNat)) ∧ (∃ t, Held wr q d1 d2 t ∧ t.cells.length = (a0 + 2).toNat ∧ t.cells.getD a0.toNat 0 = wrap64 0 ∧ t.cells.getD (a0 + 1).toNat 0 = 0) ∧ Below w.heap.size w wr) (fun _ i _ => l1.length - (intOf i).toNat)
  case atStart => exact ⟨0, Int.le_refl _, by omega, rfl, by rw [show psum l1 (0 : Int).toNat = 0 from rfl, wz], HC0.out, HD0.out, HB.out⟩
  case round =>
    clear HC0 HD0 HB
    obtain ⟨j, hj0, hj1, rfl, rfl, ⟨s, hc, hcl, hcv⟩, ⟨t, hd, hdl, hdv, hdz⟩, hB⟩ := hrel
    have HB := Lib.hid hB
    have HC := Lib.hid hc
    have HD := Lib.hid (show ∃ t, Held _ q d1 d2 t ∧ t.cells.length = (a0 + 2).toNat ∧ t.cells.getD a0.toNat 0 = wrap64 0 ∧ t.cells.getD (a0 + 1).toNat 0 = 0 from ⟨t, hd, hdl, hdv, hdz⟩)
    have HV := Lib.hid (And.intro hcl hcv)
    clear hB hc hd hcl hcv hdl hdv hdz
    by_cases hlt : j < l1.length
    · obtain ⟨ad, hA, x0⟩ := atI (Kd.C_below HR.out HB.out) j hj0 hlt
      subst hA
      have hw := w14s (x := j + 1) (by have := HLl.out; omega)
      have hww := ww (psum l1 j.toNat) (l1.getD j.toNat 0)
      have HJ := Lib.hid (show 0 ≤ j ∧ j < l1.length from ⟨hj0, hlt⟩)
      have p0 : decide (0 ≤ j) = true := decide_eq_true hj0
      have p1 : decide (j < (l1.length : Int)) = true := decide_eq_true hlt
      have p2 := eq_true hj0
      have p3 := eq_true hlt
      obtain ⟨v, hv⟩ : ∃ v, l1.getD j.toNat 0 = v := ⟨_, rfl⟩
      rw [hv] at x0 hww
      have HVV := Lib.hid hv
      obtain ⟨s', t1, t2, t3, t4⟩ := add_at s a0 v (psum l1 j.toNat) HLl.out.2.2.1 (by have := HV.out.1; have := HLl.out; omega) HV.out.2
      have T1 := Lib.hid t1
      have T2 := Lib.hid (And.intro t2 t3)
      clear hv hj0 hj1 hlt t1 t2 t3 t4
      go_wp2_with (go_at_call 23; refine (Add_any p b1 b2 s a0 v _ HC.out).mono ?_; rintro e w4 ⟨he, hh, ht⟩; rw [T1.out] at he hh; obtain rfl : e = .returned (.int .i64 (wrap64 (psum l1 j.toNat + v))) := he; have HC4 := Lib.hid hh; have HD4 := Lib.hid (show ∃ t, Held w4 q d1 d2 t ∧ t.cells.length = (a0 + 2).toNat ∧ t.cells.getD a0.toNat 0 = wrap64 0 ∧ t.cells.getD (a0 + 1).toNat 0 = 0 from let ⟨t, h1, h2⟩ := HD.out; ⟨t, h1.far ht SCD.out, h2⟩); have HB4 := Lib.hid (HB.out.trans (ht.below w.heap.size HP.out.1 HP.out.2.1 HP.out.2.2 HB.out.size)); clear hh ht HC HD HB x0)
      go_roundw
      case rel =>
        have ht : (j + 1).toNat = j.toNat + 1 := by have := HJ.out; omega
        have hps : psum l1 (j + 1).toNat = psum l1 j.toNat + v := by rw [ht, psum_succ _ _ (by have := HJ.out; omega), HVV.out]
        exact ⟨j + 1, by have := HJ.out; omega, by have := HJ.out; omega, by rw [hw], by rw [hps], ⟨s', HC4.out, T2.out.1.trans HV.out.1, by rw [hps]; exact T2.out.2⟩, HD4.out, HB4.out⟩
      case measure =>
        rw [hw]
        show l1.length - (j + 1).toNat < l1.length - j.toNat
        have := HJ.out
        omega
    obtain rfl : j = l1.length := by omega
    have HS0 := Lib.hid (show psum l1 (l1.length : Int).toNat = psum l1 l1.length from by rw [Int.toNat_natCast])
    clear hj0 hj1 hlt
    obtain ⟨sumA, hS1⟩ : ∃ sumA, psum l1 (l1.length : Int).toNat = sumA := ⟨_, rfl⟩
    rw [hS1] at HV HS0
    rw [hS1]
    clear hS1
    have HC1 := Lib.hid (show ∃ s, Held _ p b1 b2 s ∧ s.cells.length = (a0 + 1).toNat ∧ s.cells.getD a0.toNat 0 = wrap64 (sumA + psum l2 0) from ⟨s, HC.out, HV.out.1, by rw [show psum l2 0 = 0 from rfl, Int.add_zero]; exact HV.out.2⟩)
    clear HC HV
    go_wp2
    go_loopw [10, 12] (fun x i wr => ∃ j : Int, 0 ≤ j ∧ j ≤ l2.length ∧ i = .int .i64 j ∧ x = .int .i64 (wrap64 (sumA + psum l2 j.toNat)) ∧ (∃ s, Held wr p b1 b2 s ∧ s.cells.length = (a0 + 1).toNat ∧ s.cells.getD a0.toNat 0 = wrap64 (sumA + psum l2 j.toNat)) ∧ (∃ t, Held wr q d1 d2 t ∧ t.cells.length = (a0 + 2).toNat ∧ t.cells.getD a0.toNat 0 = wrap64 (psum l2 j.toNat) ∧ t.cells.getD (a0 + 1).toNat 0 = 0) ∧ Below w.heap.size w wr) (fun _ i _ => l2.length - (intOf i).toNat)
    case atStart => exact ⟨0, Int.le_refl _, by omega, rfl, by rw [show psum l2 (0 : Int).toNat = 0 from rfl, Int.add_zero], HC1.out, HD.out, HB.out⟩
    clear HC1 HD HB
    obtain ⟨j, hj0, hj1, rfl, rfl, ⟨s, hc, hcl, hcv⟩, ⟨t, hd, hdl, hdv, hdz⟩, hB⟩ := hrel
    have HB := Lib.hid hB
    have HC := Lib.hid hc
    have HD := Lib.hid hd
    have HV := Lib.hid (And.intro hcl hcv)
    have HW := Lib.hid (And.intro hdl (And.intro hdv hdz))
    clear hB hc hd hcl hcv hdl hdv hdz
    by_cases hlt : j < l2.length
    · obtain ⟨ad, hA, x0⟩ := atI (Kd.C_below HR2.out HB.out) j hj0 hlt
      subst hA
      have hw := w14s (x := j + 1) (by have := HLl.out; omega)
      have hww := ww (sumA + psum l2 j.toNat) (l2.getD j.toNat 0)
      have HJ := Lib.hid (show 0 ≤ j ∧ j < l2.length from ⟨hj0, hlt⟩)
      have p0 : decide (0 ≤ j) = true := decide_eq_true hj0
      have p1 : decide (j < (l2.length : Int)) = true := decide_eq_true hlt
      have p2 := eq_true hj0
      have p3 := eq_true hlt
      obtain ⟨v, hv⟩ : ∃ v, l2.getD j.toNat 0 = v := ⟨_, rfl⟩
      rw [hv] at x0 hww
      have HVV := Lib.hid hv
      obtain ⟨s', t1, t2, t3, _⟩ := add_at s a0 v (sumA + psum l2 j.toNat) HLl.out.2.2.1 (by have := HV.out.1; have := HLl.out; omega) HV.out.2
      obtain ⟨t', u1, u2, u3, u4⟩ := add_at t a0 v (psum l2 j.toNat) HLl.out.2.2.1 (by have := HW.out.1; have := HLl.out; omega) HW.out.2.1
      have T1 := Lib.hid t1
      have T2 := Lib.hid (And.intro t2 t3)
      have U1 := Lib.hid u1
      have U2 := Lib.hid (And.intro u2 (And.intro u3 u4))
      clear hv hj0 hj1 hlt t1 t2 t3 u1 u2 u3 u4
      go_wp2_with fail
      go_at_call 23
      refine (Add_any q d1 d2 t a0 v _ HD.out).mono ?_
      rintro e w4 ⟨he, hh, ht⟩
      rw [U1.out] at he hh
      obtain rfl : e = .returned (.int .i64 (wrap64 (psum l2 j.toNat + v))) := he
      have HD4 := Lib.hid hh
      have HC4 := Lib.hid (HC.out.far ht SDC.out)
      have HB4 := Lib.hid (HB.out.trans (ht.below w.heap.size HQ.out.1 HQ.out.2.1 HQ.out.2.2 HB.out.size))
      clear hh ht HC HD HB x0
      obtain ⟨ad', hA', x0⟩ := atI (Kd.C_below HR2.out HB4.out) j HJ.out.1 HJ.out.2
      injection hA' with hA'
      subst hA'
      rw [HVV.out] at x0
      go_wp2_with fail
      go_at_call 23
      refine (Add_any p b1 b2 s a0 v _ HC4.out).mono ?_
      rintro e w5 ⟨he, hh, ht⟩
      rw [T1.out] at he hh
      obtain rfl : e = .returned (.int .i64 (wrap64 (sumA + psum l2 j.toNat + v))) := he
      have HC5 := Lib.hid hh
      have HD5 := Lib.hid (HD4.out.far ht SCD.out)
      have HB5 := Lib.hid (HB4.out.trans (ht.below w.heap.size HP.out.1 HP.out.2.1 HP.out.2.2 HB4.out.size))
      clear hh ht HC4 HD4 HB4 x0
      go_wp2
      go_roundw
      case rel =>
        have ht : (j + 1).toNat = j.toNat + 1 := by have := HJ.out; omega
        have hps : psum l2 (j + 1).toNat = psum l2 j.toNat + v := by rw [ht, psum_succ _ _ (by have := HJ.out; omega), HVV.out]
        have hpt : sumA + psum l2 (j + 1).toNat = sumA + psum l2 j.toNat + v := by rw [hps]; omega
        exact ⟨j + 1, by have := HJ.out; omega, by have := HJ.out; omega, by rw [hw], by rw [hpt], ⟨s', HC5.out, T2.out.1.trans HV.out.1, by rw [hpt]; exact T2.out.2⟩, ⟨t', HD5.out, U2.out.1.trans HW.out.1, by rw [hps]; exact U2.out.2.1, by rw [U2.out.2.2]; exact HW.out.2.2⟩, HB5.out⟩
      case measure =>
        rw [hw]
        show l2.length - (j + 1).toNat < l2.length - j.toNat
        have := HJ.out
        omega
    obtain rfl : j = l2.length := by omega
    clear hj0 hj1 hlt
    obtain ⟨sumB, hS2⟩ : ∃ sumB, psum l2 (l2.length : Int).toNat = sumB := ⟨_, rfl⟩
    rw [hS2] at HV HW
    rw [hS2]
    clear hS2
    have HD1 := Lib.hid (show ∃ t, Held _ q d1 d2 t ∧ t.cells.length = (a0 + 2).toNat ∧ t.cells.getD a0.toNat 0 = wrap64 (sumB + psum l1 0) ∧ t.cells.getD (a0 + 1).toNat 0 = 0 from ⟨t, HD.out, HW.out.1, by rw [show psum l1 0 = 0 from rfl, Int.add_zero]; exact HW.out.2.1, HW.out.2.2⟩)
    clear HD HW
    go_wp2
    go_loopw [13] (fun i wr => ∃ j : Int, 0 ≤ j ∧ j ≤ l1.length ∧ i = .int .i64 j ∧ Held wr p b1 b2 s ∧ (∃ t, Held wr q d1 d2 t ∧ t.cells.length = (a0 + 2).toNat ∧ t.cells.getD a0.toNat 0 = wrap64 (sumB + psum l1 j.toNat) ∧ t.cells.getD (a0 + 1).toNat 0 = 0) ∧ Below w.heap.size w wr) (fun i _ => l1.length - (intOf i).toNat)
    case atStart => exact ⟨0, Int.le_refl _, by omega, rfl, HC.out, HD1.out, HB.out⟩
    clear HC HD1 HB
    obtain ⟨j, hj0, hj1, rfl, hc, ⟨t, hd, hdl, hdv, hdz⟩, hB⟩ := hrel
    have HB := Lib.hid hB
    have HC := Lib.hid hc
    have HD := Lib.hid hd
    have HW := Lib.hid (And.intro hdl (And.intro hdv hdz))
    clear hB hc hd hdl hdv hdz
    by_cases hlt : j < l1.length
    · obtain ⟨ad, hA, x0⟩ := atI (Kd.C_below HR.out HB.out) j hj0 hlt
      subst hA
      have hw := w14s (x := j + 1) (by have := HLl.out; omega)
      have HJ := Lib.hid (show 0 ≤ j ∧ j < l1.length from ⟨hj0, hlt⟩)
      have p0 : decide (0 ≤ j) = true := decide_eq_true hj0
      have p1 : decide (j < (l1.length : Int)) = true := decide_eq_true hlt
      have p2 := eq_true hj0
      have p3 := eq_true hlt
      obtain ⟨v, hv⟩ : ∃ v, l1.getD j.toNat 0 = v := ⟨_, rfl⟩
      rw [hv] at x0
      have HVV := Lib.hid hv
      obtain ⟨t', u1, u2, u3, u4⟩ := add_at t a0 v (sumB + psum l1 j.toNat) HLl.out.2.2.1 (by have := HW.out.1; have := HLl.out; omega) HW.out.2.1
      have U1 := Lib.hid u1
      have U2 := Lib.hid (And.intro u2 (And.intro u3 u4))
      clear hv hj0 hj1 hlt u1 u2 u3 u4
      go_wp2_with fail
      go_at_call 23
      refine (Add_any q d1 d2 t a0 v _ HD.out).mono ?_
      rintro e w4 ⟨he, hh, ht⟩
      rw [U1.out] at he hh
      obtain rfl : e = .returned (.int .i64 (wrap64 (sumB + psum l1 j.toNat + v))) := he
      have HD4 := Lib.hid hh
      have HC4 := Lib.hid (HC.out.far ht SDC.out)
      have HB4 := Lib.hid (HB.out.trans (ht.below w.heap.size HQ.out.1 HQ.out.2.1 HQ.out.2.2 HB.out.size))
      clear hh ht HC HD HB x0
      go_wp2
      go_roundw
      case rel =>
        have ht : (j + 1).toNat = j.toNat + 1 := by have := HJ.out; omega
        have hpt : sumB + psum l1 (j + 1).toNat = sumB + psum l1 j.toNat + v := by rw [ht, psum_succ _ _ (by have := HJ.out; omega), HVV.out]; omega
        exact ⟨j + 1, by have := HJ.out; omega, by have := HJ.out; omega, by rw [hw], HC4.out, ⟨t', HD4.out, U2.out.1.trans HW.out.1, by rw [hpt]; exact U2.out.2.1, by rw [U2.out.2.2]; exact HW.out.2.2⟩, HB4.out⟩
      case measure =>
        rw [hw]
        show l1.length - (j + 1).toNat < l1.length - j.toNat
        have := HJ.out
        omega
    obtain rfl : j = l1.length := by omega
    clear hj0 hj1 hlt
    have hsum : wrap64 (sumB + psum l1 (l1.length : Int).toNat) = wrap64 (sumA + sumB) := by rw [Int.toNat_natCast, HS0.out.symm]; congr 1; omega
    obtain ⟨s', t1, _⟩ := load_at s a0 (wrap64 (sumA + sumB)) HLl.out.2.2.1 (by have := HV.out.1; have := HLl.out; omega) HV.out.2
    obtain ⟨t', u1, u2⟩ := load_at t a0 (wrap64 (sumA + sumB)) HLl.out.2.2.1 (by have := HW.out.1; have := HLl.out; omega) (HW.out.2.1.trans hsum)
    obtain ⟨t'', z1, _⟩ := load_at t' (a0 + 1) 0 (by have := HLl.out; omega) (by rw [u2]; have := HW.out.1; have := HLl.out; omega) (by rw [u2]; exact HW.out.2.2)
    clear hsum u2
    go_wp2_with fail
    go_at_call 24
    refine (Load_any p b1 b2 s a0 _ HC.out).mono ?_
    rintro e w4 ⟨he, hh, ht⟩
    rw [t1] at he hh
    obtain rfl : e = .returned (.int .i64 (wrap64 (sumA + sumB))) := he
    have HD4 := Lib.hid (HD.out.far ht SCD.out)
    have HB4 := Lib.hid (HB.out.trans (ht.below w.heap.size HP.out.1 HP.out.2.1 HP.out.2.2 HB.out.size))
    clear hh ht HC HD HB
    go_wp2_with fail
    go_at_call 24
    refine (Load_any q d1 d2 t a0 _ HD4.out).mono ?_
    rintro e w5 ⟨he, hh, ht⟩
    rw [u1] at he hh
    obtain rfl : e = .returned (.int .i64 (wrap64 (sumA + sumB))) := he
    have HD5 := Lib.hid hh
    have HB5 := Lib.hid (HB4.out.trans (ht.below w.heap.size HQ.out.1 HQ.out.2.1 HQ.out.2.2 HB4.out.size))
    clear hh ht HD4 HB4
    go_wp2_with fail
    go_at_call 24
    refine (Load_any q d1 d2 t' (a0 + 1) _ HD5.out).mono ?_
    rintro e w6 ⟨he, hh, ht⟩
    rw [z1] at he hh
    obtain rfl : e = .returned (.int .i64 0) := he
    have HB6 := Lib.hid (HB5.out.trans (ht.below w.heap.size HQ.out.1 HQ.out.2.1 HQ.out.2.2 HB5.out.size))
    clear hh ht
    go_wp2
    go_ret
    exact ⟨rfl, HB6.out⟩
end


/-- THE PURE STATEMENT of gangplanklaw14_CellsAdds. -/
def gangplanklaw14_CellsAdds.Pure : Prop := ∀ (a0 : Int) (l1 : List Int) (l2 : List Int), ((Lit.int .i64 a0).wf = true) → (l1.length ≤ maxLen) → ((∀ x ∈ l1, (Lit.int .i64 x).wf = true)) → (l2.length ≤ maxLen) → ((∀ x ∈ l2, (Lit.int .i64 x).wf = true)) → gangplanklaw14_CellsAdds.f a0 l1 l2 = some true

/-! ### gangplankref14_fill: function 38 -/
def gangplankref14_fill.l0 : Nat → Int → Int → List Int → Int → Option (List Int)
  | 0, _, _, _, _ => none
  | k + 1, x0, x1, x5, x6 => if x6 < x0 then (if x6 < 1024 then (if x5.length < 17592186044416 then (gangplankref14_fill.l0 k x0 x1 (x5 ++ [x1]) (wrap64 (x6 + 1))) else (none)) else (some x5)) else (some x5)
def gangplankref14_fill.f (k : Nat) (a0 : Int) (a1 : Int) : Option (List Int) := gangplankref14_fill.l0 k a0 a1 ([] : List Int) 0
theorem gangplankref14_fill.mono_l : ∀ k, (∀ y0 y1 y2 y3, LeO (gangplankref14_fill.l0 k y0 y1 y2 y3) (gangplankref14_fill.l0 (k + 1) y0 y1 y2 y3))
  | 0 => fun _ _ _ _ r h => by simp [gangplankref14_fill.l0] at h
  | k + 1 => by
    have ih0 := gangplankref14_fill.mono_l k
    · intro y0 y1 y2 y3
      unfold gangplankref14_fill.l0
      repeat' first
      | (with_reducible exact ih0 _ _ _ _)
      | (with_reducible exact LeO.refl _)
      | (with_reducible exact LeO.none _)
      | (with_reducible refine LeO.ite ?_ ?_)
      | (with_reducible refine LeO.bind ?_ (fun _ => ?_))
      | exact ih0 _ _ _ _
      | exact LeO.none _
      | refine LeO.ite ?_ ?_
      | refine LeO.bind ?_ (fun _ => ?_)
theorem gangplankref14_fill.mono : ∀ a0 a1 k, LeO (gangplankref14_fill.f k a0 a1) (gangplankref14_fill.f (k + 1) a0 a1) := by
  intro a0 a1 k
  have ih0 := gangplankref14_fill.mono_l k
  unfold gangplankref14_fill.f
  repeat' first
      | (with_reducible exact ih0 _ _ _ _)
      | (with_reducible exact LeO.refl _)
      | (with_reducible exact LeO.none _)
      | (with_reducible refine LeO.ite ?_ ?_)
      | (with_reducible refine LeO.bind ?_ (fun _ => ?_))
      | exact ih0 _ _ _ _
      | exact LeO.none _
      | refine LeO.ite ?_ ?_
      | refine LeO.bind ?_ (fun _ => ?_)
set_option maxHeartbeats 8000000 in
set_option maxRecDepth 100000 in
theorem gangplankref14_fill.calls (k : Nat) (a0 : Int) (a1 : Int) (r : List Int) (w : World) (h : gangplankref14_fill.f k a0 a1 = some r) :
    Calls Try.prog 38 #[.int .i64 a0, .int .i64 a1] w fun e w' => ∃ v0_ : Value, e = .returned (v0_) ∧ Kd.R (Kd.int .i64) 3 w' w.heap.size (fun _ => True) v0_ r ∧ Below w.heap.size w w' := by
  have HB := Aside0.mk (Below.refl w.heap.size w)
  have H : (gangplankref14_fill.l0 k a0 a1 ([] : List Int) 0) = some r := h
  clear h
  have H' := Aside0.mk H
  clear H
  go_enter Try.func38, Try.ntmps38
  go_wp2
  go_loopg [5, 6] k (fun kq v5 v6 w' => ∃ (x5_1 : List Int) (x6_1 : Int), v6 = .int .i64 x6_1 ∧ Aside0 (gangplankref14_fill.l0 kq a0 a1 x5_1 x6_1 = some r) ∧ Aside0 (kq ≤ k) ∧ Aside0 (Kd.R (Kd.int .i64) 3 w' w.heap.size (fun _ => True) v5 x5_1) ∧ Aside0 (Below w.heap.size w w'))
  case atStart => exact ⟨(([] : List Int)), (0), (by first | rfl | (simp; done) | (simp [*]; done)), H', ⟨Nat.le_refl _⟩, ⟨by first | exact Kd.R_nil _ _ _ _ _ | exact Kd.N_nil _ _ _ _ _ | exact Kd.V_nil _ _ _ _ _ | exact Kd.Q_nil _ _ _ _ _ | exact Kd.S_nil _ _ _ _ _⟩, ⟨by repeat (first | (with_reducible first | exact HB.out | apply below_alloc | apply pw_below_drewN | apply below_drew1) | exact HB.out)⟩⟩
  case round =>
    clear H'
    try clear p2
    obtain ⟨x5_1, x6_1, rfl, HA, HK1, HO_5, HB⟩ := hrel
    cases gk with
    | zero => exact absurd HA.out (by simp [gangplankref14_fill.l0])
    | succ k1 =>
      have H := HA.out
      clear HA
      simp only [gangplankref14_fill.l0] at H
      by_cases c3 : x6_1 < a0
      · rw [if_pos c3] at H
        have c3b0 : decide (x6_1 < a0) = true := decide_eq_true c3
        clear c3
        by_cases c4 : x6_1 < 1024
        · rw [if_pos c4] at H
          have c4b0 : decide (x6_1 < 1024) = true := decide_eq_true c4
          clear c4
          by_cases c5 : x5_1.length < 17592186044416
          · rw [if_pos c5] at H
            have LMc5 := Aside0.mk c5
            clear c5
            obtain ⟨y101, hy101⟩ : ∃ y_ : List Int, y_ = (x5_1 ++ [a1]) := ⟨_, rfl⟩
            replace H : (gangplankref14_fill.l0 k1 a0 a1 y101 (wrap64 (x6_1 + 1))) = some r := by first | (rw [hy101]; with_reducible exact H) | (have H2_ := (Option.bind_some _ _).symm.trans H; rw [hy101]; with_reducible exact H2_) | (have H2_ := (Option.bind_some _ _).symm.trans H; with_reducible exact H2_) | with_reducible exact H | (rw [hy101]; exact H) | exact H
            have Ny101 := Aside0.mk hy101
            clear hy101
            have H' := Aside0.mk H
            clear H
            go_wp2_with (first | ((with_reducible refine gate_builtin (b := .append) (xs := #[.tmp 16, .tmp 18]) rfl ?_); at_builtin; refine Kd.R_append (Kd.int .i64) (w0 := w) w.heap.size rfl (.tmp 16) (.tmp 18) 33 3 (.int .i64 0) 8 rfl Try.underlying33 info3 rfl (by decide) (by omega) u5 x5_1 a1 [.int .i64 a1] (fun _ => True) (fun _ => False) rfl rfl ?aP (fun _ hk => hk.elim) ?aF ?aO ?aB ?aS ?aL ?_; (case aP => exact rfl); (case aB => exact (by repeat (first | (with_reducible first | exact HB.out | apply below_alloc | apply pw_below_drewN | apply below_drew1) | exact HB.out))); (case aF => exact (fun _ _ => trivial)); (case aO => exact (by (with_reducible repeat (first | apply Kd.R_alloc | apply Kd.R_drewN | apply Kd.R_drew)); exact HO_5.out)); (case aS => exact (below_size (by repeat (first | (with_reducible first | exact HB.out | apply below_alloc | apply pw_below_drewN | apply below_drew1) | exact HB.out)))); (case aL => have := LMc5.out; omega); intro v102 w6 ho hb hg hat; rw [← Ny101.out] at ho; have n0_ := Aside0.mk (hb); have n1_ := Aside0.mk (ho); clear HB; clear HO_5; have HB := n0_; have HO103 := n1_; clear n0_ n1_; clear ho hb hg hat))
            go_roundg k1
            case measure => have := HK1.out; omega
            case rel => exact ⟨(y101), (wrap64 (x6_1 + 1)), (by first | rfl | (simp; done) | (simp [*]; done)), H', ⟨by have := HK1.out; omega⟩, ⟨by (with_reducible repeat (first | apply Kd.R_alloc | apply Kd.R_drewN | apply Kd.R_drew)); exact HO103.out⟩, ⟨by repeat (first | (with_reducible first | exact HB.out | apply below_alloc | apply pw_below_drewN | apply below_drew1) | exact HB.out)⟩⟩
          · rw [if_neg c5] at H
            exact absurd H (by simp)
        · rw [if_neg c4] at H
          have c4b0 : decide (x6_1 < 1024) = false := decide_eq_false c4
          clear c4
          obtain rfl := Option.some.inj H
          go_wp2
          go_ret
          exact ⟨_, by first | rfl | (simp [errW_none, errW_some] <;> rfl) | (simp [*, errW_none, errW_some] <;> rfl), by (with_reducible repeat (first | apply Kd.R_alloc | apply Kd.R_drewN | apply Kd.R_drew)); exact HO_5.out, by repeat (first | (with_reducible first | exact HB.out | apply below_alloc | apply pw_below_drewN | apply below_drew1) | exact HB.out)⟩
      · rw [if_neg c3] at H
        have c3b0 : decide (x6_1 < a0) = false := decide_eq_false c3
        clear c3
        obtain rfl := Option.some.inj H
        go_wp2
        go_ret
        exact ⟨_, by first | rfl | (simp [errW_none, errW_some] <;> rfl) | (simp [*, errW_none, errW_some] <;> rfl), by (with_reducible repeat (first | apply Kd.R_alloc | apply Kd.R_drewN | apply Kd.R_drew)); exact HO_5.out, by repeat (first | (with_reducible first | exact HB.out | apply below_alloc | apply pw_below_drewN | apply below_drew1) | exact HB.out)⟩

/-! ### gangplankref14_New: function 25 -/
def gangplankref14_New.f (k : Nat) (a0 : Int) (a1 : Int) : Option (List Int × List Int × Int) := (gangplankref14_fill.f k a0 0).bind fun t105 => ((gangplankref14_fill.f k a1 (-1)).bind fun t108 => (some (t105, t108, 0)))
theorem gangplankref14_New.mono : ∀ a0 a1 k, LeO (gangplankref14_New.f k a0 a1) (gangplankref14_New.f (k + 1) a0 a1) := by
  intro a0 a1 k
  unfold gangplankref14_New.f
  repeat' first
      | (with_reducible exact gangplankref14_fill.mono _ _ _)
      | (with_reducible exact LeO.refl _)
      | (with_reducible exact LeO.none _)
      | (with_reducible refine LeO.ite ?_ ?_)
      | (with_reducible refine LeO.bind ?_ (fun _ => ?_))
      | exact gangplankref14_fill.mono _ _ _
      | exact LeO.none _
      | refine LeO.ite ?_ ?_
      | refine LeO.bind ?_ (fun _ => ?_)
set_option maxHeartbeats 8000000 in
set_option maxRecDepth 100000 in
theorem gangplankref14_New.calls (k : Nat) (a0 : Int) (a1 : Int) (r1 : List Int) (r2 : List Int) (r3 : Int) (w : World) (h : gangplankref14_New.f k a0 a1 = some (r1, r2, r3)) :
    Calls Try.prog 25 #[.int .i64 a0, .int .i64 a1] w fun e w' => ∃ v0_ v1_ : Value, e = .returned (.agg #[v0_, v1_, .int .i64 r3]) ∧ Kd.R (Kd.int .i64) 3 w' w.heap.size (fun k_ => some k_ ≠ (v1_ : Value).ownBlock) v0_ r1 ∧ Kd.R (Kd.int .i64) 3 w' w.heap.size (fun k_ => some k_ ≠ (v0_ : Value).ownBlock) v1_ r2 ∧ Below w.heap.size w w' := by
  have hu41 := Try.underlying41
  have HB := Aside0.mk (Below.refl w.heap.size w)
  have H : ((gangplankref14_fill.f k a0 0).bind fun t105 => ((gangplankref14_fill.f k a1 (-1)).bind fun t108 => (some (t105, t108, 0)))) = some (r1, r2, r3) := h
  clear h
  replace H := Option.bind_eq_some_iff.mp H
  obtain ⟨t105, A30, H⟩ := H
  replace H : ((gangplankref14_fill.f k a1 (-1)).bind fun t108 => (some (t105, t108, 0))) = some (r1, r2, r3) := H
  have A3 := Aside0.mk A30
  clear A30
  replace H := Option.bind_eq_some_iff.mp H
  obtain ⟨t108, A40, H⟩ := H
  replace H : (some (t105, t108, 0)) = some (r1, r2, r3) := H
  have A4 := Aside0.mk A40
  clear A40
  simp only [Option.some.injEq, Prod.mk.injEq] at H
  obtain ⟨rfl, rfl, rfl⟩ := H
  go_enter Try.func25, Try.ntmps25
  go_wp2_with (first | ((with_reducible refine gate_dst (N := 4) rfl ?_); refine box_event ?hg (N := 4) ?hd (cs := #[.slice none 0 0, .slice none 0 0, .int .i64 0]) (t := 41) ?hr ?_; (case hd => rfl); (case hg => rfl); (case hr => first | (go_simp; done) | (go_simp; rfl)); intro gb104 hg w5 hbox hb; have n0_ := Aside0.mk (below_step (by repeat (first | (with_reducible first | exact HB.out | apply below_alloc | apply pw_below_drewN | apply below_drew1) | exact HB.out)) hb); have n1_ := Aside0.mk (hbox); have n2_ := Aside0.mk ((by rw [hg]; exact (below_size (by repeat (first | (with_reducible first | exact HB.out | apply below_alloc | apply pw_below_drewN | apply below_drew1) | exact HB.out))) : w.heap.size ≤ gb104)); have n3_ := Aside0.mk ((by rw [hg]; exact (below_size (by repeat (first | (with_reducible first | exact HB.out | apply below_alloc | apply pw_below_drewN | apply below_drew1) | exact HB.out))) : w.heap.size ≤ gb104)); clear HB; have HB := n0_; have BK104 := n1_; have GW104 := n2_; have GE104 := n3_; clear n0_ n1_ n2_ n3_; clear hb hbox hg) | ((with_reducible refine gate_callee (f := 38) rfl ?_); refine goesL_ (some 6) rfl rfl Try.func38 (by kernel_rfl) rfl #[.int .i64 a0, .int .i64 0] rfl (by (try simp only [List.map_toArray, List.map_cons, List.map_nil]); first | done | rfl | (simp only [List.length_drop, List.length_take]; rfl)) ?_; (with_reducible refine (gangplankref14_fill.calls k a0 0 t105 _ A3.out).mono ?_); (try clear A3); rintro e w6 ⟨v106, rfl, ho0, hb⟩; refine ⟨_, rfl, ?_⟩; have n0_ := Aside0.mk (Kd.R_lower ho0 (below_size (by repeat (first | (with_reducible first | exact HB.out | apply below_alloc | apply pw_below_drewN | apply below_drew1 | refine below_set ?_ GE104.out) | exact HB.out)))); have n1_ := Aside0.mk (blk_below (g := gb104) (o := .cells #[.slice none 0 0, .slice none 0 0, .int .i64 0] 41 (0, 0)) (by (with_reducible repeat (first | refine blk_drewN ?_ _ | refine blk_drew ?_ | refine blk_alloc ?_ _)); exact BK104.out) hb); have n2_ := Aside0.mk (below_step (by repeat (first | (with_reducible first | exact HB.out | apply below_alloc | apply pw_below_drewN | apply below_drew1 | refine below_set ?_ GE104.out) | exact HB.out)) hb); clear BK104; clear HB; have HO107 := n0_; have BK104 := n1_; have HB := n2_; clear n0_ n1_ n2_; (try clear hb); (try clear hb2); (try clear hk); (try clear hi); (try clear ho0)) | ((with_reducible refine gate_callee (f := 38) rfl ?_); refine goesL_ (some 8) rfl rfl Try.func38 (by kernel_rfl) rfl #[.int .i64 a1, .int .i64 (-1)] rfl (by (try simp only [List.map_toArray, List.map_cons, List.map_nil]); first | done | rfl | (simp only [List.length_drop, List.length_take]; rfl)) ?_; (with_reducible refine (gangplankref14_fill.calls k a1 (-1) t108 _ A4.out).mono ?_); (try clear A4); rintro e w7 ⟨v109, rfl, ho0, hb⟩; refine ⟨_, rfl, ?_⟩; have n0_ := Aside0.mk (Kd.R_elder' (by (with_reducible repeat (first | apply Kd.R_alloc | apply Kd.R_drewN | apply Kd.R_drew)); exact HO107.out) (Kd.R_base ho0) hb); have n1_ := Aside0.mk (Kd.R_lower (Kd.R_new' ho0 (Kd.R_lt (by (with_reducible repeat (first | apply Kd.R_alloc | apply Kd.R_drewN | apply Kd.R_drew)); exact HO107.out))) (below_size (by repeat (first | (with_reducible first | exact HB.out | apply below_alloc | apply pw_below_drewN | apply below_drew1 | refine below_set ?_ GE104.out) | exact HB.out)))); have n2_ := Aside0.mk (blk_below (g := gb104) (o := .cells #[.slice none 0 0, .slice none 0 0, .int .i64 0] 41 (0, 0)) (by (with_reducible repeat (first | refine blk_drewN ?_ _ | refine blk_drew ?_ | refine blk_alloc ?_ _)); exact BK104.out) hb); have n3_ := Aside0.mk (below_step (by repeat (first | (with_reducible first | exact HB.out | apply below_alloc | apply pw_below_drewN | apply below_drew1 | refine below_set ?_ GE104.out) | exact HB.out)) hb); clear HO107; clear BK104; clear HB; have HO107 := n0_; have HO110 := n1_; have BK104 := n2_; have HB := n3_; clear n0_ n1_ n2_ n3_; (try clear hb); (try clear hb2); (try clear hk); (try clear hi); (try clear ho0); obtain ⟨Ao8, co8, eo8⟩ := Kd.R_slice HO110.out; subst eo8; obtain ⟨Ao9, co9, eo9⟩ := Kd.R_slice HO107.out; subst eo9; have hcz10_0 : w7.cell? ⟨gb104, 0, none⟩ = some (.slice none 0 0) := (blk_cell BK104.out 0).trans rfl; have hcz10_1 : w7.cell? ⟨gb104, 1, none⟩ = some (.slice none 0 0) := (blk_cell BK104.out 1).trans rfl; have hcz10_2 : w7.cell? ⟨gb104, 2, none⟩ = some (.int .i64 0) := (blk_cell BK104.out 2).trans rfl; have hfz10_0 := blk_frozen BK104.out 0; have hfz10_1 := blk_frozen BK104.out 1; have hfz10_2 := blk_frozen BK104.out 2))
  refine bodyPost_ret (results_cell_row rfl _ _ gb104 41 #[.slice Ao9 t105.length co9, .slice Ao8 t108.length co8, .int .i64 0] (0, 0) _ rfl (by (with_reducible repeat (first | refine blk_drewN ?_ _ | refine blk_drew ?_ | refine blk_alloc ?_ _)); refine blk_put (cs := #[.slice Ao9 t105.length co9, .slice Ao8 t108.length co8, .int .i64 0]) ?_ 2 _ rfl; (with_reducible repeat (first | refine blk_drewN ?_ _ | refine blk_drew ?_ | refine blk_alloc ?_ _)); refine blk_put (cs := #[.slice Ao9 t105.length co9, .slice none 0 0, .int .i64 0]) ?_ 1 _ rfl; (with_reducible repeat (first | refine blk_drewN ?_ _ | refine blk_drew ?_ | refine blk_alloc ?_ _)); refine blk_put (cs := #[.slice none 0 0, .slice none 0 0, .int .i64 0]) ?_ 0 _ rfl; (with_reducible repeat (first | refine blk_drewN ?_ _ | refine blk_drew ?_ | refine blk_alloc ?_ _)); exact BK104.out) Try.underlying41 rfl (by kernel_rfl)) rfl ?_
  exact ⟨_, _, by first | rfl | (simp [errW_none, errW_some] <;> rfl) | (simp [*, errW_none, errW_some] <;> rfl), by (with_reducible repeat (first | apply Kd.R_alloc | apply Kd.R_drewN | apply Kd.R_drew)); exact Kd.R_mono (Kd.R_far (p := ⟨gb104, 2, none⟩) (Kd.R_far (p := ⟨gb104, 1, none⟩) (Kd.R_far (p := ⟨gb104, 0, none⟩) (Kd.R_types HO107.out BK104.out (by decide)) (fun _ hk => hk.2) (.slice Ao9 t105.length co9)) (fun _ hk => hk.2) (.slice Ao8 t108.length co8)) (fun _ hk => hk.2) (.int .i64 0)) (fun _ hk => hk.1.2), by (with_reducible repeat (first | apply Kd.R_alloc | apply Kd.R_drewN | apply Kd.R_drew)); exact Kd.R_mono (Kd.R_far (p := ⟨gb104, 2, none⟩) (Kd.R_far (p := ⟨gb104, 1, none⟩) (Kd.R_far (p := ⟨gb104, 0, none⟩) (Kd.R_types HO110.out BK104.out (by decide)) (fun _ hk => hk.2) (.slice Ao9 t105.length co9)) (fun _ hk => hk.2) (.slice Ao8 t108.length co8)) (fun _ hk => hk.2) (.int .i64 0)) (fun _ hk => hk.1.2), by repeat (first | (with_reducible first | exact HB.out | apply below_alloc | apply pw_below_drewN | apply below_drew1 | refine below_set ?_ GE104.out) | exact HB.out)⟩

-- NOT PRINTED: function 29 (cells_Cells_Store)

-- NOT PRINTED: function 26 (gangplanklaw14_do)

/-! ### gangplankref14_with: function 45 -/
def gangplankref14_with.f (l0 : List Int) (a1 : Int) (a2 : Int) : Option (List Int) := (some (([] : List Int) : List Int)).bind fun y111 => (if y111.length + l0.length < 17592186044416 then ((some (y111 ++ l0 : List Int)).bind fun y114 => (if 0 ≤ a1 then (if a1 < (y114.length : Int) then (some (y114.set (a1 : Int).toNat a2)) else (none)) else (none))) else (none))
set_option maxHeartbeats 8000000 in
set_option maxRecDepth 100000 in
theorem gangplankref14_with.calls (A0 : Option Addr) (c0 : Nat) (l0 : List Int) (a1 : Int) (a2 : Int) (r : List Int) (w : World) (hr0 : Kd.C (Kd.int .i64) w A0 l0.length l0) (hc0 : l0.length ≤ c0) (h : gangplankref14_with.f l0 a1 a2 = some r) :
    Calls Try.prog 45 #[.slice A0 l0.length c0, .int .i64 a1, .int .i64 a2] w fun e w' => ∃ v0_ : Value, e = .returned (v0_) ∧ Kd.R (Kd.int .i64) 3 w' w.heap.size (fun _ => True) v0_ r ∧ Below w.heap.size w w' := by
  have HR0 := Aside0.mk hr0
  have HC0 := Aside0.mk hc0
  clear hr0 hc0
  have HB := Aside0.mk (Below.refl w.heap.size w)
  have H : ((some (([] : List Int) : List Int)).bind fun y111 => (if y111.length + l0.length < 17592186044416 then ((some (y111 ++ l0 : List Int)).bind fun y114 => (if 0 ≤ a1 then (if a1 < (y114.length : Int) then (some (y114.set (a1 : Int).toNat a2)) else (none)) else (none))) else (none))) = some r := h
  clear h
  obtain ⟨y111, hy111⟩ : ∃ y_ : List Int, y_ = (([] : List Int)) := ⟨_, rfl⟩
  replace H : (if y111.length + l0.length < 17592186044416 then ((some (y111 ++ l0 : List Int)).bind fun y114 => (if 0 ≤ a1 then (if a1 < (y114.length : Int) then (some (y114.set (a1 : Int).toNat a2)) else (none)) else (none))) else (none)) = some r := by first | (rw [hy111]; with_reducible exact H) | (have H2_ := (Option.bind_some _ _).symm.trans H; rw [hy111]; with_reducible exact H2_) | (have H2_ := (Option.bind_some _ _).symm.trans H; with_reducible exact H2_) | with_reducible exact H | (rw [hy111]; exact H) | exact H
  have Ny111 := Aside0.mk hy111
  clear hy111
  by_cases c4 : y111.length + l0.length < 17592186044416
  · rw [if_pos c4] at H
    have LMc4 := Aside0.mk c4
    clear c4
    obtain ⟨y114, hy114⟩ : ∃ y_ : List Int, y_ = (y111 ++ l0) := ⟨_, rfl⟩
    replace H : (if 0 ≤ a1 then (if a1 < (y114.length : Int) then (some (y114.set (a1 : Int).toNat a2)) else (none)) else (none)) = some r := by first | (rw [hy114]; with_reducible exact H) | (have H2_ := (Option.bind_some _ _).symm.trans H; rw [hy114]; with_reducible exact H2_) | (have H2_ := (Option.bind_some _ _).symm.trans H; with_reducible exact H2_) | with_reducible exact H | (rw [hy114]; exact H) | exact H
    have Ny114 := Aside0.mk hy114
    clear hy114
    by_cases c5 : 0 ≤ a1
    · rw [if_pos c5] at H
      have c5b0 : decide (0 ≤ a1) = true := decide_eq_true c5
      clear c5
      by_cases c6 : a1 < (y114.length : Int)
      · rw [if_pos c6] at H
        have c6b0 : decide (a1 < (y114.length : Int)) = true := decide_eq_true c6
        clear c6
        obtain ⟨y117, hy117⟩ : ∃ y_ : List Int, y_ = (y114.set (a1 : Int).toNat a2) := ⟨_, rfl⟩
        replace H : (some y117) = some r := by first | (rw [hy117]; with_reducible exact H) | (have H2_ := (Option.bind_some _ _).symm.trans H; rw [hy117]; with_reducible exact H2_) | (have H2_ := (Option.bind_some _ _).symm.trans H; with_reducible exact H2_) | with_reducible exact H | (rw [hy117]; exact H) | exact H
        have Ny117 := Aside0.mk hy117
        clear hy117
        obtain rfl := Option.some.inj H
        go_enter Try.func45, Try.ntmps45
        go_wp2_with (first | ((with_reducible refine gate_dst (N := 8) rfl ?_); refine Kd.R_lit (Kd.int .i64) _ 3 ?hg (N := 8) ?hd (xs := ([] : List Int)) (inner := []) (ok := fun _ => True) (okp := fun _ => True) ?hr ?hp (fun _ hk => hk) trivial (Below.refl _ _) (Nat.le_refl _) (by simp) ?_; (case hd => rfl); (case hg => rfl); (case hr => first | (go_simp; done) | (go_simp; rfl)); (case hp => exact (Reps.none _ _)); intro v112 w8 ho9 hb hg_ hnew_; clear hg_ hnew_; (first | rw [← Ny111.out] at ho9 | (simp only [Int.reduceToNat] at ho9; rw [← Ny111.out] at ho9)); have n0_ := Aside0.mk (Kd.R_lower ho9 (below_size (by repeat (first | (with_reducible first | exact HB.out | apply below_alloc | apply pw_below_drewN | apply below_drew1) | exact HB.out)))); have n1_ := Aside0.mk (below_step (by repeat (first | (with_reducible first | exact HB.out | apply below_alloc | apply pw_below_drewN | apply below_drew1) | exact HB.out)) hb); clear HB; have HO113 := n0_; have HB := n1_; clear n0_ n1_; clear hb ho9) | ((with_reducible refine gate_builtin (b := .append) (xs := #[.tmp 8, .tmp 9]) rfl ?_); at_builtin; refine Kd.R_append_rows (Kd.int .i64) (w0 := w) w.heap.size rfl (.tmp 8) (.tmp 9) 33 3 (.int .i64 0) 8 rfl Try.underlying33 info3 rfl (by decide) (by omega) v112 y111 l0 _ _ _ (fun _ => True) (fun _ => False) rfl rfl ?aO ?aR (fun _ _ h => h) (fun _ h => h.elim) ?aF ?aB ?aS ?aL ?_; (case aR => repeat (first | exact (Kd.C_below HR0.out HB.out) | (with_reducible refine Kd.C_alloc ?_ _) | (with_reducible refine Kd.C_drewN ?_ _) | (with_reducible refine Kd.C_drew ?_))); (case aB => exact (by repeat (first | (with_reducible first | exact HB.out | apply below_alloc | apply pw_below_drewN | apply below_drew1) | exact HB.out))); (case aF => exact (fun _ _ => trivial)); (case aO => exact (by (with_reducible repeat (first | apply Kd.R_alloc | apply Kd.R_drewN | apply Kd.R_drew)); exact HO113.out)); (case aS => exact (below_size (by repeat (first | (with_reducible first | exact HB.out | apply below_alloc | apply pw_below_drewN | apply below_drew1) | exact HB.out)))); (case aL => have := LMc4.out; omega); intro v115 w10 ho hb hg hat; rw [← Ny114.out] at ho; have n0_ := Aside0.mk (hb); have n1_ := Aside0.mk (ho); clear HB; clear HO113; have HB := n0_; have HO116 := n1_; clear n0_ n1_; clear ho hb hg hat; have p7 : 0 ≤ (a1 : Int) := of_decide_eq_true (by first | (with_reducible assumption) | assumption); have q7 : (a1 : Int) < ((y114.length : Int) : Int) := of_decide_eq_true (by first | (with_reducible assumption) | assumption); obtain ⟨go7, co7, eo7, gb7, gl7, cl7, HG7⟩ := Kd.R_form HO116.out (by omega); (first | cases eo7 | (injection eo7 with ea_ en_ ec_; (first | subst ea_ | (injection ea_ with ea_; subst ea_)); subst ec_; clear en_)); have GB7 := Aside0.mk gb7; have GG7 := Aside0.mk HG7; clear gb7 gl7 HG7; obtain ⟨hx7_0, hf7_0⟩ := Kd.R_celln 0 HO116.out (a1 : Int) p7 q7; replace p7 := eq_true p7; replace q7 := eq_true q7; obtain ⟨hy11_, hz11_⟩ := Kd.R_celln 0 HO116.out (a1 : Int) (of_decide_eq_true (by first | (with_reducible assumption) | assumption)) (of_decide_eq_true (by first | (with_reducible assumption) | assumption)); have HP11 := Kd.R_putg HO116.out (a1 : Int) a2) | ((with_reducible refine gate_store (t := 3) (p := 14) rfl ?_); refine store_event (t := 3) (p := 14) (v := ?vo_w12) (w1 := (w10.setCell ⟨go7, (a1 : Int).toNat, none⟩ (.int .i64 a2))) ?hg ?ho ?hn ?hr ?_; (case ho => rfl); (case hg => rfl); (case hn => rfl); (case hr => first | (go_simp; done) | (go_simp; rfl)); intro w12 hw; have hg : w10.grownBy w12 (some go7) := (by rw [hw]; exact HP11.2); have hp_ : Kd.R (Kd.int .i64) 3 w12 w.heap.size (fun _ => True) (.slice (some ⟨go7, 0, none⟩) y114.length co7) y117 := (by rw [hw, Ny117.out]; exact HP11.1); clear HP11; have n0_ := Aside0.mk (hp_); have n1_ := Aside0.mk ((by rw [hw]; exact below_set (HB.out) GB7.out : Below w.heap.size w w12)); clear HO116; clear HB; have HO116 := n0_; have HB := n1_; clear n0_ n1_; clear hg hw hp_))
        go_ret
        exact ⟨_, by first | rfl | (simp [errW_none, errW_some] <;> rfl) | (simp [*, errW_none, errW_some] <;> rfl), by (with_reducible repeat (first | apply Kd.R_alloc | apply Kd.R_drewN | apply Kd.R_drew)); exact HO116.out, by repeat (first | (with_reducible first | exact HB.out | apply below_alloc | apply pw_below_drewN | apply below_drew1) | exact HB.out)⟩
      · rw [if_neg c6] at H
        exact absurd H (by simp)
    · rw [if_neg c5] at H
      exact absurd H (by simp)
  · rw [if_neg c4] at H
    exact absurd H (by simp)

end Go.Proofs.Ythecbaeemmejpaa.P
