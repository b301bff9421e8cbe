/- Each Go function that the laws reach, as a plain function, with the proof that the machine's call comes to what it says; of a law: its row. Made by a program of this seat (wip/hp.py, over the print). -/
import Derived.Test.YthecbaeemmejpaaPx0
import Derived.Test.YthecbaeemmejpaaPx1
import Derived.Test.YthecbaeemmejpaaPx2
import Derived.Test.YthecbaeemmejpaaPx3
import Derived.Test.YthecbaeemmejpaaPx4
namespace Go.Proofs.Ythecbaeemmejpaa.P
open Go.RowKit Go.Proofs.YthecbaeemmejpaaW.PrintWords Go.Proofs.YthecbaeemmejpaaW.PrintLast Go.Proofs.YthecbaeemmejpaaW.PrintMore
attribute [local go_sem] max2_int min2_int max_two min_two max_three min_three max_four min_four   -- for this text's walks alone
set_option linter.unusedVariables false
set_option linter.unusedSimpArgs false

/-! ### gangplanklaw14_CellsDo: function 10 -/
section
open Go.Shelf Go.Proofs.Ythecbaeemmejpaa.Hand
theorem with_in (l : List Int) (i v : Int) (h0 : 0 ≤ i) (h1 : i < l.length) (hl : l.length ≤ 1024) : gangplankref14_with.f l i v = some (l.set i.toNat v) := by
  unfold gangplankref14_with.f
  simp only [Option.bind_some, List.nil_append, List.length_nil, Nat.zero_add]
  rw [if_pos (by omega), if_pos h0, if_pos h1]
theorem rd_getD (l : List Int) (i : Int) : rd l i = l.getD i.toNat 0 := rfl
theorem refcell_eq (s : CS) (k i a b : Int) (hl : s.cells.length ≤ 1024) (hk : 0 ≤ k ∧ k ≤ 3) (h0 : 0 ≤ i) (h1 : i < s.cells.length) : gangplankref14_cell.f s.cells s.owners s.shared k i a b = some ((s.act k i a b).2.cells, (s.act k i a b).2.owners, (s.act k i a b).2.shared, (s.act k i a b).1.1, (s.act k i a b).1.2) := by
  unfold gangplankref14_cell.f
  rw [if_pos h0, if_pos h1]
  unfold CS.act
  by_cases c0 : k = 0
  · rw [if_pos c0, if_pos c0]
    unfold CS.load
    rw [if_pos ⟨h0, h1⟩]; rfl
  rw [if_neg c0, if_neg c0]
  by_cases c1 : k = 1
  · rw [if_pos c1, if_pos c1, with_in _ _ _ h0 h1 hl]
    unfold CS.store
    rw [if_pos ⟨h0, h1⟩]; rfl
  rw [if_neg c1, if_neg c1]
  by_cases c2 : k = 2
  · rw [if_pos c2, if_pos c2, with_in _ _ _ h0 h1 hl]
    unfold CS.add
    rw [if_pos ⟨h0, h1⟩]; rfl
  rw [if_neg c2, if_neg c2, if_pos (show k = 3 by omega)]
  unfold CS.swap
  rw [if_pos (show 0 ≤ i ∧ i < (s.cells.length : Int) from ⟨h0, h1⟩), rd_getD]
  by_cases c3 : s.cells.getD i.toNat 0 = a
  · rw [if_pos c3, if_pos c3, with_in _ _ _ h0 h1 hl]; rfl
  · rw [if_neg c3, if_neg c3]
theorem reflock_eq (s : CS) (k i a b : Int) (n : Nat) (hl : s.owners.length ≤ 1024) (hk : k = 4 ∨ k = 5) (h0 : 0 ≤ i) (h1 : i < s.owners.length) (hx : -1 ≤ s.owners.getD i.toNat 0) : gangplankref14_lock.f (n + 1) s.cells s.owners s.shared k i a b = some ((s.act k i a b).2.cells, (s.act k i a b).2.owners, (s.act k i a b).2.shared, (s.act k i a b).1.1, (s.act k i a b).1.2) := by
  unfold gangplankref14_lock.f
  rw [if_pos h0, if_pos h1, rd_getD]
  obtain ⟨x, hxx⟩ : ∃ x, s.owners.getD i.toNat 0 = x := ⟨_, rfl⟩
  have ht : ∀ who old v, s.turn i who old v = if 0 ≤ who ∧ x = old then (true, { s with shared := wrap64 (s.shared + 1), owners := s.owners.set i.toNat v }) else (false, { s with shared := wrap64 (s.shared + 1) }) := fun who old v => by
    unfold CS.turn
    rw [if_pos ⟨h0, h1⟩, hxx]
  rw [hxx] at hx ⊢
  rcases hk with rfl | rfl
  · have ea : s.act 4 i a b = ((0, (s.turn i a (-1) a).1), (s.turn i a (-1) a).2) := rfl
    rw [ea, ht, if_pos rfl]
    by_cases c : x < 0
    · rw [if_pos c]
      by_cases ca : a ≥ 0
      · rw [decide_eq_true ca, if_pos (show 0 ≤ a ∧ x = -1 from ⟨ca, by omega⟩)]
        simp only [gangplankref14_lock.j0]
        rw [if_pos (by trivial), with_in _ _ _ h0 h1 hl]; rfl
      · rw [decide_eq_false ca, if_neg (show ¬ (0 ≤ a ∧ x = -1) from by omega)]
        simp only [gangplankref14_lock.j0]
        rw [if_neg (by decide), if_neg (by decide)]
    · rw [if_neg c, if_neg (show ¬ (0 ≤ a ∧ x = -1) from by omega)]
      simp only [gangplankref14_lock.j0]
      rw [if_neg (by decide), if_neg (by decide)]
  · have ea : s.act 5 i a b = ((0, (s.turn i a a (-1)).1), (s.turn i a a (-1)).2) := rfl
    rw [ea, ht, if_neg (show ¬ (5 : Int) = 4 from by decide)]
    simp only [gangplankref14_lock.j0]
    rw [if_neg (show ¬ false = true from by decide), if_pos (by trivial)]
    by_cases c : x ≥ 0
    · rw [if_pos c]
      by_cases ca : x = a
      · rw [if_pos ca, if_pos (show 0 ≤ a ∧ x = a from ⟨by omega, ca⟩), with_in _ _ _ h0 h1 hl]; rfl
      · rw [if_neg ca, if_neg (show ¬ (0 ≤ a ∧ x = a) from fun h => ca h.2)]
    · rw [if_neg c, if_neg (show ¬ (0 ≤ a ∧ x = a) from by omega)]
theorem refDo_eq (s : CS) (k i a b : Int) (n : Nat) (hl : s.cells.length ≤ 1024 ∧ s.owners.length ≤ 1024) (hx : ∀ j, j < s.owners.length → -1 ≤ s.owners.getD j 0) : gangplankref14_Do.f (n + 4) s.cells s.owners s.shared k i a b = some ((s.act k i a b).2.cells, (s.act k i a b).2.owners, (s.act k i a b).2.shared, (s.act k i a b).1.1, (s.act k i a b).1.2) := by
  have lo : ¬ (0 ≤ k ∧ k ≤ 3) → ∀ m, gangplankref14_Do.j0 (m + 3) false s.cells s.owners s.shared k i a b = some ((s.act k i a b).2.cells, (s.act k i a b).2.owners, (s.act k i a b).2.shared, (s.act k i a b).1.1, (s.act k i a b).1.2) := fun hk m => by
    have out : ¬ (0 ≤ i ∧ i < s.owners.length) → gangplankref14_Do.j1 (m + 2) true s.cells s.owners s.shared k i a b = some ((s.act k i a b).2.cells, (s.act k i a b).2.owners, (s.act k i a b).2.shared, (s.act k i a b).1.1, (s.act k i a b).1.2) := fun hi => by
      unfold CS.act CS.lock CS.unlock CS.turn CS.owner
      rw [if_neg (by omega), if_neg (by omega), if_neg (by omega), if_neg (by omega)]
      simp only [gangplankref14_Do.j1]
      rw [if_pos (by trivial), if_neg hi, if_neg hi]
      by_cases c4 : k = 4
      · rw [if_pos c4, if_pos c4]
        simp only [gangplankref14_Do.j2]
        rw [if_pos (by trivial)]
      · rw [if_neg c4, if_neg c4]
        by_cases c5 : k = 5
        · rw [if_pos c5, show (k == 5) = true from beq_iff_eq.mpr c5]
          simp only [gangplankref14_Do.j2]
          rw [if_pos (by trivial)]
        · rw [if_neg c5, if_neg hi, show (k == 5) = false from beq_eq_false_iff_ne.mpr c5]
          simp only [gangplankref14_Do.j2]
          rw [if_neg (by decide)]
    simp only [gangplankref14_Do.j0]
    rw [if_neg (by decide)]
    by_cases c : i < 0
    · rw [if_pos c]; exact out (by omega)
    · rw [if_neg c]
      by_cases c2 : i ≥ (s.owners.length : Int)
      · rw [decide_eq_true c2]; exact out (by omega)
      · rw [decide_eq_false c2]
        have hi : 0 ≤ i ∧ i < s.owners.length := by omega
        simp only [gangplankref14_Do.j1]
        rw [if_neg (by decide)]
        by_cases c4 : k = 4
        · rw [if_pos c4, reflock_eq s k i a b m hl.2 (.inl c4) hi.1 hi.2 (hx _ (by omega))]; rfl
        · rw [if_neg c4]
          by_cases c5 : k = 5
          · rw [if_pos c5, reflock_eq s k i a b m hl.2 (.inr c5) hi.1 hi.2 (hx _ (by omega))]; rfl
          · rw [if_neg c5, if_pos hi.1, if_pos hi.2]
            unfold CS.act CS.owner
            rw [if_neg (by omega), if_neg (by omega), if_neg (by omega), if_neg (by omega), if_neg c4, if_neg c5, if_pos hi]; rfl
  unfold gangplankref14_Do.f
  by_cases c : k ≥ 0
  · rw [if_pos c]
    by_cases c3 : k ≤ 3
    · rw [decide_eq_true c3]
      simp only [gangplankref14_Do.j0]
      rw [if_pos (by trivial)]
      have hout : ¬ (0 ≤ i ∧ i < s.cells.length) → (s.act k i a b) = ((0, false), s) := fun hi => by
        unfold CS.act CS.load CS.store CS.add CS.swap
        rw [if_neg hi, if_neg hi, if_neg hi, if_neg hi]
        by_cases k0 : k = 0
        · rw [if_pos k0]
        rw [if_neg k0]
        by_cases k1 : k = 1
        · rw [if_pos k1]
        rw [if_neg k1]
        by_cases k2 : k = 2
        · rw [if_pos k2]
        rw [if_neg k2, if_pos (by omega)]
      by_cases i0 : i < 0
      · rw [if_pos i0, hout (by omega)]
      · rw [if_neg i0]
        by_cases i1 : i ≥ (s.cells.length : Int)
        · rw [if_pos i1, hout (by omega)]
        · rw [if_neg i1, refcell_eq s k i a b hl.1 ⟨c, c3⟩ (by omega) (by omega)]; rfl
    · rw [decide_eq_false c3]; exact lo (by omega) (n + 1)
  · rw [if_neg c]; exact lo (by omega) (n + 1)
theorem fill_eq (a v : Int) (N : Nat) (hN : mn (mx a 0) 1024 = (N : Int)) : gangplankref14_fill.f 1100 a v = some (List.replicate N v) := by
  have hN1 : N ≤ 1024 := by unfold mn at hN; split at hN <;> omega
  have loop : ∀ (d k j : Nat), N - j = d → j ≤ N → d < k → gangplankref14_fill.l0 k a v (List.replicate j v) (j : Int) = some (List.replicate N v) := by
    intro d
    induction d with
    | zero =>
      intro k j hd hj hk
      obtain ⟨k, rfl⟩ : ∃ m, k = m + 1 := ⟨k - 1, by omega⟩
      obtain rfl : j = N := by omega
      simp only [gangplankref14_fill.l0]
      by_cases c : (j : Int) < a
      · rw [if_pos c, if_neg (by unfold mn mx at hN; split at hN <;> split at hN <;> omega)]
      · rw [if_neg c]
    | succ d ih =>
      intro k j hd hj hk
      obtain ⟨k, rfl⟩ : ∃ m, k = m + 1 := ⟨k - 1, by omega⟩
      simp only [gangplankref14_fill.l0]
      rw [if_pos (by unfold mn mx at hN; split at hN <;> split at hN <;> omega), if_pos (by omega), if_pos (by rw [List.length_replicate]; omega), show wrap64 ((j : Int) + 1) = ((j + 1 : Nat) : Int) from w14s (by omega), ← List.replicate_succ']
      exact ih k (j + 1) (by omega) (by omega) (by omega)
  exact loop N 1100 0 (by omega) (by omega) (by omega)
/-- The document's state, in memory: a box of two rows and a number. -/
def RefAt (W : World) (base p b1 b2 B : Nat) (s : CS) : Prop := ∃ v0 v1 : Value, Blk W B 41 [v0, v1, .int .i64 s.shared] ∧ Kd.R (Kd.int .i64) 3 W base (fun k => (k ≠ p ∧ k ≠ b1 ∧ k ≠ b2) ∧ some k ≠ v1.ownBlock) v0 s.cells ∧ Kd.R (Kd.int .i64) 3 W base (fun k => (k ≠ p ∧ k ≠ b1 ∧ k ≠ b2) ∧ some k ≠ v0.ownBlock) v1 s.owners
theorem RefAt.touch {W W' : World} {base p b1 b2 B : Nat} {s t : CS} (h : RefAt W base p b1 b2 B s) (hH : Held W p b1 b2 t) (ht : Touch W W' p b1 b2) : RefAt W' base p b1 b2 B s := by
  obtain ⟨v0, v1, hb, h0, h1⟩ := h
  have n0 : B ≠ p := blk_ne hb hH.hp (by decide)
  have n1 : B ≠ b1 := blk_ne hb hH.h1 (by decide)
  have n2 : B ≠ b2 := blk_ne hb hH.h2 (by decide)
  exact ⟨v0, v1, ht.blk hb n0 n1 n2, Kd.R_step h0 (fun k ho hk => ht.far k hk ho.1.1 ho.1.2.1 ho.1.2.2), Kd.R_step h1 (fun k ho hk => ht.far k hk ho.1.1 ho.1.2.1 ho.1.2.2)⟩
theorem RefAt.alloc {W : World} {base p b1 b2 B : Nat} {s : CS} (h : RefAt W base p b1 b2 B s) (o : Obj) : RefAt (W.alloc o) base p b1 b2 B s := by
  obtain ⟨v0, v1, hb, h0, h1⟩ := h
  exact ⟨v0, v1, hb.alloc o, Kd.R_alloc h0 o, Kd.R_alloc h1 o⟩
theorem blkDrewL {W : World} {B : Nat} {t : TypeId} {cs : List Value} (h : Blk W B t cs) : Blk W.drew B t cs := h
theorem Held.drewD {W : World} {p b1 b2 : Nat} {s : CS} (h : Held W p b1 b2 s) : Held W.drew p b1 b2 s := ⟨h.hp, h.h1, h.h2, h.ne, h.n1, h.n2⟩
theorem blkKeptL {W W' : World} {B : Nat} {t : TypeId} {cs : List Value} {S : Nat → Prop} (h : Blk W B t cs) (hk : Kept W W' S) (hn : ¬ S B) : Blk W' B t cs := (hk.2 B h.lt hn).trans h
theorem at_c {w : World} {ad : Addr} {n : Nat} {xs : List S47} (h : Kd.C k47 w (some ad) n xs) (i : Int) (h0 : 0 ≤ i) (h1 : i < n) : w.cell? (ad.add (i.toNat * 4)) = some (.int .i64 (rd_T47 xs i).f0) ∧ w.cell? ⟨(ad.add (i.toNat * 4)).block, (ad.add (i.toNat * 4)).off + 1, none⟩ = some (.int .i64 (rd_T47 xs i).f1) ∧ w.cell? ⟨(ad.add (i.toNat * 4)).block, (ad.add (i.toNat * 4)).off + 2, none⟩ = some (.int .i64 (rd_T47 xs i).f2) ∧ w.cell? ⟨(ad.add (i.toNat * 4)).block, (ad.add (i.toNat * 4)).off + 3, none⟩ = some (.int .i64 (rd_T47 xs i).f3) := by
  obtain ⟨ad', e, r⟩ := at_T47 h i h0 h1
  injection e with e
  subst e; exact r
theorem Held.kept {W W' : World} {p b1 b2 : Nat} {s : CS} {S : Nat → Prop} (h : Held W p b1 b2 s) (hk : Kept W W' S) (hn : ∀ k, S k → k ≠ p ∧ k ≠ b1 ∧ k ≠ b2) : Held W' p b1 b2 s :=
  ⟨(hk.2 p h.hp.lt (fun hs => (hn p hs).1 rfl)).trans h.hp, (hk.2 b1 h.h1.lt (fun hs => (hn b1 hs).2.1 rfl)).trans h.h1, (hk.2 b2 h.h2.lt (fun hs => (hn b2 hs).2.2 rfl)).trans h.h2, h.ne, h.n1, h.n2⟩
def gangplanklaw14_CellsDo.f (a0 : Int) (a1 : Int) (l2 : List S47) : Option Bool := some true
set_option maxRecDepth 100000 in
set_option maxHeartbeats 16000000 in
theorem gangplanklaw14_CellsDo.calls (a0 : Int) (a1 : Int) (A2 : Option Addr) (c2 : Nat) (l2 : List S47) (r : Bool) (w : World) (hr2 : Kd.C k47 w A2 l2.length l2) (hc2 : l2.length ≤ c2) (h : gangplanklaw14_CellsDo.f a0 a1 l2 = some r) :
    Calls Try.prog 10 #[.int .i64 a0, .int .i64 a1, .slice A2 l2.length c2] w fun e w' => e = .returned (.bool r) ∧ Below w.heap.size w w' := by
  obtain rfl : true = r := Option.some.inj h
  clear h
  have HR := Lib.hid hr2
  clear hr2
  go_enter Try.func10, Try.ntmps10
  by_cases g0 : 60 < (l2.length : Int)
  · have q0 : decide (60 < (l2.length : Int)) = true := decide_eq_true g0
    go_wp2_with (go_at_call 21; refine (works14_any _).mono ?_; rintro e w1 ⟨rfl, hb⟩)
    go_ret
    exact ⟨rfl, hb⟩
  have q0 : decide (60 < (l2.length : Int)) = false := decide_eq_false g0
  obtain ⟨N, hN⟩ : ∃ N : Nat, mn (mx a0 0) 1024 = (N : Int) := ⟨(mn (mx a0 0) 1024).toNat, by unfold mn mx; split <;> split <;> omega⟩
  obtain ⟨M, hM⟩ : ∃ M : Nat, mn (mx a1 0) 1024 = (M : Int) := ⟨(mn (mx a1 0) 1024).toNat, by unfold mn mx; split <;> split <;> omega⟩
  have HN := Lib.hid hN
  have HM := Lib.hid hM
  have HNM := Lib.hid (show N ≤ 1024 ∧ M ≤ 1024 from ⟨by unfold mn at hN; split at hN <;> omega, by unfold mn at hM; split at hM <;> omega⟩)
  have HLl := Lib.hid (show (l2.length : Int) ≤ 60 from by omega)
  have HNEW := Lib.hid (show gangplankref14_New.f 1100 a0 a1 = some (List.replicate N 0, List.replicate M (-1), 0) from by unfold gangplankref14_New.f; rw [fill_eq a0 0 N hN, fill_eq a1 (-1) M hM]; rfl)
  clear hN hM g0
  go_wp2_with fail
  go_at_call 21
  refine (works14_any _).mono ?_
  rintro e w1 ⟨rfl, hb⟩
  have HB := Lib.hid hb
  clear hb
  go_wp2_with fail
  go_at_call 22
  refine (New_any a0 a1 N M HN.out HM.out _).mono ?_
  rintro e w2 ⟨p, b1, b2, rfl, hh, hp, hp1, hp2, hb2⟩
  have HC := Lib.hid hh
  have HP := Lib.hid (show w.heap.size ≤ p ∧ w.heap.size ≤ b1 ∧ w.heap.size ≤ b2 from ⟨Nat.le_trans HB.out.size hp, Nat.le_trans HB.out.size hp1, Nat.le_trans HB.out.size hp2⟩)
  have HB2 := Lib.hid (HB.out.trans (hb2.mono HB.out.size))
  clear hh hp hp1 hp2 hb2 HB
  go_wp2_with fail
  go_at_call 25
  refine (gangplankref14_New.calls 1100 a0 a1 _ _ _ _ HNEW.out).mono ?_
  rintro e w3 ⟨v0, v1, rfl, hr0, hr1, hb3⟩
  obtain ⟨Aa, ca, ea⟩ := Kd.R_slice hr0
  obtain ⟨Ab, cb, eb⟩ := Kd.R_slice hr1
  rw [List.length_replicate] at ea eb
  subst ea
  subst eb
  have HC3 := Lib.hid (show Held w3 p b1 b2 _ from ⟨HC.out.hp.below hb3, HC.out.h1.below hb3, HC.out.h2.below hb3, HC.out.ne, HC.out.n1, HC.out.n2⟩)
  have HB3 := Lib.hid (HB2.out.trans (hb3.mono HB2.out.size))
  have hlt := HC.out.hp.lt
  have hlt1 := HC.out.h1.lt
  have hlt2 := HC.out.h2.lt
  have HREF := Lib.hid (show RefAt (w3.alloc (.cells #[.slice Aa N ca, .slice Ab M cb, .int .i64 0] 41)) w.heap.size p b1 b2 w3.heap.size ⟨List.replicate N 0, List.replicate M (-1), 0⟩ from ⟨.slice Aa N ca, .slice Ab M cb, Blk.new w3 _ _, Kd.R_alloc (Kd.R_mono (Kd.R_lower (Kd.R_bound hr0) HB2.out.size) (fun k hk => ⟨⟨by have := hk.2.1; omega, by have := hk.2.1; omega, by have := hk.2.1; omega⟩, hk.1⟩)) _, Kd.R_alloc (Kd.R_mono (Kd.R_lower (Kd.R_bound hr1) HB2.out.size) (fun k hk => ⟨⟨by have := hk.2.1; omega, by have := hk.2.1; omega, by have := hk.2.1; omega⟩, hk.1⟩)) _⟩)
  have HC4 := Lib.hid (HC3.out.alloc (.cells #[.slice Aa N ca, .slice Ab M cb, .int .i64 0] 41))
  have HB4 := Lib.hid (HB3.out.alloc HB3.out.size (.cells #[.slice Aa N ca, .slice Ab M cb, .int .i64 0] 41))
  have HW3 := Lib.hid (show w.heap.size ≤ w3.heap.size from HB3.out.size)
  clear hr0 hr1 hb3 hlt hlt1 hlt2 HC HC3 HB3 HB2 HNEW
  go_wp2
  go_loopw [10] (fun i wr => ∃ j : Int, 0 ≤ j ∧ j ≤ l2.length ∧ i = .int .i64 j ∧ (∃ s, Held wr p b1 b2 s ∧ RefAt wr w.heap.size p b1 b2 w3.heap.size s ∧ (s.cells.length ≤ 1024 ∧ s.owners.length ≤ 1024) ∧ (∀ j, j < s.owners.length → -1 ≤ s.owners.getD j 0)) ∧ Below w.heap.size w wr) (fun i _ => l2.length - (intOf i).toNat)
  case atStart => exact ⟨0, Int.le_refl _, by omega, rfl, ⟨_, HC4.out, HREF.out, ⟨by simp; exact HNM.out.1, by simp; exact HNM.out.2⟩, fun j hj => by dsimp only at hj ⊢; rw [List.length_replicate] at hj; rw [List.getD_eq_getElem?_getD, List.getElem?_replicate, if_pos hj]; exact Int.le_refl _⟩, HB4.out⟩
  case round =>
    clear HC4 HREF HB4
    obtain ⟨j, hj0, hj1, rfl, ⟨s, hs, href, hsl, hso⟩, hB⟩ := hrel
    have HB := Lib.hid hB
    have HC := Lib.hid hs
    have HREF := Lib.hid href
    have HSL := Lib.hid hsl
    have HSO := Lib.hid hso
    clear hB hs href hsl hso
    by_cases hlt : j < l2.length
    · obtain ⟨ad, hA, x0, x1, x2, x3⟩ := at_T47 (Kd.C_below HR.out HB.out) j hj0 hlt
      subst hA
      have hw := w14s (x := j + 1) (by have := HLl.out; omega)
      have HJ := Lib.hid (show 0 ≤ j ∧ j < l2.length from ⟨hj0, hlt⟩)
      have p0 : decide (0 ≤ j) = true := decide_eq_true hj0
      have p1 : decide (j < (l2.length : Int)) = true := decide_eq_true hlt
      have p2 := eq_true hj0
      have p3 := eq_true hlt
      have href0 := refDo_eq s (rd_T47 l2 j).f0 (rd_T47 l2 j).f1 (rd_T47 l2 j).f2 (rd_T47 l2 j).f3 4 HSL.out HSO.out
      have hown := act_own s (rd_T47 l2 j).f0 (rd_T47 l2 j).f1 (rd_T47 l2 j).f2 (rd_T47 l2 j).f3 HSO.out
      have hlen := act_len s (rd_T47 l2 j).f0 (rd_T47 l2 j).f1 (rd_T47 l2 j).f2 (rd_T47 l2 j).f3
      obtain ⟨⟨⟨v1, v2⟩, s'⟩, hact⟩ : ∃ z, s.act (rd_T47 l2 j).f0 (rd_T47 l2 j).f1 (rd_T47 l2 j).f2 (rd_T47 l2 j).f3 = z := ⟨_, rfl⟩
      rw [hact] at href0 hown hlen
      dsimp only at href0 hown hlen
      have HACT := Lib.hid hact
      have HDO := Lib.hid href0
      have HOWN := Lib.hid hown
      have HLEN := Lib.hid (show s'.cells.length ≤ 1024 ∧ s'.owners.length ≤ 1024 from by have := hlen.1; have := hlen.2; have := HSL.out; omega)
      clear hact href0 hown hlen hlt hj0 hj1
      go_wp2_with fail
      go_at_call 26
      refine (do_any p b1 b2 s _ _ _ _ _ HC.out).mono ?_
      rintro e w5 ⟨he, hh, ht⟩
      rw [HACT.out] at he hh
      obtain rfl : e = .returned (.agg #[.int .i64 v1, .bool v2]) := he
      have HBx := Lib.hid (HB.out.trans (ht.below w.heap.size HP.out.1 HP.out.2.1 HP.out.2.2 HB.out.size))
      have HREF5 := HREF.out.touch HC.out ht
      obtain ⟨W5, hW5⟩ : ∃ W5, w5.alloc (.cells #[.int .i64 v1, .bool v2] 44) = W5 := ⟨_, rfl⟩
      have HC5 := Lib.hid (show Held W5 p b1 b2 s' from by rw [← hW5]; exact hh.alloc _)
      have HB5 := Lib.hid (show Below w.heap.size w W5 from by rw [← hW5]; exact HBx.out.alloc HBx.out.size _)
      have BX := Lib.hid (show Blk W5 w5.heap.size 44 [.int .i64 v1, .bool v2] from by rw [← hW5]; exact Blk.new w5 _ _)
      obtain ⟨u0, u1, hb9, hr0, hr1⟩ := show RefAt W5 w.heap.size p b1 b2 w3.heap.size s from by rw [← hW5]; exact HREF5.alloc _
      obtain ⟨Aa, ca, rfl⟩ := Kd.R_slice hr0
      obtain ⟨Ab, cb, rfl⟩ := Kd.R_slice hr1
      have B9 := Lib.hid hb9
      have HR0 := Lib.hid hr0
      have HR1 := Lib.hid hr1
      clear HC HB HREF HREF5 hh ht x0 x1 x2 x3 HBx hb9 hr0 hr1
      go_wp2
      clear hW5
      have HKEEP := Lib.hid (show ∀ (V : World) (hb : Blk V w3.heap.size 41 [.slice Aa s.cells.length ca, .slice Ab s.owners.length cb, .int .i64 s.shared]) (hB : Below w.heap.size w V), V.cell? ⟨w3.heap.size, 0, none⟩ = some (.slice Aa s.cells.length ca) ∧ V.cell? ⟨w3.heap.size, 1, none⟩ = some (.slice Ab s.owners.length cb) ∧ V.cell? ⟨w3.heap.size, 2, none⟩ = some (.int .i64 s.shared) ∧ V.cell? (ad.add (j.toNat * 4)) = some (.int .i64 (rd_T47 l2 j).f0) ∧ V.cell? ⟨(ad.add (j.toNat * 4)).block, (ad.add (j.toNat * 4)).off + 1, none⟩ = some (.int .i64 (rd_T47 l2 j).f1) ∧ V.cell? ⟨(ad.add (j.toNat * 4)).block, (ad.add (j.toNat * 4)).off + 2, none⟩ = some (.int .i64 (rd_T47 l2 j).f2) ∧ V.cell? ⟨(ad.add (j.toNat * 4)).block, (ad.add (j.toNat * 4)).off + 3, none⟩ = some (.int .i64 (rd_T47 l2 j).f3) from fun V hb hB => ⟨hb.cell 0, hb.cell 1, hb.cell 2, at_c (Kd.C_below HR.out hB) j HJ.out.1 HJ.out.2⟩)
      have f0 := B9.out.cell 0
      have f1 := B9.out.cell 1
      have f2 := B9.out.cell 2
      obtain ⟨z0, z1, z2, z3⟩ := at_c (Kd.C_below HR.out HB5.out) j HJ.out.1 HJ.out.2
      go_region_held3 (fun w' => w'.cell? ⟨w3.heap.size, 0, none⟩ = some (.slice Aa s.cells.length ca) ∧ w'.cell? ⟨w3.heap.size, 1, none⟩ = some (.slice Ab s.owners.length cb) ∧ w'.cell? ⟨w3.heap.size, 2, none⟩ = some (.int .i64 s.shared) ∧ w'.cell? (ad.add (j.toNat * 4)) = some (.int .i64 (rd_T47 l2 j).f0) ∧ w'.cell? ⟨(ad.add (j.toNat * 4)).block, (ad.add (j.toNat * 4)).off + 1, none⟩ = some (.int .i64 (rd_T47 l2 j).f1) ∧ w'.cell? ⟨(ad.add (j.toNat * 4)).block, (ad.add (j.toNat * 4)).off + 2, none⟩ = some (.int .i64 (rd_T47 l2 j).f2) ∧ w'.cell? ⟨(ad.add (j.toNat * 4)).block, (ad.add (j.toNat * 4)).off + 3, none⟩ = some (.int .i64 (rd_T47 l2 j).f3))
        (first | (exact HKEEP.out _ (by (repeat (first | with_reducible exact B97.out | with_reducible exact B9.out | with_reducible apply blkDrewL | with_reducible apply Blk.alloc | (with_reducible refine Blk.far ?_ _ (by have h1 := B9.out.lt; first | (have h2 := B97.out.lt; simp; omega) | (simp; omega)) _)))) (by (repeat (first | with_reducible exact HB7.out | with_reducible exact HB5.out | with_reducible apply below_drew | with_reducible apply below_alloc | (with_reducible refine below_set ?_ (by have h1 := HB5.out.size; first | (have h2 := HB7.out.size; simp; omega) | (simp; omega))))))))
        (first | (go_at_call 27; refine (gangplankref14_Do.calls 8 (fun k => some k = (Value.slice Aa s.cells.length ca).ownBlock) _ s.cells (fun k => some k = (Value.slice Ab s.owners.length cb).ownBlock) _ s.owners s.shared (rd_T47 l2 j).f0 (rd_T47 l2 j).f1 (rd_T47 l2 j).f2 (rd_T47 l2 j).f3 _ _ _ _ _ w _ (by repeat (first | exact HB5.out | apply below_drew | apply below_alloc)) (Kd.R_tight rfl (by repeat (first | exact HR0.out | apply Kd.R_drew | apply Kd.R_alloc))) (fun k h h' => (HR0.out.1 k h.symm).2 h') (Kd.R_tight rfl (by repeat (first | exact HR1.out | apply Kd.R_drew | apply Kd.R_alloc))) (fun k h h' => (HR1.out.1 k h.symm).2 h') HDO.out).mono ?_; rintro e w7 ⟨v0', v1', rfl, hr0', hr1', hb7, hk7⟩; obtain ⟨Ac, cc, rfl⟩ := Kd.R_slice hr0'; obtain ⟨Ad, cd, rfl⟩ := Kd.R_slice hr1'; have HB7 := Lib.hid hb7; have HR07 := Lib.hid (show Kd.R (Kd.int .i64) 3 w7 w.heap.size (fun k => (k ≠ p ∧ k ≠ b1 ∧ k ≠ b2) ∧ some k ≠ (Value.slice Ad s'.owners.length cd).ownBlock) (.slice Ac s'.cells.length cc) s'.cells from Kd.R_mono hr0' (fun k hk => ⟨by rcases hk.1 with (hs | hs) | hs; exact (HR0.out.1 k hs.symm).1; exact (HR1.out.1 k hs.symm).1; exact ⟨(by have := HC5.out.hp.lt; have := HC5.out.h1.lt; have := HC5.out.h2.lt; simp at hs; omega), (by have := HC5.out.hp.lt; have := HC5.out.h1.lt; have := HC5.out.h2.lt; simp at hs; omega), (by have := HC5.out.hp.lt; have := HC5.out.h1.lt; have := HC5.out.h2.lt; simp at hs; omega)⟩, hk.2⟩)); have HR17 := Lib.hid (show Kd.R (Kd.int .i64) 3 w7 w.heap.size (fun k => (k ≠ p ∧ k ≠ b1 ∧ k ≠ b2) ∧ some k ≠ (Value.slice Ac s'.cells.length cc).ownBlock) (.slice Ad s'.owners.length cd) s'.owners from Kd.R_mono hr1' (fun k hk => ⟨by rcases hk.1 with (hs | hs) | hs; exact (HR0.out.1 k hs.symm).1; exact (HR1.out.1 k hs.symm).1; exact ⟨(by have := HC5.out.hp.lt; have := HC5.out.h1.lt; have := HC5.out.h2.lt; simp at hs; omega), (by have := HC5.out.hp.lt; have := HC5.out.h1.lt; have := HC5.out.h2.lt; simp at hs; omega), (by have := HC5.out.hp.lt; have := HC5.out.h1.lt; have := HC5.out.h2.lt; simp at hs; omega)⟩, hk.2⟩)); have HC7 := Lib.hid (show Held w7 p b1 b2 s' from Held.kept (by repeat (first | exact HC5.out | apply Held.drewD | apply Held.alloc)) hk7 (fun k hk => by rcases hk with hs | hs; exact (HR0.out.1 k hs.symm).1; exact (HR1.out.1 k hs.symm).1)); have B97 := Lib.hid (show Blk w7 w3.heap.size 41 [.slice Aa s.cells.length ca, .slice Ab s.owners.length cb, .int .i64 s.shared] from blkKeptL (show Blk _ _ _ _ from by repeat (first | exact B9.out | apply blkDrewL | apply Blk.alloc)) hk7 (fun hs => hs.elim (fun hs => Kd.R_ne HR0.out B9.out (by decide) hs) (fun hs => Kd.R_ne HR1.out B9.out (by decide) hs))); have BX7 := Lib.hid (show Blk w7 w5.heap.size 44 [.int .i64 v1, .bool v2] from blkKeptL (show Blk _ _ _ _ from by repeat (first | exact BX.out | apply blkDrewL | apply Blk.alloc)) hk7 (fun hs => hs.elim (fun hs => Kd.R_ne HR0.out BX.out (by decide) hs) (fun hs => Kd.R_ne HR1.out BX.out (by decide) hs))); have KEEP7 := Lib.hid (And.intro (B97.out.cell 0) (And.intro (B97.out.cell 1) (And.intro (B97.out.cell 2) (at_c (Kd.C_below HR.out HB7.out) j HJ.out.1 HJ.out.2)))); (try (have y0 : Blk w7 (W5.heap.size) 41 [.slice none 0 0, .slice none 0 0, .int .i64 0] := by first | exact blkKeptL (Blk.new W5.drew 41 [.slice none 0 0, .slice none 0 0, .int .i64 0]) hk7 (fun hs => hs.elim (fun h => Nat.lt_irrefl _ (Kd.R_lt HR0.out _ h.symm)) (fun h => Nat.lt_irrefl _ (Kd.R_lt HR1.out _ h.symm))) | exact blkKeptL ((Blk.new W5.drew 41 [.slice none 0 0, .slice none 0 0, .int .i64 0]).alloc _) hk7 (fun hs => hs.elim (fun h => Nat.lt_irrefl _ (Kd.R_lt HR0.out _ h.symm)) (fun h => Nat.lt_irrefl _ (Kd.R_lt HR1.out _ h.symm))))); (try (have y0c0 := y0.cell 0)); (try (have y0c1 := y0.cell 1)); (try (have y0c2 := y0.cell 2)); (try (have y0f0 := y0.frozen 0)); (try (have y0f1 := y0.frozen 1)); (try (have y0f2 := y0.frozen 2)); (try (have Y0 := Lib.hid y0; clear y0)); (try (have y1 : Blk w7 (W5.heap.size + 1) 41 [.slice none 0 0, .slice none 0 0, .int .i64 0] := by first | exact blkKeptL ((by have h := Blk.new (W5.drew.alloc (.cells #[.int .i64 0, .bool false] 44)) 41 [.slice none 0 0, .slice none 0 0, .int .i64 0]; simp only [World.size_alloc] at h; exact h)) hk7 (fun hs => hs.elim (fun h => absurd (Kd.R_lt HR0.out _ h.symm) (by omega)) (fun h => absurd (Kd.R_lt HR1.out _ h.symm) (by omega))))); (try (have y1c0 := y1.cell 0)); (try (have y1c1 := y1.cell 1)); (try (have y1c2 := y1.cell 2)); (try (have y1f0 := y1.frozen 0)); (try (have y1f1 := y1.frozen 1)); (try (have y1f2 := y1.frozen 2)); (try (have Y1 := Lib.hid y1; clear y1)); (try (have y2 : Blk w7 (W5.heap.size) 44 [.int .i64 0, .bool false] := by first | exact blkKeptL (Blk.new W5.drew 44 [.int .i64 0, .bool false]) hk7 (fun hs => hs.elim (fun h => Nat.lt_irrefl _ (Kd.R_lt HR0.out _ h.symm)) (fun h => Nat.lt_irrefl _ (Kd.R_lt HR1.out _ h.symm))) | exact blkKeptL ((Blk.new W5.drew 44 [.int .i64 0, .bool false]).alloc _) hk7 (fun hs => hs.elim (fun h => Nat.lt_irrefl _ (Kd.R_lt HR0.out _ h.symm)) (fun h => Nat.lt_irrefl _ (Kd.R_lt HR1.out _ h.symm))))); (try (have y2c0 := y2.cell 0)); (try (have y2c1 := y2.cell 1)); (try (have y2f0 := y2.frozen 0)); (try (have y2f1 := y2.frozen 1)); (try (have Y2 := Lib.hid y2; clear y2)); (try (have y3 : Blk w7 (W5.heap.size + 1) 44 [.int .i64 0, .bool false] := by first | exact blkKeptL ((by have h := Blk.new (W5.drew.alloc (.cells #[.slice none 0 0, .slice none 0 0, .int .i64 0] 41)) 44 [.int .i64 0, .bool false]; simp only [World.size_alloc] at h; exact h)) hk7 (fun hs => hs.elim (fun h => absurd (Kd.R_lt HR0.out _ h.symm) (by omega)) (fun h => absurd (Kd.R_lt HR1.out _ h.symm) (by omega))))); (try (have y3c0 := y3.cell 0)); (try (have y3c1 := y3.cell 1)); (try (have y3f0 := y3.frozen 0)); (try (have y3f1 := y3.frozen 1)); (try (have Y3 := Lib.hid y3; clear y3)); (try (have a0 := Y0.out.alloc (.cells #[.int .i64 0, .bool false] 44); have a0c0 := a0.cell 0; have a0c1 := a0.cell 1; have a0c2 := a0.cell 2; have a0f0 := a0.frozen 0; have a0f1 := a0.frozen 1; have a0f2 := a0.frozen 2; have A0 := Lib.hid a0; clear a0)); (try (have a2 := Y2.out.alloc (.cells #[.slice none 0 0, .slice none 0 0, .int .i64 0] 41); have a2c0 := a2.cell 0; have a2c1 := a2.cell 1; have a2f0 := a2.frozen 0; have a2f1 := a2.frozen 1; have A2_ := Lib.hid a2; clear a2)); (try (have n7 : ¬ W5.heap.size = w7.heap.size := by have := Y0.out.lt; omega)); (try (have n7 : ¬ W5.heap.size = w7.heap.size := by have := Y2.out.lt; omega)); (try (have n7' : ¬ w7.heap.size = W5.heap.size := by have := Y0.out.lt; omega)); (try (have n7' : ¬ w7.heap.size = W5.heap.size := by have := Y2.out.lt; omega)); (try (have b2' := Y2.out.alloc (.cells #[.slice Ac s'.cells.length cc, .slice Ad s'.owners.length cd, .int .i64 s'.shared] 41); have b2c0 := b2'.cell 0; have b2c1 := b2'.cell 1; have b2f0 := b2'.frozen 0; have b2f1 := b2'.frozen 1; have B2_ := Lib.hid b2'; clear b2')); clear hr0' hr1' hb7))
      · skip
        have HS57 := Lib.hid (show True from trivial)
        obtain ⟨V, hV⟩ : ∃ V, ((w7.alloc (.cells #[.slice Ac s'.cells.length cc, .slice Ad s'.owners.length cd, .int .i64 s'.shared] 41)).alloc (.cells #[.int .i64 v1, .bool v2] 44)) = V := ⟨_, rfl⟩
        have K12 := Lib.hid (show Blk V (w7.heap.size) 41 [.slice Ac s'.cells.length cc, .slice Ad s'.owners.length cd, .int .i64 s'.shared] from by rw [← hV]; exact ((Blk.new w7 41 [.slice Ac s'.cells.length cc, .slice Ad s'.owners.length cd, .int .i64 s'.shared]).alloc _))
        have K13 := Lib.hid (show Blk V (w7.heap.size + 1) 44 [.int .i64 v1, .bool v2] from by rw [← hV]; exact (by have h := Blk.new (w7.alloc (.cells #[.slice Ac s'.cells.length cc, .slice Ad s'.owners.length cd, .int .i64 s'.shared] 41)) 44 [.int .i64 v1, .bool v2]; simp only [World.size_alloc] at h; exact h))
        have KH := Lib.hid (show Held V p b1 b2 s' from by rw [← hV]; exact ((HC7.out.alloc _).alloc _))
        have KX := Lib.hid (show Blk V w5.heap.size 44 [.int .i64 v1, .bool v2] from by rw [← hV]; exact ((BX7.out.alloc _).alloc _))
        have K9 := Lib.hid (show Blk V w3.heap.size 41 [.slice Aa s.cells.length ca, .slice Ab s.owners.length cb, .int .i64 s.shared] from by rw [← hV]; exact ((B97.out.alloc _).alloc _))
        have KB := Lib.hid (show Below w.heap.size w V from by rw [← hV]; exact (below_alloc (below_alloc HB7.out _) _))
        have KR0 := Lib.hid (show Kd.R (Kd.int .i64) 3 V w.heap.size (fun k => (k ≠ p ∧ k ≠ b1 ∧ k ≠ b2) ∧ some k ≠ (Value.slice Ad s'.owners.length cd).ownBlock) (.slice Ac s'.cells.length cc) s'.cells from by rw [← hV]; exact Kd.R_reok rfl (Kd.R_alloc (Kd.R_alloc (Kd.R_tight rfl HR07.out) _) _) (HR07.out.1))
        have KR1 := Lib.hid (show Kd.R (Kd.int .i64) 3 V w.heap.size (fun k => (k ≠ p ∧ k ≠ b1 ∧ k ≠ b2) ∧ some k ≠ (Value.slice Ac s'.cells.length cc).ownBlock) (.slice Ad s'.owners.length cd) s'.owners from by rw [← hV]; exact Kd.R_reok rfl (Kd.R_alloc (Kd.R_alloc (Kd.R_tight rfl HR17.out) _) _) (HR17.out.1))
        have NN := Lib.hid (show w7.heap.size ≠ w3.heap.size ∧ w7.heap.size + 1 ≠ w3.heap.size ∧ w5.heap.size ≠ w3.heap.size ∧ p ≠ w3.heap.size ∧ b1 ≠ w3.heap.size ∧ b2 ≠ w3.heap.size ∧ w.heap.size ≤ w3.heap.size from ⟨(fun e => absurd e (by have h1 := BX.out.lt; have h2 := B9.out.lt; have h3 := BX7.out.lt; have h4 := B97.out.lt; have h5 := HC5.out.hp.lt; have h6 := HC5.out.h1.lt; have h7 := HC5.out.h2.lt; have h8 := HC7.out.hp.lt; have h9 := HC7.out.h1.lt; have h10 := HC7.out.h2.lt; have h11 := HB5.out.size; have h12 := HB7.out.size; have h13 := HS57.out; omega)), (fun e => absurd e (by have h1 := BX.out.lt; have h2 := B9.out.lt; have h3 := BX7.out.lt; have h4 := B97.out.lt; have h5 := HC5.out.hp.lt; have h6 := HC5.out.h1.lt; have h7 := HC5.out.h2.lt; have h8 := HC7.out.hp.lt; have h9 := HC7.out.h1.lt; have h10 := HC7.out.h2.lt; have h11 := HB5.out.size; have h12 := HB7.out.size; have h13 := HS57.out; omega)), (fun e => by have h := KX.out; have h' := K9.out; rw [e] at h; have := h.symm.trans h'; simp at this), (fun e => blk_ne HC7.out.hp B97.out (by decide) e), (fun e => blk_ne HC7.out.h1 B97.out (by decide) e), (fun e => blk_ne HC7.out.h2 B97.out (by decide) e), HW3.out⟩)
        rw [hV]
        clear hV
        clear f0 f1 f2 z0 z1 z2 z3
        have c0 := K12.out.cell 0
        have c1 := K12.out.cell 1
        have c2_ := K12.out.cell 2
        have d0 := K9.out.cell 0
        have d1 := K9.out.cell 1
        have d2 := K9.out.cell 2
        have e0 := K9.out.frozen 0
        have e1 := K9.out.frozen 1
        have e2 := K9.out.frozen 2
        go_wp2
        obtain ⟨V9, hV9⟩ : ∃ V9, ((V.setCell ⟨w3.heap.size, 0, none⟩ (.slice Ac s'.cells.length cc)).setCell ⟨w3.heap.size, 1, none⟩ (.slice Ad s'.owners.length cd)).setCell ⟨w3.heap.size, 2, none⟩ (.int .i64 s'.shared) = V9 := ⟨_, rfl⟩
        have M9 := Lib.hid (show Blk V9 w3.heap.size 41 [.slice Ac s'.cells.length cc, .slice Ad s'.owners.length cd, .int .i64 s'.shared] from by rw [← hV9]; exact blk_putL (blk_putL (blk_putL K9.out 0 _) 1 _) 2 _)
        have MX := Lib.hid (show Blk V9 w5.heap.size 44 [.int .i64 v1, .bool v2] from by rw [← hV9]; exact ((KX.out.far ⟨w3.heap.size, 0, none⟩ NN.out.2.2.1.symm _).far ⟨w3.heap.size, 1, none⟩ NN.out.2.2.1.symm _).far ⟨w3.heap.size, 2, none⟩ NN.out.2.2.1.symm _)
        have M13 := Lib.hid (show Blk V9 (w7.heap.size + 1) 44 [.int .i64 v1, .bool v2] from by rw [← hV9]; exact ((K13.out.far ⟨w3.heap.size, 0, none⟩ NN.out.2.1.symm _).far ⟨w3.heap.size, 1, none⟩ NN.out.2.1.symm _).far ⟨w3.heap.size, 2, none⟩ NN.out.2.1.symm _)
        have MH := Lib.hid (show Held V9 p b1 b2 s' from by rw [← hV9]; exact ((KH.out.other ⟨w3.heap.size, 0, none⟩ NN.out.2.2.2.1.symm NN.out.2.2.2.2.1.symm NN.out.2.2.2.2.2.1.symm _).other ⟨w3.heap.size, 1, none⟩ NN.out.2.2.2.1.symm NN.out.2.2.2.2.1.symm NN.out.2.2.2.2.2.1.symm _).other ⟨w3.heap.size, 2, none⟩ NN.out.2.2.2.1.symm NN.out.2.2.2.2.1.symm NN.out.2.2.2.2.2.1.symm _)
        have MB := Lib.hid (show Below w.heap.size w V9 from by rw [← hV9]; exact below_set (below_set (below_set KB.out NN.out.2.2.2.2.2.2) NN.out.2.2.2.2.2.2) NN.out.2.2.2.2.2.2)
        have ht41 : ∀ q, q ∈ 3 :: (Kd.int .i64).E → q ≠ 41 := by show ∀ q, q ∈ [3] → q ≠ 41; decide
        have MR0 := Lib.hid (show Kd.R (Kd.int .i64) 3 V9 w.heap.size (fun k => (k ≠ p ∧ k ≠ b1 ∧ k ≠ b2) ∧ some k ≠ (Value.slice Ad s'.owners.length cd).ownBlock) (.slice Ac s'.cells.length cc) s'.cells from by rw [← hV9]; exact Kd.R_set (Kd.R_set (Kd.R_set KR0.out K9.out ht41 0 _) (blk_putL K9.out 0 _) ht41 1 _) (blk_putL (blk_putL K9.out 0 _) 1 _) ht41 2 _)
        have MR1 := Lib.hid (show Kd.R (Kd.int .i64) 3 V9 w.heap.size (fun k => (k ≠ p ∧ k ≠ b1 ∧ k ≠ b2) ∧ some k ≠ (Value.slice Ac s'.cells.length cc).ownBlock) (.slice Ad s'.owners.length cd) s'.owners from by rw [← hV9]; exact Kd.R_set (Kd.R_set (Kd.R_set KR1.out K9.out ht41 0 _) (blk_putL K9.out 0 _) ht41 1 _) (blk_putL (blk_putL K9.out 0 _) 1 _) ht41 2 _)
        rw [hV9]
        clear hV9 c0 c1 c2_ d0 d1 d2 e0 e1 e2 ht41
        have g0 := MX.out.cell 0
        have g1 := MX.out.cell 1
        have g2 := M13.out.cell 0
        have g3 := M13.out.cell 1
        have g4 := M9.out.cell 2
        go_region_held3 (fun w' => w'.cell? ⟨w5.heap.size, 0, none⟩ = some (.int .i64 v1) ∧ w'.cell? ⟨w5.heap.size, 1, none⟩ = some (.bool v2) ∧ w'.cell? ⟨w7.heap.size + 1, 0, none⟩ = some (.int .i64 v1) ∧ w'.cell? ⟨w7.heap.size + 1, 1, none⟩ = some (.bool v2) ∧ w'.cell? ⟨w3.heap.size, 2, none⟩ = some (.int .i64 s'.shared))
          (first | exact ⟨g0, g1, g2, g3, g4⟩)
          (first | (go_at_call 28; refine (Shared_any p b1 b2 s' _ MH.out.drewD).mono ?_; rintro e w8 ⟨rfl, rfl⟩))
        all_goals
          go_wp2
          go_roundw
          case rel => exact ⟨j + 1, by have := HJ.out; omega, by have := HJ.out; omega, by rw [hw], ⟨s', MH.out.drewD, ⟨_, _, blkDrewL M9.out, Kd.R_drew MR0.out, Kd.R_drew MR1.out⟩, HLEN.out, HOWN.out⟩, below_drew MB.out⟩
          case measure =>
            rw [hw]
            show l2.length - (j + 1).toNat < l2.length - j.toNat
            have := HJ.out
            omega
      · skip
        have HS57 := Lib.hid (show True from trivial)
        obtain ⟨V, hV⟩ : ∃ V, ((w7.alloc (.cells #[.int .i64 v1, .bool v2] 44)).alloc (.cells #[.slice Ac s'.cells.length cc, .slice Ad s'.owners.length cd, .int .i64 s'.shared] 41)) = V := ⟨_, rfl⟩
        have K12 := Lib.hid (show Blk V (w7.heap.size + 1) 41 [.slice Ac s'.cells.length cc, .slice Ad s'.owners.length cd, .int .i64 s'.shared] from by rw [← hV]; exact (by have h := Blk.new (w7.alloc (.cells #[.int .i64 v1, .bool v2] 44)) 41 [.slice Ac s'.cells.length cc, .slice Ad s'.owners.length cd, .int .i64 s'.shared]; simp only [World.size_alloc] at h; exact h))
        have K13 := Lib.hid (show Blk V (w7.heap.size) 44 [.int .i64 v1, .bool v2] from by rw [← hV]; exact ((Blk.new w7 44 [.int .i64 v1, .bool v2]).alloc _))
        have KH := Lib.hid (show Held V p b1 b2 s' from by rw [← hV]; exact ((HC7.out.alloc _).alloc _))
        have KX := Lib.hid (show Blk V w5.heap.size 44 [.int .i64 v1, .bool v2] from by rw [← hV]; exact ((BX7.out.alloc _).alloc _))
        have K9 := Lib.hid (show Blk V w3.heap.size 41 [.slice Aa s.cells.length ca, .slice Ab s.owners.length cb, .int .i64 s.shared] from by rw [← hV]; exact ((B97.out.alloc _).alloc _))
        have KB := Lib.hid (show Below w.heap.size w V from by rw [← hV]; exact (below_alloc (below_alloc HB7.out _) _))
        have KR0 := Lib.hid (show Kd.R (Kd.int .i64) 3 V w.heap.size (fun k => (k ≠ p ∧ k ≠ b1 ∧ k ≠ b2) ∧ some k ≠ (Value.slice Ad s'.owners.length cd).ownBlock) (.slice Ac s'.cells.length cc) s'.cells from by rw [← hV]; exact Kd.R_reok rfl (Kd.R_alloc (Kd.R_alloc (Kd.R_tight rfl HR07.out) _) _) (HR07.out.1))
        have KR1 := Lib.hid (show Kd.R (Kd.int .i64) 3 V w.heap.size (fun k => (k ≠ p ∧ k ≠ b1 ∧ k ≠ b2) ∧ some k ≠ (Value.slice Ac s'.cells.length cc).ownBlock) (.slice Ad s'.owners.length cd) s'.owners from by rw [← hV]; exact Kd.R_reok rfl (Kd.R_alloc (Kd.R_alloc (Kd.R_tight rfl HR17.out) _) _) (HR17.out.1))
        have NN := Lib.hid (show w7.heap.size + 1 ≠ w3.heap.size ∧ w7.heap.size ≠ w3.heap.size ∧ w5.heap.size ≠ w3.heap.size ∧ p ≠ w3.heap.size ∧ b1 ≠ w3.heap.size ∧ b2 ≠ w3.heap.size ∧ w.heap.size ≤ w3.heap.size from ⟨(fun e => absurd e (by have h1 := BX.out.lt; have h2 := B9.out.lt; have h3 := BX7.out.lt; have h4 := B97.out.lt; have h5 := HC5.out.hp.lt; have h6 := HC5.out.h1.lt; have h7 := HC5.out.h2.lt; have h8 := HC7.out.hp.lt; have h9 := HC7.out.h1.lt; have h10 := HC7.out.h2.lt; have h11 := HB5.out.size; have h12 := HB7.out.size; have h13 := HS57.out; omega)), (fun e => absurd e (by have h1 := BX.out.lt; have h2 := B9.out.lt; have h3 := BX7.out.lt; have h4 := B97.out.lt; have h5 := HC5.out.hp.lt; have h6 := HC5.out.h1.lt; have h7 := HC5.out.h2.lt; have h8 := HC7.out.hp.lt; have h9 := HC7.out.h1.lt; have h10 := HC7.out.h2.lt; have h11 := HB5.out.size; have h12 := HB7.out.size; have h13 := HS57.out; omega)), (fun e => by have h := KX.out; have h' := K9.out; rw [e] at h; have := h.symm.trans h'; simp at this), (fun e => blk_ne HC7.out.hp B97.out (by decide) e), (fun e => blk_ne HC7.out.h1 B97.out (by decide) e), (fun e => blk_ne HC7.out.h2 B97.out (by decide) e), HW3.out⟩)
        rw [hV]
        clear hV
        clear f0 f1 f2 z0 z1 z2 z3
        have c0 := K12.out.cell 0
        have c1 := K12.out.cell 1
        have c2_ := K12.out.cell 2
        have d0 := K9.out.cell 0
        have d1 := K9.out.cell 1
        have d2 := K9.out.cell 2
        have e0 := K9.out.frozen 0
        have e1 := K9.out.frozen 1
        have e2 := K9.out.frozen 2
        go_wp2
        obtain ⟨V9, hV9⟩ : ∃ V9, ((V.setCell ⟨w3.heap.size, 0, none⟩ (.slice Ac s'.cells.length cc)).setCell ⟨w3.heap.size, 1, none⟩ (.slice Ad s'.owners.length cd)).setCell ⟨w3.heap.size, 2, none⟩ (.int .i64 s'.shared) = V9 := ⟨_, rfl⟩
        have M9 := Lib.hid (show Blk V9 w3.heap.size 41 [.slice Ac s'.cells.length cc, .slice Ad s'.owners.length cd, .int .i64 s'.shared] from by rw [← hV9]; exact blk_putL (blk_putL (blk_putL K9.out 0 _) 1 _) 2 _)
        have MX := Lib.hid (show Blk V9 w5.heap.size 44 [.int .i64 v1, .bool v2] from by rw [← hV9]; exact ((KX.out.far ⟨w3.heap.size, 0, none⟩ NN.out.2.2.1.symm _).far ⟨w3.heap.size, 1, none⟩ NN.out.2.2.1.symm _).far ⟨w3.heap.size, 2, none⟩ NN.out.2.2.1.symm _)
        have M13 := Lib.hid (show Blk V9 (w7.heap.size) 44 [.int .i64 v1, .bool v2] from by rw [← hV9]; exact ((K13.out.far ⟨w3.heap.size, 0, none⟩ NN.out.2.1.symm _).far ⟨w3.heap.size, 1, none⟩ NN.out.2.1.symm _).far ⟨w3.heap.size, 2, none⟩ NN.out.2.1.symm _)
        have MH := Lib.hid (show Held V9 p b1 b2 s' from by rw [← hV9]; exact ((KH.out.other ⟨w3.heap.size, 0, none⟩ NN.out.2.2.2.1.symm NN.out.2.2.2.2.1.symm NN.out.2.2.2.2.2.1.symm _).other ⟨w3.heap.size, 1, none⟩ NN.out.2.2.2.1.symm NN.out.2.2.2.2.1.symm NN.out.2.2.2.2.2.1.symm _).other ⟨w3.heap.size, 2, none⟩ NN.out.2.2.2.1.symm NN.out.2.2.2.2.1.symm NN.out.2.2.2.2.2.1.symm _)
        have MB := Lib.hid (show Below w.heap.size w V9 from by rw [← hV9]; exact below_set (below_set (below_set KB.out NN.out.2.2.2.2.2.2) NN.out.2.2.2.2.2.2) NN.out.2.2.2.2.2.2)
        have ht41 : ∀ q, q ∈ 3 :: (Kd.int .i64).E → q ≠ 41 := by show ∀ q, q ∈ [3] → q ≠ 41; decide
        have MR0 := Lib.hid (show Kd.R (Kd.int .i64) 3 V9 w.heap.size (fun k => (k ≠ p ∧ k ≠ b1 ∧ k ≠ b2) ∧ some k ≠ (Value.slice Ad s'.owners.length cd).ownBlock) (.slice Ac s'.cells.length cc) s'.cells from by rw [← hV9]; exact Kd.R_set (Kd.R_set (Kd.R_set KR0.out K9.out ht41 0 _) (blk_putL K9.out 0 _) ht41 1 _) (blk_putL (blk_putL K9.out 0 _) 1 _) ht41 2 _)
        have MR1 := Lib.hid (show Kd.R (Kd.int .i64) 3 V9 w.heap.size (fun k => (k ≠ p ∧ k ≠ b1 ∧ k ≠ b2) ∧ some k ≠ (Value.slice Ac s'.cells.length cc).ownBlock) (.slice Ad s'.owners.length cd) s'.owners from by rw [← hV9]; exact Kd.R_set (Kd.R_set (Kd.R_set KR1.out K9.out ht41 0 _) (blk_putL K9.out 0 _) ht41 1 _) (blk_putL (blk_putL K9.out 0 _) 1 _) ht41 2 _)
        rw [hV9]
        clear hV9 c0 c1 c2_ d0 d1 d2 e0 e1 e2 ht41
        have g0 := MX.out.cell 0
        have g1 := MX.out.cell 1
        have g2 := M13.out.cell 0
        have g3 := M13.out.cell 1
        have g4 := M9.out.cell 2
        go_region_held3 (fun w' => w'.cell? ⟨w5.heap.size, 0, none⟩ = some (.int .i64 v1) ∧ w'.cell? ⟨w5.heap.size, 1, none⟩ = some (.bool v2) ∧ w'.cell? ⟨w7.heap.size, 0, none⟩ = some (.int .i64 v1) ∧ w'.cell? ⟨w7.heap.size, 1, none⟩ = some (.bool v2) ∧ w'.cell? ⟨w3.heap.size, 2, none⟩ = some (.int .i64 s'.shared))
          (first | exact ⟨g0, g1, g2, g3, g4⟩)
          (first | (go_at_call 28; refine (Shared_any p b1 b2 s' _ MH.out.drewD).mono ?_; rintro e w8 ⟨rfl, rfl⟩))
        all_goals
          go_wp2
          go_roundw
          case rel => exact ⟨j + 1, by have := HJ.out; omega, by have := HJ.out; omega, by rw [hw], ⟨s', MH.out.drewD, ⟨_, _, blkDrewL M9.out, Kd.R_drew MR0.out, Kd.R_drew MR1.out⟩, HLEN.out, HOWN.out⟩, below_drew MB.out⟩
          case measure =>
            rw [hw]
            show l2.length - (j + 1).toNat < l2.length - j.toNat
            have := HJ.out
            omega
      · skip
        have HS57 := Lib.hid (show W5.heap.size < w7.heap.size from Y0.out.lt)
        obtain ⟨V, hV⟩ : ∃ V, ((((((w7.alloc (.cells #[.int .i64 0, .bool false] 44)).setCell ⟨W5.heap.size, 0, none⟩ (.slice Ac s'.cells.length cc)).setCell ⟨W5.heap.size, 1, none⟩ (.slice Ad s'.owners.length cd)).setCell ⟨W5.heap.size, 2, none⟩ (.int .i64 s'.shared)).setCell ⟨w7.heap.size, 0, none⟩ (.int .i64 v1)).setCell ⟨w7.heap.size, 1, none⟩ (.bool v2)) = V := ⟨_, rfl⟩
        have K12 := Lib.hid (show Blk V (W5.heap.size) 41 [.slice Ac s'.cells.length cc, .slice Ad s'.owners.length cd, .int .i64 s'.shared] from by rw [← hV]; exact (((blk_putL (blk_putL (blk_putL (Y0.out.alloc _) 0 _) 1 _) 2 _).far ⟨w7.heap.size, 0, none⟩ (by have h1 := BX.out.lt; have h2 := B9.out.lt; have h3 := BX7.out.lt; have h4 := B97.out.lt; have h5 := HC5.out.hp.lt; have h6 := HC5.out.h1.lt; have h7 := HC5.out.h2.lt; have h8 := HC7.out.hp.lt; have h9 := HC7.out.h1.lt; have h10 := HC7.out.h2.lt; have h11 := HB5.out.size; have h12 := HB7.out.size; have h13 := HS57.out; show w7.heap.size ≠ W5.heap.size; omega) _).far ⟨w7.heap.size, 1, none⟩ (by have h1 := BX.out.lt; have h2 := B9.out.lt; have h3 := BX7.out.lt; have h4 := B97.out.lt; have h5 := HC5.out.hp.lt; have h6 := HC5.out.h1.lt; have h7 := HC5.out.h2.lt; have h8 := HC7.out.hp.lt; have h9 := HC7.out.h1.lt; have h10 := HC7.out.h2.lt; have h11 := HB5.out.size; have h12 := HB7.out.size; have h13 := HS57.out; show w7.heap.size ≠ W5.heap.size; omega) _))
        have K13 := Lib.hid (show Blk V (w7.heap.size) 44 [.int .i64 v1, .bool v2] from by rw [← hV]; exact (blk_putL (blk_putL ((((Blk.new w7 44 [.int .i64 0, .bool false]).far ⟨W5.heap.size, 0, none⟩ (by have h1 := BX.out.lt; have h2 := B9.out.lt; have h3 := BX7.out.lt; have h4 := B97.out.lt; have h5 := HC5.out.hp.lt; have h6 := HC5.out.h1.lt; have h7 := HC5.out.h2.lt; have h8 := HC7.out.hp.lt; have h9 := HC7.out.h1.lt; have h10 := HC7.out.h2.lt; have h11 := HB5.out.size; have h12 := HB7.out.size; have h13 := HS57.out; show W5.heap.size ≠ w7.heap.size; omega) _).far ⟨W5.heap.size, 1, none⟩ (by have h1 := BX.out.lt; have h2 := B9.out.lt; have h3 := BX7.out.lt; have h4 := B97.out.lt; have h5 := HC5.out.hp.lt; have h6 := HC5.out.h1.lt; have h7 := HC5.out.h2.lt; have h8 := HC7.out.hp.lt; have h9 := HC7.out.h1.lt; have h10 := HC7.out.h2.lt; have h11 := HB5.out.size; have h12 := HB7.out.size; have h13 := HS57.out; show W5.heap.size ≠ w7.heap.size; omega) _).far ⟨W5.heap.size, 2, none⟩ (by have h1 := BX.out.lt; have h2 := B9.out.lt; have h3 := BX7.out.lt; have h4 := B97.out.lt; have h5 := HC5.out.hp.lt; have h6 := HC5.out.h1.lt; have h7 := HC5.out.h2.lt; have h8 := HC7.out.hp.lt; have h9 := HC7.out.h1.lt; have h10 := HC7.out.h2.lt; have h11 := HB5.out.size; have h12 := HB7.out.size; have h13 := HS57.out; show W5.heap.size ≠ w7.heap.size; omega) _) 0 _) 1 _))
        have KH := Lib.hid (show Held V p b1 b2 s' from by rw [← hV]; exact ((((((HC7.out.alloc _).other ⟨W5.heap.size, 0, none⟩ (by have h1 := BX.out.lt; have h2 := B9.out.lt; have h3 := BX7.out.lt; have h4 := B97.out.lt; have h5 := HC5.out.hp.lt; have h6 := HC5.out.h1.lt; have h7 := HC5.out.h2.lt; have h8 := HC7.out.hp.lt; have h9 := HC7.out.h1.lt; have h10 := HC7.out.h2.lt; have h11 := HB5.out.size; have h12 := HB7.out.size; have h13 := HS57.out; show W5.heap.size ≠ p; omega) (by have h1 := BX.out.lt; have h2 := B9.out.lt; have h3 := BX7.out.lt; have h4 := B97.out.lt; have h5 := HC5.out.hp.lt; have h6 := HC5.out.h1.lt; have h7 := HC5.out.h2.lt; have h8 := HC7.out.hp.lt; have h9 := HC7.out.h1.lt; have h10 := HC7.out.h2.lt; have h11 := HB5.out.size; have h12 := HB7.out.size; have h13 := HS57.out; show W5.heap.size ≠ b1; omega) (by have h1 := BX.out.lt; have h2 := B9.out.lt; have h3 := BX7.out.lt; have h4 := B97.out.lt; have h5 := HC5.out.hp.lt; have h6 := HC5.out.h1.lt; have h7 := HC5.out.h2.lt; have h8 := HC7.out.hp.lt; have h9 := HC7.out.h1.lt; have h10 := HC7.out.h2.lt; have h11 := HB5.out.size; have h12 := HB7.out.size; have h13 := HS57.out; show W5.heap.size ≠ b2; omega) _).other ⟨W5.heap.size, 1, none⟩ (by have h1 := BX.out.lt; have h2 := B9.out.lt; have h3 := BX7.out.lt; have h4 := B97.out.lt; have h5 := HC5.out.hp.lt; have h6 := HC5.out.h1.lt; have h7 := HC5.out.h2.lt; have h8 := HC7.out.hp.lt; have h9 := HC7.out.h1.lt; have h10 := HC7.out.h2.lt; have h11 := HB5.out.size; have h12 := HB7.out.size; have h13 := HS57.out; show W5.heap.size ≠ p; omega) (by have h1 := BX.out.lt; have h2 := B9.out.lt; have h3 := BX7.out.lt; have h4 := B97.out.lt; have h5 := HC5.out.hp.lt; have h6 := HC5.out.h1.lt; have h7 := HC5.out.h2.lt; have h8 := HC7.out.hp.lt; have h9 := HC7.out.h1.lt; have h10 := HC7.out.h2.lt; have h11 := HB5.out.size; have h12 := HB7.out.size; have h13 := HS57.out; show W5.heap.size ≠ b1; omega) (by have h1 := BX.out.lt; have h2 := B9.out.lt; have h3 := BX7.out.lt; have h4 := B97.out.lt; have h5 := HC5.out.hp.lt; have h6 := HC5.out.h1.lt; have h7 := HC5.out.h2.lt; have h8 := HC7.out.hp.lt; have h9 := HC7.out.h1.lt; have h10 := HC7.out.h2.lt; have h11 := HB5.out.size; have h12 := HB7.out.size; have h13 := HS57.out; show W5.heap.size ≠ b2; omega) _).other ⟨W5.heap.size, 2, none⟩ (by have h1 := BX.out.lt; have h2 := B9.out.lt; have h3 := BX7.out.lt; have h4 := B97.out.lt; have h5 := HC5.out.hp.lt; have h6 := HC5.out.h1.lt; have h7 := HC5.out.h2.lt; have h8 := HC7.out.hp.lt; have h9 := HC7.out.h1.lt; have h10 := HC7.out.h2.lt; have h11 := HB5.out.size; have h12 := HB7.out.size; have h13 := HS57.out; show W5.heap.size ≠ p; omega) (by have h1 := BX.out.lt; have h2 := B9.out.lt; have h3 := BX7.out.lt; have h4 := B97.out.lt; have h5 := HC5.out.hp.lt; have h6 := HC5.out.h1.lt; have h7 := HC5.out.h2.lt; have h8 := HC7.out.hp.lt; have h9 := HC7.out.h1.lt; have h10 := HC7.out.h2.lt; have h11 := HB5.out.size; have h12 := HB7.out.size; have h13 := HS57.out; show W5.heap.size ≠ b1; omega) (by have h1 := BX.out.lt; have h2 := B9.out.lt; have h3 := BX7.out.lt; have h4 := B97.out.lt; have h5 := HC5.out.hp.lt; have h6 := HC5.out.h1.lt; have h7 := HC5.out.h2.lt; have h8 := HC7.out.hp.lt; have h9 := HC7.out.h1.lt; have h10 := HC7.out.h2.lt; have h11 := HB5.out.size; have h12 := HB7.out.size; have h13 := HS57.out; show W5.heap.size ≠ b2; omega) _).other ⟨w7.heap.size, 0, none⟩ (by have h1 := BX.out.lt; have h2 := B9.out.lt; have h3 := BX7.out.lt; have h4 := B97.out.lt; have h5 := HC5.out.hp.lt; have h6 := HC5.out.h1.lt; have h7 := HC5.out.h2.lt; have h8 := HC7.out.hp.lt; have h9 := HC7.out.h1.lt; have h10 := HC7.out.h2.lt; have h11 := HB5.out.size; have h12 := HB7.out.size; have h13 := HS57.out; show w7.heap.size ≠ p; omega) (by have h1 := BX.out.lt; have h2 := B9.out.lt; have h3 := BX7.out.lt; have h4 := B97.out.lt; have h5 := HC5.out.hp.lt; have h6 := HC5.out.h1.lt; have h7 := HC5.out.h2.lt; have h8 := HC7.out.hp.lt; have h9 := HC7.out.h1.lt; have h10 := HC7.out.h2.lt; have h11 := HB5.out.size; have h12 := HB7.out.size; have h13 := HS57.out; show w7.heap.size ≠ b1; omega) (by have h1 := BX.out.lt; have h2 := B9.out.lt; have h3 := BX7.out.lt; have h4 := B97.out.lt; have h5 := HC5.out.hp.lt; have h6 := HC5.out.h1.lt; have h7 := HC5.out.h2.lt; have h8 := HC7.out.hp.lt; have h9 := HC7.out.h1.lt; have h10 := HC7.out.h2.lt; have h11 := HB5.out.size; have h12 := HB7.out.size; have h13 := HS57.out; show w7.heap.size ≠ b2; omega) _).other ⟨w7.heap.size, 1, none⟩ (by have h1 := BX.out.lt; have h2 := B9.out.lt; have h3 := BX7.out.lt; have h4 := B97.out.lt; have h5 := HC5.out.hp.lt; have h6 := HC5.out.h1.lt; have h7 := HC5.out.h2.lt; have h8 := HC7.out.hp.lt; have h9 := HC7.out.h1.lt; have h10 := HC7.out.h2.lt; have h11 := HB5.out.size; have h12 := HB7.out.size; have h13 := HS57.out; show w7.heap.size ≠ p; omega) (by have h1 := BX.out.lt; have h2 := B9.out.lt; have h3 := BX7.out.lt; have h4 := B97.out.lt; have h5 := HC5.out.hp.lt; have h6 := HC5.out.h1.lt; have h7 := HC5.out.h2.lt; have h8 := HC7.out.hp.lt; have h9 := HC7.out.h1.lt; have h10 := HC7.out.h2.lt; have h11 := HB5.out.size; have h12 := HB7.out.size; have h13 := HS57.out; show w7.heap.size ≠ b1; omega) (by have h1 := BX.out.lt; have h2 := B9.out.lt; have h3 := BX7.out.lt; have h4 := B97.out.lt; have h5 := HC5.out.hp.lt; have h6 := HC5.out.h1.lt; have h7 := HC5.out.h2.lt; have h8 := HC7.out.hp.lt; have h9 := HC7.out.h1.lt; have h10 := HC7.out.h2.lt; have h11 := HB5.out.size; have h12 := HB7.out.size; have h13 := HS57.out; show w7.heap.size ≠ b2; omega) _))
        have KX := Lib.hid (show Blk V w5.heap.size 44 [.int .i64 v1, .bool v2] from by rw [← hV]; exact ((((((BX7.out.alloc _).far ⟨W5.heap.size, 0, none⟩ (by have h1 := BX.out.lt; have h2 := B9.out.lt; have h3 := BX7.out.lt; have h4 := B97.out.lt; have h5 := HC5.out.hp.lt; have h6 := HC5.out.h1.lt; have h7 := HC5.out.h2.lt; have h8 := HC7.out.hp.lt; have h9 := HC7.out.h1.lt; have h10 := HC7.out.h2.lt; have h11 := HB5.out.size; have h12 := HB7.out.size; have h13 := HS57.out; show W5.heap.size ≠ w5.heap.size; omega) _).far ⟨W5.heap.size, 1, none⟩ (by have h1 := BX.out.lt; have h2 := B9.out.lt; have h3 := BX7.out.lt; have h4 := B97.out.lt; have h5 := HC5.out.hp.lt; have h6 := HC5.out.h1.lt; have h7 := HC5.out.h2.lt; have h8 := HC7.out.hp.lt; have h9 := HC7.out.h1.lt; have h10 := HC7.out.h2.lt; have h11 := HB5.out.size; have h12 := HB7.out.size; have h13 := HS57.out; show W5.heap.size ≠ w5.heap.size; omega) _).far ⟨W5.heap.size, 2, none⟩ (by have h1 := BX.out.lt; have h2 := B9.out.lt; have h3 := BX7.out.lt; have h4 := B97.out.lt; have h5 := HC5.out.hp.lt; have h6 := HC5.out.h1.lt; have h7 := HC5.out.h2.lt; have h8 := HC7.out.hp.lt; have h9 := HC7.out.h1.lt; have h10 := HC7.out.h2.lt; have h11 := HB5.out.size; have h12 := HB7.out.size; have h13 := HS57.out; show W5.heap.size ≠ w5.heap.size; omega) _).far ⟨w7.heap.size, 0, none⟩ (by have h1 := BX.out.lt; have h2 := B9.out.lt; have h3 := BX7.out.lt; have h4 := B97.out.lt; have h5 := HC5.out.hp.lt; have h6 := HC5.out.h1.lt; have h7 := HC5.out.h2.lt; have h8 := HC7.out.hp.lt; have h9 := HC7.out.h1.lt; have h10 := HC7.out.h2.lt; have h11 := HB5.out.size; have h12 := HB7.out.size; have h13 := HS57.out; show w7.heap.size ≠ w5.heap.size; omega) _).far ⟨w7.heap.size, 1, none⟩ (by have h1 := BX.out.lt; have h2 := B9.out.lt; have h3 := BX7.out.lt; have h4 := B97.out.lt; have h5 := HC5.out.hp.lt; have h6 := HC5.out.h1.lt; have h7 := HC5.out.h2.lt; have h8 := HC7.out.hp.lt; have h9 := HC7.out.h1.lt; have h10 := HC7.out.h2.lt; have h11 := HB5.out.size; have h12 := HB7.out.size; have h13 := HS57.out; show w7.heap.size ≠ w5.heap.size; omega) _))
        have K9 := Lib.hid (show Blk V w3.heap.size 41 [.slice Aa s.cells.length ca, .slice Ab s.owners.length cb, .int .i64 s.shared] from by rw [← hV]; exact ((((((B97.out.alloc _).far ⟨W5.heap.size, 0, none⟩ (by have h1 := BX.out.lt; have h2 := B9.out.lt; have h3 := BX7.out.lt; have h4 := B97.out.lt; have h5 := HC5.out.hp.lt; have h6 := HC5.out.h1.lt; have h7 := HC5.out.h2.lt; have h8 := HC7.out.hp.lt; have h9 := HC7.out.h1.lt; have h10 := HC7.out.h2.lt; have h11 := HB5.out.size; have h12 := HB7.out.size; have h13 := HS57.out; show W5.heap.size ≠ w3.heap.size; omega) _).far ⟨W5.heap.size, 1, none⟩ (by have h1 := BX.out.lt; have h2 := B9.out.lt; have h3 := BX7.out.lt; have h4 := B97.out.lt; have h5 := HC5.out.hp.lt; have h6 := HC5.out.h1.lt; have h7 := HC5.out.h2.lt; have h8 := HC7.out.hp.lt; have h9 := HC7.out.h1.lt; have h10 := HC7.out.h2.lt; have h11 := HB5.out.size; have h12 := HB7.out.size; have h13 := HS57.out; show W5.heap.size ≠ w3.heap.size; omega) _).far ⟨W5.heap.size, 2, none⟩ (by have h1 := BX.out.lt; have h2 := B9.out.lt; have h3 := BX7.out.lt; have h4 := B97.out.lt; have h5 := HC5.out.hp.lt; have h6 := HC5.out.h1.lt; have h7 := HC5.out.h2.lt; have h8 := HC7.out.hp.lt; have h9 := HC7.out.h1.lt; have h10 := HC7.out.h2.lt; have h11 := HB5.out.size; have h12 := HB7.out.size; have h13 := HS57.out; show W5.heap.size ≠ w3.heap.size; omega) _).far ⟨w7.heap.size, 0, none⟩ (by have h1 := BX.out.lt; have h2 := B9.out.lt; have h3 := BX7.out.lt; have h4 := B97.out.lt; have h5 := HC5.out.hp.lt; have h6 := HC5.out.h1.lt; have h7 := HC5.out.h2.lt; have h8 := HC7.out.hp.lt; have h9 := HC7.out.h1.lt; have h10 := HC7.out.h2.lt; have h11 := HB5.out.size; have h12 := HB7.out.size; have h13 := HS57.out; show w7.heap.size ≠ w3.heap.size; omega) _).far ⟨w7.heap.size, 1, none⟩ (by have h1 := BX.out.lt; have h2 := B9.out.lt; have h3 := BX7.out.lt; have h4 := B97.out.lt; have h5 := HC5.out.hp.lt; have h6 := HC5.out.h1.lt; have h7 := HC5.out.h2.lt; have h8 := HC7.out.hp.lt; have h9 := HC7.out.h1.lt; have h10 := HC7.out.h2.lt; have h11 := HB5.out.size; have h12 := HB7.out.size; have h13 := HS57.out; show w7.heap.size ≠ w3.heap.size; omega) _))
        have KB := Lib.hid (show Below w.heap.size w V from by rw [← hV]; exact (below_set (below_set (below_set (below_set (below_set (below_alloc HB7.out _) (by have h1 := BX.out.lt; have h2 := B9.out.lt; have h3 := BX7.out.lt; have h4 := B97.out.lt; have h5 := HC5.out.hp.lt; have h6 := HC5.out.h1.lt; have h7 := HC5.out.h2.lt; have h8 := HC7.out.hp.lt; have h9 := HC7.out.h1.lt; have h10 := HC7.out.h2.lt; have h11 := HB5.out.size; have h12 := HB7.out.size; have h13 := HS57.out; show w.heap.size ≤ W5.heap.size; omega)) (by have h1 := BX.out.lt; have h2 := B9.out.lt; have h3 := BX7.out.lt; have h4 := B97.out.lt; have h5 := HC5.out.hp.lt; have h6 := HC5.out.h1.lt; have h7 := HC5.out.h2.lt; have h8 := HC7.out.hp.lt; have h9 := HC7.out.h1.lt; have h10 := HC7.out.h2.lt; have h11 := HB5.out.size; have h12 := HB7.out.size; have h13 := HS57.out; show w.heap.size ≤ W5.heap.size; omega)) (by have h1 := BX.out.lt; have h2 := B9.out.lt; have h3 := BX7.out.lt; have h4 := B97.out.lt; have h5 := HC5.out.hp.lt; have h6 := HC5.out.h1.lt; have h7 := HC5.out.h2.lt; have h8 := HC7.out.hp.lt; have h9 := HC7.out.h1.lt; have h10 := HC7.out.h2.lt; have h11 := HB5.out.size; have h12 := HB7.out.size; have h13 := HS57.out; show w.heap.size ≤ W5.heap.size; omega)) (by have h1 := BX.out.lt; have h2 := B9.out.lt; have h3 := BX7.out.lt; have h4 := B97.out.lt; have h5 := HC5.out.hp.lt; have h6 := HC5.out.h1.lt; have h7 := HC5.out.h2.lt; have h8 := HC7.out.hp.lt; have h9 := HC7.out.h1.lt; have h10 := HC7.out.h2.lt; have h11 := HB5.out.size; have h12 := HB7.out.size; have h13 := HS57.out; show w.heap.size ≤ w7.heap.size; omega)) (by have h1 := BX.out.lt; have h2 := B9.out.lt; have h3 := BX7.out.lt; have h4 := B97.out.lt; have h5 := HC5.out.hp.lt; have h6 := HC5.out.h1.lt; have h7 := HC5.out.h2.lt; have h8 := HC7.out.hp.lt; have h9 := HC7.out.h1.lt; have h10 := HC7.out.h2.lt; have h11 := HB5.out.size; have h12 := HB7.out.size; have h13 := HS57.out; show w.heap.size ≤ w7.heap.size; omega)))
        have KR0 := Lib.hid (show Kd.R (Kd.int .i64) 3 V w.heap.size (fun k => (k ≠ p ∧ k ≠ b1 ∧ k ≠ b2) ∧ some k ≠ (Value.slice Ad s'.owners.length cd).ownBlock) (.slice Ac s'.cells.length cc) s'.cells from by rw [← hV]; exact Kd.R_reok rfl (Kd.R_far (Kd.R_far (Kd.R_far (Kd.R_far (Kd.R_far (Kd.R_alloc (Kd.R_tight rfl HR07.out) _) (p := ⟨W5.heap.size, 0, none⟩) (fun k hk e => by have hne : some (W5.heap.size) ≠ _ := Kd.R_ne HR07.out Y0.out (by decide); have e' : k = W5.heap.size := e; rw [e'] at hk; exact hne hk) _) (p := ⟨W5.heap.size, 1, none⟩) (fun k hk e => by have hne : some (W5.heap.size) ≠ _ := Kd.R_ne HR07.out Y0.out (by decide); have e' : k = W5.heap.size := e; rw [e'] at hk; exact hne hk) _) (p := ⟨W5.heap.size, 2, none⟩) (fun k hk e => by have hne : some (W5.heap.size) ≠ _ := Kd.R_ne HR07.out Y0.out (by decide); have e' : k = W5.heap.size := e; rw [e'] at hk; exact hne hk) _) (p := ⟨w7.heap.size, 0, none⟩) (fun k hk e => by have hne : some (w7.heap.size) ≠ _ := fun e => Nat.lt_irrefl _ (Kd.R_lt HR07.out _ e.symm); have e' : k = w7.heap.size := e; rw [e'] at hk; exact hne hk) _) (p := ⟨w7.heap.size, 1, none⟩) (fun k hk e => by have hne : some (w7.heap.size) ≠ _ := fun e => Nat.lt_irrefl _ (Kd.R_lt HR07.out _ e.symm); have e' : k = w7.heap.size := e; rw [e'] at hk; exact hne hk) _) (HR07.out.1))
        have KR1 := Lib.hid (show Kd.R (Kd.int .i64) 3 V w.heap.size (fun k => (k ≠ p ∧ k ≠ b1 ∧ k ≠ b2) ∧ some k ≠ (Value.slice Ac s'.cells.length cc).ownBlock) (.slice Ad s'.owners.length cd) s'.owners from by rw [← hV]; exact Kd.R_reok rfl (Kd.R_far (Kd.R_far (Kd.R_far (Kd.R_far (Kd.R_far (Kd.R_alloc (Kd.R_tight rfl HR17.out) _) (p := ⟨W5.heap.size, 0, none⟩) (fun k hk e => by have hne : some (W5.heap.size) ≠ _ := Kd.R_ne HR17.out Y0.out (by decide); have e' : k = W5.heap.size := e; rw [e'] at hk; exact hne hk) _) (p := ⟨W5.heap.size, 1, none⟩) (fun k hk e => by have hne : some (W5.heap.size) ≠ _ := Kd.R_ne HR17.out Y0.out (by decide); have e' : k = W5.heap.size := e; rw [e'] at hk; exact hne hk) _) (p := ⟨W5.heap.size, 2, none⟩) (fun k hk e => by have hne : some (W5.heap.size) ≠ _ := Kd.R_ne HR17.out Y0.out (by decide); have e' : k = W5.heap.size := e; rw [e'] at hk; exact hne hk) _) (p := ⟨w7.heap.size, 0, none⟩) (fun k hk e => by have hne : some (w7.heap.size) ≠ _ := fun e => Nat.lt_irrefl _ (Kd.R_lt HR17.out _ e.symm); have e' : k = w7.heap.size := e; rw [e'] at hk; exact hne hk) _) (p := ⟨w7.heap.size, 1, none⟩) (fun k hk e => by have hne : some (w7.heap.size) ≠ _ := fun e => Nat.lt_irrefl _ (Kd.R_lt HR17.out _ e.symm); have e' : k = w7.heap.size := e; rw [e'] at hk; exact hne hk) _) (HR17.out.1))
        have NN := Lib.hid (show W5.heap.size ≠ w3.heap.size ∧ w7.heap.size ≠ w3.heap.size ∧ w5.heap.size ≠ w3.heap.size ∧ p ≠ w3.heap.size ∧ b1 ≠ w3.heap.size ∧ b2 ≠ w3.heap.size ∧ w.heap.size ≤ w3.heap.size from ⟨(fun e => absurd e (by have h1 := BX.out.lt; have h2 := B9.out.lt; have h3 := BX7.out.lt; have h4 := B97.out.lt; have h5 := HC5.out.hp.lt; have h6 := HC5.out.h1.lt; have h7 := HC5.out.h2.lt; have h8 := HC7.out.hp.lt; have h9 := HC7.out.h1.lt; have h10 := HC7.out.h2.lt; have h11 := HB5.out.size; have h12 := HB7.out.size; have h13 := HS57.out; omega)), (fun e => absurd e (by have h1 := BX.out.lt; have h2 := B9.out.lt; have h3 := BX7.out.lt; have h4 := B97.out.lt; have h5 := HC5.out.hp.lt; have h6 := HC5.out.h1.lt; have h7 := HC5.out.h2.lt; have h8 := HC7.out.hp.lt; have h9 := HC7.out.h1.lt; have h10 := HC7.out.h2.lt; have h11 := HB5.out.size; have h12 := HB7.out.size; have h13 := HS57.out; omega)), (fun e => by have h := KX.out; have h' := K9.out; rw [e] at h; have := h.symm.trans h'; simp at this), (fun e => blk_ne HC7.out.hp B97.out (by decide) e), (fun e => blk_ne HC7.out.h1 B97.out (by decide) e), (fun e => blk_ne HC7.out.h2 B97.out (by decide) e), HW3.out⟩)
        rw [hV]
        clear hV
        clear f0 f1 f2 z0 z1 z2 z3
        have c0 := K12.out.cell 0
        have c1 := K12.out.cell 1
        have c2_ := K12.out.cell 2
        have d0 := K9.out.cell 0
        have d1 := K9.out.cell 1
        have d2 := K9.out.cell 2
        have e0 := K9.out.frozen 0
        have e1 := K9.out.frozen 1
        have e2 := K9.out.frozen 2
        go_wp2
        obtain ⟨V9, hV9⟩ : ∃ V9, ((V.setCell ⟨w3.heap.size, 0, none⟩ (.slice Ac s'.cells.length cc)).setCell ⟨w3.heap.size, 1, none⟩ (.slice Ad s'.owners.length cd)).setCell ⟨w3.heap.size, 2, none⟩ (.int .i64 s'.shared) = V9 := ⟨_, rfl⟩
        have M9 := Lib.hid (show Blk V9 w3.heap.size 41 [.slice Ac s'.cells.length cc, .slice Ad s'.owners.length cd, .int .i64 s'.shared] from by rw [← hV9]; exact blk_putL (blk_putL (blk_putL K9.out 0 _) 1 _) 2 _)
        have MX := Lib.hid (show Blk V9 w5.heap.size 44 [.int .i64 v1, .bool v2] from by rw [← hV9]; exact ((KX.out.far ⟨w3.heap.size, 0, none⟩ NN.out.2.2.1.symm _).far ⟨w3.heap.size, 1, none⟩ NN.out.2.2.1.symm _).far ⟨w3.heap.size, 2, none⟩ NN.out.2.2.1.symm _)
        have M13 := Lib.hid (show Blk V9 (w7.heap.size) 44 [.int .i64 v1, .bool v2] from by rw [← hV9]; exact ((K13.out.far ⟨w3.heap.size, 0, none⟩ NN.out.2.1.symm _).far ⟨w3.heap.size, 1, none⟩ NN.out.2.1.symm _).far ⟨w3.heap.size, 2, none⟩ NN.out.2.1.symm _)
        have MH := Lib.hid (show Held V9 p b1 b2 s' from by rw [← hV9]; exact ((KH.out.other ⟨w3.heap.size, 0, none⟩ NN.out.2.2.2.1.symm NN.out.2.2.2.2.1.symm NN.out.2.2.2.2.2.1.symm _).other ⟨w3.heap.size, 1, none⟩ NN.out.2.2.2.1.symm NN.out.2.2.2.2.1.symm NN.out.2.2.2.2.2.1.symm _).other ⟨w3.heap.size, 2, none⟩ NN.out.2.2.2.1.symm NN.out.2.2.2.2.1.symm NN.out.2.2.2.2.2.1.symm _)
        have MB := Lib.hid (show Below w.heap.size w V9 from by rw [← hV9]; exact below_set (below_set (below_set KB.out NN.out.2.2.2.2.2.2) NN.out.2.2.2.2.2.2) NN.out.2.2.2.2.2.2)
        have ht41 : ∀ q, q ∈ 3 :: (Kd.int .i64).E → q ≠ 41 := by show ∀ q, q ∈ [3] → q ≠ 41; decide
        have MR0 := Lib.hid (show Kd.R (Kd.int .i64) 3 V9 w.heap.size (fun k => (k ≠ p ∧ k ≠ b1 ∧ k ≠ b2) ∧ some k ≠ (Value.slice Ad s'.owners.length cd).ownBlock) (.slice Ac s'.cells.length cc) s'.cells from by rw [← hV9]; exact Kd.R_set (Kd.R_set (Kd.R_set KR0.out K9.out ht41 0 _) (blk_putL K9.out 0 _) ht41 1 _) (blk_putL (blk_putL K9.out 0 _) 1 _) ht41 2 _)
        have MR1 := Lib.hid (show Kd.R (Kd.int .i64) 3 V9 w.heap.size (fun k => (k ≠ p ∧ k ≠ b1 ∧ k ≠ b2) ∧ some k ≠ (Value.slice Ac s'.cells.length cc).ownBlock) (.slice Ad s'.owners.length cd) s'.owners from by rw [← hV9]; exact Kd.R_set (Kd.R_set (Kd.R_set KR1.out K9.out ht41 0 _) (blk_putL K9.out 0 _) ht41 1 _) (blk_putL (blk_putL K9.out 0 _) 1 _) ht41 2 _)
        rw [hV9]
        clear hV9 c0 c1 c2_ d0 d1 d2 e0 e1 e2 ht41
        have g0 := MX.out.cell 0
        have g1 := MX.out.cell 1
        have g2 := M13.out.cell 0
        have g3 := M13.out.cell 1
        have g4 := M9.out.cell 2
        go_region_held3 (fun w' => w'.cell? ⟨w5.heap.size, 0, none⟩ = some (.int .i64 v1) ∧ w'.cell? ⟨w5.heap.size, 1, none⟩ = some (.bool v2) ∧ w'.cell? ⟨w7.heap.size, 0, none⟩ = some (.int .i64 v1) ∧ w'.cell? ⟨w7.heap.size, 1, none⟩ = some (.bool v2) ∧ w'.cell? ⟨w3.heap.size, 2, none⟩ = some (.int .i64 s'.shared))
          (first | exact ⟨g0, g1, g2, g3, g4⟩)
          (first | (go_at_call 28; refine (Shared_any p b1 b2 s' _ MH.out.drewD).mono ?_; rintro e w8 ⟨rfl, rfl⟩))
        all_goals
          go_wp2
          go_roundw
          case rel => exact ⟨j + 1, by have := HJ.out; omega, by have := HJ.out; omega, by rw [hw], ⟨s', MH.out.drewD, ⟨_, _, blkDrewL M9.out, Kd.R_drew MR0.out, Kd.R_drew MR1.out⟩, HLEN.out, HOWN.out⟩, below_drew MB.out⟩
          case measure =>
            rw [hw]
            show l2.length - (j + 1).toNat < l2.length - j.toNat
            have := HJ.out
            omega
      · skip
        have HS57 := Lib.hid (show W5.heap.size + 1 < w7.heap.size from Y3.out.lt)
        obtain ⟨V, hV⟩ : ∃ V, (((((w7.setCell ⟨W5.heap.size, 0, none⟩ (.slice Ac s'.cells.length cc)).setCell ⟨W5.heap.size, 1, none⟩ (.slice Ad s'.owners.length cd)).setCell ⟨W5.heap.size, 2, none⟩ (.int .i64 s'.shared)).setCell ⟨W5.heap.size + 1, 0, none⟩ (.int .i64 v1)).setCell ⟨W5.heap.size + 1, 1, none⟩ (.bool v2)) = V := ⟨_, rfl⟩
        have K12 := Lib.hid (show Blk V (W5.heap.size) 41 [.slice Ac s'.cells.length cc, .slice Ad s'.owners.length cd, .int .i64 s'.shared] from by rw [← hV]; exact (((blk_putL (blk_putL (blk_putL Y0.out 0 _) 1 _) 2 _).far ⟨W5.heap.size + 1, 0, none⟩ (by have h1 := BX.out.lt; have h2 := B9.out.lt; have h3 := BX7.out.lt; have h4 := B97.out.lt; have h5 := HC5.out.hp.lt; have h6 := HC5.out.h1.lt; have h7 := HC5.out.h2.lt; have h8 := HC7.out.hp.lt; have h9 := HC7.out.h1.lt; have h10 := HC7.out.h2.lt; have h11 := HB5.out.size; have h12 := HB7.out.size; have h13 := HS57.out; show W5.heap.size + 1 ≠ W5.heap.size; omega) _).far ⟨W5.heap.size + 1, 1, none⟩ (by have h1 := BX.out.lt; have h2 := B9.out.lt; have h3 := BX7.out.lt; have h4 := B97.out.lt; have h5 := HC5.out.hp.lt; have h6 := HC5.out.h1.lt; have h7 := HC5.out.h2.lt; have h8 := HC7.out.hp.lt; have h9 := HC7.out.h1.lt; have h10 := HC7.out.h2.lt; have h11 := HB5.out.size; have h12 := HB7.out.size; have h13 := HS57.out; show W5.heap.size + 1 ≠ W5.heap.size; omega) _))
        have K13 := Lib.hid (show Blk V (W5.heap.size + 1) 44 [.int .i64 v1, .bool v2] from by rw [← hV]; exact (blk_putL (blk_putL (((Y3.out.far ⟨W5.heap.size, 0, none⟩ (by have h1 := BX.out.lt; have h2 := B9.out.lt; have h3 := BX7.out.lt; have h4 := B97.out.lt; have h5 := HC5.out.hp.lt; have h6 := HC5.out.h1.lt; have h7 := HC5.out.h2.lt; have h8 := HC7.out.hp.lt; have h9 := HC7.out.h1.lt; have h10 := HC7.out.h2.lt; have h11 := HB5.out.size; have h12 := HB7.out.size; have h13 := HS57.out; show W5.heap.size ≠ W5.heap.size + 1; omega) _).far ⟨W5.heap.size, 1, none⟩ (by have h1 := BX.out.lt; have h2 := B9.out.lt; have h3 := BX7.out.lt; have h4 := B97.out.lt; have h5 := HC5.out.hp.lt; have h6 := HC5.out.h1.lt; have h7 := HC5.out.h2.lt; have h8 := HC7.out.hp.lt; have h9 := HC7.out.h1.lt; have h10 := HC7.out.h2.lt; have h11 := HB5.out.size; have h12 := HB7.out.size; have h13 := HS57.out; show W5.heap.size ≠ W5.heap.size + 1; omega) _).far ⟨W5.heap.size, 2, none⟩ (by have h1 := BX.out.lt; have h2 := B9.out.lt; have h3 := BX7.out.lt; have h4 := B97.out.lt; have h5 := HC5.out.hp.lt; have h6 := HC5.out.h1.lt; have h7 := HC5.out.h2.lt; have h8 := HC7.out.hp.lt; have h9 := HC7.out.h1.lt; have h10 := HC7.out.h2.lt; have h11 := HB5.out.size; have h12 := HB7.out.size; have h13 := HS57.out; show W5.heap.size ≠ W5.heap.size + 1; omega) _) 0 _) 1 _))
        have KH := Lib.hid (show Held V p b1 b2 s' from by rw [← hV]; exact (((((HC7.out.other ⟨W5.heap.size, 0, none⟩ (by have h1 := BX.out.lt; have h2 := B9.out.lt; have h3 := BX7.out.lt; have h4 := B97.out.lt; have h5 := HC5.out.hp.lt; have h6 := HC5.out.h1.lt; have h7 := HC5.out.h2.lt; have h8 := HC7.out.hp.lt; have h9 := HC7.out.h1.lt; have h10 := HC7.out.h2.lt; have h11 := HB5.out.size; have h12 := HB7.out.size; have h13 := HS57.out; show W5.heap.size ≠ p; omega) (by have h1 := BX.out.lt; have h2 := B9.out.lt; have h3 := BX7.out.lt; have h4 := B97.out.lt; have h5 := HC5.out.hp.lt; have h6 := HC5.out.h1.lt; have h7 := HC5.out.h2.lt; have h8 := HC7.out.hp.lt; have h9 := HC7.out.h1.lt; have h10 := HC7.out.h2.lt; have h11 := HB5.out.size; have h12 := HB7.out.size; have h13 := HS57.out; show W5.heap.size ≠ b1; omega) (by have h1 := BX.out.lt; have h2 := B9.out.lt; have h3 := BX7.out.lt; have h4 := B97.out.lt; have h5 := HC5.out.hp.lt; have h6 := HC5.out.h1.lt; have h7 := HC5.out.h2.lt; have h8 := HC7.out.hp.lt; have h9 := HC7.out.h1.lt; have h10 := HC7.out.h2.lt; have h11 := HB5.out.size; have h12 := HB7.out.size; have h13 := HS57.out; show W5.heap.size ≠ b2; omega) _).other ⟨W5.heap.size, 1, none⟩ (by have h1 := BX.out.lt; have h2 := B9.out.lt; have h3 := BX7.out.lt; have h4 := B97.out.lt; have h5 := HC5.out.hp.lt; have h6 := HC5.out.h1.lt; have h7 := HC5.out.h2.lt; have h8 := HC7.out.hp.lt; have h9 := HC7.out.h1.lt; have h10 := HC7.out.h2.lt; have h11 := HB5.out.size; have h12 := HB7.out.size; have h13 := HS57.out; show W5.heap.size ≠ p; omega) (by have h1 := BX.out.lt; have h2 := B9.out.lt; have h3 := BX7.out.lt; have h4 := B97.out.lt; have h5 := HC5.out.hp.lt; have h6 := HC5.out.h1.lt; have h7 := HC5.out.h2.lt; have h8 := HC7.out.hp.lt; have h9 := HC7.out.h1.lt; have h10 := HC7.out.h2.lt; have h11 := HB5.out.size; have h12 := HB7.out.size; have h13 := HS57.out; show W5.heap.size ≠ b1; omega) (by have h1 := BX.out.lt; have h2 := B9.out.lt; have h3 := BX7.out.lt; have h4 := B97.out.lt; have h5 := HC5.out.hp.lt; have h6 := HC5.out.h1.lt; have h7 := HC5.out.h2.lt; have h8 := HC7.out.hp.lt; have h9 := HC7.out.h1.lt; have h10 := HC7.out.h2.lt; have h11 := HB5.out.size; have h12 := HB7.out.size; have h13 := HS57.out; show W5.heap.size ≠ b2; omega) _).other ⟨W5.heap.size, 2, none⟩ (by have h1 := BX.out.lt; have h2 := B9.out.lt; have h3 := BX7.out.lt; have h4 := B97.out.lt; have h5 := HC5.out.hp.lt; have h6 := HC5.out.h1.lt; have h7 := HC5.out.h2.lt; have h8 := HC7.out.hp.lt; have h9 := HC7.out.h1.lt; have h10 := HC7.out.h2.lt; have h11 := HB5.out.size; have h12 := HB7.out.size; have h13 := HS57.out; show W5.heap.size ≠ p; omega) (by have h1 := BX.out.lt; have h2 := B9.out.lt; have h3 := BX7.out.lt; have h4 := B97.out.lt; have h5 := HC5.out.hp.lt; have h6 := HC5.out.h1.lt; have h7 := HC5.out.h2.lt; have h8 := HC7.out.hp.lt; have h9 := HC7.out.h1.lt; have h10 := HC7.out.h2.lt; have h11 := HB5.out.size; have h12 := HB7.out.size; have h13 := HS57.out; show W5.heap.size ≠ b1; omega) (by have h1 := BX.out.lt; have h2 := B9.out.lt; have h3 := BX7.out.lt; have h4 := B97.out.lt; have h5 := HC5.out.hp.lt; have h6 := HC5.out.h1.lt; have h7 := HC5.out.h2.lt; have h8 := HC7.out.hp.lt; have h9 := HC7.out.h1.lt; have h10 := HC7.out.h2.lt; have h11 := HB5.out.size; have h12 := HB7.out.size; have h13 := HS57.out; show W5.heap.size ≠ b2; omega) _).other ⟨W5.heap.size + 1, 0, none⟩ (by have h1 := BX.out.lt; have h2 := B9.out.lt; have h3 := BX7.out.lt; have h4 := B97.out.lt; have h5 := HC5.out.hp.lt; have h6 := HC5.out.h1.lt; have h7 := HC5.out.h2.lt; have h8 := HC7.out.hp.lt; have h9 := HC7.out.h1.lt; have h10 := HC7.out.h2.lt; have h11 := HB5.out.size; have h12 := HB7.out.size; have h13 := HS57.out; show W5.heap.size + 1 ≠ p; omega) (by have h1 := BX.out.lt; have h2 := B9.out.lt; have h3 := BX7.out.lt; have h4 := B97.out.lt; have h5 := HC5.out.hp.lt; have h6 := HC5.out.h1.lt; have h7 := HC5.out.h2.lt; have h8 := HC7.out.hp.lt; have h9 := HC7.out.h1.lt; have h10 := HC7.out.h2.lt; have h11 := HB5.out.size; have h12 := HB7.out.size; have h13 := HS57.out; show W5.heap.size + 1 ≠ b1; omega) (by have h1 := BX.out.lt; have h2 := B9.out.lt; have h3 := BX7.out.lt; have h4 := B97.out.lt; have h5 := HC5.out.hp.lt; have h6 := HC5.out.h1.lt; have h7 := HC5.out.h2.lt; have h8 := HC7.out.hp.lt; have h9 := HC7.out.h1.lt; have h10 := HC7.out.h2.lt; have h11 := HB5.out.size; have h12 := HB7.out.size; have h13 := HS57.out; show W5.heap.size + 1 ≠ b2; omega) _).other ⟨W5.heap.size + 1, 1, none⟩ (by have h1 := BX.out.lt; have h2 := B9.out.lt; have h3 := BX7.out.lt; have h4 := B97.out.lt; have h5 := HC5.out.hp.lt; have h6 := HC5.out.h1.lt; have h7 := HC5.out.h2.lt; have h8 := HC7.out.hp.lt; have h9 := HC7.out.h1.lt; have h10 := HC7.out.h2.lt; have h11 := HB5.out.size; have h12 := HB7.out.size; have h13 := HS57.out; show W5.heap.size + 1 ≠ p; omega) (by have h1 := BX.out.lt; have h2 := B9.out.lt; have h3 := BX7.out.lt; have h4 := B97.out.lt; have h5 := HC5.out.hp.lt; have h6 := HC5.out.h1.lt; have h7 := HC5.out.h2.lt; have h8 := HC7.out.hp.lt; have h9 := HC7.out.h1.lt; have h10 := HC7.out.h2.lt; have h11 := HB5.out.size; have h12 := HB7.out.size; have h13 := HS57.out; show W5.heap.size + 1 ≠ b1; omega) (by have h1 := BX.out.lt; have h2 := B9.out.lt; have h3 := BX7.out.lt; have h4 := B97.out.lt; have h5 := HC5.out.hp.lt; have h6 := HC5.out.h1.lt; have h7 := HC5.out.h2.lt; have h8 := HC7.out.hp.lt; have h9 := HC7.out.h1.lt; have h10 := HC7.out.h2.lt; have h11 := HB5.out.size; have h12 := HB7.out.size; have h13 := HS57.out; show W5.heap.size + 1 ≠ b2; omega) _))
        have KX := Lib.hid (show Blk V w5.heap.size 44 [.int .i64 v1, .bool v2] from by rw [← hV]; exact (((((BX7.out.far ⟨W5.heap.size, 0, none⟩ (by have h1 := BX.out.lt; have h2 := B9.out.lt; have h3 := BX7.out.lt; have h4 := B97.out.lt; have h5 := HC5.out.hp.lt; have h6 := HC5.out.h1.lt; have h7 := HC5.out.h2.lt; have h8 := HC7.out.hp.lt; have h9 := HC7.out.h1.lt; have h10 := HC7.out.h2.lt; have h11 := HB5.out.size; have h12 := HB7.out.size; have h13 := HS57.out; show W5.heap.size ≠ w5.heap.size; omega) _).far ⟨W5.heap.size, 1, none⟩ (by have h1 := BX.out.lt; have h2 := B9.out.lt; have h3 := BX7.out.lt; have h4 := B97.out.lt; have h5 := HC5.out.hp.lt; have h6 := HC5.out.h1.lt; have h7 := HC5.out.h2.lt; have h8 := HC7.out.hp.lt; have h9 := HC7.out.h1.lt; have h10 := HC7.out.h2.lt; have h11 := HB5.out.size; have h12 := HB7.out.size; have h13 := HS57.out; show W5.heap.size ≠ w5.heap.size; omega) _).far ⟨W5.heap.size, 2, none⟩ (by have h1 := BX.out.lt; have h2 := B9.out.lt; have h3 := BX7.out.lt; have h4 := B97.out.lt; have h5 := HC5.out.hp.lt; have h6 := HC5.out.h1.lt; have h7 := HC5.out.h2.lt; have h8 := HC7.out.hp.lt; have h9 := HC7.out.h1.lt; have h10 := HC7.out.h2.lt; have h11 := HB5.out.size; have h12 := HB7.out.size; have h13 := HS57.out; show W5.heap.size ≠ w5.heap.size; omega) _).far ⟨W5.heap.size + 1, 0, none⟩ (by have h1 := BX.out.lt; have h2 := B9.out.lt; have h3 := BX7.out.lt; have h4 := B97.out.lt; have h5 := HC5.out.hp.lt; have h6 := HC5.out.h1.lt; have h7 := HC5.out.h2.lt; have h8 := HC7.out.hp.lt; have h9 := HC7.out.h1.lt; have h10 := HC7.out.h2.lt; have h11 := HB5.out.size; have h12 := HB7.out.size; have h13 := HS57.out; show W5.heap.size + 1 ≠ w5.heap.size; omega) _).far ⟨W5.heap.size + 1, 1, none⟩ (by have h1 := BX.out.lt; have h2 := B9.out.lt; have h3 := BX7.out.lt; have h4 := B97.out.lt; have h5 := HC5.out.hp.lt; have h6 := HC5.out.h1.lt; have h7 := HC5.out.h2.lt; have h8 := HC7.out.hp.lt; have h9 := HC7.out.h1.lt; have h10 := HC7.out.h2.lt; have h11 := HB5.out.size; have h12 := HB7.out.size; have h13 := HS57.out; show W5.heap.size + 1 ≠ w5.heap.size; omega) _))
        have K9 := Lib.hid (show Blk V w3.heap.size 41 [.slice Aa s.cells.length ca, .slice Ab s.owners.length cb, .int .i64 s.shared] from by rw [← hV]; exact (((((B97.out.far ⟨W5.heap.size, 0, none⟩ (by have h1 := BX.out.lt; have h2 := B9.out.lt; have h3 := BX7.out.lt; have h4 := B97.out.lt; have h5 := HC5.out.hp.lt; have h6 := HC5.out.h1.lt; have h7 := HC5.out.h2.lt; have h8 := HC7.out.hp.lt; have h9 := HC7.out.h1.lt; have h10 := HC7.out.h2.lt; have h11 := HB5.out.size; have h12 := HB7.out.size; have h13 := HS57.out; show W5.heap.size ≠ w3.heap.size; omega) _).far ⟨W5.heap.size, 1, none⟩ (by have h1 := BX.out.lt; have h2 := B9.out.lt; have h3 := BX7.out.lt; have h4 := B97.out.lt; have h5 := HC5.out.hp.lt; have h6 := HC5.out.h1.lt; have h7 := HC5.out.h2.lt; have h8 := HC7.out.hp.lt; have h9 := HC7.out.h1.lt; have h10 := HC7.out.h2.lt; have h11 := HB5.out.size; have h12 := HB7.out.size; have h13 := HS57.out; show W5.heap.size ≠ w3.heap.size; omega) _).far ⟨W5.heap.size, 2, none⟩ (by have h1 := BX.out.lt; have h2 := B9.out.lt; have h3 := BX7.out.lt; have h4 := B97.out.lt; have h5 := HC5.out.hp.lt; have h6 := HC5.out.h1.lt; have h7 := HC5.out.h2.lt; have h8 := HC7.out.hp.lt; have h9 := HC7.out.h1.lt; have h10 := HC7.out.h2.lt; have h11 := HB5.out.size; have h12 := HB7.out.size; have h13 := HS57.out; show W5.heap.size ≠ w3.heap.size; omega) _).far ⟨W5.heap.size + 1, 0, none⟩ (by have h1 := BX.out.lt; have h2 := B9.out.lt; have h3 := BX7.out.lt; have h4 := B97.out.lt; have h5 := HC5.out.hp.lt; have h6 := HC5.out.h1.lt; have h7 := HC5.out.h2.lt; have h8 := HC7.out.hp.lt; have h9 := HC7.out.h1.lt; have h10 := HC7.out.h2.lt; have h11 := HB5.out.size; have h12 := HB7.out.size; have h13 := HS57.out; show W5.heap.size + 1 ≠ w3.heap.size; omega) _).far ⟨W5.heap.size + 1, 1, none⟩ (by have h1 := BX.out.lt; have h2 := B9.out.lt; have h3 := BX7.out.lt; have h4 := B97.out.lt; have h5 := HC5.out.hp.lt; have h6 := HC5.out.h1.lt; have h7 := HC5.out.h2.lt; have h8 := HC7.out.hp.lt; have h9 := HC7.out.h1.lt; have h10 := HC7.out.h2.lt; have h11 := HB5.out.size; have h12 := HB7.out.size; have h13 := HS57.out; show W5.heap.size + 1 ≠ w3.heap.size; omega) _))
        have KB := Lib.hid (show Below w.heap.size w V from by rw [← hV]; exact (below_set (below_set (below_set (below_set (below_set HB7.out (by have h1 := BX.out.lt; have h2 := B9.out.lt; have h3 := BX7.out.lt; have h4 := B97.out.lt; have h5 := HC5.out.hp.lt; have h6 := HC5.out.h1.lt; have h7 := HC5.out.h2.lt; have h8 := HC7.out.hp.lt; have h9 := HC7.out.h1.lt; have h10 := HC7.out.h2.lt; have h11 := HB5.out.size; have h12 := HB7.out.size; have h13 := HS57.out; show w.heap.size ≤ W5.heap.size; omega)) (by have h1 := BX.out.lt; have h2 := B9.out.lt; have h3 := BX7.out.lt; have h4 := B97.out.lt; have h5 := HC5.out.hp.lt; have h6 := HC5.out.h1.lt; have h7 := HC5.out.h2.lt; have h8 := HC7.out.hp.lt; have h9 := HC7.out.h1.lt; have h10 := HC7.out.h2.lt; have h11 := HB5.out.size; have h12 := HB7.out.size; have h13 := HS57.out; show w.heap.size ≤ W5.heap.size; omega)) (by have h1 := BX.out.lt; have h2 := B9.out.lt; have h3 := BX7.out.lt; have h4 := B97.out.lt; have h5 := HC5.out.hp.lt; have h6 := HC5.out.h1.lt; have h7 := HC5.out.h2.lt; have h8 := HC7.out.hp.lt; have h9 := HC7.out.h1.lt; have h10 := HC7.out.h2.lt; have h11 := HB5.out.size; have h12 := HB7.out.size; have h13 := HS57.out; show w.heap.size ≤ W5.heap.size; omega)) (by have h1 := BX.out.lt; have h2 := B9.out.lt; have h3 := BX7.out.lt; have h4 := B97.out.lt; have h5 := HC5.out.hp.lt; have h6 := HC5.out.h1.lt; have h7 := HC5.out.h2.lt; have h8 := HC7.out.hp.lt; have h9 := HC7.out.h1.lt; have h10 := HC7.out.h2.lt; have h11 := HB5.out.size; have h12 := HB7.out.size; have h13 := HS57.out; show w.heap.size ≤ W5.heap.size + 1; omega)) (by have h1 := BX.out.lt; have h2 := B9.out.lt; have h3 := BX7.out.lt; have h4 := B97.out.lt; have h5 := HC5.out.hp.lt; have h6 := HC5.out.h1.lt; have h7 := HC5.out.h2.lt; have h8 := HC7.out.hp.lt; have h9 := HC7.out.h1.lt; have h10 := HC7.out.h2.lt; have h11 := HB5.out.size; have h12 := HB7.out.size; have h13 := HS57.out; show w.heap.size ≤ W5.heap.size + 1; omega)))
        have KR0 := Lib.hid (show Kd.R (Kd.int .i64) 3 V w.heap.size (fun k => (k ≠ p ∧ k ≠ b1 ∧ k ≠ b2) ∧ some k ≠ (Value.slice Ad s'.owners.length cd).ownBlock) (.slice Ac s'.cells.length cc) s'.cells from by rw [← hV]; exact Kd.R_reok rfl (Kd.R_far (Kd.R_far (Kd.R_far (Kd.R_far (Kd.R_far (Kd.R_tight rfl HR07.out) (p := ⟨W5.heap.size, 0, none⟩) (fun k hk e => by have hne : some (W5.heap.size) ≠ _ := Kd.R_ne HR07.out Y0.out (by decide); have e' : k = W5.heap.size := e; rw [e'] at hk; exact hne hk) _) (p := ⟨W5.heap.size, 1, none⟩) (fun k hk e => by have hne : some (W5.heap.size) ≠ _ := Kd.R_ne HR07.out Y0.out (by decide); have e' : k = W5.heap.size := e; rw [e'] at hk; exact hne hk) _) (p := ⟨W5.heap.size, 2, none⟩) (fun k hk e => by have hne : some (W5.heap.size) ≠ _ := Kd.R_ne HR07.out Y0.out (by decide); have e' : k = W5.heap.size := e; rw [e'] at hk; exact hne hk) _) (p := ⟨W5.heap.size + 1, 0, none⟩) (fun k hk e => by have hne : some (W5.heap.size + 1) ≠ _ := Kd.R_ne HR07.out Y3.out (by decide); have e' : k = W5.heap.size + 1 := e; rw [e'] at hk; exact hne hk) _) (p := ⟨W5.heap.size + 1, 1, none⟩) (fun k hk e => by have hne : some (W5.heap.size + 1) ≠ _ := Kd.R_ne HR07.out Y3.out (by decide); have e' : k = W5.heap.size + 1 := e; rw [e'] at hk; exact hne hk) _) (HR07.out.1))
        have KR1 := Lib.hid (show Kd.R (Kd.int .i64) 3 V w.heap.size (fun k => (k ≠ p ∧ k ≠ b1 ∧ k ≠ b2) ∧ some k ≠ (Value.slice Ac s'.cells.length cc).ownBlock) (.slice Ad s'.owners.length cd) s'.owners from by rw [← hV]; exact Kd.R_reok rfl (Kd.R_far (Kd.R_far (Kd.R_far (Kd.R_far (Kd.R_far (Kd.R_tight rfl HR17.out) (p := ⟨W5.heap.size, 0, none⟩) (fun k hk e => by have hne : some (W5.heap.size) ≠ _ := Kd.R_ne HR17.out Y0.out (by decide); have e' : k = W5.heap.size := e; rw [e'] at hk; exact hne hk) _) (p := ⟨W5.heap.size, 1, none⟩) (fun k hk e => by have hne : some (W5.heap.size) ≠ _ := Kd.R_ne HR17.out Y0.out (by decide); have e' : k = W5.heap.size := e; rw [e'] at hk; exact hne hk) _) (p := ⟨W5.heap.size, 2, none⟩) (fun k hk e => by have hne : some (W5.heap.size) ≠ _ := Kd.R_ne HR17.out Y0.out (by decide); have e' : k = W5.heap.size := e; rw [e'] at hk; exact hne hk) _) (p := ⟨W5.heap.size + 1, 0, none⟩) (fun k hk e => by have hne : some (W5.heap.size + 1) ≠ _ := Kd.R_ne HR17.out Y3.out (by decide); have e' : k = W5.heap.size + 1 := e; rw [e'] at hk; exact hne hk) _) (p := ⟨W5.heap.size + 1, 1, none⟩) (fun k hk e => by have hne : some (W5.heap.size + 1) ≠ _ := Kd.R_ne HR17.out Y3.out (by decide); have e' : k = W5.heap.size + 1 := e; rw [e'] at hk; exact hne hk) _) (HR17.out.1))
        have NN := Lib.hid (show W5.heap.size ≠ w3.heap.size ∧ W5.heap.size + 1 ≠ w3.heap.size ∧ w5.heap.size ≠ w3.heap.size ∧ p ≠ w3.heap.size ∧ b1 ≠ w3.heap.size ∧ b2 ≠ w3.heap.size ∧ w.heap.size ≤ w3.heap.size from ⟨(fun e => absurd e (by have h1 := BX.out.lt; have h2 := B9.out.lt; have h3 := BX7.out.lt; have h4 := B97.out.lt; have h5 := HC5.out.hp.lt; have h6 := HC5.out.h1.lt; have h7 := HC5.out.h2.lt; have h8 := HC7.out.hp.lt; have h9 := HC7.out.h1.lt; have h10 := HC7.out.h2.lt; have h11 := HB5.out.size; have h12 := HB7.out.size; have h13 := HS57.out; omega)), (fun e => absurd e (by have h1 := BX.out.lt; have h2 := B9.out.lt; have h3 := BX7.out.lt; have h4 := B97.out.lt; have h5 := HC5.out.hp.lt; have h6 := HC5.out.h1.lt; have h7 := HC5.out.h2.lt; have h8 := HC7.out.hp.lt; have h9 := HC7.out.h1.lt; have h10 := HC7.out.h2.lt; have h11 := HB5.out.size; have h12 := HB7.out.size; have h13 := HS57.out; omega)), (fun e => by have h := KX.out; have h' := K9.out; rw [e] at h; have := h.symm.trans h'; simp at this), (fun e => blk_ne HC7.out.hp B97.out (by decide) e), (fun e => blk_ne HC7.out.h1 B97.out (by decide) e), (fun e => blk_ne HC7.out.h2 B97.out (by decide) e), HW3.out⟩)
        rw [hV]
        clear hV
        clear f0 f1 f2 z0 z1 z2 z3
        have c0 := K12.out.cell 0
        have c1 := K12.out.cell 1
        have c2_ := K12.out.cell 2
        have d0 := K9.out.cell 0
        have d1 := K9.out.cell 1
        have d2 := K9.out.cell 2
        have e0 := K9.out.frozen 0
        have e1 := K9.out.frozen 1
        have e2 := K9.out.frozen 2
        go_wp2
        obtain ⟨V9, hV9⟩ : ∃ V9, ((V.setCell ⟨w3.heap.size, 0, none⟩ (.slice Ac s'.cells.length cc)).setCell ⟨w3.heap.size, 1, none⟩ (.slice Ad s'.owners.length cd)).setCell ⟨w3.heap.size, 2, none⟩ (.int .i64 s'.shared) = V9 := ⟨_, rfl⟩
        have M9 := Lib.hid (show Blk V9 w3.heap.size 41 [.slice Ac s'.cells.length cc, .slice Ad s'.owners.length cd, .int .i64 s'.shared] from by rw [← hV9]; exact blk_putL (blk_putL (blk_putL K9.out 0 _) 1 _) 2 _)
        have MX := Lib.hid (show Blk V9 w5.heap.size 44 [.int .i64 v1, .bool v2] from by rw [← hV9]; exact ((KX.out.far ⟨w3.heap.size, 0, none⟩ NN.out.2.2.1.symm _).far ⟨w3.heap.size, 1, none⟩ NN.out.2.2.1.symm _).far ⟨w3.heap.size, 2, none⟩ NN.out.2.2.1.symm _)
        have M13 := Lib.hid (show Blk V9 (W5.heap.size + 1) 44 [.int .i64 v1, .bool v2] from by rw [← hV9]; exact ((K13.out.far ⟨w3.heap.size, 0, none⟩ NN.out.2.1.symm _).far ⟨w3.heap.size, 1, none⟩ NN.out.2.1.symm _).far ⟨w3.heap.size, 2, none⟩ NN.out.2.1.symm _)
        have MH := Lib.hid (show Held V9 p b1 b2 s' from by rw [← hV9]; exact ((KH.out.other ⟨w3.heap.size, 0, none⟩ NN.out.2.2.2.1.symm NN.out.2.2.2.2.1.symm NN.out.2.2.2.2.2.1.symm _).other ⟨w3.heap.size, 1, none⟩ NN.out.2.2.2.1.symm NN.out.2.2.2.2.1.symm NN.out.2.2.2.2.2.1.symm _).other ⟨w3.heap.size, 2, none⟩ NN.out.2.2.2.1.symm NN.out.2.2.2.2.1.symm NN.out.2.2.2.2.2.1.symm _)
        have MB := Lib.hid (show Below w.heap.size w V9 from by rw [← hV9]; exact below_set (below_set (below_set KB.out NN.out.2.2.2.2.2.2) NN.out.2.2.2.2.2.2) NN.out.2.2.2.2.2.2)
        have ht41 : ∀ q, q ∈ 3 :: (Kd.int .i64).E → q ≠ 41 := by show ∀ q, q ∈ [3] → q ≠ 41; decide
        have MR0 := Lib.hid (show Kd.R (Kd.int .i64) 3 V9 w.heap.size (fun k => (k ≠ p ∧ k ≠ b1 ∧ k ≠ b2) ∧ some k ≠ (Value.slice Ad s'.owners.length cd).ownBlock) (.slice Ac s'.cells.length cc) s'.cells from by rw [← hV9]; exact Kd.R_set (Kd.R_set (Kd.R_set KR0.out K9.out ht41 0 _) (blk_putL K9.out 0 _) ht41 1 _) (blk_putL (blk_putL K9.out 0 _) 1 _) ht41 2 _)
        have MR1 := Lib.hid (show Kd.R (Kd.int .i64) 3 V9 w.heap.size (fun k => (k ≠ p ∧ k ≠ b1 ∧ k ≠ b2) ∧ some k ≠ (Value.slice Ac s'.cells.length cc).ownBlock) (.slice Ad s'.owners.length cd) s'.owners from by rw [← hV9]; exact Kd.R_set (Kd.R_set (Kd.R_set KR1.out K9.out ht41 0 _) (blk_putL K9.out 0 _) ht41 1 _) (blk_putL (blk_putL K9.out 0 _) 1 _) ht41 2 _)
        rw [hV9]
        clear hV9 c0 c1 c2_ d0 d1 d2 e0 e1 e2 ht41
        have g0 := MX.out.cell 0
        have g1 := MX.out.cell 1
        have g2 := M13.out.cell 0
        have g3 := M13.out.cell 1
        have g4 := M9.out.cell 2
        go_region_held3 (fun w' => w'.cell? ⟨w5.heap.size, 0, none⟩ = some (.int .i64 v1) ∧ w'.cell? ⟨w5.heap.size, 1, none⟩ = some (.bool v2) ∧ w'.cell? ⟨W5.heap.size + 1, 0, none⟩ = some (.int .i64 v1) ∧ w'.cell? ⟨W5.heap.size + 1, 1, none⟩ = some (.bool v2) ∧ w'.cell? ⟨w3.heap.size, 2, none⟩ = some (.int .i64 s'.shared))
          (first | exact ⟨g0, g1, g2, g3, g4⟩)
          (first | (go_at_call 28; refine (Shared_any p b1 b2 s' _ MH.out.drewD).mono ?_; rintro e w8 ⟨rfl, rfl⟩))
        all_goals
          go_wp2
          go_roundw
          case rel => exact ⟨j + 1, by have := HJ.out; omega, by have := HJ.out; omega, by rw [hw], ⟨s', MH.out.drewD, ⟨_, _, blkDrewL M9.out, Kd.R_drew MR0.out, Kd.R_drew MR1.out⟩, HLEN.out, HOWN.out⟩, below_drew MB.out⟩
          case measure =>
            rw [hw]
            show l2.length - (j + 1).toNat < l2.length - j.toNat
            have := HJ.out
            omega
      · skip
        have HS57 := Lib.hid (show W5.heap.size < w7.heap.size from Y2.out.lt)
        obtain ⟨V, hV⟩ : ∃ V, (((w7.alloc (.cells #[.slice Ac s'.cells.length cc, .slice Ad s'.owners.length cd, .int .i64 s'.shared] 41)).setCell ⟨W5.heap.size, 0, none⟩ (.int .i64 v1)).setCell ⟨W5.heap.size, 1, none⟩ (.bool v2)) = V := ⟨_, rfl⟩
        have K12 := Lib.hid (show Blk V (w7.heap.size) 41 [.slice Ac s'.cells.length cc, .slice Ad s'.owners.length cd, .int .i64 s'.shared] from by rw [← hV]; exact (((Blk.new w7 41 [.slice Ac s'.cells.length cc, .slice Ad s'.owners.length cd, .int .i64 s'.shared]).far ⟨W5.heap.size, 0, none⟩ (by have h1 := BX.out.lt; have h2 := B9.out.lt; have h3 := BX7.out.lt; have h4 := B97.out.lt; have h5 := HC5.out.hp.lt; have h6 := HC5.out.h1.lt; have h7 := HC5.out.h2.lt; have h8 := HC7.out.hp.lt; have h9 := HC7.out.h1.lt; have h10 := HC7.out.h2.lt; have h11 := HB5.out.size; have h12 := HB7.out.size; have h13 := HS57.out; show W5.heap.size ≠ w7.heap.size; omega) _).far ⟨W5.heap.size, 1, none⟩ (by have h1 := BX.out.lt; have h2 := B9.out.lt; have h3 := BX7.out.lt; have h4 := B97.out.lt; have h5 := HC5.out.hp.lt; have h6 := HC5.out.h1.lt; have h7 := HC5.out.h2.lt; have h8 := HC7.out.hp.lt; have h9 := HC7.out.h1.lt; have h10 := HC7.out.h2.lt; have h11 := HB5.out.size; have h12 := HB7.out.size; have h13 := HS57.out; show W5.heap.size ≠ w7.heap.size; omega) _))
        have K13 := Lib.hid (show Blk V (W5.heap.size) 44 [.int .i64 v1, .bool v2] from by rw [← hV]; exact (blk_putL (blk_putL (Y2.out.alloc _) 0 _) 1 _))
        have KH := Lib.hid (show Held V p b1 b2 s' from by rw [← hV]; exact (((HC7.out.alloc _).other ⟨W5.heap.size, 0, none⟩ (by have h1 := BX.out.lt; have h2 := B9.out.lt; have h3 := BX7.out.lt; have h4 := B97.out.lt; have h5 := HC5.out.hp.lt; have h6 := HC5.out.h1.lt; have h7 := HC5.out.h2.lt; have h8 := HC7.out.hp.lt; have h9 := HC7.out.h1.lt; have h10 := HC7.out.h2.lt; have h11 := HB5.out.size; have h12 := HB7.out.size; have h13 := HS57.out; show W5.heap.size ≠ p; omega) (by have h1 := BX.out.lt; have h2 := B9.out.lt; have h3 := BX7.out.lt; have h4 := B97.out.lt; have h5 := HC5.out.hp.lt; have h6 := HC5.out.h1.lt; have h7 := HC5.out.h2.lt; have h8 := HC7.out.hp.lt; have h9 := HC7.out.h1.lt; have h10 := HC7.out.h2.lt; have h11 := HB5.out.size; have h12 := HB7.out.size; have h13 := HS57.out; show W5.heap.size ≠ b1; omega) (by have h1 := BX.out.lt; have h2 := B9.out.lt; have h3 := BX7.out.lt; have h4 := B97.out.lt; have h5 := HC5.out.hp.lt; have h6 := HC5.out.h1.lt; have h7 := HC5.out.h2.lt; have h8 := HC7.out.hp.lt; have h9 := HC7.out.h1.lt; have h10 := HC7.out.h2.lt; have h11 := HB5.out.size; have h12 := HB7.out.size; have h13 := HS57.out; show W5.heap.size ≠ b2; omega) _).other ⟨W5.heap.size, 1, none⟩ (by have h1 := BX.out.lt; have h2 := B9.out.lt; have h3 := BX7.out.lt; have h4 := B97.out.lt; have h5 := HC5.out.hp.lt; have h6 := HC5.out.h1.lt; have h7 := HC5.out.h2.lt; have h8 := HC7.out.hp.lt; have h9 := HC7.out.h1.lt; have h10 := HC7.out.h2.lt; have h11 := HB5.out.size; have h12 := HB7.out.size; have h13 := HS57.out; show W5.heap.size ≠ p; omega) (by have h1 := BX.out.lt; have h2 := B9.out.lt; have h3 := BX7.out.lt; have h4 := B97.out.lt; have h5 := HC5.out.hp.lt; have h6 := HC5.out.h1.lt; have h7 := HC5.out.h2.lt; have h8 := HC7.out.hp.lt; have h9 := HC7.out.h1.lt; have h10 := HC7.out.h2.lt; have h11 := HB5.out.size; have h12 := HB7.out.size; have h13 := HS57.out; show W5.heap.size ≠ b1; omega) (by have h1 := BX.out.lt; have h2 := B9.out.lt; have h3 := BX7.out.lt; have h4 := B97.out.lt; have h5 := HC5.out.hp.lt; have h6 := HC5.out.h1.lt; have h7 := HC5.out.h2.lt; have h8 := HC7.out.hp.lt; have h9 := HC7.out.h1.lt; have h10 := HC7.out.h2.lt; have h11 := HB5.out.size; have h12 := HB7.out.size; have h13 := HS57.out; show W5.heap.size ≠ b2; omega) _))
        have KX := Lib.hid (show Blk V w5.heap.size 44 [.int .i64 v1, .bool v2] from by rw [← hV]; exact (((BX7.out.alloc _).far ⟨W5.heap.size, 0, none⟩ (by have h1 := BX.out.lt; have h2 := B9.out.lt; have h3 := BX7.out.lt; have h4 := B97.out.lt; have h5 := HC5.out.hp.lt; have h6 := HC5.out.h1.lt; have h7 := HC5.out.h2.lt; have h8 := HC7.out.hp.lt; have h9 := HC7.out.h1.lt; have h10 := HC7.out.h2.lt; have h11 := HB5.out.size; have h12 := HB7.out.size; have h13 := HS57.out; show W5.heap.size ≠ w5.heap.size; omega) _).far ⟨W5.heap.size, 1, none⟩ (by have h1 := BX.out.lt; have h2 := B9.out.lt; have h3 := BX7.out.lt; have h4 := B97.out.lt; have h5 := HC5.out.hp.lt; have h6 := HC5.out.h1.lt; have h7 := HC5.out.h2.lt; have h8 := HC7.out.hp.lt; have h9 := HC7.out.h1.lt; have h10 := HC7.out.h2.lt; have h11 := HB5.out.size; have h12 := HB7.out.size; have h13 := HS57.out; show W5.heap.size ≠ w5.heap.size; omega) _))
        have K9 := Lib.hid (show Blk V w3.heap.size 41 [.slice Aa s.cells.length ca, .slice Ab s.owners.length cb, .int .i64 s.shared] from by rw [← hV]; exact (((B97.out.alloc _).far ⟨W5.heap.size, 0, none⟩ (by have h1 := BX.out.lt; have h2 := B9.out.lt; have h3 := BX7.out.lt; have h4 := B97.out.lt; have h5 := HC5.out.hp.lt; have h6 := HC5.out.h1.lt; have h7 := HC5.out.h2.lt; have h8 := HC7.out.hp.lt; have h9 := HC7.out.h1.lt; have h10 := HC7.out.h2.lt; have h11 := HB5.out.size; have h12 := HB7.out.size; have h13 := HS57.out; show W5.heap.size ≠ w3.heap.size; omega) _).far ⟨W5.heap.size, 1, none⟩ (by have h1 := BX.out.lt; have h2 := B9.out.lt; have h3 := BX7.out.lt; have h4 := B97.out.lt; have h5 := HC5.out.hp.lt; have h6 := HC5.out.h1.lt; have h7 := HC5.out.h2.lt; have h8 := HC7.out.hp.lt; have h9 := HC7.out.h1.lt; have h10 := HC7.out.h2.lt; have h11 := HB5.out.size; have h12 := HB7.out.size; have h13 := HS57.out; show W5.heap.size ≠ w3.heap.size; omega) _))
        have KB := Lib.hid (show Below w.heap.size w V from by rw [← hV]; exact (below_set (below_set (below_alloc HB7.out _) (by have h1 := BX.out.lt; have h2 := B9.out.lt; have h3 := BX7.out.lt; have h4 := B97.out.lt; have h5 := HC5.out.hp.lt; have h6 := HC5.out.h1.lt; have h7 := HC5.out.h2.lt; have h8 := HC7.out.hp.lt; have h9 := HC7.out.h1.lt; have h10 := HC7.out.h2.lt; have h11 := HB5.out.size; have h12 := HB7.out.size; have h13 := HS57.out; show w.heap.size ≤ W5.heap.size; omega)) (by have h1 := BX.out.lt; have h2 := B9.out.lt; have h3 := BX7.out.lt; have h4 := B97.out.lt; have h5 := HC5.out.hp.lt; have h6 := HC5.out.h1.lt; have h7 := HC5.out.h2.lt; have h8 := HC7.out.hp.lt; have h9 := HC7.out.h1.lt; have h10 := HC7.out.h2.lt; have h11 := HB5.out.size; have h12 := HB7.out.size; have h13 := HS57.out; show w.heap.size ≤ W5.heap.size; omega)))
        have KR0 := Lib.hid (show Kd.R (Kd.int .i64) 3 V w.heap.size (fun k => (k ≠ p ∧ k ≠ b1 ∧ k ≠ b2) ∧ some k ≠ (Value.slice Ad s'.owners.length cd).ownBlock) (.slice Ac s'.cells.length cc) s'.cells from by rw [← hV]; exact Kd.R_reok rfl (Kd.R_far (Kd.R_far (Kd.R_alloc (Kd.R_tight rfl HR07.out) _) (p := ⟨W5.heap.size, 0, none⟩) (fun k hk e => by have hne : some (W5.heap.size) ≠ _ := Kd.R_ne HR07.out Y2.out (by decide); have e' : k = W5.heap.size := e; rw [e'] at hk; exact hne hk) _) (p := ⟨W5.heap.size, 1, none⟩) (fun k hk e => by have hne : some (W5.heap.size) ≠ _ := Kd.R_ne HR07.out Y2.out (by decide); have e' : k = W5.heap.size := e; rw [e'] at hk; exact hne hk) _) (HR07.out.1))
        have KR1 := Lib.hid (show Kd.R (Kd.int .i64) 3 V w.heap.size (fun k => (k ≠ p ∧ k ≠ b1 ∧ k ≠ b2) ∧ some k ≠ (Value.slice Ac s'.cells.length cc).ownBlock) (.slice Ad s'.owners.length cd) s'.owners from by rw [← hV]; exact Kd.R_reok rfl (Kd.R_far (Kd.R_far (Kd.R_alloc (Kd.R_tight rfl HR17.out) _) (p := ⟨W5.heap.size, 0, none⟩) (fun k hk e => by have hne : some (W5.heap.size) ≠ _ := Kd.R_ne HR17.out Y2.out (by decide); have e' : k = W5.heap.size := e; rw [e'] at hk; exact hne hk) _) (p := ⟨W5.heap.size, 1, none⟩) (fun k hk e => by have hne : some (W5.heap.size) ≠ _ := Kd.R_ne HR17.out Y2.out (by decide); have e' : k = W5.heap.size := e; rw [e'] at hk; exact hne hk) _) (HR17.out.1))
        have NN := Lib.hid (show w7.heap.size ≠ w3.heap.size ∧ W5.heap.size ≠ w3.heap.size ∧ w5.heap.size ≠ w3.heap.size ∧ p ≠ w3.heap.size ∧ b1 ≠ w3.heap.size ∧ b2 ≠ w3.heap.size ∧ w.heap.size ≤ w3.heap.size from ⟨(fun e => absurd e (by have h1 := BX.out.lt; have h2 := B9.out.lt; have h3 := BX7.out.lt; have h4 := B97.out.lt; have h5 := HC5.out.hp.lt; have h6 := HC5.out.h1.lt; have h7 := HC5.out.h2.lt; have h8 := HC7.out.hp.lt; have h9 := HC7.out.h1.lt; have h10 := HC7.out.h2.lt; have h11 := HB5.out.size; have h12 := HB7.out.size; have h13 := HS57.out; omega)), (fun e => absurd e (by have h1 := BX.out.lt; have h2 := B9.out.lt; have h3 := BX7.out.lt; have h4 := B97.out.lt; have h5 := HC5.out.hp.lt; have h6 := HC5.out.h1.lt; have h7 := HC5.out.h2.lt; have h8 := HC7.out.hp.lt; have h9 := HC7.out.h1.lt; have h10 := HC7.out.h2.lt; have h11 := HB5.out.size; have h12 := HB7.out.size; have h13 := HS57.out; omega)), (fun e => by have h := KX.out; have h' := K9.out; rw [e] at h; have := h.symm.trans h'; simp at this), (fun e => blk_ne HC7.out.hp B97.out (by decide) e), (fun e => blk_ne HC7.out.h1 B97.out (by decide) e), (fun e => blk_ne HC7.out.h2 B97.out (by decide) e), HW3.out⟩)
        rw [hV]
        clear hV
        clear f0 f1 f2 z0 z1 z2 z3
        have c0 := K12.out.cell 0
        have c1 := K12.out.cell 1
        have c2_ := K12.out.cell 2
        have d0 := K9.out.cell 0
        have d1 := K9.out.cell 1
        have d2 := K9.out.cell 2
        have e0 := K9.out.frozen 0
        have e1 := K9.out.frozen 1
        have e2 := K9.out.frozen 2
        go_wp2
        obtain ⟨V9, hV9⟩ : ∃ V9, ((V.setCell ⟨w3.heap.size, 0, none⟩ (.slice Ac s'.cells.length cc)).setCell ⟨w3.heap.size, 1, none⟩ (.slice Ad s'.owners.length cd)).setCell ⟨w3.heap.size, 2, none⟩ (.int .i64 s'.shared) = V9 := ⟨_, rfl⟩
        have M9 := Lib.hid (show Blk V9 w3.heap.size 41 [.slice Ac s'.cells.length cc, .slice Ad s'.owners.length cd, .int .i64 s'.shared] from by rw [← hV9]; exact blk_putL (blk_putL (blk_putL K9.out 0 _) 1 _) 2 _)
        have MX := Lib.hid (show Blk V9 w5.heap.size 44 [.int .i64 v1, .bool v2] from by rw [← hV9]; exact ((KX.out.far ⟨w3.heap.size, 0, none⟩ NN.out.2.2.1.symm _).far ⟨w3.heap.size, 1, none⟩ NN.out.2.2.1.symm _).far ⟨w3.heap.size, 2, none⟩ NN.out.2.2.1.symm _)
        have M13 := Lib.hid (show Blk V9 (W5.heap.size) 44 [.int .i64 v1, .bool v2] from by rw [← hV9]; exact ((K13.out.far ⟨w3.heap.size, 0, none⟩ NN.out.2.1.symm _).far ⟨w3.heap.size, 1, none⟩ NN.out.2.1.symm _).far ⟨w3.heap.size, 2, none⟩ NN.out.2.1.symm _)
        have MH := Lib.hid (show Held V9 p b1 b2 s' from by rw [← hV9]; exact ((KH.out.other ⟨w3.heap.size, 0, none⟩ NN.out.2.2.2.1.symm NN.out.2.2.2.2.1.symm NN.out.2.2.2.2.2.1.symm _).other ⟨w3.heap.size, 1, none⟩ NN.out.2.2.2.1.symm NN.out.2.2.2.2.1.symm NN.out.2.2.2.2.2.1.symm _).other ⟨w3.heap.size, 2, none⟩ NN.out.2.2.2.1.symm NN.out.2.2.2.2.1.symm NN.out.2.2.2.2.2.1.symm _)
        have MB := Lib.hid (show Below w.heap.size w V9 from by rw [← hV9]; exact below_set (below_set (below_set KB.out NN.out.2.2.2.2.2.2) NN.out.2.2.2.2.2.2) NN.out.2.2.2.2.2.2)
        have ht41 : ∀ q, q ∈ 3 :: (Kd.int .i64).E → q ≠ 41 := by show ∀ q, q ∈ [3] → q ≠ 41; decide
        have MR0 := Lib.hid (show Kd.R (Kd.int .i64) 3 V9 w.heap.size (fun k => (k ≠ p ∧ k ≠ b1 ∧ k ≠ b2) ∧ some k ≠ (Value.slice Ad s'.owners.length cd).ownBlock) (.slice Ac s'.cells.length cc) s'.cells from by rw [← hV9]; exact Kd.R_set (Kd.R_set (Kd.R_set KR0.out K9.out ht41 0 _) (blk_putL K9.out 0 _) ht41 1 _) (blk_putL (blk_putL K9.out 0 _) 1 _) ht41 2 _)
        have MR1 := Lib.hid (show Kd.R (Kd.int .i64) 3 V9 w.heap.size (fun k => (k ≠ p ∧ k ≠ b1 ∧ k ≠ b2) ∧ some k ≠ (Value.slice Ac s'.cells.length cc).ownBlock) (.slice Ad s'.owners.length cd) s'.owners from by rw [← hV9]; exact Kd.R_set (Kd.R_set (Kd.R_set KR1.out K9.out ht41 0 _) (blk_putL K9.out 0 _) ht41 1 _) (blk_putL (blk_putL K9.out 0 _) 1 _) ht41 2 _)
        rw [hV9]
        clear hV9 c0 c1 c2_ d0 d1 d2 e0 e1 e2 ht41
        have g0 := MX.out.cell 0
        have g1 := MX.out.cell 1
        have g2 := M13.out.cell 0
        have g3 := M13.out.cell 1
        have g4 := M9.out.cell 2
        go_region_held3 (fun w' => w'.cell? ⟨w5.heap.size, 0, none⟩ = some (.int .i64 v1) ∧ w'.cell? ⟨w5.heap.size, 1, none⟩ = some (.bool v2) ∧ w'.cell? ⟨W5.heap.size, 0, none⟩ = some (.int .i64 v1) ∧ w'.cell? ⟨W5.heap.size, 1, none⟩ = some (.bool v2) ∧ w'.cell? ⟨w3.heap.size, 2, none⟩ = some (.int .i64 s'.shared))
          (first | exact ⟨g0, g1, g2, g3, g4⟩)
          (first | (go_at_call 28; refine (Shared_any p b1 b2 s' _ MH.out.drewD).mono ?_; rintro e w8 ⟨rfl, rfl⟩))
        all_goals
          go_wp2
          go_roundw
          case rel => exact ⟨j + 1, by have := HJ.out; omega, by have := HJ.out; omega, by rw [hw], ⟨s', MH.out.drewD, ⟨_, _, blkDrewL M9.out, Kd.R_drew MR0.out, Kd.R_drew MR1.out⟩, HLEN.out, HOWN.out⟩, below_drew MB.out⟩
          case measure =>
            rw [hw]
            show l2.length - (j + 1).toNat < l2.length - j.toNat
            have := HJ.out
            omega
      · skip
        have HS57 := Lib.hid (show W5.heap.size + 1 < w7.heap.size from Y1.out.lt)
        obtain ⟨V, hV⟩ : ∃ V, (((((w7.setCell ⟨W5.heap.size + 1, 0, none⟩ (.slice Ac s'.cells.length cc)).setCell ⟨W5.heap.size + 1, 1, none⟩ (.slice Ad s'.owners.length cd)).setCell ⟨W5.heap.size + 1, 2, none⟩ (.int .i64 s'.shared)).setCell ⟨W5.heap.size, 0, none⟩ (.int .i64 v1)).setCell ⟨W5.heap.size, 1, none⟩ (.bool v2)) = V := ⟨_, rfl⟩
        have K12 := Lib.hid (show Blk V (W5.heap.size + 1) 41 [.slice Ac s'.cells.length cc, .slice Ad s'.owners.length cd, .int .i64 s'.shared] from by rw [← hV]; exact (((blk_putL (blk_putL (blk_putL Y1.out 0 _) 1 _) 2 _).far ⟨W5.heap.size, 0, none⟩ (by have h1 := BX.out.lt; have h2 := B9.out.lt; have h3 := BX7.out.lt; have h4 := B97.out.lt; have h5 := HC5.out.hp.lt; have h6 := HC5.out.h1.lt; have h7 := HC5.out.h2.lt; have h8 := HC7.out.hp.lt; have h9 := HC7.out.h1.lt; have h10 := HC7.out.h2.lt; have h11 := HB5.out.size; have h12 := HB7.out.size; have h13 := HS57.out; show W5.heap.size ≠ W5.heap.size + 1; omega) _).far ⟨W5.heap.size, 1, none⟩ (by have h1 := BX.out.lt; have h2 := B9.out.lt; have h3 := BX7.out.lt; have h4 := B97.out.lt; have h5 := HC5.out.hp.lt; have h6 := HC5.out.h1.lt; have h7 := HC5.out.h2.lt; have h8 := HC7.out.hp.lt; have h9 := HC7.out.h1.lt; have h10 := HC7.out.h2.lt; have h11 := HB5.out.size; have h12 := HB7.out.size; have h13 := HS57.out; show W5.heap.size ≠ W5.heap.size + 1; omega) _))
        have K13 := Lib.hid (show Blk V (W5.heap.size) 44 [.int .i64 v1, .bool v2] from by rw [← hV]; exact (blk_putL (blk_putL (((Y2.out.far ⟨W5.heap.size + 1, 0, none⟩ (by have h1 := BX.out.lt; have h2 := B9.out.lt; have h3 := BX7.out.lt; have h4 := B97.out.lt; have h5 := HC5.out.hp.lt; have h6 := HC5.out.h1.lt; have h7 := HC5.out.h2.lt; have h8 := HC7.out.hp.lt; have h9 := HC7.out.h1.lt; have h10 := HC7.out.h2.lt; have h11 := HB5.out.size; have h12 := HB7.out.size; have h13 := HS57.out; show W5.heap.size + 1 ≠ W5.heap.size; omega) _).far ⟨W5.heap.size + 1, 1, none⟩ (by have h1 := BX.out.lt; have h2 := B9.out.lt; have h3 := BX7.out.lt; have h4 := B97.out.lt; have h5 := HC5.out.hp.lt; have h6 := HC5.out.h1.lt; have h7 := HC5.out.h2.lt; have h8 := HC7.out.hp.lt; have h9 := HC7.out.h1.lt; have h10 := HC7.out.h2.lt; have h11 := HB5.out.size; have h12 := HB7.out.size; have h13 := HS57.out; show W5.heap.size + 1 ≠ W5.heap.size; omega) _).far ⟨W5.heap.size + 1, 2, none⟩ (by have h1 := BX.out.lt; have h2 := B9.out.lt; have h3 := BX7.out.lt; have h4 := B97.out.lt; have h5 := HC5.out.hp.lt; have h6 := HC5.out.h1.lt; have h7 := HC5.out.h2.lt; have h8 := HC7.out.hp.lt; have h9 := HC7.out.h1.lt; have h10 := HC7.out.h2.lt; have h11 := HB5.out.size; have h12 := HB7.out.size; have h13 := HS57.out; show W5.heap.size + 1 ≠ W5.heap.size; omega) _) 0 _) 1 _))
        have KH := Lib.hid (show Held V p b1 b2 s' from by rw [← hV]; exact (((((HC7.out.other ⟨W5.heap.size + 1, 0, none⟩ (by have h1 := BX.out.lt; have h2 := B9.out.lt; have h3 := BX7.out.lt; have h4 := B97.out.lt; have h5 := HC5.out.hp.lt; have h6 := HC5.out.h1.lt; have h7 := HC5.out.h2.lt; have h8 := HC7.out.hp.lt; have h9 := HC7.out.h1.lt; have h10 := HC7.out.h2.lt; have h11 := HB5.out.size; have h12 := HB7.out.size; have h13 := HS57.out; show W5.heap.size + 1 ≠ p; omega) (by have h1 := BX.out.lt; have h2 := B9.out.lt; have h3 := BX7.out.lt; have h4 := B97.out.lt; have h5 := HC5.out.hp.lt; have h6 := HC5.out.h1.lt; have h7 := HC5.out.h2.lt; have h8 := HC7.out.hp.lt; have h9 := HC7.out.h1.lt; have h10 := HC7.out.h2.lt; have h11 := HB5.out.size; have h12 := HB7.out.size; have h13 := HS57.out; show W5.heap.size + 1 ≠ b1; omega) (by have h1 := BX.out.lt; have h2 := B9.out.lt; have h3 := BX7.out.lt; have h4 := B97.out.lt; have h5 := HC5.out.hp.lt; have h6 := HC5.out.h1.lt; have h7 := HC5.out.h2.lt; have h8 := HC7.out.hp.lt; have h9 := HC7.out.h1.lt; have h10 := HC7.out.h2.lt; have h11 := HB5.out.size; have h12 := HB7.out.size; have h13 := HS57.out; show W5.heap.size + 1 ≠ b2; omega) _).other ⟨W5.heap.size + 1, 1, none⟩ (by have h1 := BX.out.lt; have h2 := B9.out.lt; have h3 := BX7.out.lt; have h4 := B97.out.lt; have h5 := HC5.out.hp.lt; have h6 := HC5.out.h1.lt; have h7 := HC5.out.h2.lt; have h8 := HC7.out.hp.lt; have h9 := HC7.out.h1.lt; have h10 := HC7.out.h2.lt; have h11 := HB5.out.size; have h12 := HB7.out.size; have h13 := HS57.out; show W5.heap.size + 1 ≠ p; omega) (by have h1 := BX.out.lt; have h2 := B9.out.lt; have h3 := BX7.out.lt; have h4 := B97.out.lt; have h5 := HC5.out.hp.lt; have h6 := HC5.out.h1.lt; have h7 := HC5.out.h2.lt; have h8 := HC7.out.hp.lt; have h9 := HC7.out.h1.lt; have h10 := HC7.out.h2.lt; have h11 := HB5.out.size; have h12 := HB7.out.size; have h13 := HS57.out; show W5.heap.size + 1 ≠ b1; omega) (by have h1 := BX.out.lt; have h2 := B9.out.lt; have h3 := BX7.out.lt; have h4 := B97.out.lt; have h5 := HC5.out.hp.lt; have h6 := HC5.out.h1.lt; have h7 := HC5.out.h2.lt; have h8 := HC7.out.hp.lt; have h9 := HC7.out.h1.lt; have h10 := HC7.out.h2.lt; have h11 := HB5.out.size; have h12 := HB7.out.size; have h13 := HS57.out; show W5.heap.size + 1 ≠ b2; omega) _).other ⟨W5.heap.size + 1, 2, none⟩ (by have h1 := BX.out.lt; have h2 := B9.out.lt; have h3 := BX7.out.lt; have h4 := B97.out.lt; have h5 := HC5.out.hp.lt; have h6 := HC5.out.h1.lt; have h7 := HC5.out.h2.lt; have h8 := HC7.out.hp.lt; have h9 := HC7.out.h1.lt; have h10 := HC7.out.h2.lt; have h11 := HB5.out.size; have h12 := HB7.out.size; have h13 := HS57.out; show W5.heap.size + 1 ≠ p; omega) (by have h1 := BX.out.lt; have h2 := B9.out.lt; have h3 := BX7.out.lt; have h4 := B97.out.lt; have h5 := HC5.out.hp.lt; have h6 := HC5.out.h1.lt; have h7 := HC5.out.h2.lt; have h8 := HC7.out.hp.lt; have h9 := HC7.out.h1.lt; have h10 := HC7.out.h2.lt; have h11 := HB5.out.size; have h12 := HB7.out.size; have h13 := HS57.out; show W5.heap.size + 1 ≠ b1; omega) (by have h1 := BX.out.lt; have h2 := B9.out.lt; have h3 := BX7.out.lt; have h4 := B97.out.lt; have h5 := HC5.out.hp.lt; have h6 := HC5.out.h1.lt; have h7 := HC5.out.h2.lt; have h8 := HC7.out.hp.lt; have h9 := HC7.out.h1.lt; have h10 := HC7.out.h2.lt; have h11 := HB5.out.size; have h12 := HB7.out.size; have h13 := HS57.out; show W5.heap.size + 1 ≠ b2; omega) _).other ⟨W5.heap.size, 0, none⟩ (by have h1 := BX.out.lt; have h2 := B9.out.lt; have h3 := BX7.out.lt; have h4 := B97.out.lt; have h5 := HC5.out.hp.lt; have h6 := HC5.out.h1.lt; have h7 := HC5.out.h2.lt; have h8 := HC7.out.hp.lt; have h9 := HC7.out.h1.lt; have h10 := HC7.out.h2.lt; have h11 := HB5.out.size; have h12 := HB7.out.size; have h13 := HS57.out; show W5.heap.size ≠ p; omega) (by have h1 := BX.out.lt; have h2 := B9.out.lt; have h3 := BX7.out.lt; have h4 := B97.out.lt; have h5 := HC5.out.hp.lt; have h6 := HC5.out.h1.lt; have h7 := HC5.out.h2.lt; have h8 := HC7.out.hp.lt; have h9 := HC7.out.h1.lt; have h10 := HC7.out.h2.lt; have h11 := HB5.out.size; have h12 := HB7.out.size; have h13 := HS57.out; show W5.heap.size ≠ b1; omega) (by have h1 := BX.out.lt; have h2 := B9.out.lt; have h3 := BX7.out.lt; have h4 := B97.out.lt; have h5 := HC5.out.hp.lt; have h6 := HC5.out.h1.lt; have h7 := HC5.out.h2.lt; have h8 := HC7.out.hp.lt; have h9 := HC7.out.h1.lt; have h10 := HC7.out.h2.lt; have h11 := HB5.out.size; have h12 := HB7.out.size; have h13 := HS57.out; show W5.heap.size ≠ b2; omega) _).other ⟨W5.heap.size, 1, none⟩ (by have h1 := BX.out.lt; have h2 := B9.out.lt; have h3 := BX7.out.lt; have h4 := B97.out.lt; have h5 := HC5.out.hp.lt; have h6 := HC5.out.h1.lt; have h7 := HC5.out.h2.lt; have h8 := HC7.out.hp.lt; have h9 := HC7.out.h1.lt; have h10 := HC7.out.h2.lt; have h11 := HB5.out.size; have h12 := HB7.out.size; have h13 := HS57.out; show W5.heap.size ≠ p; omega) (by have h1 := BX.out.lt; have h2 := B9.out.lt; have h3 := BX7.out.lt; have h4 := B97.out.lt; have h5 := HC5.out.hp.lt; have h6 := HC5.out.h1.lt; have h7 := HC5.out.h2.lt; have h8 := HC7.out.hp.lt; have h9 := HC7.out.h1.lt; have h10 := HC7.out.h2.lt; have h11 := HB5.out.size; have h12 := HB7.out.size; have h13 := HS57.out; show W5.heap.size ≠ b1; omega) (by have h1 := BX.out.lt; have h2 := B9.out.lt; have h3 := BX7.out.lt; have h4 := B97.out.lt; have h5 := HC5.out.hp.lt; have h6 := HC5.out.h1.lt; have h7 := HC5.out.h2.lt; have h8 := HC7.out.hp.lt; have h9 := HC7.out.h1.lt; have h10 := HC7.out.h2.lt; have h11 := HB5.out.size; have h12 := HB7.out.size; have h13 := HS57.out; show W5.heap.size ≠ b2; omega) _))
        have KX := Lib.hid (show Blk V w5.heap.size 44 [.int .i64 v1, .bool v2] from by rw [← hV]; exact (((((BX7.out.far ⟨W5.heap.size + 1, 0, none⟩ (by have h1 := BX.out.lt; have h2 := B9.out.lt; have h3 := BX7.out.lt; have h4 := B97.out.lt; have h5 := HC5.out.hp.lt; have h6 := HC5.out.h1.lt; have h7 := HC5.out.h2.lt; have h8 := HC7.out.hp.lt; have h9 := HC7.out.h1.lt; have h10 := HC7.out.h2.lt; have h11 := HB5.out.size; have h12 := HB7.out.size; have h13 := HS57.out; show W5.heap.size + 1 ≠ w5.heap.size; omega) _).far ⟨W5.heap.size + 1, 1, none⟩ (by have h1 := BX.out.lt; have h2 := B9.out.lt; have h3 := BX7.out.lt; have h4 := B97.out.lt; have h5 := HC5.out.hp.lt; have h6 := HC5.out.h1.lt; have h7 := HC5.out.h2.lt; have h8 := HC7.out.hp.lt; have h9 := HC7.out.h1.lt; have h10 := HC7.out.h2.lt; have h11 := HB5.out.size; have h12 := HB7.out.size; have h13 := HS57.out; show W5.heap.size + 1 ≠ w5.heap.size; omega) _).far ⟨W5.heap.size + 1, 2, none⟩ (by have h1 := BX.out.lt; have h2 := B9.out.lt; have h3 := BX7.out.lt; have h4 := B97.out.lt; have h5 := HC5.out.hp.lt; have h6 := HC5.out.h1.lt; have h7 := HC5.out.h2.lt; have h8 := HC7.out.hp.lt; have h9 := HC7.out.h1.lt; have h10 := HC7.out.h2.lt; have h11 := HB5.out.size; have h12 := HB7.out.size; have h13 := HS57.out; show W5.heap.size + 1 ≠ w5.heap.size; omega) _).far ⟨W5.heap.size, 0, none⟩ (by have h1 := BX.out.lt; have h2 := B9.out.lt; have h3 := BX7.out.lt; have h4 := B97.out.lt; have h5 := HC5.out.hp.lt; have h6 := HC5.out.h1.lt; have h7 := HC5.out.h2.lt; have h8 := HC7.out.hp.lt; have h9 := HC7.out.h1.lt; have h10 := HC7.out.h2.lt; have h11 := HB5.out.size; have h12 := HB7.out.size; have h13 := HS57.out; show W5.heap.size ≠ w5.heap.size; omega) _).far ⟨W5.heap.size, 1, none⟩ (by have h1 := BX.out.lt; have h2 := B9.out.lt; have h3 := BX7.out.lt; have h4 := B97.out.lt; have h5 := HC5.out.hp.lt; have h6 := HC5.out.h1.lt; have h7 := HC5.out.h2.lt; have h8 := HC7.out.hp.lt; have h9 := HC7.out.h1.lt; have h10 := HC7.out.h2.lt; have h11 := HB5.out.size; have h12 := HB7.out.size; have h13 := HS57.out; show W5.heap.size ≠ w5.heap.size; omega) _))
        have K9 := Lib.hid (show Blk V w3.heap.size 41 [.slice Aa s.cells.length ca, .slice Ab s.owners.length cb, .int .i64 s.shared] from by rw [← hV]; exact (((((B97.out.far ⟨W5.heap.size + 1, 0, none⟩ (by have h1 := BX.out.lt; have h2 := B9.out.lt; have h3 := BX7.out.lt; have h4 := B97.out.lt; have h5 := HC5.out.hp.lt; have h6 := HC5.out.h1.lt; have h7 := HC5.out.h2.lt; have h8 := HC7.out.hp.lt; have h9 := HC7.out.h1.lt; have h10 := HC7.out.h2.lt; have h11 := HB5.out.size; have h12 := HB7.out.size; have h13 := HS57.out; show W5.heap.size + 1 ≠ w3.heap.size; omega) _).far ⟨W5.heap.size + 1, 1, none⟩ (by have h1 := BX.out.lt; have h2 := B9.out.lt; have h3 := BX7.out.lt; have h4 := B97.out.lt; have h5 := HC5.out.hp.lt; have h6 := HC5.out.h1.lt; have h7 := HC5.out.h2.lt; have h8 := HC7.out.hp.lt; have h9 := HC7.out.h1.lt; have h10 := HC7.out.h2.lt; have h11 := HB5.out.size; have h12 := HB7.out.size; have h13 := HS57.out; show W5.heap.size + 1 ≠ w3.heap.size; omega) _).far ⟨W5.heap.size + 1, 2, none⟩ (by have h1 := BX.out.lt; have h2 := B9.out.lt; have h3 := BX7.out.lt; have h4 := B97.out.lt; have h5 := HC5.out.hp.lt; have h6 := HC5.out.h1.lt; have h7 := HC5.out.h2.lt; have h8 := HC7.out.hp.lt; have h9 := HC7.out.h1.lt; have h10 := HC7.out.h2.lt; have h11 := HB5.out.size; have h12 := HB7.out.size; have h13 := HS57.out; show W5.heap.size + 1 ≠ w3.heap.size; omega) _).far ⟨W5.heap.size, 0, none⟩ (by have h1 := BX.out.lt; have h2 := B9.out.lt; have h3 := BX7.out.lt; have h4 := B97.out.lt; have h5 := HC5.out.hp.lt; have h6 := HC5.out.h1.lt; have h7 := HC5.out.h2.lt; have h8 := HC7.out.hp.lt; have h9 := HC7.out.h1.lt; have h10 := HC7.out.h2.lt; have h11 := HB5.out.size; have h12 := HB7.out.size; have h13 := HS57.out; show W5.heap.size ≠ w3.heap.size; omega) _).far ⟨W5.heap.size, 1, none⟩ (by have h1 := BX.out.lt; have h2 := B9.out.lt; have h3 := BX7.out.lt; have h4 := B97.out.lt; have h5 := HC5.out.hp.lt; have h6 := HC5.out.h1.lt; have h7 := HC5.out.h2.lt; have h8 := HC7.out.hp.lt; have h9 := HC7.out.h1.lt; have h10 := HC7.out.h2.lt; have h11 := HB5.out.size; have h12 := HB7.out.size; have h13 := HS57.out; show W5.heap.size ≠ w3.heap.size; omega) _))
        have KB := Lib.hid (show Below w.heap.size w V from by rw [← hV]; exact (below_set (below_set (below_set (below_set (below_set HB7.out (by have h1 := BX.out.lt; have h2 := B9.out.lt; have h3 := BX7.out.lt; have h4 := B97.out.lt; have h5 := HC5.out.hp.lt; have h6 := HC5.out.h1.lt; have h7 := HC5.out.h2.lt; have h8 := HC7.out.hp.lt; have h9 := HC7.out.h1.lt; have h10 := HC7.out.h2.lt; have h11 := HB5.out.size; have h12 := HB7.out.size; have h13 := HS57.out; show w.heap.size ≤ W5.heap.size + 1; omega)) (by have h1 := BX.out.lt; have h2 := B9.out.lt; have h3 := BX7.out.lt; have h4 := B97.out.lt; have h5 := HC5.out.hp.lt; have h6 := HC5.out.h1.lt; have h7 := HC5.out.h2.lt; have h8 := HC7.out.hp.lt; have h9 := HC7.out.h1.lt; have h10 := HC7.out.h2.lt; have h11 := HB5.out.size; have h12 := HB7.out.size; have h13 := HS57.out; show w.heap.size ≤ W5.heap.size + 1; omega)) (by have h1 := BX.out.lt; have h2 := B9.out.lt; have h3 := BX7.out.lt; have h4 := B97.out.lt; have h5 := HC5.out.hp.lt; have h6 := HC5.out.h1.lt; have h7 := HC5.out.h2.lt; have h8 := HC7.out.hp.lt; have h9 := HC7.out.h1.lt; have h10 := HC7.out.h2.lt; have h11 := HB5.out.size; have h12 := HB7.out.size; have h13 := HS57.out; show w.heap.size ≤ W5.heap.size + 1; omega)) (by have h1 := BX.out.lt; have h2 := B9.out.lt; have h3 := BX7.out.lt; have h4 := B97.out.lt; have h5 := HC5.out.hp.lt; have h6 := HC5.out.h1.lt; have h7 := HC5.out.h2.lt; have h8 := HC7.out.hp.lt; have h9 := HC7.out.h1.lt; have h10 := HC7.out.h2.lt; have h11 := HB5.out.size; have h12 := HB7.out.size; have h13 := HS57.out; show w.heap.size ≤ W5.heap.size; omega)) (by have h1 := BX.out.lt; have h2 := B9.out.lt; have h3 := BX7.out.lt; have h4 := B97.out.lt; have h5 := HC5.out.hp.lt; have h6 := HC5.out.h1.lt; have h7 := HC5.out.h2.lt; have h8 := HC7.out.hp.lt; have h9 := HC7.out.h1.lt; have h10 := HC7.out.h2.lt; have h11 := HB5.out.size; have h12 := HB7.out.size; have h13 := HS57.out; show w.heap.size ≤ W5.heap.size; omega)))
        have KR0 := Lib.hid (show Kd.R (Kd.int .i64) 3 V w.heap.size (fun k => (k ≠ p ∧ k ≠ b1 ∧ k ≠ b2) ∧ some k ≠ (Value.slice Ad s'.owners.length cd).ownBlock) (.slice Ac s'.cells.length cc) s'.cells from by rw [← hV]; exact Kd.R_reok rfl (Kd.R_far (Kd.R_far (Kd.R_far (Kd.R_far (Kd.R_far (Kd.R_tight rfl HR07.out) (p := ⟨W5.heap.size + 1, 0, none⟩) (fun k hk e => by have hne : some (W5.heap.size + 1) ≠ _ := Kd.R_ne HR07.out Y1.out (by decide); have e' : k = W5.heap.size + 1 := e; rw [e'] at hk; exact hne hk) _) (p := ⟨W5.heap.size + 1, 1, none⟩) (fun k hk e => by have hne : some (W5.heap.size + 1) ≠ _ := Kd.R_ne HR07.out Y1.out (by decide); have e' : k = W5.heap.size + 1 := e; rw [e'] at hk; exact hne hk) _) (p := ⟨W5.heap.size + 1, 2, none⟩) (fun k hk e => by have hne : some (W5.heap.size + 1) ≠ _ := Kd.R_ne HR07.out Y1.out (by decide); have e' : k = W5.heap.size + 1 := e; rw [e'] at hk; exact hne hk) _) (p := ⟨W5.heap.size, 0, none⟩) (fun k hk e => by have hne : some (W5.heap.size) ≠ _ := Kd.R_ne HR07.out Y2.out (by decide); have e' : k = W5.heap.size := e; rw [e'] at hk; exact hne hk) _) (p := ⟨W5.heap.size, 1, none⟩) (fun k hk e => by have hne : some (W5.heap.size) ≠ _ := Kd.R_ne HR07.out Y2.out (by decide); have e' : k = W5.heap.size := e; rw [e'] at hk; exact hne hk) _) (HR07.out.1))
        have KR1 := Lib.hid (show Kd.R (Kd.int .i64) 3 V w.heap.size (fun k => (k ≠ p ∧ k ≠ b1 ∧ k ≠ b2) ∧ some k ≠ (Value.slice Ac s'.cells.length cc).ownBlock) (.slice Ad s'.owners.length cd) s'.owners from by rw [← hV]; exact Kd.R_reok rfl (Kd.R_far (Kd.R_far (Kd.R_far (Kd.R_far (Kd.R_far (Kd.R_tight rfl HR17.out) (p := ⟨W5.heap.size + 1, 0, none⟩) (fun k hk e => by have hne : some (W5.heap.size + 1) ≠ _ := Kd.R_ne HR17.out Y1.out (by decide); have e' : k = W5.heap.size + 1 := e; rw [e'] at hk; exact hne hk) _) (p := ⟨W5.heap.size + 1, 1, none⟩) (fun k hk e => by have hne : some (W5.heap.size + 1) ≠ _ := Kd.R_ne HR17.out Y1.out (by decide); have e' : k = W5.heap.size + 1 := e; rw [e'] at hk; exact hne hk) _) (p := ⟨W5.heap.size + 1, 2, none⟩) (fun k hk e => by have hne : some (W5.heap.size + 1) ≠ _ := Kd.R_ne HR17.out Y1.out (by decide); have e' : k = W5.heap.size + 1 := e; rw [e'] at hk; exact hne hk) _) (p := ⟨W5.heap.size, 0, none⟩) (fun k hk e => by have hne : some (W5.heap.size) ≠ _ := Kd.R_ne HR17.out Y2.out (by decide); have e' : k = W5.heap.size := e; rw [e'] at hk; exact hne hk) _) (p := ⟨W5.heap.size, 1, none⟩) (fun k hk e => by have hne : some (W5.heap.size) ≠ _ := Kd.R_ne HR17.out Y2.out (by decide); have e' : k = W5.heap.size := e; rw [e'] at hk; exact hne hk) _) (HR17.out.1))
        have NN := Lib.hid (show W5.heap.size + 1 ≠ w3.heap.size ∧ W5.heap.size ≠ w3.heap.size ∧ w5.heap.size ≠ w3.heap.size ∧ p ≠ w3.heap.size ∧ b1 ≠ w3.heap.size ∧ b2 ≠ w3.heap.size ∧ w.heap.size ≤ w3.heap.size from ⟨(fun e => absurd e (by have h1 := BX.out.lt; have h2 := B9.out.lt; have h3 := BX7.out.lt; have h4 := B97.out.lt; have h5 := HC5.out.hp.lt; have h6 := HC5.out.h1.lt; have h7 := HC5.out.h2.lt; have h8 := HC7.out.hp.lt; have h9 := HC7.out.h1.lt; have h10 := HC7.out.h2.lt; have h11 := HB5.out.size; have h12 := HB7.out.size; have h13 := HS57.out; omega)), (fun e => absurd e (by have h1 := BX.out.lt; have h2 := B9.out.lt; have h3 := BX7.out.lt; have h4 := B97.out.lt; have h5 := HC5.out.hp.lt; have h6 := HC5.out.h1.lt; have h7 := HC5.out.h2.lt; have h8 := HC7.out.hp.lt; have h9 := HC7.out.h1.lt; have h10 := HC7.out.h2.lt; have h11 := HB5.out.size; have h12 := HB7.out.size; have h13 := HS57.out; omega)), (fun e => by have h := KX.out; have h' := K9.out; rw [e] at h; have := h.symm.trans h'; simp at this), (fun e => blk_ne HC7.out.hp B97.out (by decide) e), (fun e => blk_ne HC7.out.h1 B97.out (by decide) e), (fun e => blk_ne HC7.out.h2 B97.out (by decide) e), HW3.out⟩)
        rw [hV]
        clear hV
        clear f0 f1 f2 z0 z1 z2 z3
        have c0 := K12.out.cell 0
        have c1 := K12.out.cell 1
        have c2_ := K12.out.cell 2
        have d0 := K9.out.cell 0
        have d1 := K9.out.cell 1
        have d2 := K9.out.cell 2
        have e0 := K9.out.frozen 0
        have e1 := K9.out.frozen 1
        have e2 := K9.out.frozen 2
        go_wp2
        obtain ⟨V9, hV9⟩ : ∃ V9, ((V.setCell ⟨w3.heap.size, 0, none⟩ (.slice Ac s'.cells.length cc)).setCell ⟨w3.heap.size, 1, none⟩ (.slice Ad s'.owners.length cd)).setCell ⟨w3.heap.size, 2, none⟩ (.int .i64 s'.shared) = V9 := ⟨_, rfl⟩
        have M9 := Lib.hid (show Blk V9 w3.heap.size 41 [.slice Ac s'.cells.length cc, .slice Ad s'.owners.length cd, .int .i64 s'.shared] from by rw [← hV9]; exact blk_putL (blk_putL (blk_putL K9.out 0 _) 1 _) 2 _)
        have MX := Lib.hid (show Blk V9 w5.heap.size 44 [.int .i64 v1, .bool v2] from by rw [← hV9]; exact ((KX.out.far ⟨w3.heap.size, 0, none⟩ NN.out.2.2.1.symm _).far ⟨w3.heap.size, 1, none⟩ NN.out.2.2.1.symm _).far ⟨w3.heap.size, 2, none⟩ NN.out.2.2.1.symm _)
        have M13 := Lib.hid (show Blk V9 (W5.heap.size) 44 [.int .i64 v1, .bool v2] from by rw [← hV9]; exact ((K13.out.far ⟨w3.heap.size, 0, none⟩ NN.out.2.1.symm _).far ⟨w3.heap.size, 1, none⟩ NN.out.2.1.symm _).far ⟨w3.heap.size, 2, none⟩ NN.out.2.1.symm _)
        have MH := Lib.hid (show Held V9 p b1 b2 s' from by rw [← hV9]; exact ((KH.out.other ⟨w3.heap.size, 0, none⟩ NN.out.2.2.2.1.symm NN.out.2.2.2.2.1.symm NN.out.2.2.2.2.2.1.symm _).other ⟨w3.heap.size, 1, none⟩ NN.out.2.2.2.1.symm NN.out.2.2.2.2.1.symm NN.out.2.2.2.2.2.1.symm _).other ⟨w3.heap.size, 2, none⟩ NN.out.2.2.2.1.symm NN.out.2.2.2.2.1.symm NN.out.2.2.2.2.2.1.symm _)
        have MB := Lib.hid (show Below w.heap.size w V9 from by rw [← hV9]; exact below_set (below_set (below_set KB.out NN.out.2.2.2.2.2.2) NN.out.2.2.2.2.2.2) NN.out.2.2.2.2.2.2)
        have ht41 : ∀ q, q ∈ 3 :: (Kd.int .i64).E → q ≠ 41 := by show ∀ q, q ∈ [3] → q ≠ 41; decide
        have MR0 := Lib.hid (show Kd.R (Kd.int .i64) 3 V9 w.heap.size (fun k => (k ≠ p ∧ k ≠ b1 ∧ k ≠ b2) ∧ some k ≠ (Value.slice Ad s'.owners.length cd).ownBlock) (.slice Ac s'.cells.length cc) s'.cells from by rw [← hV9]; exact Kd.R_set (Kd.R_set (Kd.R_set KR0.out K9.out ht41 0 _) (blk_putL K9.out 0 _) ht41 1 _) (blk_putL (blk_putL K9.out 0 _) 1 _) ht41 2 _)
        have MR1 := Lib.hid (show Kd.R (Kd.int .i64) 3 V9 w.heap.size (fun k => (k ≠ p ∧ k ≠ b1 ∧ k ≠ b2) ∧ some k ≠ (Value.slice Ac s'.cells.length cc).ownBlock) (.slice Ad s'.owners.length cd) s'.owners from by rw [← hV9]; exact Kd.R_set (Kd.R_set (Kd.R_set KR1.out K9.out ht41 0 _) (blk_putL K9.out 0 _) ht41 1 _) (blk_putL (blk_putL K9.out 0 _) 1 _) ht41 2 _)
        rw [hV9]
        clear hV9 c0 c1 c2_ d0 d1 d2 e0 e1 e2 ht41
        have g0 := MX.out.cell 0
        have g1 := MX.out.cell 1
        have g2 := M13.out.cell 0
        have g3 := M13.out.cell 1
        have g4 := M9.out.cell 2
        go_region_held3 (fun w' => w'.cell? ⟨w5.heap.size, 0, none⟩ = some (.int .i64 v1) ∧ w'.cell? ⟨w5.heap.size, 1, none⟩ = some (.bool v2) ∧ w'.cell? ⟨W5.heap.size, 0, none⟩ = some (.int .i64 v1) ∧ w'.cell? ⟨W5.heap.size, 1, none⟩ = some (.bool v2) ∧ w'.cell? ⟨w3.heap.size, 2, none⟩ = some (.int .i64 s'.shared))
          (first | exact ⟨g0, g1, g2, g3, g4⟩)
          (first | (go_at_call 28; refine (Shared_any p b1 b2 s' _ MH.out.drewD).mono ?_; rintro e w8 ⟨rfl, rfl⟩))
        all_goals
          go_wp2
          go_roundw
          case rel => exact ⟨j + 1, by have := HJ.out; omega, by have := HJ.out; omega, by rw [hw], ⟨s', MH.out.drewD, ⟨_, _, blkDrewL M9.out, Kd.R_drew MR0.out, Kd.R_drew MR1.out⟩, HLEN.out, HOWN.out⟩, below_drew MB.out⟩
          case measure =>
            rw [hw]
            show l2.length - (j + 1).toNat < l2.length - j.toNat
            have := HJ.out
            omega
    · obtain rfl : j = l2.length := by omega
      clear hj0 hj1 hlt
      go_wp2
      go_ret
      exact ⟨rfl, HB.out⟩
end


/-- THE PURE STATEMENT of gangplanklaw14_CellsDo. -/
def gangplanklaw14_CellsDo.Pure : Prop := ∀ (a0 : Int) (a1 : Int) (l2 : List (S47)), ((Lit.int .i64 a0).wf = true) → ((Lit.int .i64 a1).wf = true) → (l2.length ≤ maxLen) → ((∀ x ∈ l2, okS47 x)) → gangplanklaw14_CellsDo.f a0 a1 l2 = some true

end Go.Proofs.Ythecbaeemmejpaa.P
