/- Each Go function that the laws reach, as a plain function, with the proof that the machine's call comes to what it says; of a law: its row. Made by a program of this seat (wip/hp.py, over the print). -/
import Derived.Test.YtbbgeobnjdgpfaaGreatPx0
namespace Go.Proofs.YtbbgeobnjdgpfaaGreat.P
open Go.RowKit Go.Proofs.YtbbgeobnjdgpfaaGreatW.PrintWords Go.Proofs.YtbbgeobnjdgpfaaGreatW.PrintLast Go.Proofs.YtbbgeobnjdgpfaaGreatW.PrintMore
attribute [local go_sem] max2_int min2_int max_two min_two max_three min_three max_four min_four   -- for this text's walks alone
set_option linter.unusedVariables false
set_option linter.unusedSimpArgs false

/-- What is known of a value of struct type 23 that came in. -/
def okS23 (x : S23) : Prop := (Lit.int .i64 x.f0).wf = true ∧ (Lit.int .i64 x.f1).wf = true ∧ (Lit.int .i64 x.f2).wf = true ∧ (Lit.int .i64 x.f3).wf = true ∧ (Lit.int .i64 x.f4).wf = true

-- NOT PRINTED: function 42 (model_Check_1)

/-! ### model_Check: function 21 -/
section
open Go.Shelf Go.Proofs.YtbbgeobnjdgpfaaGreat.Hand
/-- 1 if a number is out of its bounds, else what was known. -/
def need (n lo hi x : Int) : Int := if n < lo ∨ hi < n then 1 else x
def chk (a b c d e : Int) : Int := need e 2 8 (need d 0 1000000 (need c 1 64 (need b 1 16 (need a 1 64 0))))
set_option maxHeartbeats 4000000 in
theorem need_any (B : Nat) (n lo hi x : Int) (W : World) (hb : Blk W B 27 [.int .i64 x]) :
    Calls Tryz.prog 42 #[.int .i64 n, .int .i64 lo, .int .i64 hi, .pointer (some ⟨B, 0, none⟩)] W fun e W' => e = .returned (.tuple #[]) ∧ Blk W' B 27 [.int .i64 (need n lo hi x)] ∧ (∀ k, k ≠ B → W'.heap[k]? = W.heap[k]?) ∧ (∀ N, N ≤ B → Below N W W') := by
  have hc : W.cell? ⟨B, 0, none⟩ = some (.int .i64 x) := hb.cell 0
  have hz := hb.frozen 0
  have HB := Lib.hid hb
  clear hb
  by_cases h0 : n < lo
  · have q0 : decide (n < lo) = true := decide_eq_true h0
    have e : need n lo hi x = 1 := if_pos (.inl h0)
    rw [e]
    clear h0 e
    go_enter Tryz.func42, Tryz.ntmps42
    go_wp2
    go_end0
    exact ⟨rfl, HB.out.set1 _, fun k hk => Below.heap_setCell W ⟨B, 0, none⟩ _ k hk, fun N hN => (Below.refl N W).setCell hN _⟩
  · have q0 : decide (n < lo) = false := decide_eq_false h0
    by_cases h1 : hi < n
    · have q1 : decide (hi < n) = true := decide_eq_true h1
      have e : need n lo hi x = 1 := if_pos (.inr h1)
      rw [e]
      clear h0 h1 e
      go_enter Tryz.func42, Tryz.ntmps42
      go_wp2
      go_end0
      exact ⟨rfl, HB.out.set1 _, fun k hk => Below.heap_setCell W ⟨B, 0, none⟩ _ k hk, fun N hN => (Below.refl N W).setCell hN _⟩
    · have q1 : decide (hi < n) = false := decide_eq_false h1
      have e : need n lo hi x = x := if_neg (by omega)
      rw [e]
      clear h0 h1 e
      go_enter Tryz.func42, Tryz.ntmps42
      go_wp2
      go_end0
      exact ⟨rfl, HB.out, fun k _ => rfl, fun N _ => Below.refl N W⟩
set_option maxHeartbeats 8000000 in
theorem CheckM_any (a b c d e : Int) (W : World) :
    Calls Tryz.prog 21 #[.agg #[.int .i64 a, .int .i64 b, .int .i64 c, .int .i64 d, .int .i64 e]] W fun r W' => r = .returned (.int .i64 (chk a b c d e)) ∧ Below W.heap.size W W' := by
  have B0 := (Blk.new W 23 [.int .i64 a, .int .i64 b, .int .i64 c, .int .i64 d, .int .i64 e]).alloc (.cells #[.int .i64 0] 27)
  have B1 := Blk.new (W.alloc (.cells #[.int .i64 a, .int .i64 b, .int .i64 c, .int .i64 d, .int .i64 e] 23)) 27 [.int .i64 0]
  have hB := below_alloc (below_alloc (Below.refl _ W) (.cells #[.int .i64 a, .int .i64 b, .int .i64 c, .int .i64 d, .int .i64 e] 23)) (.cells #[.int .i64 0] 27)
  simp only [World.size_alloc] at B1
  have HB0 := Lib.hid B0
  have HB1 := Lib.hid B1
  have HB := Lib.hid hB
  clear B0 B1 hB
  go_enter Tryz.func21, Tryz.ntmps21
  go_wp2_with fail
  go_at_call 42
  refine (need_any (W.heap.size + 1) a 1 64 0 _ HB1.out).mono ?_
  rintro r w0 ⟨rfl, hb, hk, hB⟩
  have n0 := Lib.hid (show Blk w0 W.heap.size 23 [.int .i64 a, .int .i64 b, .int .i64 c, .int .i64 d, .int .i64 e] from (hk _ (by omega)).trans HB0.out)
  have n1 := Lib.hid hb
  have n2 := Lib.hid (HB.out.trans (hB W.heap.size (by omega)))
  clear hb hk hB HB0 HB1 HB
  have HB0 := n0
  have HB1 := n1
  have HB := n2
  clear n0 n1 n2
  have y0 := HB0.out.cell 0
  have y1 := HB0.out.cell 1
  have y2 := HB0.out.cell 2
  have y3 := HB0.out.cell 3
  have y4 := HB0.out.cell 4
  have y5 := HB1.out.cell 0
  go_wp2_with fail
  go_at_call 42
  refine (need_any (W.heap.size + 1) b 1 16 (need a 1 64 0) _ HB1.out).mono ?_
  rintro r w1 ⟨rfl, hb, hk, hB⟩
  have n0 := Lib.hid (show Blk w1 W.heap.size 23 [.int .i64 a, .int .i64 b, .int .i64 c, .int .i64 d, .int .i64 e] from (hk _ (by omega)).trans HB0.out)
  have n1 := Lib.hid hb
  have n2 := Lib.hid (HB.out.trans (hB W.heap.size (by omega)))
  clear hb hk hB HB0 HB1 HB
  have HB0 := n0
  have HB1 := n1
  have HB := n2
  clear n0 n1 n2
  have y0 := HB0.out.cell 0
  have y1 := HB0.out.cell 1
  have y2 := HB0.out.cell 2
  have y3 := HB0.out.cell 3
  have y4 := HB0.out.cell 4
  have y5 := HB1.out.cell 0
  go_wp2_with fail
  go_at_call 42
  refine (need_any (W.heap.size + 1) c 1 64 (need b 1 16 (need a 1 64 0)) _ HB1.out).mono ?_
  rintro r w2 ⟨rfl, hb, hk, hB⟩
  have n0 := Lib.hid (show Blk w2 W.heap.size 23 [.int .i64 a, .int .i64 b, .int .i64 c, .int .i64 d, .int .i64 e] from (hk _ (by omega)).trans HB0.out)
  have n1 := Lib.hid hb
  have n2 := Lib.hid (HB.out.trans (hB W.heap.size (by omega)))
  clear hb hk hB HB0 HB1 HB
  have HB0 := n0
  have HB1 := n1
  have HB := n2
  clear n0 n1 n2
  have y0 := HB0.out.cell 0
  have y1 := HB0.out.cell 1
  have y2 := HB0.out.cell 2
  have y3 := HB0.out.cell 3
  have y4 := HB0.out.cell 4
  have y5 := HB1.out.cell 0
  go_wp2_with fail
  go_at_call 42
  refine (need_any (W.heap.size + 1) d 0 1000000 (need c 1 64 (need b 1 16 (need a 1 64 0))) _ HB1.out).mono ?_
  rintro r w3 ⟨rfl, hb, hk, hB⟩
  have n0 := Lib.hid (show Blk w3 W.heap.size 23 [.int .i64 a, .int .i64 b, .int .i64 c, .int .i64 d, .int .i64 e] from (hk _ (by omega)).trans HB0.out)
  have n1 := Lib.hid hb
  have n2 := Lib.hid (HB.out.trans (hB W.heap.size (by omega)))
  clear hb hk hB HB0 HB1 HB
  have HB0 := n0
  have HB1 := n1
  have HB := n2
  clear n0 n1 n2
  have y0 := HB0.out.cell 0
  have y1 := HB0.out.cell 1
  have y2 := HB0.out.cell 2
  have y3 := HB0.out.cell 3
  have y4 := HB0.out.cell 4
  have y5 := HB1.out.cell 0
  go_wp2_with fail
  go_at_call 42
  refine (need_any (W.heap.size + 1) e 2 8 (need d 0 1000000 (need c 1 64 (need b 1 16 (need a 1 64 0)))) _ HB1.out).mono ?_
  rintro r w4 ⟨rfl, hb, hk, hB⟩
  have n0 := Lib.hid (show Blk w4 W.heap.size 23 [.int .i64 a, .int .i64 b, .int .i64 c, .int .i64 d, .int .i64 e] from (hk _ (by omega)).trans HB0.out)
  have n1 := Lib.hid hb
  have n2 := Lib.hid (HB.out.trans (hB W.heap.size (by omega)))
  clear hb hk hB HB0 HB1 HB
  have HB0 := n0
  have HB1 := n1
  have HB := n2
  clear n0 n1 n2
  have y0 := HB0.out.cell 0
  have y1 := HB0.out.cell 1
  have y2 := HB0.out.cell 2
  have y3 := HB0.out.cell 3
  have y4 := HB0.out.cell 4
  have y5 := HB1.out.cell 0
  go_wp2
  go_ret
  exact ⟨rfl, HB.out⟩
end

/-! ### cells_within: function 43 -/
def cells_within.f (a0 : Int) : Option (Int) := some (mn (mx a0 0) 1024)
set_option maxHeartbeats 8000000 in
set_option maxRecDepth 100000 in
theorem cells_within.calls (a0 : Int) (r : Int) (w : World) (h : cells_within.f a0 = some r) :
    Calls Tryz.prog 43 #[.int .i64 a0] w fun e w' => e = .returned (.int .i64 r) ∧ Below w.heap.size w w' := by
  have HB := Aside0.mk (Below.refl w.heap.size w)
  have H : (some (mn (mx a0 0) 1024)) = some r := h
  clear h
  obtain ⟨ji2, hji2⟩ : ∃ j_ : Int, (mx a0 0) = j_ := ⟨_, rfl⟩
  replace H : (some (mn (ji2) 1024)) = some r := by first | (rw [hji2] at H; exact H) | (simp only [hji2] at H ⊢; exact H)
  (try (have hji2l : 0 ≤ ji2 := by (rw [← hji2]; unfold mx; (repeat' split) <;> omega)))
  (try (have hji2m : 0 ≤ ji2 := by omega))
  have hji2_ : (if a0 < 0 then 0 else a0) = ji2 := hji2
  obtain ⟨ji3, hji3⟩ : ∃ j_ : Int, (mn (ji2) 1024) = j_ := ⟨_, rfl⟩
  replace H : (some ji3) = some r := by first | (rw [hji3] at H; exact H) | (simp only [hji3] at H ⊢; exact H)
  have hji3_ : (if 1024 < (ji2) then 1024 else (ji2)) = ji3 := hji3
  obtain rfl := Option.some.inj H
  go_enter Tryz.func43, Tryz.ntmps43
  go_wp2
  go_ret
  exact ⟨by first | rfl | (simp [errW_none, errW_some] <;> rfl) | (simp only [← hji2, ← hji3]; first | rfl | (simp [errW_none, errW_some] <;> rfl)) | (simp [*, errW_none, errW_some] <;> rfl), by repeat (first | (with_reducible first | exact HB.out | apply below_alloc | apply pw_below_drewN | apply below_drew1) | exact HB.out)⟩

/-! ### cells_New: function 24 -/
section
open Go.Shelf Go.Proofs.YtbbgeobnjdgpfaaGreat.Hand
/-- Cells and locks, and how often they were called. -/
structure CS where
  cells : List Int
  owners : List Int
  shared : Int
def ints (l : List Int) : List Value := l.map (Value.int .i64)
theorem ints_at (l : List Int) (i : Nat) (h : i < l.length) : (ints l)[i]? = some (.int .i64 (l.getD i 0)) := by
  unfold ints
  rw [List.getElem?_map, List.getElem?_eq_getElem h]
  simp [h]
theorem ints_set (l : List Int) (i : Nat) (v : Int) : (ints l).set i (.int .i64 v) = ints (l.set i v) := by
  unfold ints
  rw [List.map_set]
/-- They stand in memory, in three blocks. -/
structure Held (W : World) (p b1 b2 : Nat) (s : CS) : Prop where
  hp : Blk W p 70 [.int .i64 s.shared, .slice (some ⟨b1, 0, none⟩) s.cells.length s.cells.length, .slice (some ⟨b2, 0, none⟩) s.owners.length s.owners.length]
  h1 : Blk W b1 3 (ints s.cells)
  h2 : Blk W b2 3 (ints s.owners)
  ne : b1 ≠ b2
  n1 : p ≠ b1
  n2 : p ≠ b2
/-- Nothing else was written. -/
structure Touch (W W' : World) (p b1 b2 : Nat) : Prop where
  below : ∀ B, B ≤ p → B ≤ b1 → B ≤ b2 → B ≤ W.heap.size → Below B W W'
  far : ∀ k, k < W.heap.size → k ≠ p → k ≠ b1 → k ≠ b2 → W'.heap[k]? = W.heap[k]?
theorem Touch.refl (W : World) (p b1 b2 : Nat) : Touch W W p b1 b2 := ⟨fun B _ _ _ _ => Below.refl B W, fun _ _ _ _ _ => rfl⟩
theorem Touch.size {W W' : World} {p b1 b2 : Nat} (h : Touch W W' p b1 b2) : W.heap.size ≤ W'.heap.size := (h.below 0 (Nat.zero_le _) (Nat.zero_le _) (Nat.zero_le _) (Nat.zero_le _)).size
theorem Touch.trans {W W' W'' : World} {p b1 b2 : Nat} (h : Touch W W' p b1 b2) (k : Touch W' W'' p b1 b2) : Touch W W'' p b1 b2 :=
  ⟨fun B h0 h1 h2 h3 => (h.below B h0 h1 h2 h3).trans (k.below B h0 h1 h2 (Nat.le_trans h3 h.size)), fun i h0 h1 h2 h3 => (k.far i (Nat.lt_of_lt_of_le h0 h.size) h1 h2 h3).trans (h.far i h0 h1 h2 h3)⟩
theorem Touch.set {W W' : World} {p b1 b2 : Nat} (h : Touch W W' p b1 b2) (a : Addr) (ha : a.block = p ∨ a.block = b1 ∨ a.block = b2) (v : Value) : Touch W (W'.setCell a v) p b1 b2 :=
  ⟨fun B h0 h1 h2 h3 => (h.below B h0 h1 h2 h3).setCell (by rcases ha with e | e | e <;> omega) v, fun i h0 h1 h2 h3 => (Below.heap_setCell W' a v i (by rcases ha with e | e | e <;> omega)).trans (h.far i h0 h1 h2 h3)⟩
theorem Touch.blk {W W' : World} {p b1 b2 k : Nat} {t : TypeId} {cs : List Value} (h : Touch W W' p b1 b2) (hb : Blk W k t cs) (h1 : k ≠ p) (h2 : k ≠ b1) (h3 : k ≠ b2) : Blk W' k t cs := (h.far k hb.lt h1 h2 h3).trans hb
theorem Held.far {W W' : World} {p b1 b2 q c1 c2 : Nat} {s : CS} (h : Held W q c1 c2 s) (ht : Touch W W' p b1 b2) (hn : ∀ k, (k = q ∨ k = c1 ∨ k = c2) → k ≠ p ∧ k ≠ b1 ∧ k ≠ b2) : Held W' q c1 c2 s :=
  ⟨ht.blk h.hp (hn q (.inl rfl)).1 (hn q (.inl rfl)).2.1 (hn q (.inl rfl)).2.2, ht.blk h.h1 (hn c1 (.inr (.inl rfl))).1 (hn c1 (.inr (.inl rfl))).2.1 (hn c1 (.inr (.inl rfl))).2.2, ht.blk h.h2 (hn c2 (.inr (.inr rfl))).1 (hn c2 (.inr (.inr rfl))).2.1 (hn c2 (.inr (.inr rfl))).2.2, h.ne, h.n1, h.n2⟩
theorem blk_putL {W : World} {B : Nat} {t : TypeId} {cs : List Value} (h : Blk W B t cs) (i : Nat) (v : Value) : Blk (W.setCell ⟨B, i, none⟩ v) B t (cs.set i v) := by
  have := blk_set (show W.heap[B]? = some (.cells cs.toArray t (0, 0)) from h) i v
  rw [List.setIfInBounds_toArray] at this
  exact this
theorem Held.shared {W : World} {p b1 b2 : Nat} {s : CS} (h : Held W p b1 b2 s) (n : Int) : Held (W.setCell ⟨p, 0, none⟩ (.int .i64 n)) p b1 b2 { s with shared := n } :=
  ⟨blk_putL h.hp 0 _, h.h1.far _ h.n1 _, h.h2.far _ h.n2 _, h.ne, h.n1, h.n2⟩
theorem Held.cell {W : World} {p b1 b2 : Nat} {s : CS} (h : Held W p b1 b2 s) (i : Nat) (v : Int) : Held (W.setCell ⟨b1, i, none⟩ (.int .i64 v)) p b1 b2 { s with cells := s.cells.set i v } :=
  ⟨by have := h.hp.far ⟨b1, i, none⟩ h.n1.symm (.int .i64 v); simpa using this, by have := blk_putL h.h1 i (.int .i64 v); rw [ints_set] at this; exact this, h.h2.far _ h.ne _, h.ne, h.n1, h.n2⟩
theorem Held.owner {W : World} {p b1 b2 : Nat} {s : CS} (h : Held W p b1 b2 s) (i : Nat) (v : Int) : Held (W.setCell ⟨b2, i, none⟩ (.int .i64 v)) p b1 b2 { s with owners := s.owners.set i v } :=
  ⟨by have := h.hp.far ⟨b2, i, none⟩ h.n2.symm (.int .i64 v); simpa using this, h.h1.far _ h.ne.symm _, by have := blk_putL h.h2 i (.int .i64 v); rw [ints_set] at this; exact this, h.ne, h.n1, h.n2⟩

set_option maxHeartbeats 4000000 in
theorem count_any (p : Nat) (n : Int) (cs : List Value) (W : World) (hp : Blk W p 70 (.int .i64 n :: cs)) :
    Calls Tryz.prog 44 #[.pointer (some ⟨p, 0, none⟩)] W fun e W' => e = .returned (.tuple #[]) ∧ W' = W.setCell ⟨p, 0, none⟩ (.int .i64 (wrap64 (n + 1))) := by
  have hc : W.cell? ⟨p, 0, none⟩ = some (.int .i64 n) := hp.cell 0
  have hz := hp.frozen 0
  have hadd := run_call_add (P := Tryz.prog) Tryz.func66 (by kernel_rfl) (by kernel_rfl) (by kernel_rfl) .i64 (by kernel_rfl) (y := 1) (s := wrap64 (n + 1)) hc hz (by simp [go_sem, i64_w])
  clear hc hz hp
  go_enter Tryz.func44, Tryz.ntmps44
  go_wp2
  go_end0
  exact ⟨rfl, rfl⟩
set_option maxHeartbeats 4000000 in
theorem spot_in (p b c : Nat) (len : Nat) (i n : Int) (cs : List Value) (W : World) (hp : Blk W p 70 (.int .i64 n :: cs)) (h0 : 0 ≤ i) (h1 : i < len) :
    Calls Tryz.prog 30 #[.pointer (some ⟨p, 0, none⟩), .slice (some ⟨b, 0, none⟩) len c, .int .i64 i] W fun e W' => e = .returned (.pointer (some ⟨b, i.toNat, none⟩)) ∧ W' = W.setCell ⟨p, 0, none⟩ (.int .i64 (wrap64 (n + 1))) := by
  have q0 : decide (i < 0) = false := decide_eq_false (by omega)
  have q1 : decide ((len : Int) ≤ i) = false := decide_eq_false (by omega)
  have p0 : decide (0 ≤ i) = true := decide_eq_true h0
  have p1 : decide (i < (len : Int)) = true := decide_eq_true h1
  have p2 := eq_true h0
  have p3 := eq_true h1
  have HP := Lib.hid hp
  clear hp h0 h1
  go_enter Tryz.func30, Tryz.ntmps30
  go_wp2_with (go_at_call 44; refine (count_any p n cs W HP.out).mono ?_; rintro e w1 ⟨rfl, rfl⟩)
  go_ret
  exact ⟨by simp, rfl⟩
set_option maxHeartbeats 4000000 in
theorem spot_out (p b c : Nat) (len : Nat) (i : Int) (W : World) (h : ¬ (0 ≤ i ∧ i < len)) :
    Calls Tryz.prog 30 #[.pointer (some ⟨p, 0, none⟩), .slice (some ⟨b, 0, none⟩) len c, .int .i64 i] W fun e W' => e = .returned (.pointer none) ∧ W' = W := by
  by_cases h0 : i < 0
  · have q0 : decide (i < 0) = true := decide_eq_true h0
    clear h h0
    go_enter Tryz.func30, Tryz.ntmps30
    go_wp2
    go_ret
    exact ⟨rfl, rfl⟩
  · have q0 : decide (i < 0) = false := decide_eq_false h0
    have q1 : decide ((len : Int) ≤ i) = true := decide_eq_true (by omega)
    clear h h0
    go_enter Tryz.func30, Tryz.ntmps30
    go_wp2
    go_ret
    exact ⟨rfl, rfl⟩
set_option maxHeartbeats 4000000 in
theorem turn_nil (old v : Int) (W : World) : Calls Tryz.prog 31 #[.pointer none, .int .i64 old, .int .i64 v] W fun e W' => e = .returned (.bool false) ∧ W' = W := by
  go_enter Tryz.func31, Tryz.ntmps31
  go_wp2
  go_ret
  exact ⟨rfl, rfl⟩
set_option maxHeartbeats 4000000 in
theorem turn_miss (b i : Nat) (x old v : Int) (W : World) (hc : W.cell? ⟨b, i, none⟩ = some (.int .i64 x)) (hne : x ≠ old) : Calls Tryz.prog 31 #[.pointer (some ⟨b, i, none⟩), .int .i64 old, .int .i64 v] W fun e W' => e = .returned (.bool false) ∧ W' = W := by
  have q0 : (x == old) = false := beq_eq_false_iff_ne.mpr hne
  have q1 : (x != old) = true := bne_iff_ne.mpr hne
  clear hne
  go_enter Tryz.func31, Tryz.ntmps31
  go_wp2
  go_ret
  exact ⟨rfl, rfl⟩
set_option maxHeartbeats 4000000 in
theorem turn_hit (b i : Nat) (old v : Int) (W : World) (hc : W.cell? ⟨b, i, none⟩ = some (.int .i64 old)) (hz : W.frozen? ⟨b, i, none⟩ = false) : Calls Tryz.prog 31 #[.pointer (some ⟨b, i, none⟩), .int .i64 old, .int .i64 v] W fun e W' => e = .returned (.bool true) ∧ W' = W.setCell ⟨b, i, none⟩ (.int .i64 v) := by
  go_enter Tryz.func31, Tryz.ntmps31
  go_wp2
  go_ret
  exact ⟨rfl, rfl⟩
theorem Touch.alloc {W W' : World} {p b1 b2 : Nat} (h : Touch W W' p b1 b2) (o : Obj) : Touch W (W'.alloc o) p b1 b2 :=
  ⟨fun B h0 h1 h2 h3 => (h.below B h0 h1 h2 h3).alloc (Nat.le_trans h3 h.size) o, fun i h0 h1 h2 h3 => (Below.heap_alloc W' o i (Nat.lt_of_lt_of_le h0 h.size)).trans (h.far i h0 h1 h2 h3)⟩
theorem Touch.fresh {W W' : World} {p b1 b2 : Nat} (h : Touch W W' p b1 b2) (a : Addr) (ha : W.heap.size ≤ a.block) (v : Value) : Touch W (W'.setCell a v) p b1 b2 :=
  ⟨fun B h0 h1 h2 h3 => (h.below B h0 h1 h2 h3).setCell (Nat.le_trans h3 ha) v, fun i h0 h1 h2 h3 => (Below.heap_setCell W' a v i (by omega)).trans (h.far i h0 h1 h2 h3)⟩
theorem Touch.drew {W W' : World} {p b1 b2 : Nat} (h : Touch W W' p b1 b2) : Touch W W'.drew p b1 b2 := ⟨fun B h0 h1 h2 h3 => (h.below B h0 h1 h2 h3).drew, h.far⟩
theorem Held.alloc {W : World} {p b1 b2 : Nat} {s : CS} (h : Held W p b1 b2 s) (o : Obj) : Held (W.alloc o) p b1 b2 s := ⟨h.hp.alloc o, h.h1.alloc o, h.h2.alloc o, h.ne, h.n1, h.n2⟩
theorem Held.other {W : World} {p b1 b2 : Nat} {s : CS} (h : Held W p b1 b2 s) (a : Addr) (h0 : a.block ≠ p) (h1 : a.block ≠ b1) (h2 : a.block ≠ b2) (v : Value) : Held (W.setCell a v) p b1 b2 s := ⟨h.hp.far a h0 v, h.h1.far a h1 v, h.h2.far a h2 v, h.ne, h.n1, h.n2⟩
theorem Held.cellAt {W : World} {p b1 b2 : Nat} {s : CS} (h : Held W p b1 b2 s) (i : Int) (hi : 0 ≤ i ∧ i < s.cells.length) : W.cell? ⟨b1, i.toNat, none⟩ = some (.int .i64 (s.cells.getD i.toNat 0)) := (h.h1.cell i.toNat).trans (ints_at _ _ (by omega))
theorem Held.ownerAt {W : World} {p b1 b2 : Nat} {s : CS} (h : Held W p b1 b2 s) (i : Int) (hi : 0 ≤ i ∧ i < s.owners.length) : W.cell? ⟨b2, i.toNat, none⟩ = some (.int .i64 (s.owners.getD i.toNat 0)) := (h.h2.cell i.toNat).trans (ints_at _ _ (by omega))

theorem run_make_int (n : Nat) (hn : n ≤ 1024) (w : World) : (Instr.makeSlice 34 (.int .i64 (n : Int)) (.int .i64 (n : Int))).run Tryz.prog w = .ok (.slice (some ⟨w.heap.size, 0, none⟩) n n) (w.alloc (.cells (ints (List.replicate n 0)).toArray 3)) := by
  obtain ⟨i, hi, hz0, hz1, hz2⟩ := info_parts (show (Tryz.prog.info? 3).map (fun i => (i.zero, i.size, i.bytes)) = some (some (.int .i64 0), 1, 8) from by kernel_rfl)
  have hr := run_make (P := Tryz.prog) w 34 3 i (.int .i64 0) Tryz.underlying34 hi hz0 .i64 .i64 n n (by omega) (Int.le_refl _) (by rw [hz2]; omega) (by omega)
  simp only [Int.toNat_natCast] at hr
  rw [hr, hz1]
  have e : madeCells (Value.int .i64 0).cells (n * 1) = (ints (List.replicate n 0)).toArray := by
    have h := toList_madeCells_one (.int .i64 0) n
    unfold ints
    rw [Nat.mul_one, List.map_replicate, ← h]; rfl
  rw [e]
set_option maxHeartbeats 4000000 in
theorem withinC_any (n : Int) (W : World) : Calls Tryz.prog 43 #[.int .i64 n] W fun e W' => e = .returned (.int .i64 (mn (mx n 0) 1024)) ∧ W' = W := by
  obtain ⟨x, hx⟩ : ∃ x, mx n 0 = x := ⟨_, rfl⟩
  obtain ⟨y, hy⟩ : ∃ y, mn x 1024 = y := ⟨_, rfl⟩
  have hx_ : (if n < 0 then 0 else n) = x := hx
  have hy_ : (if 1024 < x then 1024 else x) = y := hy
  rw [hx, hy]
  clear hx hy
  go_enter Tryz.func43, Tryz.ntmps43
  go_wp2
  go_ret
  exact ⟨rfl, rfl⟩
theorem heldA (n m : Nat) (W : World) : Held (((W.alloc (.cells (ints (List.replicate n 0)).toArray 3)).alloc (.cells (ints (List.replicate m 0)).toArray 3)).alloc (.cells #[.int .i64 0, .slice (some ⟨W.heap.size, 0, none⟩) n n, .slice (some ⟨W.heap.size + 1, 0, none⟩) m m] 70)).drew (W.heap.size + 1 + 1) W.heap.size (W.heap.size + 1) ⟨List.replicate n 0, List.replicate m 0, 0⟩ := by
  have x1 := ((Blk.new W 3 (ints (List.replicate n 0))).alloc (.cells (ints (List.replicate m 0)).toArray 3)).alloc (.cells #[.int .i64 0, .slice (some ⟨W.heap.size, 0, none⟩) n n, .slice (some ⟨W.heap.size + 1, 0, none⟩) m m] 70)
  have x2 := (Blk.new (W.alloc (.cells (ints (List.replicate n 0)).toArray 3)) 3 (ints (List.replicate m 0))).alloc (.cells #[.int .i64 0, .slice (some ⟨W.heap.size, 0, none⟩) n n, .slice (some ⟨W.heap.size + 1, 0, none⟩) m m] 70)
  have x3 := Blk.new ((W.alloc (.cells (ints (List.replicate n 0)).toArray 3)).alloc (.cells (ints (List.replicate m 0)).toArray 3)) 70 [.int .i64 0, .slice (some ⟨W.heap.size, 0, none⟩) n n, .slice (some ⟨W.heap.size + 1, 0, none⟩) m m]
  simp only [World.size_alloc] at x2 x3
  exact ⟨by dsimp only; rw [List.length_replicate, List.length_replicate]; exact x3, x1, x2, by omega, by omega, by omega⟩
theorem heldB (n m : Nat) (W : World) : Held (((W.alloc (.cells (ints (List.replicate m 0)).toArray 3)).alloc (.cells (ints (List.replicate n 0)).toArray 3)).alloc (.cells #[.int .i64 0, .slice (some ⟨W.heap.size + 1, 0, none⟩) n n, .slice (some ⟨W.heap.size, 0, none⟩) m m] 70)).drew (W.heap.size + 1 + 1) (W.heap.size + 1) W.heap.size ⟨List.replicate n 0, List.replicate m 0, 0⟩ := by
  have x1 := ((Blk.new W 3 (ints (List.replicate m 0))).alloc (.cells (ints (List.replicate n 0)).toArray 3)).alloc (.cells #[.int .i64 0, .slice (some ⟨W.heap.size + 1, 0, none⟩) n n, .slice (some ⟨W.heap.size, 0, none⟩) m m] 70)
  have x2 := (Blk.new (W.alloc (.cells (ints (List.replicate m 0)).toArray 3)) 3 (ints (List.replicate n 0))).alloc (.cells #[.int .i64 0, .slice (some ⟨W.heap.size + 1, 0, none⟩) n n, .slice (some ⟨W.heap.size, 0, none⟩) m m] 70)
  have x3 := Blk.new ((W.alloc (.cells (ints (List.replicate m 0)).toArray 3)).alloc (.cells (ints (List.replicate n 0)).toArray 3)) 70 [.int .i64 0, .slice (some ⟨W.heap.size + 1, 0, none⟩) n n, .slice (some ⟨W.heap.size, 0, none⟩) m m]
  simp only [World.size_alloc] at x2 x3
  exact ⟨by dsimp only; rw [List.length_replicate, List.length_replicate]; exact x3, x2, x1, by omega, by omega, by omega⟩
theorem below3 (W : World) (x y z : Obj) : Below W.heap.size W (((W.alloc x).alloc y).alloc z).drew := below_drew (below_alloc (below_alloc (below_alloc (Below.refl _ W) x) y) z)
theorem fill_step (m k : Nat) (h : k < m) : ((List.replicate k (-1 : Int)) ++ List.replicate (m - k) 0).set k (-1) = List.replicate (k + 1) (-1) ++ List.replicate (m - (k + 1)) 0 := by
  rw [List.set_append_right _ _ (by simp)]
  obtain ⟨d, hd⟩ : ∃ d, m - k = d + 1 := ⟨m - k - 1, by omega⟩
  rw [hd, show m - (k + 1) = d by omega, List.length_replicate, Nat.sub_self, List.replicate_succ (n := d), List.set_cons_zero, List.replicate_succ' (n := k), List.append_assoc]
  rfl
set_option maxRecDepth 100000 in
set_option maxHeartbeats 4000000 in
theorem New_any (a b : Int) (n m : Nat) (hn : mn (mx a 0) 1024 = n) (hm : mn (mx b 0) 1024 = m) (W : World) :
    Calls Tryz.prog 24 #[.int .i64 a, .int .i64 b] W fun e W' => ∃ p b1 b2, e = .returned (.pointer (some ⟨p, 0, none⟩)) ∧ Held W' p b1 b2 ⟨List.replicate n 0, List.replicate m (-1), 0⟩ ∧ W.heap.size ≤ p ∧ W.heap.size ≤ b1 ∧ W.heap.size ≤ b2 ∧ Below W.heap.size W W' := by
  have hn1 : n ≤ 1024 := by unfold mn at hn; split at hn <;> omega
  have hm1 : m ≤ 1024 := by unfold mn at hm; split at hm <;> omega
  have r1 := fun w => run_make_int n hn1 w
  have r2 := fun w => run_make_int m hm1 w
  refine (callsIn_wide (n := 6)).1 ?_
  have hro : Fence.wide.round = none := rfl
  refine callsIn_of_wp Tryz.func24 rfl trivial ?_ hro
  simp only [Tryz.ntmps24, List.size_toArray, List.length_cons, List.length_nil, Nat.reduceAdd, Nat.reduceSub, Array.replicate_succ, Array.replicate_zero, List.push_toArray, List.append_toArray, List.nil_append, List.cons_append]
  have HN := Lib.hid hn
  have HM := Lib.hid hm
  have HM1 := Lib.hid hm1
  clear hn hm hn1 hm1
  have hA := fun w => (withinC_any a w).mono (fun e w' h => (show e = .returned (.int .i64 (n : Int)) ∧ w' = w from by rw [HN.out] at h; exact h))
  have hB := fun w => (withinC_any b w).mono (fun e w' h => (show e = .returned (.int .i64 (m : Int)) ∧ w' = w from by rw [HM.out] at h; exact h))
  gi_wp2
  refine wpIn_mono (Q := NoPanic _) ?_ NoPanic.imp
  gi_region_with (first
    | (refine ⟨trivial, ?_⟩; gi_at_call 43; refine (callsIn_wide.2 (hA _)).mono ?_; rintro e w1 ⟨rfl, rfl⟩)
    | (refine ⟨trivial, ?_⟩; gi_at_call 43; refine (callsIn_wide.2 (hB _)).mono ?_; rintro e w1 ⟨rfl, rfl⟩))
  all_goals (refine NoPanic.normal ?_)
  · obtain ⟨W0, hW0⟩ : ∃ W0, (((W.alloc (.cells (ints (List.replicate n 0)).toArray 3)).alloc (.cells (ints (List.replicate m 0)).toArray 3)).alloc (.cells #[.int .i64 0, .slice (some ⟨W.heap.size, 0, none⟩) n n, .slice (some ⟨W.heap.size + 1, 0, none⟩) m m] 70)).drew = W0 := ⟨_, rfl⟩
    have hH := heldA n m W
    have hBl := below3 W (.cells (ints (List.replicate n 0)).toArray 3) (.cells (ints (List.replicate m 0)).toArray 3) (.cells #[.int .i64 0, .slice (some ⟨W.heap.size, 0, none⟩) n n, .slice (some ⟨W.heap.size + 1, 0, none⟩) m m] 70)
    rw [hW0] at hH hBl
    dsimp only [Act.put]
    rw [hW0]
    clear hW0 hA hB r1 r2
    have c2 : W0.cell? ⟨W.heap.size + 1 + 1, 2, none⟩ = some (.slice (some ⟨W.heap.size + 1, 0, none⟩) m m) := by have := hH.hp.cell 2; simpa using this
    have HH := Lib.hid hH
    have HBL := Lib.hid hBl
    clear hH hBl
    gi_wp2
    gi_loopw [20] (fun i wr => ∃ k : Nat, k ≤ m ∧ i = .int .i64 k ∧ Held wr (W.heap.size + 1 + 1) (W.heap.size) (W.heap.size + 1) ⟨List.replicate n 0, List.replicate k (-1) ++ List.replicate (m - k) 0, 0⟩ ∧ Below W.heap.size W wr) (fun i _ => m - (intOf i).toNat)
    case atStart => exact ⟨0, Nat.zero_le _, rfl, by simpa using HH.out, HBL.out⟩
    case round =>
      obtain ⟨k, hk, rfl, hH, hBr⟩ := hrel
      have hlen : (List.replicate k (-1 : Int) ++ List.replicate (m - k) 0).length = m := by simp; omega
      have c2 : wr.cell? ⟨W.heap.size + 1 + 1, 2, none⟩ = some (.slice (some ⟨W.heap.size + 1, 0, none⟩) m m) := by have := hH.hp.cell 2; dsimp only at this; rw [hlen] at this; exact this
      have HR := Lib.hid hH
      have HBR := Lib.hid hBr
      by_cases hlt : k < m
      · have e1 := hH.ownerAt (k : Int) ⟨by omega, by dsimp only; rw [hlen]; omega⟩
        rw [Int.toNat_natCast] at e1
        have z1 := hH.h2.frozen k
        clear hH hBr HH HBL hlen
        have hw : wrap64 ((k : Int) + 1) = ((k + 1 : Nat) : Int) := by have := HM1.out; unfold wrap64; omega
        have p0 : decide (0 ≤ (k : Int)) = true := decide_eq_true (by omega)
        have p1 : decide ((k : Int) < (m : Int)) = true := decide_eq_true (by omega)
        gi_wp2
        go_roundw
        case rel => exact ⟨k + 1, by omega, by rw [hw], by have h := HR.out.owner k (-1); dsimp only at h; rw [fill_step m k hlt] at h; exact h, below_set HBR.out (by omega)⟩
        case measure =>
          rw [hw]
          show m - (((k + 1 : Nat) : Int)).toNat < m - ((k : Int)).toNat
          rw [Int.toNat_natCast, Int.toNat_natCast]
          omega
      · obtain rfl : k = m := by omega
        clear hH hBr HH HBL hlen
        gi_wp2
        go_ret
        refine ⟨W.heap.size + 1 + 1, W.heap.size, W.heap.size + 1, rfl, ?_, by omega, by omega, by omega, HBR.out⟩
        have h := HR.out
        rw [Nat.sub_self, List.replicate_zero, List.append_nil] at h
        exact h
  · obtain ⟨W0, hW0⟩ : ∃ W0, (((W.alloc (.cells (ints (List.replicate n 0)).toArray 3)).alloc (.cells (ints (List.replicate m 0)).toArray 3)).alloc (.cells #[.int .i64 0, .slice (some ⟨W.heap.size, 0, none⟩) n n, .slice (some ⟨W.heap.size + 1, 0, none⟩) m m] 70)).drew = W0 := ⟨_, rfl⟩
    have hH := heldA n m W
    have hBl := below3 W (.cells (ints (List.replicate n 0)).toArray 3) (.cells (ints (List.replicate m 0)).toArray 3) (.cells #[.int .i64 0, .slice (some ⟨W.heap.size, 0, none⟩) n n, .slice (some ⟨W.heap.size + 1, 0, none⟩) m m] 70)
    rw [hW0] at hH hBl
    dsimp only [Act.put]
    rw [hW0]
    clear hW0 hA hB r1 r2
    have c2 : W0.cell? ⟨W.heap.size + 1 + 1, 2, none⟩ = some (.slice (some ⟨W.heap.size + 1, 0, none⟩) m m) := by have := hH.hp.cell 2; simpa using this
    have HH := Lib.hid hH
    have HBL := Lib.hid hBl
    clear hH hBl
    gi_wp2
    gi_loopw [20] (fun i wr => ∃ k : Nat, k ≤ m ∧ i = .int .i64 k ∧ Held wr (W.heap.size + 1 + 1) (W.heap.size) (W.heap.size + 1) ⟨List.replicate n 0, List.replicate k (-1) ++ List.replicate (m - k) 0, 0⟩ ∧ Below W.heap.size W wr) (fun i _ => m - (intOf i).toNat)
    case atStart => exact ⟨0, Nat.zero_le _, rfl, by simpa using HH.out, HBL.out⟩
    case round =>
      obtain ⟨k, hk, rfl, hH, hBr⟩ := hrel
      have hlen : (List.replicate k (-1 : Int) ++ List.replicate (m - k) 0).length = m := by simp; omega
      have c2 : wr.cell? ⟨W.heap.size + 1 + 1, 2, none⟩ = some (.slice (some ⟨W.heap.size + 1, 0, none⟩) m m) := by have := hH.hp.cell 2; dsimp only at this; rw [hlen] at this; exact this
      have HR := Lib.hid hH
      have HBR := Lib.hid hBr
      by_cases hlt : k < m
      · have e1 := hH.ownerAt (k : Int) ⟨by omega, by dsimp only; rw [hlen]; omega⟩
        rw [Int.toNat_natCast] at e1
        have z1 := hH.h2.frozen k
        clear hH hBr HH HBL hlen
        have hw : wrap64 ((k : Int) + 1) = ((k + 1 : Nat) : Int) := by have := HM1.out; unfold wrap64; omega
        have p0 : decide (0 ≤ (k : Int)) = true := decide_eq_true (by omega)
        have p1 : decide ((k : Int) < (m : Int)) = true := decide_eq_true (by omega)
        gi_wp2
        go_roundw
        case rel => exact ⟨k + 1, by omega, by rw [hw], by have h := HR.out.owner k (-1); dsimp only at h; rw [fill_step m k hlt] at h; exact h, below_set HBR.out (by omega)⟩
        case measure =>
          rw [hw]
          show m - (((k + 1 : Nat) : Int)).toNat < m - ((k : Int)).toNat
          rw [Int.toNat_natCast, Int.toNat_natCast]
          omega
      · obtain rfl : k = m := by omega
        clear hH hBr HH HBL hlen
        gi_wp2
        go_ret
        refine ⟨W.heap.size + 1 + 1, W.heap.size, W.heap.size + 1, rfl, ?_, by omega, by omega, by omega, HBR.out⟩
        have h := HR.out
        rw [Nat.sub_self, List.replicate_zero, List.append_nil] at h
        exact h
  · obtain ⟨W0, hW0⟩ : ∃ W0, (((W.alloc (.cells (ints (List.replicate m 0)).toArray 3)).alloc (.cells (ints (List.replicate n 0)).toArray 3)).alloc (.cells #[.int .i64 0, .slice (some ⟨W.heap.size + 1, 0, none⟩) n n, .slice (some ⟨W.heap.size, 0, none⟩) m m] 70)).drew = W0 := ⟨_, rfl⟩
    have hH := heldB n m W
    have hBl := below3 W (.cells (ints (List.replicate m 0)).toArray 3) (.cells (ints (List.replicate n 0)).toArray 3) (.cells #[.int .i64 0, .slice (some ⟨W.heap.size + 1, 0, none⟩) n n, .slice (some ⟨W.heap.size, 0, none⟩) m m] 70)
    rw [hW0] at hH hBl
    dsimp only [Act.put]
    rw [hW0]
    clear hW0 hA hB r1 r2
    have c2 : W0.cell? ⟨W.heap.size + 1 + 1, 2, none⟩ = some (.slice (some ⟨W.heap.size, 0, none⟩) m m) := by have := hH.hp.cell 2; simpa using this
    have HH := Lib.hid hH
    have HBL := Lib.hid hBl
    clear hH hBl
    gi_wp2
    gi_loopw [20] (fun i wr => ∃ k : Nat, k ≤ m ∧ i = .int .i64 k ∧ Held wr (W.heap.size + 1 + 1) (W.heap.size + 1) (W.heap.size) ⟨List.replicate n 0, List.replicate k (-1) ++ List.replicate (m - k) 0, 0⟩ ∧ Below W.heap.size W wr) (fun i _ => m - (intOf i).toNat)
    case atStart => exact ⟨0, Nat.zero_le _, rfl, by simpa using HH.out, HBL.out⟩
    case round =>
      obtain ⟨k, hk, rfl, hH, hBr⟩ := hrel
      have hlen : (List.replicate k (-1 : Int) ++ List.replicate (m - k) 0).length = m := by simp; omega
      have c2 : wr.cell? ⟨W.heap.size + 1 + 1, 2, none⟩ = some (.slice (some ⟨W.heap.size, 0, none⟩) m m) := by have := hH.hp.cell 2; dsimp only at this; rw [hlen] at this; exact this
      have HR := Lib.hid hH
      have HBR := Lib.hid hBr
      by_cases hlt : k < m
      · have e1 := hH.ownerAt (k : Int) ⟨by omega, by dsimp only; rw [hlen]; omega⟩
        rw [Int.toNat_natCast] at e1
        have z1 := hH.h2.frozen k
        clear hH hBr HH HBL hlen
        have hw : wrap64 ((k : Int) + 1) = ((k + 1 : Nat) : Int) := by have := HM1.out; unfold wrap64; omega
        have p0 : decide (0 ≤ (k : Int)) = true := decide_eq_true (by omega)
        have p1 : decide ((k : Int) < (m : Int)) = true := decide_eq_true (by omega)
        gi_wp2
        go_roundw
        case rel => exact ⟨k + 1, by omega, by rw [hw], by have h := HR.out.owner k (-1); dsimp only at h; rw [fill_step m k hlt] at h; exact h, below_set HBR.out (by omega)⟩
        case measure =>
          rw [hw]
          show m - (((k + 1 : Nat) : Int)).toNat < m - ((k : Int)).toNat
          rw [Int.toNat_natCast, Int.toNat_natCast]
          omega
      · obtain rfl : k = m := by omega
        clear hH hBr HH HBL hlen
        gi_wp2
        go_ret
        refine ⟨W.heap.size + 1 + 1, W.heap.size + 1, W.heap.size, rfl, ?_, by omega, by omega, by omega, HBR.out⟩
        have h := HR.out
        rw [Nat.sub_self, List.replicate_zero, List.append_nil] at h
        exact h
def CS.load (s : CS) (i : Int) : Int × CS := if 0 ≤ i ∧ i < s.cells.length then (s.cells.getD i.toNat 0, { s with shared := wrap64 (s.shared + 1) }) else (0, s)
def CS.store (s : CS) (i v : Int) : CS := if 0 ≤ i ∧ i < s.cells.length then { s with shared := wrap64 (s.shared + 1), cells := s.cells.set i.toNat v } else s
def CS.add (s : CS) (i d : Int) : Int × CS := if 0 ≤ i ∧ i < s.cells.length then (wrap64 (s.cells.getD i.toNat 0 + d), { s with shared := wrap64 (s.shared + 1), cells := s.cells.set i.toNat (wrap64 (s.cells.getD i.toNat 0 + d)) }) else (0, s)
def CS.swap (s : CS) (i old v : Int) : Bool × CS := if 0 ≤ i ∧ i < s.cells.length then (if s.cells.getD i.toNat 0 = old then (true, { s with shared := wrap64 (s.shared + 1), cells := s.cells.set i.toNat v }) else (false, { s with shared := wrap64 (s.shared + 1) })) else (false, s)
/-- A lock is turned from one owner to another one. -/
def CS.turn (s : CS) (i who old v : Int) : Bool × CS := if 0 ≤ i ∧ i < s.owners.length then (if 0 ≤ who ∧ s.owners.getD i.toNat 0 = old then (true, { s with shared := wrap64 (s.shared + 1), owners := s.owners.set i.toNat v }) else (false, { s with shared := wrap64 (s.shared + 1) })) else (false, s)
def CS.lock (s : CS) (i who : Int) : Bool × CS := s.turn i who (-1) who
def CS.unlock (s : CS) (i who : Int) : Bool × CS := s.turn i who who (-1)
def CS.owner (s : CS) (i : Int) : Int := if 0 ≤ i ∧ i < s.owners.length then s.owners.getD i.toNat 0 else -1
set_option maxHeartbeats 4000000 in
theorem Load_any (p b1 b2 : Nat) (s : CS) (i : Int) (W : World) (h : Held W p b1 b2 s) :
    Calls Tryz.prog 16 #[.pointer (some ⟨p, 0, none⟩), .int .i64 i] W fun e W' => e = .returned (.int .i64 (s.load i).1) ∧ Held W' p b1 b2 (s.load i).2 ∧ Touch W W' p b1 b2 := by
  have c1 : W.cell? ⟨p, 1, none⟩ = some (.slice (some ⟨b1, 0, none⟩) s.cells.length s.cells.length) := h.hp.cell 1
  have H := Lib.hid h
  clear h
  by_cases hi : 0 ≤ i ∧ i < s.cells.length
  · have HI := Lib.hid hi
    have er : s.load i = (s.cells.getD i.toNat 0, { s with shared := wrap64 (s.shared + 1) }) := if_pos hi
    rw [er]
    clear hi er
    go_enter Tryz.func16, Tryz.ntmps16
    go_wp2_with (go_at_call 30; refine (spot_in p b1 _ _ i s.shared _ W H.out.hp HI.out.1 HI.out.2).mono ?_; rintro e w1 ⟨rfl, rfl⟩; have e1 := (H.out.shared (wrap64 (s.shared + 1))).cellAt i HI.out)
    go_ret
    exact ⟨rfl, H.out.shared _, (Touch.refl W p b1 b2).set _ (.inl rfl) _⟩
  · have HI := Lib.hid hi
    have er : s.load i = (0, s) := if_neg hi
    rw [er]
    clear hi er
    go_enter Tryz.func16, Tryz.ntmps16
    go_wp2_with (go_at_call 30; refine (spot_out p b1 _ _ i W HI.out).mono ?_; rintro e w1 ⟨rfl, rfl⟩)
    go_ret
    exact ⟨rfl, H.out, Touch.refl _ p b1 b2⟩
set_option maxHeartbeats 4000000 in
theorem Store_any (p b1 b2 : Nat) (s : CS) (i v : Int) (W : World) (h : Held W p b1 b2 s) :
    Calls Tryz.prog 7 #[.pointer (some ⟨p, 0, none⟩), .int .i64 i, .int .i64 v] W fun e W' => e = .returned (.tuple #[]) ∧ Held W' p b1 b2 (s.store i v) ∧ Touch W W' p b1 b2 := by
  have c1 : W.cell? ⟨p, 1, none⟩ = some (.slice (some ⟨b1, 0, none⟩) s.cells.length s.cells.length) := h.hp.cell 1
  have H := Lib.hid h
  clear h
  by_cases hi : 0 ≤ i ∧ i < s.cells.length
  · have HI := Lib.hid hi
    have er : s.store i v = { s with shared := wrap64 (s.shared + 1), cells := s.cells.set i.toNat v } := if_pos hi
    rw [er]
    clear hi er
    go_enter Tryz.func7, Tryz.ntmps7
    go_wp2_with (go_at_call 30; refine (spot_in p b1 _ _ i s.shared _ W H.out.hp HI.out.1 HI.out.2).mono ?_; rintro e w1 ⟨rfl, rfl⟩; have e1 := (H.out.shared (wrap64 (s.shared + 1))).cellAt i HI.out; have z1 := (H.out.shared (wrap64 (s.shared + 1))).h1.frozen i.toNat)
    go_end0
    exact ⟨rfl, (H.out.shared _).cell _ v, ((Touch.refl W p b1 b2).set _ (.inl rfl) _).set _ (.inr (.inl rfl)) _⟩
  · have HI := Lib.hid hi
    have er : s.store i v = s := if_neg hi
    rw [er]
    clear hi er
    go_enter Tryz.func7, Tryz.ntmps7
    go_wp2_with (go_at_call 30; refine (spot_out p b1 _ _ i W HI.out).mono ?_; rintro e w1 ⟨rfl, rfl⟩)
    go_end0
    exact ⟨rfl, H.out, Touch.refl _ p b1 b2⟩
set_option maxHeartbeats 4000000 in
theorem Owner_any (p b1 b2 : Nat) (s : CS) (i : Int) (W : World) (h : Held W p b1 b2 s) :
    Calls Tryz.prog 17 #[.pointer (some ⟨p, 0, none⟩), .int .i64 i] W fun e W' => e = .returned (.int .i64 (s.owner i)) ∧ W' = W := by
  have c1 : W.cell? ⟨p, 2, none⟩ = some (.slice (some ⟨b2, 0, none⟩) s.owners.length s.owners.length) := h.hp.cell 2
  by_cases hi : 0 ≤ i ∧ i < s.owners.length
  · have e1 := h.ownerAt i hi
    have er : s.owner i = s.owners.getD i.toNat 0 := if_pos hi
    rw [er]
    obtain ⟨x, hx⟩ : ∃ x, s.owners.getD i.toNat 0 = x := ⟨_, rfl⟩
    rw [hx] at e1 ⊢
    clear hx
    have q0 : decide (i < 0) = false := decide_eq_false (by omega)
    have q1 : decide ((s.owners.length : Int) ≤ i) = false := decide_eq_false (by omega)
    have p0 : decide (0 ≤ i) = true := decide_eq_true hi.1
    have p1 : decide (i < (s.owners.length : Int)) = true := decide_eq_true hi.2
    have p2 := eq_true hi.1
    have p3 := eq_true hi.2
    clear hi er h
    go_enter Tryz.func17, Tryz.ntmps17
    go_wp2
    go_ret
    exact ⟨rfl, rfl⟩
  · have er : s.owner i = -1 := if_neg hi
    rw [er]
    by_cases h0 : i < 0
    · have q0 : decide (i < 0) = true := decide_eq_true h0
      clear hi er h h0
      go_enter Tryz.func17, Tryz.ntmps17
      go_wp2
      go_ret
      exact ⟨rfl, rfl⟩
    · have q0 : decide (i < 0) = false := decide_eq_false h0
      have q1 : decide ((s.owners.length : Int) ≤ i) = true := decide_eq_true (by omega)
      clear hi er h h0
      go_enter Tryz.func17, Tryz.ntmps17
      go_wp2
      go_ret
      exact ⟨rfl, rfl⟩
set_option maxHeartbeats 4000000 in
theorem Lock_any (p b1 b2 : Nat) (s : CS) (i who : Int) (W : World) (h : Held W p b1 b2 s) :
    Calls Tryz.prog 8 #[.pointer (some ⟨p, 0, none⟩), .int .i64 i, .int .i64 who] W fun e W' => e = .returned (.bool (s.lock i who).1) ∧ Held W' p b1 b2 (s.lock i who).2 ∧ Touch W W' p b1 b2 := by
  have c1 : W.cell? ⟨p, 2, none⟩ = some (.slice (some ⟨b2, 0, none⟩) s.owners.length s.owners.length) := h.hp.cell 2
  have H := Lib.hid h
  clear h
  by_cases hi : 0 ≤ i ∧ i < s.owners.length
  · have HI := Lib.hid hi
    by_cases hw : 0 ≤ who
    · have q0 : decide (0 ≤ who) = true := decide_eq_true hw
      by_cases hx : s.owners.getD i.toNat 0 = (-1)
      · have HX := Lib.hid hx
        have er : s.lock i who = (true, { s with shared := wrap64 (s.shared + 1), owners := s.owners.set i.toNat who }) := by unfold CS.lock CS.turn; rw [if_pos hi, if_pos ⟨hw, hx⟩]
        rw [er]
        clear hi er hx hw
        go_enter Tryz.func8, Tryz.ntmps8
        go_wp2_with (first
          | (go_at_call 30; refine (spot_in p b2 _ _ i s.shared _ W H.out.hp HI.out.1 HI.out.2).mono ?_; rintro e w1 ⟨rfl, rfl⟩; have E1 := Lib.hid (((H.out.shared (wrap64 (s.shared + 1))).ownerAt i HI.out).trans (by rw [HX.out])); have Z1 := Lib.hid ((H.out.shared (wrap64 (s.shared + 1))).h2.frozen i.toNat))
          | (go_at_call 31; refine (turn_hit b2 i.toNat (-1) who _ E1.out Z1.out).mono ?_; rintro e w2 ⟨rfl, rfl⟩))
        go_ret
        exact ⟨rfl, (H.out.shared _).owner _ _, ((Touch.refl W p b1 b2).set _ (.inl rfl) _).set _ (.inr (.inr rfl)) _⟩
      · have HX := Lib.hid hx
        have er : s.lock i who = (false, { s with shared := wrap64 (s.shared + 1) }) := by unfold CS.lock CS.turn; rw [if_pos hi, if_neg (fun h => hx h.2)]
        rw [er]
        clear hi er hx hw
        go_enter Tryz.func8, Tryz.ntmps8
        go_wp2_with (first
          | (go_at_call 30; refine (spot_in p b2 _ _ i s.shared _ W H.out.hp HI.out.1 HI.out.2).mono ?_; rintro e w1 ⟨rfl, rfl⟩; have E1 := Lib.hid ((H.out.shared (wrap64 (s.shared + 1))).ownerAt i HI.out))
          | (go_at_call 31; refine (turn_miss b2 i.toNat _ (-1) who _ E1.out HX.out).mono ?_; rintro e w2 ⟨rfl, rfl⟩))
        go_ret
        exact ⟨rfl, H.out.shared _, (Touch.refl W p b1 b2).set _ (.inl rfl) _⟩
    · have q0 : decide (0 ≤ who) = false := decide_eq_false hw
      have er : s.lock i who = (false, { s with shared := wrap64 (s.shared + 1) }) := by unfold CS.lock CS.turn; rw [if_pos hi, if_neg (fun h => hw h.1)]
      rw [er]
      clear hi er hw
      go_enter Tryz.func8, Tryz.ntmps8
      go_wp2_with (go_at_call 30; refine (spot_in p b2 _ _ i s.shared _ W H.out.hp HI.out.1 HI.out.2).mono ?_; rintro e w1 ⟨rfl, rfl⟩)
      go_ret
      exact ⟨rfl, H.out.shared _, (Touch.refl W p b1 b2).set _ (.inl rfl) _⟩
  · have HI := Lib.hid hi
    have er : s.lock i who = (false, s) := if_neg hi
    rw [er]
    clear hi er
    by_cases hw : 0 ≤ who
    · have q0 : decide (0 ≤ who) = true := decide_eq_true hw
      clear hw
      go_enter Tryz.func8, Tryz.ntmps8
      go_wp2_with (first
        | (go_at_call 30; refine (spot_out p b2 _ _ i W HI.out).mono ?_; rintro e w1 ⟨rfl, rfl⟩)
        | (go_at_call 31; refine (turn_nil _ _ _).mono ?_; rintro e w2 ⟨rfl, rfl⟩))
      go_ret
      exact ⟨rfl, H.out, Touch.refl _ p b1 b2⟩
    · have q0 : decide (0 ≤ who) = false := decide_eq_false hw
      clear hw
      go_enter Tryz.func8, Tryz.ntmps8
      go_wp2_with (go_at_call 30; refine (spot_out p b2 _ _ i W HI.out).mono ?_; rintro e w1 ⟨rfl, rfl⟩)
      go_ret
      exact ⟨rfl, H.out, Touch.refl _ p b1 b2⟩
end

/-! ### slots_New: function 26 -/
section
open Go.Shelf Go.Proofs.YtbbgeobnjdgpfaaGreat.Hand
theorem run_make_slot (n : Nat) (hn : n ≤ 1024) (w : World) : (Instr.makeSlice 81 (.int .i64 (n : Int)) (.int .i64 (n : Int))).run Tryz.prog w = .ok (.slice (some ⟨w.heap.size, 0, none⟩) n n) (w.alloc (.cells (List.replicate n Value.nilIface).toArray 87)) := by
  obtain ⟨i, hi, hz0, hz1, hz2⟩ := info_parts (show (Tryz.prog.info? 87).map (fun i => (i.zero, i.size, i.bytes)) = some (some .nilIface, 1, 16) from by kernel_rfl)
  have hr := run_make (P := Tryz.prog) w 81 87 i .nilIface Tryz.underlying81 hi hz0 .i64 .i64 n n (by omega) (Int.le_refl _) (by rw [hz2]; omega) (by omega)
  simp only [Int.toNat_natCast] at hr
  rw [hr, hz1]
  have e : madeCells (Value.nilIface).cells (n * 1) = (List.replicate n Value.nilIface).toArray := by
    have h := toList_madeCells_one .nilIface n
    rw [Nat.mul_one, ← h]; rfl
  rw [e]
set_option maxHeartbeats 4000000 in
theorem slotsNew_any (n : Int) (m : Nat) (hm : mx 0 (mn n 8) = (m : Int)) (W : World) :
    Calls Tryz.prog 26 #[.int .i64 n] W fun e W' => e = .returned (.pointer (some ⟨W.heap.size + 1, 0, none⟩)) ∧ W' = (W.alloc (.cells (List.replicate m Value.nilIface).toArray 87)).alloc (.cells #[.slice (some ⟨W.heap.size, 0, none⟩) m m] 83) := by
  obtain ⟨y, hy⟩ : ∃ y, mn n 8 = y := ⟨_, rfl⟩
  rw [hy] at hm
  have hy_ : (if 8 < n then 8 else n) = y := hy
  have hm_ : (if 0 < y then y else 0) = (m : Int) := hm
  have hm8 : m ≤ 8 := by unfold mn at hy; unfold mx at hm; split at hy <;> split at hm <;> omega
  have r1 := fun w => run_make_slot m (by omega) w
  clear hy hm hm8
  go_enter Tryz.func26, Tryz.ntmps26
  go_wp2
  go_ret
  exact ⟨rfl, rfl⟩
end

/-! ### epoch_New: function 27 -/
section
open Go.Shelf Go.Proofs.YtbbgeobnjdgpfaaGreat.Hand
set_option maxHeartbeats 4000000 in
theorem Tick_any (p : Nat) (x0 x1 x2 x3 x4 x5 x6 x7 x8 x9 : Value) (now d : Int) (W : World) (hb : Blk W p 36 [x0, x1, x2, x3, x4, x5, x6, x7, x8, x9, .int .i64 now]) :
    Calls Tryz.prog 12 #[.pointer (some ⟨p, 0, none⟩), .int .i64 d] W fun e W' => e = .returned (.tuple #[]) ∧ W' = if 0 ≤ d ∧ d ≤ 1000000 ∧ now ≤ 1000000000 - d then W.setCell ⟨p, 10, none⟩ (.int .i64 (wrap64 (now + d))) else W := by
  have hc : W.cell? ⟨p, 10, none⟩ = some (.int .i64 now) := hb.cell 10
  have hz := hb.frozen 10
  clear hb
  by_cases h0 : 0 ≤ d
  · have q0 : decide (0 ≤ d) = true := decide_eq_true h0
    by_cases h1 : d ≤ 1000000
    · have q1 : decide (d ≤ 1000000) = true := decide_eq_true h1
      have hw : wrap64 (1000000000 - d) = 1000000000 - d := by unfold wrap64; omega
      by_cases h2 : now ≤ 1000000000 - d
      · have q2 : decide (now ≤ 1000000000 - d) = true := decide_eq_true h2
        rw [if_pos ⟨h0, h1, h2⟩]
        clear h0 h1 h2
        go_enter Tryz.func12, Tryz.ntmps12
        go_wp2
        go_end0
        exact ⟨rfl, rfl⟩
      · have q2 : decide (now ≤ 1000000000 - d) = false := decide_eq_false h2
        rw [if_neg (by omega)]
        clear h0 h1 h2
        go_enter Tryz.func12, Tryz.ntmps12
        go_wp2
        go_end0
        exact ⟨rfl, rfl⟩
    · have q1 : decide (d ≤ 1000000) = false := decide_eq_false h1
      rw [if_neg (by omega)]
      clear h0 h1
      go_enter Tryz.func12, Tryz.ntmps12
      go_wp2
      go_end0
      exact ⟨rfl, rfl⟩
  · have q0 : decide (0 ≤ d) = false := decide_eq_false h0
    rw [if_neg (by omega)]
    clear h0
    go_enter Tryz.func12, Tryz.ntmps12
    go_wp2
    go_end0
    exact ⟨rfl, rfl⟩
set_option maxHeartbeats 4000000 in
theorem Pin_any (p : Nat) (n who : Int) (x1 x2 x3 x4 x5 x6 x7 x8 x9 x10 : Value) (W : World) (hb : Blk W p 36 [.int .i64 n, x1, x2, x3, x4, x5, x6, x7, x8, x9, x10]) :
    Calls Tryz.prog 19 #[.pointer (some ⟨p, 0, none⟩), .int .i64 who] W fun e W' => e = .returned (.int .i64 (if who < 1 ∨ n < who then -1 else wrap64 (wrap64 (2 + who) - 1))) ∧ W' = W := by
  have hc : W.cell? ⟨p, 0, none⟩ = some (.int .i64 n) := hb.cell 0
  clear hb
  by_cases h0 : who < 1
  · have q0 : decide (who < 1) = true := decide_eq_true h0
    rw [if_pos (.inl h0)]
    clear h0
    go_enter Tryz.func19, Tryz.ntmps19
    go_wp2
    go_ret
    exact ⟨rfl, rfl⟩
  · have q0 : decide (who < 1) = false := decide_eq_false h0
    by_cases h1 : n < who
    · have q1 : decide (n < who) = true := decide_eq_true h1
      rw [if_pos (.inr h1)]
      clear h0 h1
      go_enter Tryz.func19, Tryz.ntmps19
      go_wp2
      go_ret
      exact ⟨rfl, rfl⟩
    · have q1 : decide (n < who) = false := decide_eq_false h1
      rw [if_neg (by omega)]
      clear h0 h1
      go_enter Tryz.func19, Tryz.ntmps19
      go_wp2
      go_ret
      exact ⟨rfl, rfl⟩
set_option maxHeartbeats 4000000 in
theorem epochNew_any (n m : Int) (hm : mx 0 (mn n 8) = m) (W : World) :
    Calls Tryz.prog 27 #[.int .i64 n] W fun e W' => e = .returned (.pointer (some ⟨W.heap.size, 0, none⟩)) ∧ W' = W.alloc (.cells (((List.replicate 16 (Value.int .i64 0)) ++ [Value.int .i64 m]).toArray) 77) := by
  obtain ⟨y, hy⟩ : ∃ y, mn n 8 = y := ⟨_, rfl⟩
  rw [hy] at hm
  have hy_ : (if 8 < n then 8 else n) = y := hy
  have hm_ : (if 0 < y then y else 0) = m := hm
  clear hy hm
  go_enter Tryz.func27, Tryz.ntmps27
  go_wp2
  go_ret
  exact ⟨rfl, rfl⟩
end

/-! ### world_made: function 22 -/
section
open Go.Shelf Go.Proofs.YtbbgeobnjdgpfaaGreat.Hand
/-- The first part: cells and locks. -/
theorem part1_any (B p : Nat) (a b c d e : Int) (x0 x1 x2 x3 x4 x5 x6 x7 x8 x9 x10 : Value) (n m : Nat) (ha : wrap64 (2 + a) = 2 + a) (hn : mn (mx (2 + a) 0) 1024 = n) (hm : mn (mx b 0) 1024 = m) (W : World) (hB : Blk W B 23 [.int .i64 a, .int .i64 b, .int .i64 c, .int .i64 d, .int .i64 e]) (hb : Blk W p 36 [x0, x1, x2, x3, x4, x5, x6, x7, x8, x9, x10]) :
    Calls Tryz.prog 23 #[.pointer (some ⟨p, 0, none⟩), .pointer (some ⟨B, 0, none⟩)] W fun r W' => r = .returned (.tuple #[]) ∧ ∃ q b1 b2, Blk W' p 36 [x0, x1, x2, x3, x4, .pointer (some ⟨q, 0, none⟩), x6, x7, x8, x9, x10] ∧ Held W' q b1 b2 ⟨List.replicate n 0, List.replicate m (-1), 0⟩ ∧ W.heap.size ≤ q ∧ W.heap.size ≤ b1 ∧ W.heap.size ≤ b2 ∧ (∀ N, N ≤ p → N ≤ W.heap.size → Below N W W') ∧ (∀ k, k < W.heap.size → k ≠ p → W'.heap[k]? = W.heap[k]?) := by
  have y0 : W.cell? ⟨B, 0, none⟩ = some (.int .i64 a) := hB.cell 0
  have y1 : W.cell? ⟨B, 1, none⟩ = some (.int .i64 b) := hB.cell 1
  have HB := Lib.hid hb
  have HN := Lib.hid hn
  have HM := Lib.hid hm
  clear hB hb hn hm
  go_enter Tryz.func23, Tryz.ntmps23
  go_wp2_with (go_at_call 24; refine (New_any (2 + a) b n m HN.out HM.out _).mono ?_; rintro r w1 ⟨q, b1, b2, rfl, hh, hq, hq1, hq2, hb⟩; have HH := Lib.hid hh; have HQ := Lib.hid (And.intro hq (And.intro hq1 hq2)); have HL := Lib.hid hb; have BP := Lib.hid (HB.out.below hb); clear hh hq hq1 hq2 hb; have z := BP.out.cell 5; have zf := BP.out.frozen 5)
  go_end0
  have hp := HB.out.lt
  refine ⟨rfl, q, b1, b2, blk_putL BP.out 5 _, HH.out.other _ (by have := HQ.out; show p ≠ q; omega) (by have := HQ.out; show p ≠ b1; omega) (by have := HQ.out; show p ≠ b2; omega) _, HQ.out.1, HQ.out.2.1, HQ.out.2.2, fun N hN hN2 => (HL.out.mono hN2).setCell hN _, fun k hk hne => (Below.heap_setCell _ _ _ _ hne).trans (HL.out.block k hk)⟩
end

-- NOT PRINTED: function 23 (world_New_1)

/-! ### world_New_2: function 25 -/
section
open Go.Shelf Go.Proofs.YtbbgeobnjdgpfaaGreat.Hand
theorem blkDrewW {W : World} {B : Nat} {t : TypeId} {cs : List Value} (h : Blk W B t cs) : Blk W.drew B t cs := h
set_option maxHeartbeats 8000000 in
theorem part2_any (B p : Nat) (a b c d e : Int) (x0 x1 x2 x3 x4 x5 x6 x7 x8 x9 x10 : Value) (m : Nat) (hm : mx 0 (mn e 8) = (m : Int)) (W : World) (hB : Blk W B 23 [.int .i64 a, .int .i64 b, .int .i64 c, .int .i64 d, .int .i64 e]) (hb : Blk W p 36 [x0, x1, x2, x3, x4, x5, x6, x7, x8, x9, x10]) :
    Calls Tryz.prog 25 #[.pointer (some ⟨p, 0, none⟩), .pointer (some ⟨B, 0, none⟩)] W fun r W' => r = .returned (.tuple #[]) ∧ ∃ qs ss qk, Blk W' p 36 [x0, x1, x2, x3, x4, x5, .pointer (some ⟨qs, 0, none⟩), .pointer (some ⟨qk, 0, none⟩), x8, x9, x10] ∧ Blk W' ss 87 (List.replicate m Value.nilIface) ∧ Blk W' qs 83 [.slice (some ⟨ss, 0, none⟩) m m] ∧ Blk W' qk 77 (List.replicate 16 (Value.int .i64 0) ++ [Value.int .i64 (m : Int)]) ∧ W.heap.size ≤ qs ∧ W.heap.size ≤ ss ∧ W.heap.size ≤ qk ∧ (∀ N, N ≤ p → N ≤ W.heap.size → Below N W W') ∧ (∀ k, k < W.heap.size → k ≠ p → W'.heap[k]? = W.heap[k]?) := by
  have y4 : W.cell? ⟨B, 4, none⟩ = some (.int .i64 e) := hB.cell 4
  have z6 := hb.cell 6
  have z7 := hb.cell 7
  have zf6 := hb.frozen 6
  have zf7 := hb.frozen 7
  have HB := Lib.hid hB
  have HBP := Lib.hid hb
  have HM := Lib.hid hm
  clear hm
  go_enter Tryz.func25, Tryz.ntmps25
  go_wp2
  have HKEEP := Lib.hid (show ∀ V : World, Blk V B 23 [.int .i64 a, .int .i64 b, .int .i64 c, .int .i64 d, .int .i64 e] → V.cell? ⟨B, 4, none⟩ = some (.int .i64 e) from fun V h => h.cell 4)
  have hpB : ¬ p = B := fun e => blk_ne (show W.heap[p]? = _ from HBP.out) (show W.heap[B]? = _ from HB.out) (by decide) e
  have HPB := Lib.hid hpB
  go_region_held3 (fun w' => w'.cell? ⟨B, 4, none⟩ = some (.int .i64 e))
    (first | exact HKEEP.out _ BB.out | (exact HKEEP.out _ (by (repeat (first | with_reducible exact BB.out | with_reducible exact HB.out | with_reducible apply blkDrewW | with_reducible apply Blk.alloc | (with_reducible refine Blk.far ?_ _ HPB.out _))))))
    (first
      | (go_at_call 26; refine (slotsNew_any e m HM.out _).mono ?_; rintro r w1 ⟨rfl, hw⟩; have BB := Lib.hid (show Blk w1 B 23 [.int .i64 a, .int .i64 b, .int .i64 c, .int .i64 d, .int .i64 e] from by rw [hw]; exact ((blkDrewW HB.out).alloc _).alloc _); have PP := Lib.hid (show Blk w1 p 36 [x0, x1, x2, x3, x4, x5, x6, x7, x8, x9, x10] from by rw [hw]; exact ((blkDrewW HBP.out).alloc _).alloc _); have L1 := Lib.hid (show Below W.heap.size W w1 from by rw [hw]; exact below_alloc (below_alloc (below_drew (Below.refl _ W)) _) _); have E1 := Lib.hid (show Blk w1 W.heap.size 87 (List.replicate m Value.nilIface) from by rw [hw]; exact (Blk.new W.drew 87 (List.replicate m Value.nilIface)).alloc _); have E2 := Lib.hid (show Blk w1 (W.heap.size + 1) 83 [.slice (some ⟨W.heap.size, 0, none⟩) m m] from by rw [hw]; have h := Blk.new (W.drew.alloc (.cells (List.replicate m Value.nilIface).toArray 87)) 83 [.slice (some ⟨W.heap.size, 0, none⟩) m m]; simp only [World.size_alloc] at h; exact h); clear hw)
      | (go_at_call 27; refine (epochNew_any e m HM.out _).mono ?_; rintro r w2 ⟨rfl, hw⟩; have n0 := Lib.hid (show Blk w2 B 23 [.int .i64 a, .int .i64 b, .int .i64 c, .int .i64 d, .int .i64 e] from by rw [hw]; exact BB.out.alloc _); have n1 := Lib.hid (show Blk w2 p 36 [x0, x1, x2, x3, x4, x5, x6, x7, x8, x9, x10] from by rw [hw]; exact PP.out.alloc _); have L2 := Lib.hid (show Below W.heap.size W w2 from by rw [hw]; exact below_alloc L1.out _); have G1 := Lib.hid (show Blk w2 W.heap.size 87 (List.replicate m Value.nilIface) from by rw [hw]; exact E1.out.alloc _); have G2 := Lib.hid (show Blk w2 (W.heap.size + 1) 83 [.slice (some ⟨W.heap.size, 0, none⟩) m m] from by rw [hw]; exact E2.out.alloc _); have G3 := Lib.hid (show Blk w2 w1.heap.size 77 (List.replicate 16 (Value.int .i64 0) ++ [Value.int .i64 (m : Int)]) from by rw [hw]; exact Blk.new w1 77 (List.replicate 16 (Value.int .i64 0) ++ [Value.int .i64 (m : Int)])); clear hw BB PP; have BB := n0; have PP := n1; clear n0 n1; have u6 := PP.out.cell 6; have u7 := PP.out.cell 7; have v6 := PP.out.frozen 6; have v7 := PP.out.frozen 7))
  go_wp2
  go_end0
  have hp := HBP.out.lt
  have hl := L1.out.size
  exact ⟨rfl, W.heap.size + 1, W.heap.size, w1.heap.size, blk_putL (blk_putL PP.out 6 _) 7 _,
    (G1.out.far ⟨p, 6, none⟩ (by show p ≠ W.heap.size; omega) _).far ⟨p, 7, none⟩ (by show p ≠ W.heap.size; omega) _,
    (G2.out.far ⟨p, 6, none⟩ (by show p ≠ W.heap.size + 1; omega) _).far ⟨p, 7, none⟩ (by show p ≠ W.heap.size + 1; omega) _,
    (G3.out.far ⟨p, 6, none⟩ (by show p ≠ w1.heap.size; omega) _).far ⟨p, 7, none⟩ (by show p ≠ w1.heap.size; omega) _, by omega, Nat.le_refl _, hl,
    fun N hN hN2 => ((L2.out.mono hN2).setCell hN _).setCell hN _, fun k hk hne => (Below.heap_setCell _ _ _ _ hne).trans ((Below.heap_setCell _ _ _ _ hne).trans (L2.out.block k hk))⟩
end

/-! ### flows_New: function 29 -/
def flows_New.f (a0 : Int) : Option ((List (S97))) := if 0 ≤ (mx 0 (mn a0 64)) then (if (mx 0 (mn a0 64) : Int).toNat ≤ 7036874417766 then (some (List.replicate (mx 0 (mn a0 64) : Int).toNat z97)) else (none)) else (none)
set_option maxHeartbeats 8000000 in
set_option maxRecDepth 100000 in
theorem flows_New.calls (a0 : Int) (r : List (S97)) (w : World) (h : flows_New.f a0 = some r) :
    Calls Tryz.prog 29 #[.int .i64 a0] w fun e w' => ∃ v0_ : Value, e = .returned (v0_) ∧ Kd.R k97 97 w' w.heap.size (fun _ => True) v0_ r ∧ Below w.heap.size w w' := by
  have HB := Aside0.mk (Below.refl w.heap.size w)
  have H : (if 0 ≤ (mx 0 (mn a0 64)) then (if (mx 0 (mn a0 64) : Int).toNat ≤ 7036874417766 then (some (List.replicate (mx 0 (mn a0 64) : Int).toNat z97)) else (none)) else (none)) = some r := h
  clear h
  obtain ⟨ji2, hji2⟩ : ∃ j_ : Int, (mn a0 64) = j_ := ⟨_, rfl⟩
  replace H : (if 0 ≤ (mx 0 (ji2)) then (if (mx 0 (ji2) : Int).toNat ≤ 7036874417766 then (some (List.replicate (mx 0 (ji2) : Int).toNat z97)) else (none)) else (none)) = some r := by first | (rw [hji2] at H; exact H) | (simp only [hji2] at H ⊢; exact H)
  (try (have hji2h : ji2 ≤ 64 := by (rw [← hji2]; unfold mn; (repeat' split) <;> omega)))
  (try (have hji2g : ji2 ≤ 64 := by omega))
  have hji2_ : (if 64 < a0 then 64 else a0) = ji2 := hji2
  obtain ⟨ji3, hji3⟩ : ∃ j_ : Int, (mx 0 (ji2)) = j_ := ⟨_, rfl⟩
  replace H : (if 0 ≤ (ji3) then (if (ji3 : Int).toNat ≤ 7036874417766 then (some (List.replicate (ji3 : Int).toNat z97)) else (none)) else (none)) = some r := by first | (rw [hji3] at H; exact H) | (simp only [hji3] at H ⊢; exact H)
  have hji3_ : (if 0 < (ji2) then (ji2) else 0) = ji3 := hji3
  by_cases c4 : 0 ≤ (ji3)
  · rw [if_pos c4] at H
    have c4b0 := eq_true c4
    have c4b1 : decide (0 ≤ (ji3)) = true := decide_eq_true c4
    clear c4
    by_cases c5 : (ji3 : Int).toNat ≤ 7036874417766
    · rw [if_pos c5] at H
      have c5b0 := eq_true c5
      have c5b1 : decide ((ji3 : Int).toNat ≤ 7036874417766) = true := decide_eq_true c5
      clear c5
      obtain ⟨y101, hy101⟩ : ∃ y_ : List (S97), y_ = (List.replicate (ji3 : Int).toNat z97) := ⟨_, rfl⟩
      replace H : (some y101) = some r := by first | (rw [hy101]; with_reducible exact H) | (have H2_ := (Option.bind_some _ _).symm.trans H; rw [hy101]; with_reducible exact H2_) | (have H2_ := (Option.bind_some _ _).symm.trans H; with_reducible exact H2_) | with_reducible exact H | (rw [hy101]; exact H) | exact H
      have Ny101 := Aside0.mk hy101
      clear hy101
      obtain rfl := Option.some.inj H
      go_enter Tryz.func29, Tryz.ntmps29
      go_wp2_with (first | ((with_reducible refine gate_dst (N := 6) rfl ?_); refine Kd.R_make k97 _ 97 rfl (N := 6) rfl 43 _ _ rfl ji3 rfl rfl Tryz.underlying43 (.agg #[(.int .i64 0), (.string ⟨#[]⟩), (.int .i64 0), (.int .i64 0)]) 40 info97 rfl (by decide) (by omega) z97 (ok := fun _ => True) (okp := fun _ => True) (k97_mkM _ _ _ z97 ) (fun _ hk => hk) trivial (of_decide_eq_true (by first | (with_reducible assumption) | assumption)) (Nat.le_trans (Nat.mul_le_mul_right _ (of_decide_eq_true (by first | (with_reducible assumption) | assumption) : ji3.toNat ≤ 7036874417766)) (by omega)) (Below.refl _ _) (Nat.le_refl _) ?_; intro v102 w6 ho7 hb hg_ hnew_; clear hg_ hnew_; (first | rw [← Ny101.out] at ho7 | (simp only [Int.reduceToNat] at ho7; rw [← Ny101.out] at ho7)); have n0_ := Aside0.mk (Kd.R_lower ho7 (below_size (by repeat (first | (with_reducible first | exact HB.out | apply below_alloc | apply pw_below_drewN | apply below_drew1) | exact HB.out)))); have n1_ := Aside0.mk (below_step (by repeat (first | (with_reducible first | exact HB.out | apply below_alloc | apply pw_below_drewN | apply below_drew1) | exact HB.out)) hb); clear HB; have HO103 := n0_; have HB := n1_; clear n0_ n1_; clear hb ho7))
      go_ret
      exact ⟨_, by first | rfl | (simp [errW_none, errW_some] <;> rfl) | (simp only [← hji2, ← hji3]; first | rfl | (simp [errW_none, errW_some] <;> rfl)) | (simp [*, errW_none, errW_some] <;> rfl), by (with_reducible repeat (first | apply Kd.R_alloc | apply Kd.R_drewN | apply Kd.R_drew)); exact HO103.out, by repeat (first | (with_reducible first | exact HB.out | apply below_alloc | apply pw_below_drewN | apply below_drew1) | exact HB.out)⟩
    · rw [if_neg c5] at H
      exact absurd H (by simp)
  · rw [if_neg c4] at H
    exact absurd H (by simp)

end Go.Proofs.YtbbgeobnjdgpfaaGreat.P
