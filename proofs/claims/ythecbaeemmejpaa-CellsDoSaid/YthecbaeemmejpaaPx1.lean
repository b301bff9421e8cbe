/- Each Go function that the laws reach, as a plain function, with the proof that the machine's call comes to what it says; of a law: its row. Made by a program of this seat (wip/hp.py, over the print). -/
import Derived.Test.YthecbaeemmejpaaPx0
namespace Go.Proofs.Ythecbaeemmejpaa.P
open Go.RowKit Go.Proofs.YthecbaeemmejpaaW.PrintWords Go.Proofs.YthecbaeemmejpaaW.PrintLast Go.Proofs.YthecbaeemmejpaaW.PrintMore
attribute [local go_sem] max2_int min2_int max_two min_two max_three min_three max_four min_four   -- for this text's walks alone
set_option linter.unusedVariables false
set_option linter.unusedSimpArgs false

/-- What is known of a value of struct type 47 that came in. -/
def okS47 (x : S47) : Prop := (Lit.int .i64 x.f0).wf = true ∧ (Lit.int .i64 x.f1).wf = true ∧ (Lit.int .i64 x.f2).wf = true ∧ (Lit.int .i64 x.f3).wf = true

/-! ### cells_within: function 36 -/
def cells_within.f (a0 : Int) : Option (Int) := some (mn (mx a0 0) 1024)
set_option maxHeartbeats 8000000 in
set_option maxRecDepth 100000 in
theorem cells_within.calls (a0 : Int) (r : Int) (w : World) (h : cells_within.f a0 = some r) :
    Calls Try.prog 36 #[.int .i64 a0] w fun e w' => e = .returned (.int .i64 r) ∧ Below w.heap.size w w' := by
  have HB := Aside0.mk (Below.refl w.heap.size w)
  have H : (some (mn (mx a0 0) 1024)) = some r := h
  clear h
  obtain ⟨ji2, hji2⟩ : ∃ j_ : Int, (mx a0 0) = j_ := ⟨_, rfl⟩
  replace H : (some (mn (ji2) 1024)) = some r := by first | (rw [hji2] at H; exact H) | (simp only [hji2] at H ⊢; exact H)
  (try (have hji2l : 0 ≤ ji2 := by (rw [← hji2]; unfold mx; (repeat' split) <;> omega)))
  (try (have hji2m : 0 ≤ ji2 := by omega))
  have hji2_ : (if a0 < 0 then 0 else a0) = ji2 := hji2
  obtain ⟨ji3, hji3⟩ : ∃ j_ : Int, (mn (ji2) 1024) = j_ := ⟨_, rfl⟩
  replace H : (some ji3) = some r := by first | (rw [hji3] at H; exact H) | (simp only [hji3] at H ⊢; exact H)
  have hji3_ : (if 1024 < (ji2) then 1024 else (ji2)) = ji3 := hji3
  obtain rfl := Option.some.inj H
  go_enter Try.func36, Try.ntmps36
  go_wp2
  go_ret
  exact ⟨by first | rfl | (simp [errW_none, errW_some] <;> rfl) | (simp only [← hji2, ← hji3]; first | rfl | (simp [errW_none, errW_some] <;> rfl)) | (simp [*, errW_none, errW_some] <;> rfl), by repeat (first | (with_reducible first | exact HB.out | apply below_alloc | apply pw_below_drewN | apply below_drew1) | exact HB.out)⟩

/-! ### cells_New: function 22 -/
section
open Go.Shelf Go.Proofs.Ythecbaeemmejpaa.Hand
/-- Cells and locks, and how often they were called. -/
structure CS where
  cells : List Int
  owners : List Int
  shared : Int
def ints (l : List Int) : List Value := l.map (Value.int .i64)
theorem ints_at (l : List Int) (i : Nat) (h : i < l.length) : (ints l)[i]? = some (.int .i64 (l.getD i 0)) := by
  unfold ints
  rw [List.getElem?_map, List.getElem?_eq_getElem h]
  simp [h]
theorem ints_set (l : List Int) (i : Nat) (v : Int) : (ints l).set i (.int .i64 v) = ints (l.set i v) := by
  unfold ints
  rw [List.map_set]
/-- They stand in memory, in three blocks. -/
structure Held (W : World) (p b1 b2 : Nat) (s : CS) : Prop where
  hp : Blk W p 59 [.int .i64 s.shared, .slice (some ⟨b1, 0, none⟩) s.cells.length s.cells.length, .slice (some ⟨b2, 0, none⟩) s.owners.length s.owners.length]
  h1 : Blk W b1 3 (ints s.cells)
  h2 : Blk W b2 3 (ints s.owners)
  ne : b1 ≠ b2
  n1 : p ≠ b1
  n2 : p ≠ b2
/-- Nothing else was written. -/
structure Touch (W W' : World) (p b1 b2 : Nat) : Prop where
  below : ∀ B, B ≤ p → B ≤ b1 → B ≤ b2 → B ≤ W.heap.size → Below B W W'
  far : ∀ k, k < W.heap.size → k ≠ p → k ≠ b1 → k ≠ b2 → W'.heap[k]? = W.heap[k]?
theorem Touch.refl (W : World) (p b1 b2 : Nat) : Touch W W p b1 b2 := ⟨fun B _ _ _ _ => Below.refl B W, fun _ _ _ _ _ => rfl⟩
theorem Touch.size {W W' : World} {p b1 b2 : Nat} (h : Touch W W' p b1 b2) : W.heap.size ≤ W'.heap.size := (h.below 0 (Nat.zero_le _) (Nat.zero_le _) (Nat.zero_le _) (Nat.zero_le _)).size
theorem Touch.trans {W W' W'' : World} {p b1 b2 : Nat} (h : Touch W W' p b1 b2) (k : Touch W' W'' p b1 b2) : Touch W W'' p b1 b2 :=
  ⟨fun B h0 h1 h2 h3 => (h.below B h0 h1 h2 h3).trans (k.below B h0 h1 h2 (Nat.le_trans h3 h.size)), fun i h0 h1 h2 h3 => (k.far i (Nat.lt_of_lt_of_le h0 h.size) h1 h2 h3).trans (h.far i h0 h1 h2 h3)⟩
theorem Touch.set {W W' : World} {p b1 b2 : Nat} (h : Touch W W' p b1 b2) (a : Addr) (ha : a.block = p ∨ a.block = b1 ∨ a.block = b2) (v : Value) : Touch W (W'.setCell a v) p b1 b2 :=
  ⟨fun B h0 h1 h2 h3 => (h.below B h0 h1 h2 h3).setCell (by rcases ha with e | e | e <;> omega) v, fun i h0 h1 h2 h3 => (Below.heap_setCell W' a v i (by rcases ha with e | e | e <;> omega)).trans (h.far i h0 h1 h2 h3)⟩
theorem Touch.blk {W W' : World} {p b1 b2 k : Nat} {t : TypeId} {cs : List Value} (h : Touch W W' p b1 b2) (hb : Blk W k t cs) (h1 : k ≠ p) (h2 : k ≠ b1) (h3 : k ≠ b2) : Blk W' k t cs := (h.far k hb.lt h1 h2 h3).trans hb
theorem Held.far {W W' : World} {p b1 b2 q c1 c2 : Nat} {s : CS} (h : Held W q c1 c2 s) (ht : Touch W W' p b1 b2) (hn : ∀ k, (k = q ∨ k = c1 ∨ k = c2) → k ≠ p ∧ k ≠ b1 ∧ k ≠ b2) : Held W' q c1 c2 s :=
  ⟨ht.blk h.hp (hn q (.inl rfl)).1 (hn q (.inl rfl)).2.1 (hn q (.inl rfl)).2.2, ht.blk h.h1 (hn c1 (.inr (.inl rfl))).1 (hn c1 (.inr (.inl rfl))).2.1 (hn c1 (.inr (.inl rfl))).2.2, ht.blk h.h2 (hn c2 (.inr (.inr rfl))).1 (hn c2 (.inr (.inr rfl))).2.1 (hn c2 (.inr (.inr rfl))).2.2, h.ne, h.n1, h.n2⟩
theorem blk_putL {W : World} {B : Nat} {t : TypeId} {cs : List Value} (h : Blk W B t cs) (i : Nat) (v : Value) : Blk (W.setCell ⟨B, i, none⟩ v) B t (cs.set i v) := by
  have := blk_set (show W.heap[B]? = some (.cells cs.toArray t (0, 0)) from h) i v
  rw [List.setIfInBounds_toArray] at this
  exact this
theorem Held.shared {W : World} {p b1 b2 : Nat} {s : CS} (h : Held W p b1 b2 s) (n : Int) : Held (W.setCell ⟨p, 0, none⟩ (.int .i64 n)) p b1 b2 { s with shared := n } :=
  ⟨blk_putL h.hp 0 _, h.h1.far _ h.n1 _, h.h2.far _ h.n2 _, h.ne, h.n1, h.n2⟩
theorem Held.cell {W : World} {p b1 b2 : Nat} {s : CS} (h : Held W p b1 b2 s) (i : Nat) (v : Int) : Held (W.setCell ⟨b1, i, none⟩ (.int .i64 v)) p b1 b2 { s with cells := s.cells.set i v } :=
  ⟨by have := h.hp.far ⟨b1, i, none⟩ h.n1.symm (.int .i64 v); simpa using this, by have := blk_putL h.h1 i (.int .i64 v); rw [ints_set] at this; exact this, h.h2.far _ h.ne _, h.ne, h.n1, h.n2⟩
theorem Held.owner {W : World} {p b1 b2 : Nat} {s : CS} (h : Held W p b1 b2 s) (i : Nat) (v : Int) : Held (W.setCell ⟨b2, i, none⟩ (.int .i64 v)) p b1 b2 { s with owners := s.owners.set i v } :=
  ⟨by have := h.hp.far ⟨b2, i, none⟩ h.n2.symm (.int .i64 v); simpa using this, h.h1.far _ h.ne.symm _, by have := blk_putL h.h2 i (.int .i64 v); rw [ints_set] at this; exact this, h.ne, h.n1, h.n2⟩

set_option maxHeartbeats 4000000 in
theorem count_any (p : Nat) (n : Int) (cs : List Value) (W : World) (hp : Blk W p 59 (.int .i64 n :: cs)) :
    Calls Try.prog 44 #[.pointer (some ⟨p, 0, none⟩)] W fun e W' => e = .returned (.tuple #[]) ∧ W' = W.setCell ⟨p, 0, none⟩ (.int .i64 (wrap64 (n + 1))) := by
  have hc : W.cell? ⟨p, 0, none⟩ = some (.int .i64 n) := hp.cell 0
  have hz := hp.frozen 0
  have hadd := run_call_add (P := Try.prog) Try.func48 (by kernel_rfl) (by kernel_rfl) (by kernel_rfl) .i64 (by kernel_rfl) (y := 1) (s := wrap64 (n + 1)) hc hz (by simp [go_sem, i64_w])
  clear hc hz hp
  go_enter Try.func44, Try.ntmps44
  go_wp2
  go_end0
  exact ⟨rfl, rfl⟩
set_option maxHeartbeats 4000000 in
theorem spot_in (p b c : Nat) (len : Nat) (i n : Int) (cs : List Value) (W : World) (hp : Blk W p 59 (.int .i64 n :: cs)) (h0 : 0 ≤ i) (h1 : i < len) :
    Calls Try.prog 37 #[.pointer (some ⟨p, 0, none⟩), .slice (some ⟨b, 0, none⟩) len c, .int .i64 i] W fun e W' => e = .returned (.pointer (some ⟨b, i.toNat, none⟩)) ∧ W' = W.setCell ⟨p, 0, none⟩ (.int .i64 (wrap64 (n + 1))) := by
  have q0 : decide (i < 0) = false := decide_eq_false (by omega)
  have q1 : decide ((len : Int) ≤ i) = false := decide_eq_false (by omega)
  have p0 : decide (0 ≤ i) = true := decide_eq_true h0
  have p1 : decide (i < (len : Int)) = true := decide_eq_true h1
  have p2 := eq_true h0
  have p3 := eq_true h1
  have HP := Lib.hid hp
  clear hp h0 h1
  go_enter Try.func37, Try.ntmps37
  go_wp2_with (go_at_call 44; refine (count_any p n cs W HP.out).mono ?_; rintro e w1 ⟨rfl, rfl⟩)
  go_ret
  exact ⟨by simp, rfl⟩
set_option maxHeartbeats 4000000 in
theorem spot_out (p b c : Nat) (len : Nat) (i : Int) (W : World) (h : ¬ (0 ≤ i ∧ i < len)) :
    Calls Try.prog 37 #[.pointer (some ⟨p, 0, none⟩), .slice (some ⟨b, 0, none⟩) len c, .int .i64 i] W fun e W' => e = .returned (.pointer none) ∧ W' = W := by
  by_cases h0 : i < 0
  · have q0 : decide (i < 0) = true := decide_eq_true h0
    clear h h0
    go_enter Try.func37, Try.ntmps37
    go_wp2
    go_ret
    exact ⟨rfl, rfl⟩
  · have q0 : decide (i < 0) = false := decide_eq_false h0
    have q1 : decide ((len : Int) ≤ i) = true := decide_eq_true (by omega)
    clear h h0
    go_enter Try.func37, Try.ntmps37
    go_wp2
    go_ret
    exact ⟨rfl, rfl⟩
set_option maxHeartbeats 4000000 in
theorem turn_nil (old v : Int) (W : World) : Calls Try.prog 42 #[.pointer none, .int .i64 old, .int .i64 v] W fun e W' => e = .returned (.bool false) ∧ W' = W := by
  go_enter Try.func42, Try.ntmps42
  go_wp2
  go_ret
  exact ⟨rfl, rfl⟩
set_option maxHeartbeats 4000000 in
theorem turn_miss (b i : Nat) (x old v : Int) (W : World) (hc : W.cell? ⟨b, i, none⟩ = some (.int .i64 x)) (hne : x ≠ old) : Calls Try.prog 42 #[.pointer (some ⟨b, i, none⟩), .int .i64 old, .int .i64 v] W fun e W' => e = .returned (.bool false) ∧ W' = W := by
  have q0 : (x == old) = false := beq_eq_false_iff_ne.mpr hne
  have q1 : (x != old) = true := bne_iff_ne.mpr hne
  clear hne
  go_enter Try.func42, Try.ntmps42
  go_wp2
  go_ret
  exact ⟨rfl, rfl⟩
set_option maxHeartbeats 4000000 in
theorem turn_hit (b i : Nat) (old v : Int) (W : World) (hc : W.cell? ⟨b, i, none⟩ = some (.int .i64 old)) (hz : W.frozen? ⟨b, i, none⟩ = false) : Calls Try.prog 42 #[.pointer (some ⟨b, i, none⟩), .int .i64 old, .int .i64 v] W fun e W' => e = .returned (.bool true) ∧ W' = W.setCell ⟨b, i, none⟩ (.int .i64 v) := by
  go_enter Try.func42, Try.ntmps42
  go_wp2
  go_ret
  exact ⟨rfl, rfl⟩
theorem Held.cellAt {W : World} {p b1 b2 : Nat} {s : CS} (h : Held W p b1 b2 s) (i : Int) (hi : 0 ≤ i ∧ i < s.cells.length) : W.cell? ⟨b1, i.toNat, none⟩ = some (.int .i64 (s.cells.getD i.toNat 0)) := (h.h1.cell i.toNat).trans (ints_at _ _ (by omega))
theorem Held.ownerAt {W : World} {p b1 b2 : Nat} {s : CS} (h : Held W p b1 b2 s) (i : Int) (hi : 0 ≤ i ∧ i < s.owners.length) : W.cell? ⟨b2, i.toNat, none⟩ = some (.int .i64 (s.owners.getD i.toNat 0)) := (h.h2.cell i.toNat).trans (ints_at _ _ (by omega))

theorem run_make_int (n : Nat) (hn : n ≤ 1024) (w : World) : (Instr.makeSlice 33 (.int .i64 (n : Int)) (.int .i64 (n : Int))).run Try.prog w = .ok (.slice (some ⟨w.heap.size, 0, none⟩) n n) (w.alloc (.cells (ints (List.replicate n 0)).toArray 3)) := by
  obtain ⟨i, hi, hz0, hz1, hz2⟩ := info_parts (show (Try.prog.info? 3).map (fun i => (i.zero, i.size, i.bytes)) = some (some (.int .i64 0), 1, 8) from by kernel_rfl)
  have hr := run_make (P := Try.prog) w 33 3 i (.int .i64 0) Try.underlying33 hi hz0 .i64 .i64 n n (by omega) (Int.le_refl _) (by rw [hz2]; omega) (by omega)
  simp only [Int.toNat_natCast] at hr
  rw [hr, hz1]
  have e : madeCells (Value.int .i64 0).cells (n * 1) = (ints (List.replicate n 0)).toArray := by
    have h := toList_madeCells_one (.int .i64 0) n
    unfold ints
    rw [Nat.mul_one, List.map_replicate, ← h]; rfl
  rw [e]
set_option maxHeartbeats 4000000 in
theorem within_any (n : Int) (W : World) : Calls Try.prog 36 #[.int .i64 n] W fun e W' => e = .returned (.int .i64 (mn (mx n 0) 1024)) ∧ W' = W := by
  obtain ⟨x, hx⟩ : ∃ x, mx n 0 = x := ⟨_, rfl⟩
  obtain ⟨y, hy⟩ : ∃ y, mn x 1024 = y := ⟨_, rfl⟩
  have hx_ : (if n < 0 then 0 else n) = x := hx
  have hy_ : (if 1024 < x then 1024 else x) = y := hy
  rw [hx, hy]
  clear hx hy
  go_enter Try.func36, Try.ntmps36
  go_wp2
  go_ret
  exact ⟨rfl, rfl⟩
theorem heldA (n m : Nat) (W : World) : Held (((W.alloc (.cells (ints (List.replicate n 0)).toArray 3)).alloc (.cells (ints (List.replicate m 0)).toArray 3)).alloc (.cells #[.int .i64 0, .slice (some ⟨W.heap.size, 0, none⟩) n n, .slice (some ⟨W.heap.size + 1, 0, none⟩) m m] 59)).drew (W.heap.size + 1 + 1) W.heap.size (W.heap.size + 1) ⟨List.replicate n 0, List.replicate m 0, 0⟩ := by
  have x1 := ((Blk.new W 3 (ints (List.replicate n 0))).alloc (.cells (ints (List.replicate m 0)).toArray 3)).alloc (.cells #[.int .i64 0, .slice (some ⟨W.heap.size, 0, none⟩) n n, .slice (some ⟨W.heap.size + 1, 0, none⟩) m m] 59)
  have x2 := (Blk.new (W.alloc (.cells (ints (List.replicate n 0)).toArray 3)) 3 (ints (List.replicate m 0))).alloc (.cells #[.int .i64 0, .slice (some ⟨W.heap.size, 0, none⟩) n n, .slice (some ⟨W.heap.size + 1, 0, none⟩) m m] 59)
  have x3 := Blk.new ((W.alloc (.cells (ints (List.replicate n 0)).toArray 3)).alloc (.cells (ints (List.replicate m 0)).toArray 3)) 59 [.int .i64 0, .slice (some ⟨W.heap.size, 0, none⟩) n n, .slice (some ⟨W.heap.size + 1, 0, none⟩) m m]
  simp only [World.size_alloc] at x2 x3
  exact ⟨by dsimp only; rw [List.length_replicate, List.length_replicate]; exact x3, x1, x2, by omega, by omega, by omega⟩
theorem heldB (n m : Nat) (W : World) : Held (((W.alloc (.cells (ints (List.replicate m 0)).toArray 3)).alloc (.cells (ints (List.replicate n 0)).toArray 3)).alloc (.cells #[.int .i64 0, .slice (some ⟨W.heap.size + 1, 0, none⟩) n n, .slice (some ⟨W.heap.size, 0, none⟩) m m] 59)).drew (W.heap.size + 1 + 1) (W.heap.size + 1) W.heap.size ⟨List.replicate n 0, List.replicate m 0, 0⟩ := by
  have x1 := ((Blk.new W 3 (ints (List.replicate m 0))).alloc (.cells (ints (List.replicate n 0)).toArray 3)).alloc (.cells #[.int .i64 0, .slice (some ⟨W.heap.size + 1, 0, none⟩) n n, .slice (some ⟨W.heap.size, 0, none⟩) m m] 59)
  have x2 := (Blk.new (W.alloc (.cells (ints (List.replicate m 0)).toArray 3)) 3 (ints (List.replicate n 0))).alloc (.cells #[.int .i64 0, .slice (some ⟨W.heap.size + 1, 0, none⟩) n n, .slice (some ⟨W.heap.size, 0, none⟩) m m] 59)
  have x3 := Blk.new ((W.alloc (.cells (ints (List.replicate m 0)).toArray 3)).alloc (.cells (ints (List.replicate n 0)).toArray 3)) 59 [.int .i64 0, .slice (some ⟨W.heap.size + 1, 0, none⟩) n n, .slice (some ⟨W.heap.size, 0, none⟩) m m]
  simp only [World.size_alloc] at x2 x3
  exact ⟨by dsimp only; rw [List.length_replicate, List.length_replicate]; exact x3, x2, x1, by omega, by omega, by omega⟩
theorem below3 (W : World) (x y z : Obj) : Below W.heap.size W (((W.alloc x).alloc y).alloc z).drew := below_drew (below_alloc (below_alloc (below_alloc (Below.refl _ W) x) y) z)
theorem fill_step (m k : Nat) (h : k < m) : ((List.replicate k (-1 : Int)) ++ List.replicate (m - k) 0).set k (-1) = List.replicate (k + 1) (-1) ++ List.replicate (m - (k + 1)) 0 := by
  rw [List.set_append_right _ _ (by simp)]
  obtain ⟨d, hd⟩ : ∃ d, m - k = d + 1 := ⟨m - k - 1, by omega⟩
  rw [hd, show m - (k + 1) = d by omega, List.length_replicate, Nat.sub_self, List.replicate_succ (n := d), List.set_cons_zero, List.replicate_succ' (n := k), List.append_assoc]
  rfl
set_option maxHeartbeats 4000000 in
theorem New_any (a b : Int) (n m : Nat) (hn : mn (mx a 0) 1024 = n) (hm : mn (mx b 0) 1024 = m) (W : World) :
    Calls Try.prog 22 #[.int .i64 a, .int .i64 b] W fun e W' => ∃ p b1 b2, e = .returned (.pointer (some ⟨p, 0, none⟩)) ∧ Held W' p b1 b2 ⟨List.replicate n 0, List.replicate m (-1), 0⟩ ∧ W.heap.size ≤ p ∧ W.heap.size ≤ b1 ∧ W.heap.size ≤ b2 ∧ Below W.heap.size W W' := by
  have hn1 : n ≤ 1024 := by unfold mn at hn; split at hn <;> omega
  have hm1 : m ≤ 1024 := by unfold mn at hm; split at hm <;> omega
  have r1 := fun w => run_make_int n hn1 w
  have r2 := fun w => run_make_int m hm1 w
  refine (callsIn_wide (n := 6)).1 ?_
  have hro : Fence.wide.round = none := rfl
  refine callsIn_of_wp Try.func22 rfl trivial ?_ hro
  simp only [Try.ntmps22, List.size_toArray, List.length_cons, List.length_nil, Nat.reduceAdd, Nat.reduceSub, Array.replicate_succ, Array.replicate_zero, List.push_toArray, List.append_toArray, List.nil_append, List.cons_append]
  have HN := Lib.hid hn
  have HM := Lib.hid hm
  have HM1 := Lib.hid hm1
  clear hn hm hn1 hm1
  have hA := fun w => (within_any a w).mono (fun e w' h => (show e = .returned (.int .i64 (n : Int)) ∧ w' = w from by rw [HN.out] at h; exact h))
  have hB := fun w => (within_any b w).mono (fun e w' h => (show e = .returned (.int .i64 (m : Int)) ∧ w' = w from by rw [HM.out] at h; exact h))
  gi_wp2
  refine wpIn_mono (Q := NoPanic _) ?_ NoPanic.imp
  gi_region_with (first
    | (refine ⟨trivial, ?_⟩; gi_at_call 36; refine (callsIn_wide.2 (hA _)).mono ?_; rintro e w1 ⟨rfl, rfl⟩)
    | (refine ⟨trivial, ?_⟩; gi_at_call 36; refine (callsIn_wide.2 (hB _)).mono ?_; rintro e w1 ⟨rfl, rfl⟩))
  all_goals (refine NoPanic.normal ?_)
  · obtain ⟨W0, hW0⟩ : ∃ W0, (((W.alloc (.cells (ints (List.replicate n 0)).toArray 3)).alloc (.cells (ints (List.replicate m 0)).toArray 3)).alloc (.cells #[.int .i64 0, .slice (some ⟨W.heap.size, 0, none⟩) n n, .slice (some ⟨W.heap.size + 1, 0, none⟩) m m] 59)).drew = W0 := ⟨_, rfl⟩
    have hH := heldA n m W
    have hBl := below3 W (.cells (ints (List.replicate n 0)).toArray 3) (.cells (ints (List.replicate m 0)).toArray 3) (.cells #[.int .i64 0, .slice (some ⟨W.heap.size, 0, none⟩) n n, .slice (some ⟨W.heap.size + 1, 0, none⟩) m m] 59)
    rw [hW0] at hH hBl
    dsimp only [Act.put]
    rw [hW0]
    clear hW0 hA hB r1 r2
    have c2 : W0.cell? ⟨W.heap.size + 1 + 1, 2, none⟩ = some (.slice (some ⟨W.heap.size + 1, 0, none⟩) m m) := by have := hH.hp.cell 2; simpa using this
    have HH := Lib.hid hH
    have HBL := Lib.hid hBl
    clear hH hBl
    gi_wp2
    gi_loopw [20] (fun i wr => ∃ k : Nat, k ≤ m ∧ i = .int .i64 k ∧ Held wr (W.heap.size + 1 + 1) (W.heap.size) (W.heap.size + 1) ⟨List.replicate n 0, List.replicate k (-1) ++ List.replicate (m - k) 0, 0⟩ ∧ Below W.heap.size W wr) (fun i _ => m - (intOf i).toNat)
    case atStart => exact ⟨0, Nat.zero_le _, rfl, by simpa using HH.out, HBL.out⟩
    case round =>
      obtain ⟨k, hk, rfl, hH, hBr⟩ := hrel
      have hlen : (List.replicate k (-1 : Int) ++ List.replicate (m - k) 0).length = m := by simp; omega
      have c2 : wr.cell? ⟨W.heap.size + 1 + 1, 2, none⟩ = some (.slice (some ⟨W.heap.size + 1, 0, none⟩) m m) := by have := hH.hp.cell 2; dsimp only at this; rw [hlen] at this; exact this
      have HR := Lib.hid hH
      have HBR := Lib.hid hBr
      by_cases hlt : k < m
      · have e1 := hH.ownerAt (k : Int) ⟨by omega, by dsimp only; rw [hlen]; omega⟩
        rw [Int.toNat_natCast] at e1
        have z1 := hH.h2.frozen k
        clear hH hBr HH HBL hlen
        have hw : wrap64 ((k : Int) + 1) = ((k + 1 : Nat) : Int) := by have := HM1.out; unfold wrap64; omega
        have p0 : decide (0 ≤ (k : Int)) = true := decide_eq_true (by omega)
        have p1 : decide ((k : Int) < (m : Int)) = true := decide_eq_true (by omega)
        gi_wp2
        go_roundw
        case rel => exact ⟨k + 1, by omega, by rw [hw], by have h := HR.out.owner k (-1); dsimp only at h; rw [fill_step m k hlt] at h; exact h, below_set HBR.out (by omega)⟩
        case measure =>
          rw [hw]
          show m - (((k + 1 : Nat) : Int)).toNat < m - ((k : Int)).toNat
          rw [Int.toNat_natCast, Int.toNat_natCast]
          omega
      · obtain rfl : k = m := by omega
        clear hH hBr HH HBL hlen
        gi_wp2
        go_ret
        refine ⟨W.heap.size + 1 + 1, W.heap.size, W.heap.size + 1, rfl, ?_, by omega, by omega, by omega, HBR.out⟩
        have h := HR.out
        rw [Nat.sub_self, List.replicate_zero, List.append_nil] at h
        exact h
  · obtain ⟨W0, hW0⟩ : ∃ W0, (((W.alloc (.cells (ints (List.replicate n 0)).toArray 3)).alloc (.cells (ints (List.replicate m 0)).toArray 3)).alloc (.cells #[.int .i64 0, .slice (some ⟨W.heap.size, 0, none⟩) n n, .slice (some ⟨W.heap.size + 1, 0, none⟩) m m] 59)).drew = W0 := ⟨_, rfl⟩
    have hH := heldA n m W
    have hBl := below3 W (.cells (ints (List.replicate n 0)).toArray 3) (.cells (ints (List.replicate m 0)).toArray 3) (.cells #[.int .i64 0, .slice (some ⟨W.heap.size, 0, none⟩) n n, .slice (some ⟨W.heap.size + 1, 0, none⟩) m m] 59)
    rw [hW0] at hH hBl
    dsimp only [Act.put]
    rw [hW0]
    clear hW0 hA hB r1 r2
    have c2 : W0.cell? ⟨W.heap.size + 1 + 1, 2, none⟩ = some (.slice (some ⟨W.heap.size + 1, 0, none⟩) m m) := by have := hH.hp.cell 2; simpa using this
    have HH := Lib.hid hH
    have HBL := Lib.hid hBl
    clear hH hBl
    gi_wp2
    gi_loopw [20] (fun i wr => ∃ k : Nat, k ≤ m ∧ i = .int .i64 k ∧ Held wr (W.heap.size + 1 + 1) (W.heap.size) (W.heap.size + 1) ⟨List.replicate n 0, List.replicate k (-1) ++ List.replicate (m - k) 0, 0⟩ ∧ Below W.heap.size W wr) (fun i _ => m - (intOf i).toNat)
    case atStart => exact ⟨0, Nat.zero_le _, rfl, by simpa using HH.out, HBL.out⟩
    case round =>
      obtain ⟨k, hk, rfl, hH, hBr⟩ := hrel
      have hlen : (List.replicate k (-1 : Int) ++ List.replicate (m - k) 0).length = m := by simp; omega
      have c2 : wr.cell? ⟨W.heap.size + 1 + 1, 2, none⟩ = some (.slice (some ⟨W.heap.size + 1, 0, none⟩) m m) := by have := hH.hp.cell 2; dsimp only at this; rw [hlen] at this; exact this
      have HR := Lib.hid hH
      have HBR := Lib.hid hBr
      by_cases hlt : k < m
      · have e1 := hH.ownerAt (k : Int) ⟨by omega, by dsimp only; rw [hlen]; omega⟩
        rw [Int.toNat_natCast] at e1
        have z1 := hH.h2.frozen k
        clear hH hBr HH HBL hlen
        have hw : wrap64 ((k : Int) + 1) = ((k + 1 : Nat) : Int) := by have := HM1.out; unfold wrap64; omega
        have p0 : decide (0 ≤ (k : Int)) = true := decide_eq_true (by omega)
        have p1 : decide ((k : Int) < (m : Int)) = true := decide_eq_true (by omega)
        gi_wp2
        go_roundw
        case rel => exact ⟨k + 1, by omega, by rw [hw], by have h := HR.out.owner k (-1); dsimp only at h; rw [fill_step m k hlt] at h; exact h, below_set HBR.out (by omega)⟩
        case measure =>
          rw [hw]
          show m - (((k + 1 : Nat) : Int)).toNat < m - ((k : Int)).toNat
          rw [Int.toNat_natCast, Int.toNat_natCast]
          omega
      · obtain rfl : k = m := by omega
        clear hH hBr HH HBL hlen
        gi_wp2
        go_ret
        refine ⟨W.heap.size + 1 + 1, W.heap.size, W.heap.size + 1, rfl, ?_, by omega, by omega, by omega, HBR.out⟩
        have h := HR.out
        rw [Nat.sub_self, List.replicate_zero, List.append_nil] at h
        exact h
  · obtain ⟨W0, hW0⟩ : ∃ W0, (((W.alloc (.cells (ints (List.replicate m 0)).toArray 3)).alloc (.cells (ints (List.replicate n 0)).toArray 3)).alloc (.cells #[.int .i64 0, .slice (some ⟨W.heap.size + 1, 0, none⟩) n n, .slice (some ⟨W.heap.size, 0, none⟩) m m] 59)).drew = W0 := ⟨_, rfl⟩
    have hH := heldB n m W
    have hBl := below3 W (.cells (ints (List.replicate m 0)).toArray 3) (.cells (ints (List.replicate n 0)).toArray 3) (.cells #[.int .i64 0, .slice (some ⟨W.heap.size + 1, 0, none⟩) n n, .slice (some ⟨W.heap.size, 0, none⟩) m m] 59)
    rw [hW0] at hH hBl
    dsimp only [Act.put]
    rw [hW0]
    clear hW0 hA hB r1 r2
    have c2 : W0.cell? ⟨W.heap.size + 1 + 1, 2, none⟩ = some (.slice (some ⟨W.heap.size, 0, none⟩) m m) := by have := hH.hp.cell 2; simpa using this
    have HH := Lib.hid hH
    have HBL := Lib.hid hBl
    clear hH hBl
    gi_wp2
    gi_loopw [20] (fun i wr => ∃ k : Nat, k ≤ m ∧ i = .int .i64 k ∧ Held wr (W.heap.size + 1 + 1) (W.heap.size + 1) (W.heap.size) ⟨List.replicate n 0, List.replicate k (-1) ++ List.replicate (m - k) 0, 0⟩ ∧ Below W.heap.size W wr) (fun i _ => m - (intOf i).toNat)
    case atStart => exact ⟨0, Nat.zero_le _, rfl, by simpa using HH.out, HBL.out⟩
    case round =>
      obtain ⟨k, hk, rfl, hH, hBr⟩ := hrel
      have hlen : (List.replicate k (-1 : Int) ++ List.replicate (m - k) 0).length = m := by simp; omega
      have c2 : wr.cell? ⟨W.heap.size + 1 + 1, 2, none⟩ = some (.slice (some ⟨W.heap.size, 0, none⟩) m m) := by have := hH.hp.cell 2; dsimp only at this; rw [hlen] at this; exact this
      have HR := Lib.hid hH
      have HBR := Lib.hid hBr
      by_cases hlt : k < m
      · have e1 := hH.ownerAt (k : Int) ⟨by omega, by dsimp only; rw [hlen]; omega⟩
        rw [Int.toNat_natCast] at e1
        have z1 := hH.h2.frozen k
        clear hH hBr HH HBL hlen
        have hw : wrap64 ((k : Int) + 1) = ((k + 1 : Nat) : Int) := by have := HM1.out; unfold wrap64; omega
        have p0 : decide (0 ≤ (k : Int)) = true := decide_eq_true (by omega)
        have p1 : decide ((k : Int) < (m : Int)) = true := decide_eq_true (by omega)
        gi_wp2
        go_roundw
        case rel => exact ⟨k + 1, by omega, by rw [hw], by have h := HR.out.owner k (-1); dsimp only at h; rw [fill_step m k hlt] at h; exact h, below_set HBR.out (by omega)⟩
        case measure =>
          rw [hw]
          show m - (((k + 1 : Nat) : Int)).toNat < m - ((k : Int)).toNat
          rw [Int.toNat_natCast, Int.toNat_natCast]
          omega
      · obtain rfl : k = m := by omega
        clear hH hBr HH HBL hlen
        gi_wp2
        go_ret
        refine ⟨W.heap.size + 1 + 1, W.heap.size + 1, W.heap.size, rfl, ?_, by omega, by omega, by omega, HBR.out⟩
        have h := HR.out
        rw [Nat.sub_self, List.replicate_zero, List.append_nil] at h
        exact h
def CS.load (s : CS) (i : Int) : Int × CS := if 0 ≤ i ∧ i < s.cells.length then (s.cells.getD i.toNat 0, { s with shared := wrap64 (s.shared + 1) }) else (0, s)
def CS.store (s : CS) (i v : Int) : CS := if 0 ≤ i ∧ i < s.cells.length then { s with shared := wrap64 (s.shared + 1), cells := s.cells.set i.toNat v } else s
def CS.add (s : CS) (i d : Int) : Int × CS := if 0 ≤ i ∧ i < s.cells.length then (wrap64 (s.cells.getD i.toNat 0 + d), { s with shared := wrap64 (s.shared + 1), cells := s.cells.set i.toNat (wrap64 (s.cells.getD i.toNat 0 + d)) }) else (0, s)
def CS.swap (s : CS) (i old v : Int) : Bool × CS := if 0 ≤ i ∧ i < s.cells.length then (if s.cells.getD i.toNat 0 = old then (true, { s with shared := wrap64 (s.shared + 1), cells := s.cells.set i.toNat v }) else (false, { s with shared := wrap64 (s.shared + 1) })) else (false, s)
/-- A lock is turned from one owner to another one. -/
def CS.turn (s : CS) (i who old v : Int) : Bool × CS := if 0 ≤ i ∧ i < s.owners.length then (if 0 ≤ who ∧ s.owners.getD i.toNat 0 = old then (true, { s with shared := wrap64 (s.shared + 1), owners := s.owners.set i.toNat v }) else (false, { s with shared := wrap64 (s.shared + 1) })) else (false, s)
def CS.lock (s : CS) (i who : Int) : Bool × CS := s.turn i who (-1) who
def CS.unlock (s : CS) (i who : Int) : Bool × CS := s.turn i who who (-1)
def CS.owner (s : CS) (i : Int) : Int := if 0 ≤ i ∧ i < s.owners.length then s.owners.getD i.toNat 0 else -1
set_option maxHeartbeats 4000000 in
theorem Load_any (p b1 b2 : Nat) (s : CS) (i : Int) (W : World) (h : Held W p b1 b2 s) :
    Calls Try.prog 24 #[.pointer (some ⟨p, 0, none⟩), .int .i64 i] W fun e W' => e = .returned (.int .i64 (s.load i).1) ∧ Held W' p b1 b2 (s.load i).2 ∧ Touch W W' p b1 b2 := by
  have c1 : W.cell? ⟨p, 1, none⟩ = some (.slice (some ⟨b1, 0, none⟩) s.cells.length s.cells.length) := h.hp.cell 1
  have H := Lib.hid h
  clear h
  by_cases hi : 0 ≤ i ∧ i < s.cells.length
  · have HI := Lib.hid hi
    have er : s.load i = (s.cells.getD i.toNat 0, { s with shared := wrap64 (s.shared + 1) }) := if_pos hi
    rw [er]
    clear hi er
    go_enter Try.func24, Try.ntmps24
    go_wp2_with (go_at_call 37; refine (spot_in p b1 _ _ i s.shared _ W H.out.hp HI.out.1 HI.out.2).mono ?_; rintro e w1 ⟨rfl, rfl⟩; have e1 := (H.out.shared (wrap64 (s.shared + 1))).cellAt i HI.out)
    go_ret
    exact ⟨rfl, H.out.shared _, (Touch.refl W p b1 b2).set _ (.inl rfl) _⟩
  · have HI := Lib.hid hi
    have er : s.load i = (0, s) := if_neg hi
    rw [er]
    clear hi er
    go_enter Try.func24, Try.ntmps24
    go_wp2_with (go_at_call 37; refine (spot_out p b1 _ _ i W HI.out).mono ?_; rintro e w1 ⟨rfl, rfl⟩)
    go_ret
    exact ⟨rfl, H.out, Touch.refl _ p b1 b2⟩
set_option maxHeartbeats 4000000 in
theorem Store_any (p b1 b2 : Nat) (s : CS) (i v : Int) (W : World) (h : Held W p b1 b2 s) :
    Calls Try.prog 29 #[.pointer (some ⟨p, 0, none⟩), .int .i64 i, .int .i64 v] W fun e W' => e = .returned (.tuple #[]) ∧ Held W' p b1 b2 (s.store i v) ∧ Touch W W' p b1 b2 := by
  have c1 : W.cell? ⟨p, 1, none⟩ = some (.slice (some ⟨b1, 0, none⟩) s.cells.length s.cells.length) := h.hp.cell 1
  have H := Lib.hid h
  clear h
  by_cases hi : 0 ≤ i ∧ i < s.cells.length
  · have HI := Lib.hid hi
    have er : s.store i v = { s with shared := wrap64 (s.shared + 1), cells := s.cells.set i.toNat v } := if_pos hi
    rw [er]
    clear hi er
    go_enter Try.func29, Try.ntmps29
    go_wp2_with (go_at_call 37; refine (spot_in p b1 _ _ i s.shared _ W H.out.hp HI.out.1 HI.out.2).mono ?_; rintro e w1 ⟨rfl, rfl⟩; have e1 := (H.out.shared (wrap64 (s.shared + 1))).cellAt i HI.out; have z1 := (H.out.shared (wrap64 (s.shared + 1))).h1.frozen i.toNat)
    go_end0
    exact ⟨rfl, (H.out.shared _).cell _ v, ((Touch.refl W p b1 b2).set _ (.inl rfl) _).set _ (.inr (.inl rfl)) _⟩
  · have HI := Lib.hid hi
    have er : s.store i v = s := if_neg hi
    rw [er]
    clear hi er
    go_enter Try.func29, Try.ntmps29
    go_wp2_with (go_at_call 37; refine (spot_out p b1 _ _ i W HI.out).mono ?_; rintro e w1 ⟨rfl, rfl⟩)
    go_end0
    exact ⟨rfl, H.out, Touch.refl _ p b1 b2⟩
set_option maxHeartbeats 4000000 in
theorem Add_any (p b1 b2 : Nat) (s : CS) (i v : Int) (W : World) (h : Held W p b1 b2 s) :
    Calls Try.prog 23 #[.pointer (some ⟨p, 0, none⟩), .int .i64 i, .int .i64 v] W fun e W' => e = .returned (.int .i64 (s.add i v).1) ∧ Held W' p b1 b2 (s.add i v).2 ∧ Touch W W' p b1 b2 := by
  have c1 : W.cell? ⟨p, 1, none⟩ = some (.slice (some ⟨b1, 0, none⟩) s.cells.length s.cells.length) := h.hp.cell 1
  have H := Lib.hid h
  clear h
  by_cases hi : 0 ≤ i ∧ i < s.cells.length
  · have HI := Lib.hid hi
    have er : s.add i v = (wrap64 (s.cells.getD i.toNat 0 + v), { s with shared := wrap64 (s.shared + 1), cells := s.cells.set i.toNat (wrap64 (s.cells.getD i.toNat 0 + v)) }) := if_pos hi
    rw [er]
    clear hi er
    go_enter Try.func23, Try.ntmps23
    go_wp2_with (go_at_call 37; refine (spot_in p b1 _ _ i s.shared _ W H.out.hp HI.out.1 HI.out.2).mono ?_; rintro e w1 ⟨rfl, rfl⟩; have e1 := (H.out.shared (wrap64 (s.shared + 1))).cellAt i HI.out; have z1 := (H.out.shared (wrap64 (s.shared + 1))).h1.frozen i.toNat)
    go_ret
    exact ⟨rfl, (H.out.shared _).cell _ _, ((Touch.refl W p b1 b2).set _ (.inl rfl) _).set _ (.inr (.inl rfl)) _⟩
  · have HI := Lib.hid hi
    have er : s.add i v = (0, s) := if_neg hi
    rw [er]
    clear hi er
    go_enter Try.func23, Try.ntmps23
    go_wp2_with (go_at_call 37; refine (spot_out p b1 _ _ i W HI.out).mono ?_; rintro e w1 ⟨rfl, rfl⟩)
    go_ret
    exact ⟨rfl, H.out, Touch.refl _ p b1 b2⟩
set_option maxHeartbeats 4000000 in
theorem Swap_any (p b1 b2 : Nat) (s : CS) (i old v : Int) (W : World) (h : Held W p b1 b2 s) :
    Calls Try.prog 30 #[.pointer (some ⟨p, 0, none⟩), .int .i64 i, .int .i64 old, .int .i64 v] W fun e W' => e = .returned (.bool (s.swap i old v).1) ∧ Held W' p b1 b2 (s.swap i old v).2 ∧ Touch W W' p b1 b2 := by
  have c1 : W.cell? ⟨p, 1, none⟩ = some (.slice (some ⟨b1, 0, none⟩) s.cells.length s.cells.length) := h.hp.cell 1
  have H := Lib.hid h
  clear h
  by_cases hi : 0 ≤ i ∧ i < s.cells.length
  · have HI := Lib.hid hi
    by_cases hx : s.cells.getD i.toNat 0 = old
    · have HX := Lib.hid hx
      have er : s.swap i old v = (true, { s with shared := wrap64 (s.shared + 1), cells := s.cells.set i.toNat v }) := by unfold CS.swap; rw [if_pos hi, if_pos hx]
      rw [er]
      clear hi er hx
      go_enter Try.func30, Try.ntmps30
      go_wp2_with (first
        | (go_at_call 37; refine (spot_in p b1 _ _ i s.shared _ W H.out.hp HI.out.1 HI.out.2).mono ?_; rintro e w1 ⟨rfl, rfl⟩; have E1 := Lib.hid (((H.out.shared (wrap64 (s.shared + 1))).cellAt i HI.out).trans (by rw [HX.out])); have Z1 := Lib.hid ((H.out.shared (wrap64 (s.shared + 1))).h1.frozen i.toNat))
        | (go_at_call 42; refine (turn_hit b1 i.toNat old v _ E1.out Z1.out).mono ?_; rintro e w2 ⟨rfl, rfl⟩))
      go_ret
      exact ⟨rfl, (H.out.shared _).cell _ _, ((Touch.refl W p b1 b2).set _ (.inl rfl) _).set _ (.inr (.inl rfl)) _⟩
    · have HX := Lib.hid hx
      have er : s.swap i old v = (false, { s with shared := wrap64 (s.shared + 1) }) := by unfold CS.swap; rw [if_pos hi, if_neg hx]
      rw [er]
      clear hi er hx
      go_enter Try.func30, Try.ntmps30
      go_wp2_with (first
        | (go_at_call 37; refine (spot_in p b1 _ _ i s.shared _ W H.out.hp HI.out.1 HI.out.2).mono ?_; rintro e w1 ⟨rfl, rfl⟩; have E1 := Lib.hid ((H.out.shared (wrap64 (s.shared + 1))).cellAt i HI.out))
        | (go_at_call 42; refine (turn_miss b1 i.toNat _ old v _ E1.out HX.out).mono ?_; rintro e w2 ⟨rfl, rfl⟩))
      go_ret
      exact ⟨rfl, H.out.shared _, (Touch.refl W p b1 b2).set _ (.inl rfl) _⟩
  · have HI := Lib.hid hi
    have er : s.swap i old v = (false, s) := if_neg hi
    rw [er]
    clear hi er
    go_enter Try.func30, Try.ntmps30
    go_wp2_with (first
      | (go_at_call 37; refine (spot_out p b1 _ _ i W HI.out).mono ?_; rintro e w1 ⟨rfl, rfl⟩)
      | (go_at_call 42; refine (turn_nil old v _).mono ?_; rintro e w2 ⟨rfl, rfl⟩))
    go_ret
    exact ⟨rfl, H.out, Touch.refl _ p b1 b2⟩
set_option maxHeartbeats 4000000 in
theorem Owner_any (p b1 b2 : Nat) (s : CS) (i : Int) (W : World) (h : Held W p b1 b2 s) :
    Calls Try.prog 31 #[.pointer (some ⟨p, 0, none⟩), .int .i64 i] W fun e W' => e = .returned (.int .i64 (s.owner i)) ∧ W' = W := by
  have c1 : W.cell? ⟨p, 2, none⟩ = some (.slice (some ⟨b2, 0, none⟩) s.owners.length s.owners.length) := h.hp.cell 2
  by_cases hi : 0 ≤ i ∧ i < s.owners.length
  · have e1 := h.ownerAt i hi
    have er : s.owner i = s.owners.getD i.toNat 0 := if_pos hi
    rw [er]
    obtain ⟨x, hx⟩ : ∃ x, s.owners.getD i.toNat 0 = x := ⟨_, rfl⟩
    rw [hx] at e1 ⊢
    clear hx
    have q0 : decide (i < 0) = false := decide_eq_false (by omega)
    have q1 : decide ((s.owners.length : Int) ≤ i) = false := decide_eq_false (by omega)
    have p0 : decide (0 ≤ i) = true := decide_eq_true hi.1
    have p1 : decide (i < (s.owners.length : Int)) = true := decide_eq_true hi.2
    have p2 := eq_true hi.1
    have p3 := eq_true hi.2
    clear hi er h
    go_enter Try.func31, Try.ntmps31
    go_wp2
    go_ret
    exact ⟨rfl, rfl⟩
  · have er : s.owner i = -1 := if_neg hi
    rw [er]
    by_cases h0 : i < 0
    · have q0 : decide (i < 0) = true := decide_eq_true h0
      clear hi er h h0
      go_enter Try.func31, Try.ntmps31
      go_wp2
      go_ret
      exact ⟨rfl, rfl⟩
    · have q0 : decide (i < 0) = false := decide_eq_false h0
      have q1 : decide ((s.owners.length : Int) ≤ i) = true := decide_eq_true (by omega)
      clear hi er h h0
      go_enter Try.func31, Try.ntmps31
      go_wp2
      go_ret
      exact ⟨rfl, rfl⟩
set_option maxHeartbeats 4000000 in
theorem Shared_any (p b1 b2 : Nat) (s : CS) (W : World) (h : Held W p b1 b2 s) :
    Calls Try.prog 28 #[.pointer (some ⟨p, 0, none⟩)] W fun e W' => e = .returned (.int .i64 s.shared) ∧ W' = W := by
  have hc : W.cell? ⟨p, 0, none⟩ = some (.int .i64 s.shared) := h.hp.cell 0
  have hload := run_call_load (P := Try.prog) Try.func46 (by kernel_rfl) (by kernel_rfl) (by kernel_rfl) .i64 (by kernel_rfl) hc
  clear hc h
  go_enter Try.func28, Try.ntmps28
  go_wp2
  go_ret
  exact ⟨rfl, rfl⟩
set_option maxHeartbeats 4000000 in
theorem Lock_any (p b1 b2 : Nat) (s : CS) (i who : Int) (W : World) (h : Held W p b1 b2 s) :
    Calls Try.prog 32 #[.pointer (some ⟨p, 0, none⟩), .int .i64 i, .int .i64 who] W fun e W' => e = .returned (.bool (s.lock i who).1) ∧ Held W' p b1 b2 (s.lock i who).2 ∧ Touch W W' p b1 b2 := by
  have c1 : W.cell? ⟨p, 2, none⟩ = some (.slice (some ⟨b2, 0, none⟩) s.owners.length s.owners.length) := h.hp.cell 2
  have H := Lib.hid h
  clear h
  by_cases hi : 0 ≤ i ∧ i < s.owners.length
  · have HI := Lib.hid hi
    by_cases hw : 0 ≤ who
    · have q0 : decide (0 ≤ who) = true := decide_eq_true hw
      by_cases hx : s.owners.getD i.toNat 0 = (-1)
      · have HX := Lib.hid hx
        have er : s.lock i who = (true, { s with shared := wrap64 (s.shared + 1), owners := s.owners.set i.toNat who }) := by unfold CS.lock CS.turn; rw [if_pos hi, if_pos ⟨hw, hx⟩]
        rw [er]
        clear hi er hx hw
        go_enter Try.func32, Try.ntmps32
        go_wp2_with (first
          | (go_at_call 37; refine (spot_in p b2 _ _ i s.shared _ W H.out.hp HI.out.1 HI.out.2).mono ?_; rintro e w1 ⟨rfl, rfl⟩; have E1 := Lib.hid (((H.out.shared (wrap64 (s.shared + 1))).ownerAt i HI.out).trans (by rw [HX.out])); have Z1 := Lib.hid ((H.out.shared (wrap64 (s.shared + 1))).h2.frozen i.toNat))
          | (go_at_call 42; refine (turn_hit b2 i.toNat (-1) who _ E1.out Z1.out).mono ?_; rintro e w2 ⟨rfl, rfl⟩))
        go_ret
        exact ⟨rfl, (H.out.shared _).owner _ _, ((Touch.refl W p b1 b2).set _ (.inl rfl) _).set _ (.inr (.inr rfl)) _⟩
      · have HX := Lib.hid hx
        have er : s.lock i who = (false, { s with shared := wrap64 (s.shared + 1) }) := by unfold CS.lock CS.turn; rw [if_pos hi, if_neg (fun h => hx h.2)]
        rw [er]
        clear hi er hx hw
        go_enter Try.func32, Try.ntmps32
        go_wp2_with (first
          | (go_at_call 37; refine (spot_in p b2 _ _ i s.shared _ W H.out.hp HI.out.1 HI.out.2).mono ?_; rintro e w1 ⟨rfl, rfl⟩; have E1 := Lib.hid ((H.out.shared (wrap64 (s.shared + 1))).ownerAt i HI.out))
          | (go_at_call 42; refine (turn_miss b2 i.toNat _ (-1) who _ E1.out HX.out).mono ?_; rintro e w2 ⟨rfl, rfl⟩))
        go_ret
        exact ⟨rfl, H.out.shared _, (Touch.refl W p b1 b2).set _ (.inl rfl) _⟩
    · have q0 : decide (0 ≤ who) = false := decide_eq_false hw
      have er : s.lock i who = (false, { s with shared := wrap64 (s.shared + 1) }) := by unfold CS.lock CS.turn; rw [if_pos hi, if_neg (fun h => hw h.1)]
      rw [er]
      clear hi er hw
      go_enter Try.func32, Try.ntmps32
      go_wp2_with (go_at_call 37; refine (spot_in p b2 _ _ i s.shared _ W H.out.hp HI.out.1 HI.out.2).mono ?_; rintro e w1 ⟨rfl, rfl⟩)
      go_ret
      exact ⟨rfl, H.out.shared _, (Touch.refl W p b1 b2).set _ (.inl rfl) _⟩
  · have HI := Lib.hid hi
    have er : s.lock i who = (false, s) := if_neg hi
    rw [er]
    clear hi er
    by_cases hw : 0 ≤ who
    · have q0 : decide (0 ≤ who) = true := decide_eq_true hw
      clear hw
      go_enter Try.func32, Try.ntmps32
      go_wp2_with (first
        | (go_at_call 37; refine (spot_out p b2 _ _ i W HI.out).mono ?_; rintro e w1 ⟨rfl, rfl⟩)
        | (go_at_call 42; refine (turn_nil _ _ _).mono ?_; rintro e w2 ⟨rfl, rfl⟩))
      go_ret
      exact ⟨rfl, H.out, Touch.refl _ p b1 b2⟩
    · have q0 : decide (0 ≤ who) = false := decide_eq_false hw
      clear hw
      go_enter Try.func32, Try.ntmps32
      go_wp2_with (go_at_call 37; refine (spot_out p b2 _ _ i W HI.out).mono ?_; rintro e w1 ⟨rfl, rfl⟩)
      go_ret
      exact ⟨rfl, H.out, Touch.refl _ p b1 b2⟩
set_option maxHeartbeats 4000000 in
theorem Unlock_any (p b1 b2 : Nat) (s : CS) (i who : Int) (W : World) (h : Held W p b1 b2 s) :
    Calls Try.prog 33 #[.pointer (some ⟨p, 0, none⟩), .int .i64 i, .int .i64 who] W fun e W' => e = .returned (.bool (s.unlock i who).1) ∧ Held W' p b1 b2 (s.unlock i who).2 ∧ Touch W W' p b1 b2 := by
  have c1 : W.cell? ⟨p, 2, none⟩ = some (.slice (some ⟨b2, 0, none⟩) s.owners.length s.owners.length) := h.hp.cell 2
  have H := Lib.hid h
  clear h
  by_cases hi : 0 ≤ i ∧ i < s.owners.length
  · have HI := Lib.hid hi
    by_cases hw : 0 ≤ who
    · have q0 : decide (0 ≤ who) = true := decide_eq_true hw
      by_cases hx : s.owners.getD i.toNat 0 = who
      · have HX := Lib.hid hx
        have er : s.unlock i who = (true, { s with shared := wrap64 (s.shared + 1), owners := s.owners.set i.toNat (-1) }) := by unfold CS.unlock CS.turn; rw [if_pos hi, if_pos ⟨hw, hx⟩]
        rw [er]
        clear hi er hx hw
        go_enter Try.func33, Try.ntmps33
        go_wp2_with (first
          | (go_at_call 37; refine (spot_in p b2 _ _ i s.shared _ W H.out.hp HI.out.1 HI.out.2).mono ?_; rintro e w1 ⟨rfl, rfl⟩; have E1 := Lib.hid (((H.out.shared (wrap64 (s.shared + 1))).ownerAt i HI.out).trans (by rw [HX.out])); have Z1 := Lib.hid ((H.out.shared (wrap64 (s.shared + 1))).h2.frozen i.toNat))
          | (go_at_call 42; refine (turn_hit b2 i.toNat who (-1) _ E1.out Z1.out).mono ?_; rintro e w2 ⟨rfl, rfl⟩))
        go_ret
        exact ⟨rfl, (H.out.shared _).owner _ _, ((Touch.refl W p b1 b2).set _ (.inl rfl) _).set _ (.inr (.inr rfl)) _⟩
      · have HX := Lib.hid hx
        have er : s.unlock i who = (false, { s with shared := wrap64 (s.shared + 1) }) := by unfold CS.unlock CS.turn; rw [if_pos hi, if_neg (fun h => hx h.2)]
        rw [er]
        clear hi er hx hw
        go_enter Try.func33, Try.ntmps33
        go_wp2_with (first
          | (go_at_call 37; refine (spot_in p b2 _ _ i s.shared _ W H.out.hp HI.out.1 HI.out.2).mono ?_; rintro e w1 ⟨rfl, rfl⟩; have E1 := Lib.hid ((H.out.shared (wrap64 (s.shared + 1))).ownerAt i HI.out))
          | (go_at_call 42; refine (turn_miss b2 i.toNat _ who (-1) _ E1.out HX.out).mono ?_; rintro e w2 ⟨rfl, rfl⟩))
        go_ret
        exact ⟨rfl, H.out.shared _, (Touch.refl W p b1 b2).set _ (.inl rfl) _⟩
    · have q0 : decide (0 ≤ who) = false := decide_eq_false hw
      have er : s.unlock i who = (false, { s with shared := wrap64 (s.shared + 1) }) := by unfold CS.unlock CS.turn; rw [if_pos hi, if_neg (fun h => hw h.1)]
      rw [er]
      clear hi er hw
      go_enter Try.func33, Try.ntmps33
      go_wp2_with (go_at_call 37; refine (spot_in p b2 _ _ i s.shared _ W H.out.hp HI.out.1 HI.out.2).mono ?_; rintro e w1 ⟨rfl, rfl⟩)
      go_ret
      exact ⟨rfl, H.out.shared _, (Touch.refl W p b1 b2).set _ (.inl rfl) _⟩
  · have HI := Lib.hid hi
    have er : s.unlock i who = (false, s) := if_neg hi
    rw [er]
    clear hi er
    by_cases hw : 0 ≤ who
    · have q0 : decide (0 ≤ who) = true := decide_eq_true hw
      clear hw
      go_enter Try.func33, Try.ntmps33
      go_wp2_with (first
        | (go_at_call 37; refine (spot_out p b2 _ _ i W HI.out).mono ?_; rintro e w1 ⟨rfl, rfl⟩)
        | (go_at_call 42; refine (turn_nil _ _ _).mono ?_; rintro e w2 ⟨rfl, rfl⟩))
      go_ret
      exact ⟨rfl, H.out, Touch.refl _ p b1 b2⟩
    · have q0 : decide (0 ≤ who) = false := decide_eq_false hw
      clear hw
      go_enter Try.func33, Try.ntmps33
      go_wp2_with (go_at_call 37; refine (spot_out p b2 _ _ i W HI.out).mono ?_; rintro e w1 ⟨rfl, rfl⟩)
      go_ret
      exact ⟨rfl, H.out, Touch.refl _ p b1 b2⟩
def CS.act (s : CS) (k i a b : Int) : (Int × Bool) × CS :=
  if k = 0 then (((s.load i).1, false), (s.load i).2) else if k = 1 then ((0, false), s.store i a) else if k = 2 then (((s.add i a).1, false), (s.add i a).2) else if k = 3 then ((0, (s.swap i a b).1), (s.swap i a b).2)
  else if k = 4 then ((0, (s.lock i a).1), (s.lock i a).2) else if k = 5 then ((0, (s.unlock i a).1), (s.unlock i a).2) else ((s.owner i, false), s)
theorem w14s {x : Int} (h : -1000000000 ≤ x ∧ x ≤ 1000000000) : wrap64 x = x := by unfold wrap64; omega
theorem act_len (s : CS) (k i a b : Int) : (s.act k i a b).2.cells.length = s.cells.length ∧ (s.act k i a b).2.owners.length = s.owners.length := by
  unfold CS.act CS.load CS.store CS.add CS.swap CS.lock CS.unlock CS.turn
  repeat' split
  all_goals simp
theorem getD_same (l : List Int) (i : Nat) (h : i < l.length) (v : Int) : (l.set i v).getD i 0 = v := by
  rw [List.getD_eq_getElem?_getD, List.getElem?_set_self h]; rfl
theorem act_own (s : CS) (k i a b : Int) (h : ∀ j, j < s.owners.length → -1 ≤ s.owners.getD j 0) : ∀ j, j < (s.act k i a b).2.owners.length → -1 ≤ (s.act k i a b).2.owners.getD j 0 := by
  have hs : ∀ (v : Int) (m : Nat), -1 ≤ v → ∀ j, j < (s.owners.set m v).length → -1 ≤ (s.owners.set m v).getD j 0 := fun v m hv j hj => by
    rw [List.length_set] at hj
    by_cases e : m = j
    · subst e; rw [getD_same _ _ hj]; exact hv
    · rw [List.getD_eq_getElem?_getD, List.getElem?_set_ne e, ← List.getD_eq_getElem?_getD]; exact h j hj
  unfold CS.act CS.load CS.store CS.add CS.swap CS.lock CS.unlock CS.turn
  repeat' split
  all_goals first | exact h | exact hs _ _ (by omega)
theorem Touch.alloc {W W' : World} {p b1 b2 : Nat} (h : Touch W W' p b1 b2) (o : Obj) : Touch W (W'.alloc o) p b1 b2 :=
  ⟨fun B h0 h1 h2 h3 => (h.below B h0 h1 h2 h3).alloc (Nat.le_trans h3 h.size) o, fun i h0 h1 h2 h3 => (Below.heap_alloc W' o i (Nat.lt_of_lt_of_le h0 h.size)).trans (h.far i h0 h1 h2 h3)⟩
theorem Touch.fresh {W W' : World} {p b1 b2 : Nat} (h : Touch W W' p b1 b2) (a : Addr) (ha : W.heap.size ≤ a.block) (v : Value) : Touch W (W'.setCell a v) p b1 b2 :=
  ⟨fun B h0 h1 h2 h3 => (h.below B h0 h1 h2 h3).setCell (Nat.le_trans h3 ha) v, fun i h0 h1 h2 h3 => (Below.heap_setCell W' a v i (by omega)).trans (h.far i h0 h1 h2 h3)⟩
theorem Touch.drew {W W' : World} {p b1 b2 : Nat} (h : Touch W W' p b1 b2) : Touch W W'.drew p b1 b2 := ⟨fun B h0 h1 h2 h3 => (h.below B h0 h1 h2 h3).drew, h.far⟩
theorem Held.alloc {W : World} {p b1 b2 : Nat} {s : CS} (h : Held W p b1 b2 s) (o : Obj) : Held (W.alloc o) p b1 b2 s := ⟨h.hp.alloc o, h.h1.alloc o, h.h2.alloc o, h.ne, h.n1, h.n2⟩
theorem Held.other {W : World} {p b1 b2 : Nat} {s : CS} (h : Held W p b1 b2 s) (a : Addr) (h0 : a.block ≠ p) (h1 : a.block ≠ b1) (h2 : a.block ≠ b2) (v : Value) : Held (W.setCell a v) p b1 b2 s := ⟨h.hp.far a h0 v, h.h1.far a h1 v, h.h2.far a h2 v, h.ne, h.n1, h.n2⟩
set_option maxRecDepth 100000 in
set_option maxHeartbeats 8000000 in
theorem do_any (p b1 b2 : Nat) (s : CS) (k i a b : Int) (W : World) (h : Held W p b1 b2 s) :
    Calls Try.prog 26 #[.pointer (some ⟨p, 0, none⟩), .agg #[.int .i64 k, .int .i64 i, .int .i64 a, .int .i64 b]] W fun e W' => e = .returned (.agg #[.int .i64 (s.act k i a b).1.1, .bool (s.act k i a b).1.2]) ∧ Held W' p b1 b2 (s.act k i a b).2 ∧ Touch W W' p b1 b2 := by
  have hl := h.hp.lt
  have hl1 := h.h1.lt
  have hl2 := h.h2.lt
  obtain ⟨Ob, hOb⟩ : ∃ Ob : Obj, Obj.cells #[.int .i64 k, .int .i64 i, .int .i64 a, .int .i64 b] 47 = Ob := ⟨_, rfl⟩
  have H0 := (h.alloc (.cells #[.int .i64 k, .int .i64 i, .int .i64 a, .int .i64 b] 47)).alloc (.cells #[.int .i64 0, .bool false] 44)
  have T0 := ((Touch.refl W p b1 b2).alloc (.cells #[.int .i64 k, .int .i64 i, .int .i64 a, .int .i64 b] 47)).alloc (.cells #[.int .i64 0, .bool false] 44)
  have B1 := Blk.new (W.alloc (.cells #[.int .i64 k, .int .i64 i, .int .i64 a, .int .i64 b] 47)) 44 [.int .i64 0, .bool false]
  simp only [World.size_alloc] at B1
  have HW := Lib.hid h
  have HH := Lib.hid H0
  have HT := Lib.hid T0
  have HB1 := Lib.hid B1
  have HL := Lib.hid (show p < W.heap.size ∧ b1 < W.heap.size ∧ b2 < W.heap.size from ⟨hl, hl1, hl2⟩)
  clear H0 T0 B1 h hl hl1 hl2 hOb Ob
  by_cases h0 : k = 0
  · have er : s.act k i a b = (((s.load i).1, false), (s.load i).2) := by unfold CS.act; rw [if_pos h0]
    rw [er]
    have e0 : (k == 0) = true := beq_iff_eq.mpr h0
    clear er h0
    go_enter Try.func26, Try.ntmps26
    go_wp2_with (go_at_call 24; refine (Load_any p b1 b2 s i _ HH.out).mono ?_; rintro e w1 ⟨rfl, hh, ht⟩; have HB2 := Lib.hid (ht.blk HB1.out (by have := HL.out; omega) (by have := HL.out; omega) (by have := HL.out; omega)); have HH1 := Lib.hid hh; have HT1 := Lib.hid (HT.out.trans ht); clear hh ht; have g0 := HB2.out.cell 0; have g1 := HB2.out.cell 1; have z0 := HB2.out.frozen 0; have z1 := HB2.out.frozen 1)
    have hF := blk_putL (blk_putL HB2.out 0 (.int .i64 (s.load i).1)) 1 (.bool false)
    have f0 := hF.cell 0
    have f1 := hF.cell 1
    refine bodyPost_ret (v := .agg #[.int .i64 (s.load i).1, .bool false]) (by simp [results, Try.f26, go_sem, f0, f1]) rfl ⟨rfl, ?_, ?_⟩
    · exact (HH1.out.other _ (by have := HL.out; show W.heap.size + 1 ≠ _; omega) (by have := HL.out; show W.heap.size + 1 ≠ _; omega) (by have := HL.out; show W.heap.size + 1 ≠ _; omega) _).other _ (by have := HL.out; show W.heap.size + 1 ≠ _; omega) (by have := HL.out; show W.heap.size + 1 ≠ _; omega) (by have := HL.out; show W.heap.size + 1 ≠ _; omega) _
    · exact (HT1.out.fresh _ (by show W.heap.size ≤ W.heap.size + 1; omega) _).fresh _ (by show W.heap.size ≤ W.heap.size + 1; omega) _
  by_cases h1 : k = 1
  · have er : s.act k i a b = ((0, false), s.store i a) := by unfold CS.act; rw [if_neg h0]; rw [if_pos h1]
    rw [er]
    have e0 : (k == 0) = false := beq_eq_false_iff_ne.mpr h0
    have e1 : (k == 1) = true := beq_iff_eq.mpr h1
    clear er h0 h1
    go_enter Try.func26, Try.ntmps26
    go_wp2_with (go_at_call 29; refine (Store_any p b1 b2 s i a _ HH.out).mono ?_; rintro e w1 ⟨rfl, hh, ht⟩; have HB2 := Lib.hid (ht.blk HB1.out (by have := HL.out; omega) (by have := HL.out; omega) (by have := HL.out; omega)); have HH1 := Lib.hid hh; have HT1 := Lib.hid (HT.out.trans ht); clear hh ht; have g0 := HB2.out.cell 0; have g1 := HB2.out.cell 1; have z0 := HB2.out.frozen 0; have z1 := HB2.out.frozen 1)
    have hF := blk_putL (blk_putL HB2.out 0 (.int .i64 0)) 1 (.bool false)
    have f0 := hF.cell 0
    have f1 := hF.cell 1
    refine bodyPost_ret (v := .agg #[.int .i64 0, .bool false]) (by simp [results, Try.f26, go_sem, f0, f1]) rfl ⟨rfl, ?_, ?_⟩
    · exact (HH1.out.other _ (by have := HL.out; show W.heap.size + 1 ≠ _; omega) (by have := HL.out; show W.heap.size + 1 ≠ _; omega) (by have := HL.out; show W.heap.size + 1 ≠ _; omega) _).other _ (by have := HL.out; show W.heap.size + 1 ≠ _; omega) (by have := HL.out; show W.heap.size + 1 ≠ _; omega) (by have := HL.out; show W.heap.size + 1 ≠ _; omega) _
    · exact (HT1.out.fresh _ (by show W.heap.size ≤ W.heap.size + 1; omega) _).fresh _ (by show W.heap.size ≤ W.heap.size + 1; omega) _
  by_cases h2 : k = 2
  · have er : s.act k i a b = (((s.add i a).1, false), (s.add i a).2) := by unfold CS.act; rw [if_neg h0]; rw [if_neg h1]; rw [if_pos h2]
    rw [er]
    have e0 : (k == 0) = false := beq_eq_false_iff_ne.mpr h0
    have e1 : (k == 1) = false := beq_eq_false_iff_ne.mpr h1
    have e2 : (k == 2) = true := beq_iff_eq.mpr h2
    clear er h0 h1 h2
    go_enter Try.func26, Try.ntmps26
    go_wp2_with (go_at_call 23; refine (Add_any p b1 b2 s i a _ HH.out).mono ?_; rintro e w1 ⟨rfl, hh, ht⟩; have HB2 := Lib.hid (ht.blk HB1.out (by have := HL.out; omega) (by have := HL.out; omega) (by have := HL.out; omega)); have HH1 := Lib.hid hh; have HT1 := Lib.hid (HT.out.trans ht); clear hh ht; have g0 := HB2.out.cell 0; have g1 := HB2.out.cell 1; have z0 := HB2.out.frozen 0; have z1 := HB2.out.frozen 1)
    have hF := blk_putL (blk_putL HB2.out 0 (.int .i64 (s.add i a).1)) 1 (.bool false)
    have f0 := hF.cell 0
    have f1 := hF.cell 1
    refine bodyPost_ret (v := .agg #[.int .i64 (s.add i a).1, .bool false]) (by simp [results, Try.f26, go_sem, f0, f1]) rfl ⟨rfl, ?_, ?_⟩
    · exact (HH1.out.other _ (by have := HL.out; show W.heap.size + 1 ≠ _; omega) (by have := HL.out; show W.heap.size + 1 ≠ _; omega) (by have := HL.out; show W.heap.size + 1 ≠ _; omega) _).other _ (by have := HL.out; show W.heap.size + 1 ≠ _; omega) (by have := HL.out; show W.heap.size + 1 ≠ _; omega) (by have := HL.out; show W.heap.size + 1 ≠ _; omega) _
    · exact (HT1.out.fresh _ (by show W.heap.size ≤ W.heap.size + 1; omega) _).fresh _ (by show W.heap.size ≤ W.heap.size + 1; omega) _
  by_cases h3 : k = 3
  · have er : s.act k i a b = ((0, (s.swap i a b).1), (s.swap i a b).2) := by unfold CS.act; rw [if_neg h0]; rw [if_neg h1]; rw [if_neg h2]; rw [if_pos h3]
    rw [er]
    have e0 : (k == 0) = false := beq_eq_false_iff_ne.mpr h0
    have e1 : (k == 1) = false := beq_eq_false_iff_ne.mpr h1
    have e2 : (k == 2) = false := beq_eq_false_iff_ne.mpr h2
    have e3 : (k == 3) = true := beq_iff_eq.mpr h3
    clear er h0 h1 h2 h3
    go_enter Try.func26, Try.ntmps26
    go_wp2_with (go_at_call 30; refine (Swap_any p b1 b2 s i a b _ HH.out).mono ?_; rintro e w1 ⟨rfl, hh, ht⟩; have HB2 := Lib.hid (ht.blk HB1.out (by have := HL.out; omega) (by have := HL.out; omega) (by have := HL.out; omega)); have HH1 := Lib.hid hh; have HT1 := Lib.hid (HT.out.trans ht); clear hh ht; have g0 := HB2.out.cell 0; have g1 := HB2.out.cell 1; have z0 := HB2.out.frozen 0; have z1 := HB2.out.frozen 1)
    have hF := blk_putL (blk_putL HB2.out 0 (.int .i64 0)) 1 (.bool (s.swap i a b).1)
    have f0 := hF.cell 0
    have f1 := hF.cell 1
    refine bodyPost_ret (v := .agg #[.int .i64 0, .bool (s.swap i a b).1]) (by simp [results, Try.f26, go_sem, f0, f1]) rfl ⟨rfl, ?_, ?_⟩
    · exact (HH1.out.other _ (by have := HL.out; show W.heap.size + 1 ≠ _; omega) (by have := HL.out; show W.heap.size + 1 ≠ _; omega) (by have := HL.out; show W.heap.size + 1 ≠ _; omega) _).other _ (by have := HL.out; show W.heap.size + 1 ≠ _; omega) (by have := HL.out; show W.heap.size + 1 ≠ _; omega) (by have := HL.out; show W.heap.size + 1 ≠ _; omega) _
    · exact (HT1.out.fresh _ (by show W.heap.size ≤ W.heap.size + 1; omega) _).fresh _ (by show W.heap.size ≤ W.heap.size + 1; omega) _
  by_cases h4 : k = 4
  · have er : s.act k i a b = ((0, (s.lock i a).1), (s.lock i a).2) := by unfold CS.act; rw [if_neg h0]; rw [if_neg h1]; rw [if_neg h2]; rw [if_neg h3]; rw [if_pos h4]
    rw [er]
    have e0 : (k == 0) = false := beq_eq_false_iff_ne.mpr h0
    have e1 : (k == 1) = false := beq_eq_false_iff_ne.mpr h1
    have e2 : (k == 2) = false := beq_eq_false_iff_ne.mpr h2
    have e3 : (k == 3) = false := beq_eq_false_iff_ne.mpr h3
    have e4 : (k == 4) = true := beq_iff_eq.mpr h4
    clear er h0 h1 h2 h3 h4
    go_enter Try.func26, Try.ntmps26
    go_wp2_with (go_at_call 32; refine (Lock_any p b1 b2 s i a _ HH.out).mono ?_; rintro e w1 ⟨rfl, hh, ht⟩; have HB2 := Lib.hid (ht.blk HB1.out (by have := HL.out; omega) (by have := HL.out; omega) (by have := HL.out; omega)); have HH1 := Lib.hid hh; have HT1 := Lib.hid (HT.out.trans ht); clear hh ht; have g0 := HB2.out.cell 0; have g1 := HB2.out.cell 1; have z0 := HB2.out.frozen 0; have z1 := HB2.out.frozen 1)
    have hF := blk_putL (blk_putL HB2.out 0 (.int .i64 0)) 1 (.bool (s.lock i a).1)
    have f0 := hF.cell 0
    have f1 := hF.cell 1
    refine bodyPost_ret (v := .agg #[.int .i64 0, .bool (s.lock i a).1]) (by simp [results, Try.f26, go_sem, f0, f1]) rfl ⟨rfl, ?_, ?_⟩
    · exact (HH1.out.other _ (by have := HL.out; show W.heap.size + 1 ≠ _; omega) (by have := HL.out; show W.heap.size + 1 ≠ _; omega) (by have := HL.out; show W.heap.size + 1 ≠ _; omega) _).other _ (by have := HL.out; show W.heap.size + 1 ≠ _; omega) (by have := HL.out; show W.heap.size + 1 ≠ _; omega) (by have := HL.out; show W.heap.size + 1 ≠ _; omega) _
    · exact (HT1.out.fresh _ (by show W.heap.size ≤ W.heap.size + 1; omega) _).fresh _ (by show W.heap.size ≤ W.heap.size + 1; omega) _
  by_cases h5 : k = 5
  · have er : s.act k i a b = ((0, (s.unlock i a).1), (s.unlock i a).2) := by unfold CS.act; rw [if_neg h0]; rw [if_neg h1]; rw [if_neg h2]; rw [if_neg h3]; rw [if_neg h4]; rw [if_pos h5]
    rw [er]
    have e0 : (k == 0) = false := beq_eq_false_iff_ne.mpr h0
    have e1 : (k == 1) = false := beq_eq_false_iff_ne.mpr h1
    have e2 : (k == 2) = false := beq_eq_false_iff_ne.mpr h2
    have e3 : (k == 3) = false := beq_eq_false_iff_ne.mpr h3
    have e4 : (k == 4) = false := beq_eq_false_iff_ne.mpr h4
    have e5 : (k == 5) = true := beq_iff_eq.mpr h5
    clear er h0 h1 h2 h3 h4 h5
    go_enter Try.func26, Try.ntmps26
    go_wp2_with (go_at_call 33; refine (Unlock_any p b1 b2 s i a _ HH.out).mono ?_; rintro e w1 ⟨rfl, hh, ht⟩; have HB2 := Lib.hid (ht.blk HB1.out (by have := HL.out; omega) (by have := HL.out; omega) (by have := HL.out; omega)); have HH1 := Lib.hid hh; have HT1 := Lib.hid (HT.out.trans ht); clear hh ht; have g0 := HB2.out.cell 0; have g1 := HB2.out.cell 1; have z0 := HB2.out.frozen 0; have z1 := HB2.out.frozen 1)
    have hF := blk_putL (blk_putL HB2.out 0 (.int .i64 0)) 1 (.bool (s.unlock i a).1)
    have f0 := hF.cell 0
    have f1 := hF.cell 1
    refine bodyPost_ret (v := .agg #[.int .i64 0, .bool (s.unlock i a).1]) (by simp [results, Try.f26, go_sem, f0, f1]) rfl ⟨rfl, ?_, ?_⟩
    · exact (HH1.out.other _ (by have := HL.out; show W.heap.size + 1 ≠ _; omega) (by have := HL.out; show W.heap.size + 1 ≠ _; omega) (by have := HL.out; show W.heap.size + 1 ≠ _; omega) _).other _ (by have := HL.out; show W.heap.size + 1 ≠ _; omega) (by have := HL.out; show W.heap.size + 1 ≠ _; omega) (by have := HL.out; show W.heap.size + 1 ≠ _; omega) _
    · exact (HT1.out.fresh _ (by show W.heap.size ≤ W.heap.size + 1; omega) _).fresh _ (by show W.heap.size ≤ W.heap.size + 1; omega) _
  have er : s.act k i a b = ((s.owner i, false), s) := by unfold CS.act; rw [if_neg h0, if_neg h1, if_neg h2, if_neg h3, if_neg h4, if_neg h5]
  rw [er]
  have e0 : (k == 0) = false := beq_eq_false_iff_ne.mpr h0
  have e1 : (k == 1) = false := beq_eq_false_iff_ne.mpr h1
  have e2 : (k == 2) = false := beq_eq_false_iff_ne.mpr h2
  have e3 : (k == 3) = false := beq_eq_false_iff_ne.mpr h3
  have e4 : (k == 4) = false := beq_eq_false_iff_ne.mpr h4
  have e5 : (k == 5) = false := beq_eq_false_iff_ne.mpr h5
  clear er h0 h1 h2 h3 h4 h5
  go_enter Try.func26, Try.ntmps26
  go_wp2_with (go_at_call 31; refine (Owner_any p b1 b2 s i _ HH.out).mono ?_; rintro e w1 ⟨rfl, rfl⟩; have g0 := HB1.out.cell 0; have g1 := HB1.out.cell 1; have z0 := HB1.out.frozen 0; have z1 := HB1.out.frozen 1)
  have hF := Blk.new (W.alloc (.cells #[.int .i64 k, .int .i64 i, .int .i64 a, .int .i64 b] 47)) 44 [.int .i64 (s.owner i), .bool false]
  simp only [World.size_alloc] at hF
  have f0 := hF.cell 0
  have f1 := hF.cell 1
  refine bodyPost_ret (v := .agg #[.int .i64 (s.owner i), .bool false]) (by simp [results, Try.f26, go_sem, f0, f1]) rfl ⟨rfl, ?_, ?_⟩
  · exact (HW.out.alloc _).alloc _
  · exact ((Touch.refl W p b1 b2).alloc _).alloc _
end

-- NOT PRINTED: function 37 (cells_Cells_spot)

-- NOT PRINTED: function 23 (cells_Cells_Add)

-- NOT PRINTED: function 24 (cells_Cells_Load)

-- NOT PRINTED: function 42 (cells_turn)

-- NOT PRINTED: function 30 (cells_Cells_Swap)

-- NOT PRINTED: function 31 (cells_Cells_Owner)

-- NOT PRINTED: function 32 (cells_Cells_Lock)

-- NOT PRINTED: function 33 (cells_Cells_Unlock)

end Go.Proofs.Ythecbaeemmejpaa.P
