/- Each Go function that the laws reach, as a plain function, with the proof that the machine's call comes to what it says; of a law: its row. Made by a program of this seat (wip/hp.py, over the print). -/
import Derived.Test.YtbbgeobnjdgpfaaGreatPx0
import Derived.Test.YtbbgeobnjdgpfaaGreatPx1
import Derived.Test.YtbbgeobnjdgpfaaGreatPx2
import Derived.Test.YtbbgeobnjdgpfaaGreatPx3
import Derived.Test.YtbbgeobnjdgpfaaGreatPx6
import Derived.Test.YtbbgeobnjdgpfaaGreatPx7
namespace Go.Proofs.YtbbgeobnjdgpfaaGreat.P
open Go.RowKit Go.Proofs.YtbbgeobnjdgpfaaGreatW.PrintWords Go.Proofs.YtbbgeobnjdgpfaaGreatW.PrintLast Go.Proofs.YtbbgeobnjdgpfaaGreatW.PrintMore
attribute [local go_sem] max2_int min2_int max_two min_two max_three min_three max_four min_four   -- for this text's walks alone
set_option linter.unusedVariables false
set_option linter.unusedSimpArgs false

/-! ### gangplanklaw18_WorldApart: function 3 -/
section
open Go.Shelf Go.Proofs.YtbbgeobnjdgpfaaGreat.Hand
/-- Tables in memory, row after row, behind block g: each lies in blocks that are ok. -/
structure Tab (W : World) (ok : Nat → Prop) (g : Nat) (ts : List (List S97)) : Prop where
  ex : ∃ vals : List Value, Blk W g 43 vals ∧ ts.length ≤ vals.length ∧ ∀ j, j < ts.length → ∃ v, vals[j]? = some v ∧ Kd.V k97 97 W 0 ok v (ts.getD j [])
theorem Tab.below {W W' : World} {ok : Nat → Prop} {g : Nat} {ts : List (List S97)} (h : Tab W ok g ts) (hb : Below W.heap.size W W') : Tab W' ok g ts := by
  obtain ⟨vals, hB, hl, hv⟩ := h.ex
  refine ⟨vals, hB.below hb, hl, fun j hj => ?_⟩
  obtain ⟨v, h1, h2⟩ := hv j hj
  exact ⟨v, h1, Kd.V_below h2 hb⟩
theorem Tab.step {W W' : World} {ok : Nat → Prop} {g : Nat} {ts : List (List S97)} (h : Tab W ok g ts) (hg : W'.heap[g]? = W.heap[g]?) (hk : ∀ k, ok k → k < W.heap.size → W'.heap[k]? = W.heap[k]?) : Tab W' ok g ts := by
  obtain ⟨vals, hB, hl, hv⟩ := h.ex
  refine ⟨vals, hg.trans hB, hl, fun j hj => ?_⟩
  obtain ⟨v, h1, h2⟩ := hv j hj
  exact ⟨v, h1, Kd.V_step h2 hk⟩
theorem Tab.blk {W : World} {ok : Nat → Prop} {g : Nat} {ts : List (List S97)} (h : Tab W ok g ts) : ∃ vals, Blk W g 43 vals := by
  obtain ⟨vals, hB, _⟩ := h.ex
  exact ⟨vals, hB⟩
theorem Tab.at {W : World} {ok : Nat → Prop} {g : Nat} {ts : List (List S97)} (h : Tab W ok g ts) (k : Nat) (hk : k < ts.length) : ∃ A c, W.cell? ⟨g, k, none⟩ = some (.slice A (ts.getD k []).length c) ∧ Kd.V k97 97 W 0 ok (.slice A (ts.getD k []).length c) (ts.getD k []) := by
  obtain ⟨vals, hB, hl, hv⟩ := h.ex
  obtain ⟨v, h1, h2⟩ := hv k hk
  obtain ⟨A, c, rfl⟩ := Kd.V_slice h2
  exact ⟨A, c, (hB.cell k).trans h1, h2⟩
theorem Tab.set {W : World} {ok : Nat → Prop} {g : Nat} {ts : List (List S97)} (h : Tab W ok g ts) (hg : ∀ k, ok k → k ≠ g) (k : Nat) (hk : k < ts.length) (v : Value) (l : List S97) (hv : Kd.V k97 97 W 0 ok v l) : Tab (W.setCell ⟨g, k, none⟩ v) ok g (ts.set k l) := by
  obtain ⟨vals, hB, hl, hs⟩ := h.ex
  refine ⟨vals.set k v, blk_putL hB k v, by simpa using hl, fun j hj => ?_⟩
  rw [List.length_set] at hj
  by_cases hjk : j = k
  · subst hjk
    refine ⟨v, by rw [List.getElem?_set_self (by omega)], ?_⟩
    rw [List.getD_eq_getElem?_getD, List.getElem?_set_self hk]
    exact Kd.V_far hv (fun i hi => hg i hi) _
  · obtain ⟨u, h1, h2⟩ := hs j hj
    refine ⟨u, by rw [List.getElem?_set_ne (fun e => hjk e.symm)]; exact h1, ?_⟩
    rw [List.getD_eq_getElem?_getD, List.getElem?_set_ne (fun e => hjk e.symm), ← List.getD_eq_getElem?_getD]
    exact Kd.V_far h2 (fun i hi => hg i hi) _
theorem Tab.C {W : World} {ok : Nat → Prop} {g : Nat} {ts : List (List S97)} (h : Tab W ok g ts) (hl : ts.length ≤ 9223372036854775807) : Kd.C (Kd.slice 97 k97) W (some ⟨g, 0, none⟩) ts.length ts := by
  refine ⟨rfl, hl, fun _ => ⟨_, rfl, fun j l hj => ?_⟩⟩
  have hjl : j < ts.length := (List.getElem?_eq_some_iff.1 hj).1
  obtain ⟨A, c, h1, h2⟩ := h.at j hjl
  have e : ts.getD j [] = l := by rw [List.getD_eq_getElem?_getD, hj]; rfl
  rw [e] at h1 h2
  obtain ⟨_, h3, h4⟩ := Kd.V_reads' h2
  refine ⟨[.slice A l.length c], rfl, ⟨A, c, rfl, h3, h4⟩, fun i u hi => ?_⟩
  obtain ⟨rfl, rfl⟩ : i = 0 ∧ u = .slice A l.length c := by
    cases i with
    | zero => exact ⟨rfl, (Option.some.inj hi).symm⟩
    | succ i => simp at hi
  rw [show (Kd.slice 97 k97).sz = 1 from rfl, Nat.mul_one, Nat.add_zero]
  show W.cell? (Addr.add ⟨g, 0, none⟩ j) = _
  rw [add_plain]
  exact h1
theorem Tab.of_R {W : World} {N g n c : Nat} {ok : Nat → Prop} {ts : List (List S97)} (h : Kd.R (Kd.slice 97 k97) 43 W N (fun _ => True) (.slice (some ⟨g, 0, none⟩) n c) ts) (hn : 0 < ts.length) (hok : ∀ k cells, W.heap[k]? = some (.cells cells 97 (0, 0)) → ok k) : Tab W ok g ts := by
  obtain ⟨g', cap, he, _, _, cells, hc⟩ := Kd.R_form h hn
  injection he with he _ _
  injection he with he
  injection he with he
  subst he
  have hB : Blk W g 43 cells.toList := by unfold Blk; rw [Array.toArray_toList]; exact hc
  obtain ⟨hnl, _, _⟩ := Kd.R_reads' h
  have hcell : ∀ j, j < ts.length → ∃ v, cells.toList[j]? = some v ∧ Kd.V k97 97 W 0 ok v (ts.getD j []) := by
    intro j hj
    obtain ⟨cs, hcl, hM, hcc, _⟩ := Kd.R_elem h ([] : List S97) (j : Int) (by omega) (by omega)
    obtain ⟨v, rfl, hR⟩ := hM
    have h1 := hcc 0 v rfl
    rw [show (Kd.slice 97 k97).sz = 1 from rfl, Nat.mul_one, Nat.add_zero, Int.toNat_natCast] at h1
    rw [Int.toNat_natCast] at hR
    refine ⟨v, (hB.cell j).symm.trans h1, Kd.V_mono (Kd.R_V (Kd.R_bound hR)) (fun k hk => ?_)⟩
    obtain ⟨_, _, _, q, hq, cl, hcl⟩ := hk
    have : q = 97 := by have h0 : q ∈ [(97 : Nat)] := hq; simpa using h0
    subst this
    exact hok k cl hcl
  refine ⟨cells.toList, hB, ?_, hcell⟩
  by_cases hz : ts.length ≤ cells.toList.length
  · exact hz
  · obtain ⟨v, h1, _⟩ := hcell (ts.length - 1) (by omega)
    have := (List.getElem?_eq_some_iff.1 h1).1
    omega
theorem keysL_zero (k : Nat) : keysL (List.replicate k z97) = [] := by
  unfold keysL liveL liveUpto
  rw [List.map_eq_nil_iff, List.filter_eq_nil_iff]
  intro p hp
  obtain ⟨i, _, rfl⟩ := mem_upto.1 hp
  have : rd_T97 (List.replicate k z97) i = z97 := by
    unfold rd_T97
    rw [List.getD_eq_getElem?_getD, List.getElem?_replicate]
    split <;> rfl
  dsimp only
  rw [this]
  decide
theorem keysT_zero (j k : Nat) : keysT (List.replicate j (List.replicate k z97)) = [] := by
  unfold keysT
  rw [List.flatMap_eq_nil_iff]
  intro l hl
  rw [List.eq_of_mem_replicate hl]
  exact keysL_zero k
theorem vBase {α : Type} {d : Kd α} {e b b' : Nat} {W : World} {ok : Nat → Prop} {v : Value} {xs : List α} (h : Kd.V d e W b ok v xs) : Kd.V d e W b' ok v xs := h
/-- Of what was there from block Nb on nothing was written. -/
structure Low (Nb : Nat) (W W' : World) : Prop where
  size : W.heap.size ≤ W'.heap.size
  same : ∀ k, Nb ≤ k → k < W.heap.size → W'.heap[k]? = W.heap[k]?
theorem Low.refl (Nb : Nat) (W : World) : Low Nb W W := ⟨Nat.le_refl _, fun _ _ _ => rfl⟩
theorem Low.trans {Nb : Nat} {W W' W2 : World} (h : Low Nb W W') (k : Low Nb W' W2) : Low Nb W W2 := ⟨Nat.le_trans h.size k.size, fun i h0 h1 => (k.same i h0 (Nat.lt_of_lt_of_le h1 h.size)).trans (h.same i h0 h1)⟩
theorem Low.of_below {Nb : Nat} {W W' : World} (h : Below W.heap.size W W') : Low Nb W W' := ⟨h.size, fun k _ h0 => h.block k h0⟩
theorem Low.of_kept {Nb x : Nat} {W W' : World} (h : KeptB x W W') (hx : x < Nb) : Low Nb W W' := ⟨h.size, fun k h0 h1 => h.far k h1 (by omega)⟩
theorem Low.of_touch {Nb p b1 b2 : Nat} {W W' : World} (h : Touch W W' p b1 b2) (h0 : p < Nb) (h1 : b1 < Nb) (h2 : b2 < Nb) : Low Nb W W' := ⟨h.size, fun k g0 g1 => h.far k g1 (by omega) (by omega) (by omega)⟩
theorem Low.blk {Nb k : Nat} {W W' : World} {t : TypeId} {cs : List Value} (h : Low Nb W W') (hk : Nb ≤ k) (hb : Blk W k t cs) : Blk W' k t cs := (h.same k hk hb.lt).trans hb
theorem Low.row {α : Type} {d : Kd α} {Nb e : Nat} {W W' : World} {v : Value} {xs : List α} (h : Low Nb W W') (hr : Kd.R d e W Nb (fun _ => True) v xs) : Kd.R d e W' Nb (fun _ => True) v xs :=
  Kd.R_mono (Kd.R_move (w1 := W') (Kd.R_bound hr) (fun k hk => h.same k hk.2.1 hk.2.2.1)) (fun _ _ => trivial)
theorem Low.wd {W W' : World} {N p q b1 b2 qs ss qk : Nat} {tv pv : Value} {a b c d e now : Int} {n m : Nat} {s : CS} {ks : List Value} {tabs : List (List S97)} (l : Low N W W') (h : Wd W N p q b1 b2 qs ss qk tv pv a b c d e now n m s ks tabs) : Wd W' N p q b1 b2 qs ss qk tv pv a b c d e now n m s ks tabs :=
  ⟨l.blk h.lo.1 h.hp, ⟨l.blk h.lo.2.1 h.hh.hp, l.blk h.lo.2.2.1 h.hh.h1, l.blk h.lo.2.2.2.1 h.hh.h2, h.hh.ne, h.hh.n1, h.hh.n2⟩, l.blk h.lo.2.2.2.2.2.1 h.h1, l.blk h.lo.2.2.2.2.1 h.h2, l.blk h.lo.2.2.2.2.2.2 h.h3, l.row h.ht, h.hv, h.lo⟩
theorem KeptB.blk {x k : Nat} {W W' : World} {t : TypeId} {cs : List Value} (h : KeptB x W W') (hb : Blk W k t cs) (hk : k ≠ x) : Blk W' k t cs := (h.far k hb.lt hk).trans hb
theorem KeptB.tab {x g : Nat} {W W' : World} {ok : Nat → Prop} {ts : List (List S97)} (h : KeptB x W W') (ht : Tab W ok g ts) (hg : g ≠ x) (hok : ∀ k, ok k → k ≠ x) : Tab W' ok g ts := by
  obtain ⟨vals, hv⟩ := ht.blk
  exact ht.step (h.far g hv.lt hg) (fun k hk hl => h.far k hl (hok k hk))
theorem Sl.of_blk {W : World} {qs ss m : Nat} (h1 : Blk W ss 87 (List.replicate m Value.nilIface)) (h2 : Blk W qs 83 [.slice (some ⟨ss, 0, none⟩) m m]) : Sl W qs ss m (List.replicate m none) := by
  refine ⟨⟨_, h1, List.length_replicate, fun i hi => ?_⟩, h2, List.length_replicate⟩
  rw [List.getD_eq_getElem?_getD, List.getElem?_replicate, if_pos hi, List.getD_eq_getElem?_getD, List.getElem?_replicate, if_pos hi]
  rfl
/-- What the tables' row is when a flow was put. -/
def PutOk (c : Int) (key : ByteArray) : Prop := ∃ l er, flows_Put.f (List.replicate c.toNat z97) key 1 1 = some (l, er) ∧ (keysL l).length = 1 ∧ l.length ≤ 1000000
theorem keysT_one (n k : Nat) (hk : k < n) (c : Nat) (l : List S97) (hl : (keysL l).length = 1) : (keysT ((List.replicate n (List.replicate c z97)).set k l)).length = 1 := by
  have e : ∀ (xs : List (List S97)) (k : Nat), k < xs.length → (∀ x ∈ xs, keysL x = []) → (keysT (xs.set k l)).length = 1 := by
    intro xs
    induction xs with
    | nil => intro k hk; simp at hk
    | cons x xs ih =>
      intro k hk hx
      cases k with
      | zero =>
        have e2 : keysT xs = [] := by
          unfold keysT
          rw [List.flatMap_eq_nil_iff]
          exact fun y hy => hx y (List.mem_cons_of_mem _ hy)
        show (keysL l ++ keysT xs).length = 1
        rw [e2, List.append_nil, hl]
      | succ k =>
        show (keysL x ++ keysT (xs.set k l)).length = 1
        rw [hx x List.mem_cons_self, List.nil_append]
        exact ih k (by simpa using hk) (fun y hy => hx y (List.mem_cons_of_mem _ hy))
  refine e _ k (by rw [List.length_replicate]; exact hk) (fun x hx => ?_)
  rw [List.eq_of_mem_replicate hx]
  exact keysL_zero c
theorem fill0 (m : Nat) (hm : 2 ≤ m) : fillB (putS (List.replicate m none) 0 (some none)) 0 [] = true := by
  obtain ⟨m, rfl⟩ : ∃ j, m = j + 1 := ⟨m - 1, by omega⟩
  unfold fillB putS inS
  rw [List.length_replicate, if_pos (decide_eq_true (by omega)), List.length_set, List.length_replicate, decide_eq_true (show (0 : Int) ≤ 0 ∧ (0 : Int) < ((m + 1 : Nat) : Int) by omega)]
  rfl
theorem read0 (m : Nat) : readS (List.replicate m none) 0 = none := by
  have h : (List.replicate m (none : Option (Option (List S90)))).getD (0 : Int).toNat none = none := by
    rw [List.getD_eq_getElem?_getD, List.getElem?_replicate]
    split <;> rfl
  unfold readS
  rw [h]
  split <;> rfl
theorem ap_cells (n m : Nat) : ∃ s, CS.load ⟨List.replicate n 0, List.replicate m (-1), 0⟩ 0 = (0, s) ∧ ∀ i : Int, s.owner i = -1 := by
  unfold CS.load
  split
  · refine ⟨_, by rw [List.getD_eq_getElem?_getD, List.getElem?_replicate]; split <;> rfl, fun i => ?_⟩
    unfold CS.owner
    split
    · rw [List.getD_eq_getElem?_getD, List.getElem?_replicate]
      split
      · rfl
      · rename_i h1 h2
        exact absurd (by rw [List.length_replicate] at h1; omega) h2
    · rfl
  · refine ⟨_, rfl, fun i => ?_⟩
    unfold CS.owner
    split
    · rw [List.getD_eq_getElem?_getD, List.getElem?_replicate]
      split
      · rfl
      · rename_i h1 h2
        exact absurd (by rw [List.length_replicate] at h1; omega) h2
    · rfl
set_option maxHeartbeats 4000000 in
theorem Take_far (qk : Nat) (n : Nat) (hn : 1 ≤ n) (hn8 : n ≤ 8) (W : World) (h3 : Blk W qk 77 (List.replicate 16 (Value.int .i64 0) ++ [Value.int .i64 (n : Int)])) :
    Calls Tryz.prog 9 #[.pointer (some ⟨qk, 0, none⟩)] W fun e W' => e = .returned (.int .i64 0) ∧ KeptB qk W W' := by
  have z : W.cell? ⟨qk, 16, none⟩ = some (.int .i64 (n : Int)) := h3.cell 16
  have z0 := keeper_at W qk n h3 0 (by omega)
  have z1 := keeper_at W qk n h3 1 (by omega)
  have zf := h3.frozen 0
  have q0 : decide ((0 : Int) < (n : Int)) = true := decide_eq_true (by omega)
  have q1 : (n : Int) ≤ 8 := by omega
  have q2 : (0 : Int) ≤ (n : Int) := by omega
  have q3 : n ≤ 8 := hn8
  have HN := Lib.hid hn
  clear h3 hn hn8
  go_enter Tryz.func9, Tryz.ntmps9
  go_wp2
  go_region_held3 (fun w' => w'.cell? ⟨qk, 16, none⟩ = some (.int .i64 (n : Int))) (exact z) (fail)
  go_wp2
  go_loopw [13] (fun i wr => i = .int .i64 0 ∧ wr = W.drew) (fun i _ => n - (intOf i).toNat)
  case atStart => exact ⟨rfl, rfl⟩
  case round =>
    obtain ⟨rfl, rfl⟩ := hrel
    go_wp2
    go_ret
    exact ⟨rfl, (KeptB.of_below (ss := qk) (below_drew (Below.refl _ W))).trans (KeptB.set qk 0 _ _)⟩
open Classical in noncomputable
def gangplanklaw18_WorldApart.f (a b c d e : Int) (i : Int) (key : ByteArray) : Option Bool := if (chk a b c d e = 0 → key.size ≤ 60 → PutOk c key) then some true else none
set_option maxRecDepth 100000 in
set_option maxHeartbeats 16000000 in
theorem gangplanklaw18_WorldApart.calls (a b c d e : Int) (i : Int) (key : ByteArray) (r : Bool) (W : World) (h : gangplanklaw18_WorldApart.f a b c d e i key = some r) :
    Calls Tryz.prog 3 #[.agg #[.int .i64 a, .int .i64 b, .int .i64 c, .int .i64 d, .int .i64 e], .int .i64 i, .string key] W fun e w' => e = .returned (.bool r) ∧ Below W.heap.size W w' := by
  unfold gangplanklaw18_WorldApart.f at h
  by_cases hput : (chk a b c d e = 0 → key.size ≤ 60 → PutOk c key)
  case neg =>
    rw [if_neg hput] at h
    exact absurd h (by simp)
  rw [if_pos hput] at h
  obtain rfl : true = r := Option.some.inj h
  clear h
  have HPO := Lib.hid hput
  clear hput
  obtain ⟨sm, hsm⟩ : ∃ sm, gangplankref17_Small.f a b c d e = some sm := by
    unfold gangplankref17_Small.f
    split
    · split
      · exact ⟨_, rfl⟩
      · exact ⟨_, rfl⟩
    · exact ⟨_, rfl⟩
  have HSM := Lib.hid hsm
  clear hsm
  have b0 := Blk.new W 23 [.int .i64 a, .int .i64 b, .int .i64 c, .int .i64 d, .int .i64 e]
  have l0 := below_alloc (Below.refl _ W) (.cells #[.int .i64 a, .int .i64 b, .int .i64 c, .int .i64 d, .int .i64 e] 23)
  have HK := Lib.hid b0
  have HB := Lib.hid l0
  clear b0 l0
  go_enter Tryz.func3, Tryz.ntmps3
  go_wp2_with fail
  go_at_call 4
  refine (works18_any _).mono ?_
  rintro e1 w1 ⟨rfl, hb⟩
  have n0 := Lib.hid (show Blk w1 W.heap.size 23 [.int .i64 a, .int .i64 b, .int .i64 c, .int .i64 d, .int .i64 e] from HK.out.below hb)
  have n1 := Lib.hid (show Below W.heap.size W w1 from HB.out.trans (hb.mono HB.out.size))
  clear HK HB hb
  have HK := n0
  have HB := n1
  clear n0 n1
  have y0 : w1.cell? ⟨W.heap.size, 0, none⟩ = some (.int .i64 a) := HK.out.cell 0
  have y1 : w1.cell? ⟨W.heap.size, 1, none⟩ = some (.int .i64 b) := HK.out.cell 1
  have y2 : w1.cell? ⟨W.heap.size, 2, none⟩ = some (.int .i64 c) := HK.out.cell 2
  have y3 : w1.cell? ⟨W.heap.size, 3, none⟩ = some (.int .i64 d) := HK.out.cell 3
  have y4 : w1.cell? ⟨W.heap.size, 4, none⟩ = some (.int .i64 e) := HK.out.cell 4
  go_wp2_with fail
  go_at_call 5
  refine (gangplankref17_Small.calls a b c d e sm _ HSM.out).mono ?_
  rintro e2 w2 ⟨rfl, hb⟩
  clear y0 y1 y2 y3 y4
  have n0 := Lib.hid (show Blk w2 W.heap.size 23 [.int .i64 a, .int .i64 b, .int .i64 c, .int .i64 d, .int .i64 e] from HK.out.below hb)
  have n1 := Lib.hid (show Below W.heap.size W w2 from HB.out.trans (hb.mono HB.out.size))
  clear HK HB hb
  have HK := n0
  have HB := n1
  clear n0 n1
  have y0 : w2.cell? ⟨W.heap.size, 0, none⟩ = some (.int .i64 a) := HK.out.cell 0
  have y1 : w2.cell? ⟨W.heap.size, 1, none⟩ = some (.int .i64 b) := HK.out.cell 1
  have y2 : w2.cell? ⟨W.heap.size, 2, none⟩ = some (.int .i64 c) := HK.out.cell 2
  have y3 : w2.cell? ⟨W.heap.size, 3, none⟩ = some (.int .i64 d) := HK.out.cell 3
  have y4 : w2.cell? ⟨W.heap.size, 4, none⟩ = some (.int .i64 e) := HK.out.cell 4
  cases sm
  · go_wp2
    go_ret
    exact ⟨rfl, HB.out⟩
  by_cases g0 : 60 < key.size
  · have t00 : decide (60 < (key.size : Int)) = true := decide_eq_true (by omega)
    have t01 : decide (60 < key.size) = true := decide_eq_true (by omega)
    go_wp2
    go_ret
    exact ⟨rfl, HB.out⟩
  have t00 : decide (60 < (key.size : Int)) = false := decide_eq_false (by omega)
  have t01 : decide (60 < key.size) = false := decide_eq_false (by omega)
  by_cases g1 : i < 0
  · have t10 : decide (i < 0) = true := decide_eq_true (by omega)
    go_wp2
    go_ret
    exact ⟨rfl, HB.out⟩
  have t10 : decide (i < 0) = false := decide_eq_false (by omega)
  by_cases g2 : b ≤ i
  · have t20 : decide (b ≤ i) = true := decide_eq_true (by omega)
    go_wp2
    go_ret
    exact ⟨rfl, HB.out⟩
  have t20 : decide (b ≤ i) = false := decide_eq_false (by omega)
  by_cases hck : chk a b c d e ≠ 0
  · go_wp2_with fail
    go_at_call 6
    refine (New_bad a b c d e hck _).mono ?_
    rintro e3 w3 ⟨rfl, hb⟩
    have n0 := Lib.hid (show Blk w3 W.heap.size 23 [.int .i64 a, .int .i64 b, .int .i64 c, .int .i64 d, .int .i64 e] from HK.out.below hb)
    have n1 := Lib.hid (show Below W.heap.size W w3 from HB.out.trans (hb.mono HB.out.size))
    clear HK HB hb
    have HK := n0
    have HB := n1
    clear n0 n1
    have y0 : w3.cell? ⟨W.heap.size, 0, none⟩ = some (.int .i64 a) := HK.out.cell 0
    have y1 : w3.cell? ⟨W.heap.size, 1, none⟩ = some (.int .i64 b) := HK.out.cell 1
    have y2 : w3.cell? ⟨W.heap.size, 2, none⟩ = some (.int .i64 c) := HK.out.cell 2
    have y3 : w3.cell? ⟨W.heap.size, 3, none⟩ = some (.int .i64 d) := HK.out.cell 3
    have y4 : w3.cell? ⟨W.heap.size, 4, none⟩ = some (.int .i64 e) := HK.out.cell 4
    go_wp2_with fail
    go_at_call 6
    refine (New_bad a b c d e hck _).mono ?_
    rintro e3 w4 ⟨rfl, hb⟩
    have n0 := Lib.hid (show Blk w4 W.heap.size 23 [.int .i64 a, .int .i64 b, .int .i64 c, .int .i64 d, .int .i64 e] from HK.out.below hb)
    have n1 := Lib.hid (show Below W.heap.size W w4 from HB.out.trans (hb.mono HB.out.size))
    clear HK HB hb
    have HK := n0
    have HB := n1
    clear n0 n1
    obtain ⟨x, hx⟩ : ∃ x, chk a b c d e = x := ⟨_, rfl⟩
    rw [hx] at hck ⊢
    have q : (x != 0) = true := bne_iff_ne.mpr hck
    have q2 : (x == 0) = false := beq_eq_false_iff_ne.mpr hck
    have q3 : decide (x = 0) = false := decide_eq_false hck
    clear hx hck y0 y1 y2 y3 y4
    go_wp2
    go_ret
    exact ⟨rfl, HB.out⟩
  replace hck : chk a b c d e = 0 := Classical.not_not.mp hck
  go_wp2_with fail
  obtain ⟨u1, u2, hp1, hp2, hp3⟩ := HPO.out hck (by omega)
  obtain ⟨⟨ha0, ha1⟩, ⟨hb0, hb1⟩, hcc, _, hee⟩ := chk_zero hck
  obtain ⟨n, hn⟩ : ∃ n : Nat, b = (n : Int) := ⟨b.toNat, by omega⟩
  subst hn
  obtain ⟨m, hm⟩ : ∃ m : Nat, e = (m : Int) := ⟨e.toNat, by omega⟩
  subst hm
  obtain ⟨k, hk⟩ : ∃ k : Nat, i = (k : Int) := ⟨i.toNat, by omega⟩
  subst hk
  have HPUT0 := Lib.hid hp1
  have HP2 := Lib.hid hp2
  have HP3 := Lib.hid hp3
  have HKN := Lib.hid (show k < n by omega)
  have HNN := Lib.hid (And.intro hb0 hb1)
  have HEE := Lib.hid hee
  have HCC := Lib.hid hcc
  clear HPO hp1 hp2 hp3 g0 g1 g2
  go_at_call 6
  refine (New_good a n c d m hck _).mono ?_
  rintro e3 w3 ⟨p, q, b1, b2, qs, ss, qk, tv, pv, rfl, hw, hb⟩
  rw [Int.toNat_natCast, Int.toNat_natCast] at hw
  obtain ⟨gt, ct, htv, _⟩ := hw.tabsG (by rw [List.length_replicate]; omega)
  rw [List.length_replicate] at htv
  subst htv
  have hgl := Kd.R_lt hw.ht gt (by simp [Value.ownBlock])
  have HW3 := Lib.hid (Nat.le_trans HB.out.size hb.size)
  have HLT := Lib.hid (show p < w3.heap.size ∧ q < w3.heap.size ∧ b1 < w3.heap.size ∧ b2 < w3.heap.size ∧ qs < w3.heap.size ∧ ss < w3.heap.size ∧ qk < w3.heap.size ∧ gt < w3.heap.size from ⟨hw.hp.lt, hw.hh.hp.lt, hw.hh.h1.lt, hw.hh.h2.lt, hw.h2.lt, hw.h1.lt, hw.h3.lt, hgl⟩)
  have HWA := Lib.hid (hw.lower HB.out.size)
  clear y0 y1 y2 y3 y4 hw hgl
  have n0 := Lib.hid (show Blk w3 W.heap.size 23 [.int .i64 a, .int .i64 (n : Int), .int .i64 c, .int .i64 d, .int .i64 (m : Int)] from HK.out.below hb)
  have n1 := Lib.hid (show Below W.heap.size W w3 from HB.out.trans (hb.mono HB.out.size))
  clear HK HB hb
  have HK := n0
  have HB := n1
  clear n0 n1
  have y0 : w3.cell? ⟨W.heap.size, 0, none⟩ = some (.int .i64 a) := HK.out.cell 0
  have y1 : w3.cell? ⟨W.heap.size, 1, none⟩ = some (.int .i64 (n : Int)) := HK.out.cell 1
  have y2 : w3.cell? ⟨W.heap.size, 2, none⟩ = some (.int .i64 c) := HK.out.cell 2
  have y3 : w3.cell? ⟨W.heap.size, 3, none⟩ = some (.int .i64 d) := HK.out.cell 3
  have y4 : w3.cell? ⟨W.heap.size, 4, none⟩ = some (.int .i64 (m : Int)) := HK.out.cell 4
  go_wp2_with fail
  go_at_call 6
  refine (New_good a n c d m hck _).mono ?_
  rintro e4 w4 ⟨p2, q2, d1, d2, qs2, ss2, qk2, tv2, pv2, rfl, hw, hb⟩
  rw [Int.toNat_natCast, Int.toNat_natCast] at hw
  obtain ⟨gt2, ct2, htv2, _⟩ := hw.tabsG (by rw [List.length_replicate]; omega)
  rw [List.length_replicate] at htv2
  subst htv2
  have hdr := below_drew (Below.refl w4.heap.size w4)
  have n3 := Lib.hid (show Wd w4.drew W.heap.size p q b1 b2 qs ss qk (.slice (some ⟨gt, 0, none⟩) n ct) pv a n c d m 0 n m ⟨List.replicate (2 + a).toNat 0, List.replicate n (-1), 0⟩ (List.replicate 16 (Value.int .i64 0) ++ [Value.int .i64 (m : Int)]) (List.replicate n (List.replicate c.toNat z97)) from (HWA.out.below hb).below hdr)
  have n4 := Lib.hid (show Wd w4.drew w3.heap.size p2 q2 d1 d2 qs2 ss2 qk2 (.slice (some ⟨gt2, 0, none⟩) n ct2) pv2 a n c d m 0 n m ⟨List.replicate (2 + a).toNat 0, List.replicate n (-1), 0⟩ (List.replicate 16 (Value.int .i64 0) ++ [Value.int .i64 (m : Int)]) (List.replicate n (List.replicate c.toNat z97)) from hw.below hdr)
  have n5 := Lib.hid (show Below W.heap.size W w4.drew from below_drew (HB.out.trans (hb.mono HB.out.size)))
  have x9 : w4.drew.cell? ⟨W.heap.size, 1, none⟩ = some (.int .i64 (n : Int)) := ((HK.out.below hb).below hdr).cell 1
  clear HWA HB HK y0 y1 y2 y3 y4 hw hb hdr hck ha0 ha1 hb0 hb1 hcc hee
  have HWA := n3
  have HWB := n4
  have HB := n5
  clear n3 n4 n5
  have x1 : w4.drew.cell? ⟨p, 5, none⟩ = some (.pointer (some ⟨q, 0, none⟩)) := HWA.out.hp.cell 5
  have x2 : w4.drew.cell? ⟨p, 6, none⟩ = some (.pointer (some ⟨qs, 0, none⟩)) := HWA.out.hp.cell 6
  have x3 : w4.drew.cell? ⟨p, 7, none⟩ = some (.pointer (some ⟨qk, 0, none⟩)) := HWA.out.hp.cell 7
  have x4 : w4.drew.cell? ⟨p2, 5, none⟩ = some (.pointer (some ⟨q2, 0, none⟩)) := HWB.out.hp.cell 5
  have x5 : w4.drew.cell? ⟨p2, 6, none⟩ = some (.pointer (some ⟨qs2, 0, none⟩)) := HWB.out.hp.cell 6
  have x6 : w4.drew.cell? ⟨p2, 7, none⟩ = some (.pointer (some ⟨qk2, 0, none⟩)) := HWB.out.hp.cell 7
  have x7 : w4.drew.cell? ⟨p, 8, none⟩ = some (.slice (some ⟨gt, 0, none⟩) n ct) := HWA.out.hp.cell 8
  have x8 : w4.drew.cell? ⟨p2, 8, none⟩ = some (.slice (some ⟨gt2, 0, none⟩) n ct2) := HWB.out.hp.cell 8
  go_wp2_with fail
  refine wp_region_noPanic ?_
  refine start_ (n := 60) (S := fun w' => w'.cell? ⟨p, 5, none⟩ = some (.pointer (some ⟨q, 0, none⟩)) ∧ w'.cell? ⟨p, 6, none⟩ = some (.pointer (some ⟨qs, 0, none⟩)) ∧ w'.cell? ⟨p, 7, none⟩ = some (.pointer (some ⟨qk, 0, none⟩)) ∧ w'.cell? ⟨p2, 5, none⟩ = some (.pointer (some ⟨q2, 0, none⟩)) ∧ w'.cell? ⟨p2, 6, none⟩ = some (.pointer (some ⟨qs2, 0, none⟩)) ∧ w'.cell? ⟨p2, 7, none⟩ = some (.pointer (some ⟨qk2, 0, none⟩)) ∧ w'.cell? ⟨p, 8, none⟩ = some (.slice (some ⟨gt, 0, none⟩) n ct) ∧ w'.cell? ⟨p2, 8, none⟩ = some (.slice (some ⟨gt2, 0, none⟩) n ct2) ∧ w'.cell? ⟨W.heap.size, 1, none⟩ = some (.int .i64 (n : Int))) (ds := []) #[false, false, false, false, false, false, false, false, false, false, false, false, false, false, false, false, false, false, false, false, false, false, false, false, false, false, false, false, false, false, false, false, false, false, false, false, false, false, false, false, false, false, false, false, false, false, false, false, false, false, false, false, false, false, false, false, false, false, false, false] (by kernel_rfl) rfl rfl ⟨x1, x2, x3, x4, x5, x6, x7, x8, x9⟩ (fun hHeld => ?_)
  refine pure_ (i := 0) (N := some 72) (v := ?_) (a' := ?_) #[true, false, false, false, false, false, false, false, false, false, false, false, false, false, false, false, false, false, false, false, false, false, false, false, false, false, false, false, false, false, false, false, false, false, false, false, false, false, false, false, false, false, false, false, false, false, false, false, false, false, false, false, false, false, false, false, false, false, false, false] rfl rfl (by kernel_rfl) (fun _ _ _ h => h) (Or.inl ⟨by rfl, ?_⟩) ?_ ?_
  rotate_left
  · intro w'
    go_simp
    with_reducible rfl
  rotate_left
  · simp only [Act.put, List.setIfInBounds_toArray, List.set_cons_zero, List.set_cons_succ, i64_w, i32_w]
    rfl
  refine pure_ (i := 1) (N := some 73) (v := ?_) (a' := ?_) #[true, true, false, false, false, false, false, false, false, false, false, false, false, false, false, false, false, false, false, false, false, false, false, false, false, false, false, false, false, false, false, false, false, false, false, false, false, false, false, false, false, false, false, false, false, false, false, false, false, false, false, false, false, false, false, false, false, false, false, false] rfl rfl (by kernel_rfl) (fun _ _ _ h => h) (Or.inl ⟨by rfl, ?_⟩) ?_ ?_
  rotate_left
  · intro w'
    go_simp
    with_reducible rfl
  rotate_left
  · simp only [Act.put, List.setIfInBounds_toArray, List.set_cons_zero, List.set_cons_succ, i64_w, i32_w]
    rfl
  refine pure_ (i := 2) (N := some 74) (v := ?_) (a' := ?_) #[true, true, true, false, false, false, false, false, false, false, false, false, false, false, false, false, false, false, false, false, false, false, false, false, false, false, false, false, false, false, false, false, false, false, false, false, false, false, false, false, false, false, false, false, false, false, false, false, false, false, false, false, false, false, false, false, false, false, false, false] rfl rfl (by kernel_rfl) (fun _ _ _ h => h) (Or.inl ⟨by rfl, ?_⟩) ?_ ?_
  rotate_left
  · intro w'
    go_simp
    with_reducible rfl
  rotate_left
  · simp only [Act.put, List.setIfInBounds_toArray, List.set_cons_zero, List.set_cons_succ, i64_w, i32_w]
    rfl
  refine take_ (i := 3) (N := some 75) (v := ?_) (a' := ?_) #[true, true, true, true, false, false, false, false, false, false, false, false, false, false, false, false, false, false, false, false, false, false, false, false, false, false, false, false, false, false, false, false, false, false, false, false, false, false, false, false, false, false, false, false, false, false, false, false, false, false, false, false, false, false, false, false, false, false, false, false] rfl rfl (by kernel_rfl) (fun _ _ _ h => h) (Or.inl ⟨by rfl, ?_⟩) hHeld ?_ ?_
  rotate_left
  · rintro w' ⟨s0, s1, s2, s3, s4, s5, s6, s7, s8⟩
    go_simp
    with_reducible rfl
  rotate_left
  · simp only [Act.put, List.setIfInBounds_toArray, List.set_cons_zero, List.set_cons_succ, i64_w, i32_w]
    rfl
  refine pure_ (i := 4) (N := some 76) (v := ?_) (a' := ?_) #[true, true, true, true, true, false, false, false, false, false, false, false, false, false, false, false, false, false, false, false, false, false, false, false, false, false, false, false, false, false, false, false, false, false, false, false, false, false, false, false, false, false, false, false, false, false, false, false, false, false, false, false, false, false, false, false, false, false, false, false] rfl rfl (by kernel_rfl) (fun _ _ _ h => h) (Or.inl ⟨by rfl, ?_⟩) ?_ ?_
  rotate_left
  · intro w'
    go_simp
    with_reducible rfl
  rotate_left
  · simp only [Act.put, List.setIfInBounds_toArray, List.set_cons_zero, List.set_cons_succ, i64_w, i32_w]
    rfl
  refine pure_ (i := 5) (N := some 77) (v := ?_) (a' := ?_) #[true, true, true, true, true, true, false, false, false, false, false, false, false, false, false, false, false, false, false, false, false, false, false, false, false, false, false, false, false, false, false, false, false, false, false, false, false, false, false, false, false, false, false, false, false, false, false, false, false, false, false, false, false, false, false, false, false, false, false, false] rfl rfl (by kernel_rfl) (fun _ _ _ h => h) (Or.inl ⟨by rfl, ?_⟩) ?_ ?_
  rotate_left
  · intro w'
    go_simp
    with_reducible rfl
  rotate_left
  · simp only [Act.put, List.setIfInBounds_toArray, List.set_cons_zero, List.set_cons_succ, i64_w, i32_w]
    rfl
  refine pure_ (i := 6) (N := some 78) (v := ?_) (a' := ?_) #[true, true, true, true, true, true, true, false, false, false, false, false, false, false, false, false, false, false, false, false, false, false, false, false, false, false, false, false, false, false, false, false, false, false, false, false, false, false, false, false, false, false, false, false, false, false, false, false, false, false, false, false, false, false, false, false, false, false, false, false] rfl rfl (by kernel_rfl) (fun _ _ _ h => h) (Or.inl ⟨by rfl, ?_⟩) ?_ ?_
  rotate_left
  · intro w'
    go_simp
    with_reducible rfl
  rotate_left
  · simp only [Act.put, List.setIfInBounds_toArray, List.set_cons_zero, List.set_cons_succ, i64_w, i32_w]
    rfl
  refine pure_ (i := 7) (N := some 79) (v := ?_) (a' := ?_) #[true, true, true, true, true, true, true, true, false, false, false, false, false, false, false, false, false, false, false, false, false, false, false, false, false, false, false, false, false, false, false, false, false, false, false, false, false, false, false, false, false, false, false, false, false, false, false, false, false, false, false, false, false, false, false, false, false, false, false, false] rfl rfl (by kernel_rfl) (fun _ _ _ h => h) (Or.inl ⟨by rfl, ?_⟩) ?_ ?_
  rotate_left
  · intro w'
    go_simp
    with_reducible rfl
  rotate_left
  · simp only [Act.put, List.setIfInBounds_toArray, List.set_cons_zero, List.set_cons_succ, i64_w, i32_w]
    rfl
  refine pure_ (i := 8) (N := some 80) (v := ?_) (a' := ?_) #[true, true, true, true, true, true, true, true, true, false, false, false, false, false, false, false, false, false, false, false, false, false, false, false, false, false, false, false, false, false, false, false, false, false, false, false, false, false, false, false, false, false, false, false, false, false, false, false, false, false, false, false, false, false, false, false, false, false, false, false] rfl rfl (by kernel_rfl) (fun _ _ _ h => h) (Or.inl ⟨by rfl, ?_⟩) ?_ ?_
  rotate_left
  · intro w'
    go_simp
    with_reducible rfl
  rotate_left
  · simp only [Act.put, List.setIfInBounds_toArray, List.set_cons_zero, List.set_cons_succ, i64_w, i32_w]
    rfl
  refine take_ (i := 9) (N := some 81) (v := ?_) (a' := ?_) #[true, true, true, true, true, true, true, true, true, true, false, false, false, false, false, false, false, false, false, false, false, false, false, false, false, false, false, false, false, false, false, false, false, false, false, false, false, false, false, false, false, false, false, false, false, false, false, false, false, false, false, false, false, false, false, false, false, false, false, false] rfl rfl (by kernel_rfl) (fun _ _ _ h => h) (Or.inl ⟨by rfl, ?_⟩) hHeld ?_ ?_
  rotate_left
  · rintro w' ⟨s0, s1, s2, s3, s4, s5, s6, s7, s8⟩
    go_simp
    with_reducible rfl
  rotate_left
  · simp only [Act.put, List.setIfInBounds_toArray, List.set_cons_zero, List.set_cons_succ, i64_w, i32_w]
    rfl
  refine pure_ (i := 10) (N := some 82) (v := ?_) (a' := ?_) #[true, true, true, true, true, true, true, true, true, true, true, false, false, false, false, false, false, false, false, false, false, false, false, false, false, false, false, false, false, false, false, false, false, false, false, false, false, false, false, false, false, false, false, false, false, false, false, false, false, false, false, false, false, false, false, false, false, false, false, false] rfl rfl (by kernel_rfl) (fun _ _ _ h => h) (Or.inl ⟨by rfl, ?_⟩) ?_ ?_
  rotate_left
  · intro w'
    go_simp
    with_reducible rfl
  rotate_left
  · simp only [Act.put, List.setIfInBounds_toArray, List.set_cons_zero, List.set_cons_succ, i64_w, i32_w]
    rfl
  refine pure_ (i := 11) (N := some 83) (v := ?_) (a' := ?_) #[true, true, true, true, true, true, true, true, true, true, true, true, false, false, false, false, false, false, false, false, false, false, false, false, false, false, false, false, false, false, false, false, false, false, false, false, false, false, false, false, false, false, false, false, false, false, false, false, false, false, false, false, false, false, false, false, false, false, false, false] rfl rfl (by kernel_rfl) (fun _ _ _ h => h) (Or.inl ⟨by rfl, ?_⟩) ?_ ?_
  rotate_left
  · intro w'
    go_simp
    with_reducible rfl
  rotate_left
  · simp only [Act.put, List.setIfInBounds_toArray, List.set_cons_zero, List.set_cons_succ, i64_w, i32_w]
    rfl
  refine pure_ (i := 12) (N := some 84) (v := ?_) (a' := ?_) #[true, true, true, true, true, true, true, true, true, true, true, true, true, false, false, false, false, false, false, false, false, false, false, false, false, false, false, false, false, false, false, false, false, false, false, false, false, false, false, false, false, false, false, false, false, false, false, false, false, false, false, false, false, false, false, false, false, false, false, false] rfl rfl (by kernel_rfl) (fun _ _ _ h => h) (Or.inl ⟨by rfl, ?_⟩) ?_ ?_
  rotate_left
  · intro w'
    go_simp
    with_reducible rfl
  rotate_left
  · simp only [Act.put, List.setIfInBounds_toArray, List.set_cons_zero, List.set_cons_succ, i64_w, i32_w]
    rfl
  refine pure_ (i := 13) (N := some 85) (v := ?_) (a' := ?_) #[true, true, true, true, true, true, true, true, true, true, true, true, true, true, false, false, false, false, false, false, false, false, false, false, false, false, false, false, false, false, false, false, false, false, false, false, false, false, false, false, false, false, false, false, false, false, false, false, false, false, false, false, false, false, false, false, false, false, false, false] rfl rfl (by kernel_rfl) (fun _ _ _ h => h) (Or.inl ⟨by rfl, ?_⟩) ?_ ?_
  rotate_left
  · intro w'
    go_simp
    with_reducible rfl
  rotate_left
  · simp only [Act.put, List.setIfInBounds_toArray, List.set_cons_zero, List.set_cons_succ, i64_w, i32_w]
    rfl
  refine pure_ (i := 14) (N := some 86) (v := ?_) (a' := ?_) #[true, true, true, true, true, true, true, true, true, true, true, true, true, true, true, false, false, false, false, false, false, false, false, false, false, false, false, false, false, false, false, false, false, false, false, false, false, false, false, false, false, false, false, false, false, false, false, false, false, false, false, false, false, false, false, false, false, false, false, false] rfl rfl (by kernel_rfl) (fun _ _ _ h => h) (Or.inl ⟨by rfl, ?_⟩) ?_ ?_
  rotate_left
  · intro w'
    go_simp
    with_reducible rfl
  rotate_left
  · simp only [Act.put, List.setIfInBounds_toArray, List.set_cons_zero, List.set_cons_succ, i64_w, i32_w]
    rfl
  refine pure_ (i := 15) (N := some 87) (v := ?_) (a' := ?_) #[true, true, true, true, true, true, true, true, true, true, true, true, true, true, true, true, false, false, false, false, false, false, false, false, false, false, false, false, false, false, false, false, false, false, false, false, false, false, false, false, false, false, false, false, false, false, false, false, false, false, false, false, false, false, false, false, false, false, false, false] rfl rfl (by kernel_rfl) (fun _ _ _ h => h) (Or.inl ⟨by rfl, ?_⟩) ?_ ?_
  rotate_left
  · intro w'
    go_simp
    with_reducible rfl
  rotate_left
  · simp only [Act.put, List.setIfInBounds_toArray, List.set_cons_zero, List.set_cons_succ, i64_w, i32_w]
    rfl
  refine take_ (i := 16) (N := some 88) (v := ?_) (a' := ?_) #[true, true, true, true, true, true, true, true, true, true, true, true, true, true, true, true, true, false, false, false, false, false, false, false, false, false, false, false, false, false, false, false, false, false, false, false, false, false, false, false, false, false, false, false, false, false, false, false, false, false, false, false, false, false, false, false, false, false, false, false] rfl rfl (by kernel_rfl) (fun _ _ _ h => h) (Or.inl ⟨by rfl, ?_⟩) hHeld ?_ ?_
  rotate_left
  · rintro w' ⟨s0, s1, s2, s3, s4, s5, s6, s7, s8⟩
    go_simp
    with_reducible rfl
  rotate_left
  · simp only [Act.put, List.setIfInBounds_toArray, List.set_cons_zero, List.set_cons_succ, i64_w, i32_w]
    rfl
  refine pure_ (i := 17) (N := some 89) (v := ?_) (a' := ?_) #[true, true, true, true, true, true, true, true, true, true, true, true, true, true, true, true, true, true, false, false, false, false, false, false, false, false, false, false, false, false, false, false, false, false, false, false, false, false, false, false, false, false, false, false, false, false, false, false, false, false, false, false, false, false, false, false, false, false, false, false] rfl rfl (by kernel_rfl) (fun _ _ _ h => h) (Or.inl ⟨by rfl, ?_⟩) ?_ ?_
  rotate_left
  · intro w'
    go_simp
    with_reducible rfl
  rotate_left
  · simp only [Act.put, List.setIfInBounds_toArray, List.set_cons_zero, List.set_cons_succ, i64_w, i32_w]
    rfl
  refine pure_ (i := 18) (N := some 90) (v := ?_) (a' := ?_) #[true, true, true, true, true, true, true, true, true, true, true, true, true, true, true, true, true, true, true, false, false, false, false, false, false, false, false, false, false, false, false, false, false, false, false, false, false, false, false, false, false, false, false, false, false, false, false, false, false, false, false, false, false, false, false, false, false, false, false, false] rfl rfl (by kernel_rfl) (fun _ _ _ h => h) (Or.inl ⟨by rfl, ?_⟩) ?_ ?_
  rotate_left
  · intro w'
    go_simp
    with_reducible rfl
  rotate_left
  · simp only [Act.put, List.setIfInBounds_toArray, List.set_cons_zero, List.set_cons_succ, i64_w, i32_w]
    rfl
  refine pure_ (i := 19) (N := some 91) (v := ?_) (a' := ?_) #[true, true, true, true, true, true, true, true, true, true, true, true, true, true, true, true, true, true, true, true, false, false, false, false, false, false, false, false, false, false, false, false, false, false, false, false, false, false, false, false, false, false, false, false, false, false, false, false, false, false, false, false, false, false, false, false, false, false, false, false] rfl rfl (by kernel_rfl) (fun _ _ _ h => h) (Or.inl ⟨by rfl, ?_⟩) ?_ ?_
  rotate_left
  · intro w'
    go_simp
    with_reducible rfl
  rotate_left
  · simp only [Act.put, List.setIfInBounds_toArray, List.set_cons_zero, List.set_cons_succ, i64_w, i32_w]
    rfl
  refine pure_ (i := 20) (N := some 92) (v := ?_) (a' := ?_) #[true, true, true, true, true, true, true, true, true, true, true, true, true, true, true, true, true, true, true, true, true, false, false, false, false, false, false, false, false, false, false, false, false, false, false, false, false, false, false, false, false, false, false, false, false, false, false, false, false, false, false, false, false, false, false, false, false, false, false, false] rfl rfl (by kernel_rfl) (fun _ _ _ h => h) (Or.inl ⟨by rfl, ?_⟩) ?_ ?_
  rotate_left
  · intro w'
    go_simp
    with_reducible rfl
  rotate_left
  · simp only [Act.put, List.setIfInBounds_toArray, List.set_cons_zero, List.set_cons_succ, i64_w, i32_w]
    rfl
  refine pure_ (i := 21) (N := some 93) (v := ?_) (a' := ?_) #[true, true, true, true, true, true, true, true, true, true, true, true, true, true, true, true, true, true, true, true, true, true, false, false, false, false, false, false, false, false, false, false, false, false, false, false, false, false, false, false, false, false, false, false, false, false, false, false, false, false, false, false, false, false, false, false, false, false, false, false] rfl rfl (by kernel_rfl) (fun _ _ _ h => h) (Or.inl ⟨by rfl, ?_⟩) ?_ ?_
  rotate_left
  · intro w'
    go_simp
    with_reducible rfl
  rotate_left
  · simp only [Act.put, List.setIfInBounds_toArray, List.set_cons_zero, List.set_cons_succ, i64_w, i32_w]
    rfl
  refine pure_ (i := 22) (N := some 94) (v := ?_) (a' := ?_) #[true, true, true, true, true, true, true, true, true, true, true, true, true, true, true, true, true, true, true, true, true, true, true, false, false, false, false, false, false, false, false, false, false, false, false, false, false, false, false, false, false, false, false, false, false, false, false, false, false, false, false, false, false, false, false, false, false, false, false, false] rfl rfl (by kernel_rfl) (fun _ _ _ h => h) (Or.inl ⟨by rfl, ?_⟩) ?_ ?_
  rotate_left
  · intro w'
    go_simp
    with_reducible rfl
  rotate_left
  · simp only [Act.put, List.setIfInBounds_toArray, List.set_cons_zero, List.set_cons_succ, i64_w, i32_w]
    rfl
  refine take_ (i := 23) (N := some 95) (v := ?_) (a' := ?_) #[true, true, true, true, true, true, true, true, true, true, true, true, true, true, true, true, true, true, true, true, true, true, true, true, false, false, false, false, false, false, false, false, false, false, false, false, false, false, false, false, false, false, false, false, false, false, false, false, false, false, false, false, false, false, false, false, false, false, false, false] rfl rfl (by kernel_rfl) (fun _ _ _ h => h) (Or.inl ⟨by rfl, ?_⟩) hHeld ?_ ?_
  rotate_left
  · rintro w' ⟨s0, s1, s2, s3, s4, s5, s6, s7, s8⟩
    go_simp
    with_reducible rfl
  rotate_left
  · simp only [Act.put, List.setIfInBounds_toArray, List.set_cons_zero, List.set_cons_succ, i64_w, i32_w]
    rfl
  refine pure_ (i := 24) (N := some 96) (v := ?_) (a' := ?_) #[true, true, true, true, true, true, true, true, true, true, true, true, true, true, true, true, true, true, true, true, true, true, true, true, true, false, false, false, false, false, false, false, false, false, false, false, false, false, false, false, false, false, false, false, false, false, false, false, false, false, false, false, false, false, false, false, false, false, false, false] rfl rfl (by kernel_rfl) (fun _ _ _ h => h) (Or.inl ⟨by rfl, ?_⟩) ?_ ?_
  rotate_left
  · intro w'
    go_simp
    with_reducible rfl
  rotate_left
  · simp only [Act.put, List.setIfInBounds_toArray, List.set_cons_zero, List.set_cons_succ, i64_w, i32_w]
    rfl
  refine pure_ (i := 25) (N := some 97) (v := ?_) (a' := ?_) #[true, true, true, true, true, true, true, true, true, true, true, true, true, true, true, true, true, true, true, true, true, true, true, true, true, true, false, false, false, false, false, false, false, false, false, false, false, false, false, false, false, false, false, false, false, false, false, false, false, false, false, false, false, false, false, false, false, false, false, false] rfl rfl (by kernel_rfl) (fun _ _ _ h => h) (Or.inl ⟨by rfl, ?_⟩) ?_ ?_
  rotate_left
  · intro w'
    go_simp
    with_reducible rfl
  rotate_left
  · simp only [Act.put, List.setIfInBounds_toArray, List.set_cons_zero, List.set_cons_succ, i64_w, i32_w]
    rfl
  refine pure_ (i := 26) (N := some 98) (v := ?_) (a' := ?_) #[true, true, true, true, true, true, true, true, true, true, true, true, true, true, true, true, true, true, true, true, true, true, true, true, true, true, true, false, false, false, false, false, false, false, false, false, false, false, false, false, false, false, false, false, false, false, false, false, false, false, false, false, false, false, false, false, false, false, false, false] rfl rfl (by kernel_rfl) (fun _ _ _ h => h) (Or.inl ⟨by rfl, ?_⟩) ?_ ?_
  rotate_left
  · intro w'
    go_simp
    with_reducible rfl
  rotate_left
  · simp only [Act.put, List.setIfInBounds_toArray, List.set_cons_zero, List.set_cons_succ, i64_w, i32_w]
    rfl
  refine pure_ (i := 27) (N := some 99) (v := ?_) (a' := ?_) #[true, true, true, true, true, true, true, true, true, true, true, true, true, true, true, true, true, true, true, true, true, true, true, true, true, true, true, true, false, false, false, false, false, false, false, false, false, false, false, false, false, false, false, false, false, false, false, false, false, false, false, false, false, false, false, false, false, false, false, false] rfl rfl (by kernel_rfl) (fun _ _ _ h => h) (Or.inl ⟨by rfl, ?_⟩) ?_ ?_
  rotate_left
  · intro w'
    go_simp
    with_reducible rfl
  rotate_left
  · simp only [Act.put, List.setIfInBounds_toArray, List.set_cons_zero, List.set_cons_succ, i64_w, i32_w]
    rfl
  refine pure_ (i := 28) (N := some 100) (v := ?_) (a' := ?_) #[true, true, true, true, true, true, true, true, true, true, true, true, true, true, true, true, true, true, true, true, true, true, true, true, true, true, true, true, true, false, false, false, false, false, false, false, false, false, false, false, false, false, false, false, false, false, false, false, false, false, false, false, false, false, false, false, false, false, false, false] rfl rfl (by kernel_rfl) (fun _ _ _ h => h) (Or.inl ⟨by rfl, ?_⟩) ?_ ?_
  rotate_left
  · intro w'
    go_simp
    with_reducible rfl
  rotate_left
  · simp only [Act.put, List.setIfInBounds_toArray, List.set_cons_zero, List.set_cons_succ, i64_w, i32_w]
    rfl
  refine pure_ (i := 29) (N := some 101) (v := ?_) (a' := ?_) #[true, true, true, true, true, true, true, true, true, true, true, true, true, true, true, true, true, true, true, true, true, true, true, true, true, true, true, true, true, true, false, false, false, false, false, false, false, false, false, false, false, false, false, false, false, false, false, false, false, false, false, false, false, false, false, false, false, false, false, false] rfl rfl (by kernel_rfl) (fun _ _ _ h => h) (Or.inl ⟨by rfl, ?_⟩) ?_ ?_
  rotate_left
  · intro w'
    go_simp
    with_reducible rfl
  rotate_left
  · simp only [Act.put, List.setIfInBounds_toArray, List.set_cons_zero, List.set_cons_succ, i64_w, i32_w]
    rfl
  refine take_ (i := 30) (N := some 102) (v := ?_) (a' := ?_) #[true, true, true, true, true, true, true, true, true, true, true, true, true, true, true, true, true, true, true, true, true, true, true, true, true, true, true, true, true, true, true, false, false, false, false, false, false, false, false, false, false, false, false, false, false, false, false, false, false, false, false, false, false, false, false, false, false, false, false, false] rfl rfl (by kernel_rfl) (fun _ _ _ h => h) (Or.inl ⟨by rfl, ?_⟩) hHeld ?_ ?_
  rotate_left
  · rintro w' ⟨s0, s1, s2, s3, s4, s5, s6, s7, s8⟩
    go_simp
    with_reducible rfl
  rotate_left
  · simp only [Act.put, List.setIfInBounds_toArray, List.set_cons_zero, List.set_cons_succ, i64_w, i32_w]
    rfl
  refine pure_ (i := 31) (N := some 103) (v := ?_) (a' := ?_) #[true, true, true, true, true, true, true, true, true, true, true, true, true, true, true, true, true, true, true, true, true, true, true, true, true, true, true, true, true, true, true, true, false, false, false, false, false, false, false, false, false, false, false, false, false, false, false, false, false, false, false, false, false, false, false, false, false, false, false, false] rfl rfl (by kernel_rfl) (fun _ _ _ h => h) (Or.inl ⟨by rfl, ?_⟩) ?_ ?_
  rotate_left
  · intro w'
    go_simp
    with_reducible rfl
  rotate_left
  · simp only [Act.put, List.setIfInBounds_toArray, List.set_cons_zero, List.set_cons_succ, i64_w, i32_w]
    rfl
  refine pure_ (i := 32) (N := some 104) (v := ?_) (a' := ?_) #[true, true, true, true, true, true, true, true, true, true, true, true, true, true, true, true, true, true, true, true, true, true, true, true, true, true, true, true, true, true, true, true, true, false, false, false, false, false, false, false, false, false, false, false, false, false, false, false, false, false, false, false, false, false, false, false, false, false, false, false] rfl rfl (by kernel_rfl) (fun _ _ _ h => h) (Or.inl ⟨by rfl, ?_⟩) ?_ ?_
  rotate_left
  · intro w'
    go_simp
    with_reducible rfl
  rotate_left
  · simp only [Act.put, List.setIfInBounds_toArray, List.set_cons_zero, List.set_cons_succ, i64_w, i32_w]
    rfl
  refine pure_ (i := 33) (N := some 105) (v := ?_) (a' := ?_) #[true, true, true, true, true, true, true, true, true, true, true, true, true, true, true, true, true, true, true, true, true, true, true, true, true, true, true, true, true, true, true, true, true, true, false, false, false, false, false, false, false, false, false, false, false, false, false, false, false, false, false, false, false, false, false, false, false, false, false, false] rfl rfl (by kernel_rfl) (fun _ _ _ h => h) (Or.inl ⟨by rfl, ?_⟩) ?_ ?_
  rotate_left
  · intro w'
    go_simp
    with_reducible rfl
  rotate_left
  · simp only [Act.put, List.setIfInBounds_toArray, List.set_cons_zero, List.set_cons_succ, i64_w, i32_w]
    rfl
  refine pure_ (i := 34) (N := some 106) (v := ?_) (a' := ?_) #[true, true, true, true, true, true, true, true, true, true, true, true, true, true, true, true, true, true, true, true, true, true, true, true, true, true, true, true, true, true, true, true, true, true, true, false, false, false, false, false, false, false, false, false, false, false, false, false, false, false, false, false, false, false, false, false, false, false, false, false] rfl rfl (by kernel_rfl) (fun _ _ _ h => h) (Or.inl ⟨by rfl, ?_⟩) ?_ ?_
  rotate_left
  · intro w'
    go_simp
    with_reducible rfl
  rotate_left
  · simp only [Act.put, List.setIfInBounds_toArray, List.set_cons_zero, List.set_cons_succ, i64_w, i32_w]
    rfl
  refine pure_ (i := 35) (N := some 107) (v := ?_) (a' := ?_) #[true, true, true, true, true, true, true, true, true, true, true, true, true, true, true, true, true, true, true, true, true, true, true, true, true, true, true, true, true, true, true, true, true, true, true, true, false, false, false, false, false, false, false, false, false, false, false, false, false, false, false, false, false, false, false, false, false, false, false, false] rfl rfl (by kernel_rfl) (fun _ _ _ h => h) (Or.inl ⟨by rfl, ?_⟩) ?_ ?_
  rotate_left
  · intro w'
    go_simp
    with_reducible rfl
  rotate_left
  · simp only [Act.put, List.setIfInBounds_toArray, List.set_cons_zero, List.set_cons_succ, i64_w, i32_w]
    rfl
  refine pure_ (i := 36) (N := some 108) (v := ?_) (a' := ?_) #[true, true, true, true, true, true, true, true, true, true, true, true, true, true, true, true, true, true, true, true, true, true, true, true, true, true, true, true, true, true, true, true, true, true, true, true, true, false, false, false, false, false, false, false, false, false, false, false, false, false, false, false, false, false, false, false, false, false, false, false] rfl rfl (by kernel_rfl) (fun _ _ _ h => h) (Or.inl ⟨by rfl, ?_⟩) ?_ ?_
  rotate_left
  · intro w'
    go_simp
    with_reducible rfl
  rotate_left
  · simp only [Act.put, List.setIfInBounds_toArray, List.set_cons_zero, List.set_cons_succ, i64_w, i32_w]
    rfl
  refine take_ (i := 37) (N := some 109) (v := ?_) (a' := ?_) #[true, true, true, true, true, true, true, true, true, true, true, true, true, true, true, true, true, true, true, true, true, true, true, true, true, true, true, true, true, true, true, true, true, true, true, true, true, true, false, false, false, false, false, false, false, false, false, false, false, false, false, false, false, false, false, false, false, false, false, false] rfl rfl (by kernel_rfl) (fun _ _ _ h => h) (Or.inl ⟨by rfl, ?_⟩) hHeld ?_ ?_
  rotate_left
  · rintro w' ⟨s0, s1, s2, s3, s4, s5, s6, s7, s8⟩
    go_simp
    with_reducible rfl
  rotate_left
  · simp only [Act.put, List.setIfInBounds_toArray, List.set_cons_zero, List.set_cons_succ, i64_w, i32_w]
    rfl
  refine pure_ (i := 38) (N := some 110) (v := ?_) (a' := ?_) #[true, true, true, true, true, true, true, true, true, true, true, true, true, true, true, true, true, true, true, true, true, true, true, true, true, true, true, true, true, true, true, true, true, true, true, true, true, true, true, false, false, false, false, false, false, false, false, false, false, false, false, false, false, false, false, false, false, false, false, false] rfl rfl (by kernel_rfl) (fun _ _ _ h => h) (Or.inl ⟨by rfl, ?_⟩) ?_ ?_
  rotate_left
  · intro w'
    go_simp
    with_reducible rfl
  rotate_left
  · simp only [Act.put, List.setIfInBounds_toArray, List.set_cons_zero, List.set_cons_succ, i64_w, i32_w]
    rfl
  refine pure_ (i := 39) (N := some 111) (v := ?_) (a' := ?_) #[true, true, true, true, true, true, true, true, true, true, true, true, true, true, true, true, true, true, true, true, true, true, true, true, true, true, true, true, true, true, true, true, true, true, true, true, true, true, true, true, false, false, false, false, false, false, false, false, false, false, false, false, false, false, false, false, false, false, false, false] rfl rfl (by kernel_rfl) (fun _ _ _ h => h) (Or.inl ⟨by rfl, ?_⟩) ?_ ?_
  rotate_left
  · intro w'
    go_simp
    with_reducible rfl
  rotate_left
  · simp only [Act.put, List.setIfInBounds_toArray, List.set_cons_zero, List.set_cons_succ, i64_w, i32_w]
    rfl
  refine pure_ (i := 40) (N := some 112) (v := ?_) (a' := ?_) #[true, true, true, true, true, true, true, true, true, true, true, true, true, true, true, true, true, true, true, true, true, true, true, true, true, true, true, true, true, true, true, true, true, true, true, true, true, true, true, true, true, false, false, false, false, false, false, false, false, false, false, false, false, false, false, false, false, false, false, false] rfl rfl (by kernel_rfl) (fun _ _ _ h => h) (Or.inl ⟨by rfl, ?_⟩) ?_ ?_
  rotate_left
  · intro w'
    go_simp
    with_reducible rfl
  rotate_left
  · simp only [Act.put, List.setIfInBounds_toArray, List.set_cons_zero, List.set_cons_succ, i64_w, i32_w]
    rfl
  refine pure_ (i := 41) (N := some 113) (v := ?_) (a' := ?_) #[true, true, true, true, true, true, true, true, true, true, true, true, true, true, true, true, true, true, true, true, true, true, true, true, true, true, true, true, true, true, true, true, true, true, true, true, true, true, true, true, true, true, false, false, false, false, false, false, false, false, false, false, false, false, false, false, false, false, false, false] rfl rfl (by kernel_rfl) (fun _ _ _ h => h) (Or.inl ⟨by rfl, ?_⟩) ?_ ?_
  rotate_left
  · intro w'
    go_simp
    with_reducible rfl
  rotate_left
  · simp only [Act.put, List.setIfInBounds_toArray, List.set_cons_zero, List.set_cons_succ, i64_w, i32_w]
    rfl
  refine pure_ (i := 42) (N := some 114) (v := ?_) (a' := ?_) #[true, true, true, true, true, true, true, true, true, true, true, true, true, true, true, true, true, true, true, true, true, true, true, true, true, true, true, true, true, true, true, true, true, true, true, true, true, true, true, true, true, true, true, false, false, false, false, false, false, false, false, false, false, false, false, false, false, false, false, false] rfl rfl (by kernel_rfl) (fun _ _ _ h => h) (Or.inl ⟨by rfl, ?_⟩) ?_ ?_
  rotate_left
  · intro w'
    go_simp
    with_reducible rfl
  rotate_left
  · simp only [Act.put, List.setIfInBounds_toArray, List.set_cons_zero, List.set_cons_succ, i64_w, i32_w]
    rfl
  refine pure_ (i := 43) (N := some 115) (v := ?_) (a' := ?_) #[true, true, true, true, true, true, true, true, true, true, true, true, true, true, true, true, true, true, true, true, true, true, true, true, true, true, true, true, true, true, true, true, true, true, true, true, true, true, true, true, true, true, true, true, false, false, false, false, false, false, false, false, false, false, false, false, false, false, false, false] rfl rfl (by kernel_rfl) (fun _ _ _ h => h) (Or.inl ⟨by rfl, ?_⟩) ?_ ?_
  rotate_left
  · intro w'
    go_simp
    with_reducible rfl
  rotate_left
  · simp only [Act.put, List.setIfInBounds_toArray, List.set_cons_zero, List.set_cons_succ, i64_w, i32_w]
    rfl
  refine pure_ (i := 46) (N := some 118) (v := ?_) (a' := ?_) #[true, true, true, true, true, true, true, true, true, true, true, true, true, true, true, true, true, true, true, true, true, true, true, true, true, true, true, true, true, true, true, true, true, true, true, true, true, true, true, true, true, true, true, true, false, false, true, false, false, false, false, false, false, false, false, false, false, false, false, false] rfl rfl (by kernel_rfl) (fun _ _ _ h => h) (Or.inl ⟨by rfl, ?_⟩) ?_ ?_
  rotate_left
  · intro w'
    go_simp
    with_reducible rfl
  rotate_left
  · simp only [Act.put, List.setIfInBounds_toArray, List.set_cons_zero, List.set_cons_succ, i64_w, i32_w]
    rfl
  refine take_ (i := 44) (N := some 116) (v := ?_) (a' := ?_) #[true, true, true, true, true, true, true, true, true, true, true, true, true, true, true, true, true, true, true, true, true, true, true, true, true, true, true, true, true, true, true, true, true, true, true, true, true, true, true, true, true, true, true, true, true, false, true, false, false, false, false, false, false, false, false, false, false, false, false, false] rfl rfl (by kernel_rfl) (fun _ _ _ h => h) (Or.inl ⟨by rfl, ?_⟩) hHeld ?_ ?_
  rotate_left
  · rintro w' ⟨s0, s1, s2, s3, s4, s5, s6, s7, s8⟩
    go_simp
    with_reducible rfl
  rotate_left
  · simp only [Act.put, List.setIfInBounds_toArray, List.set_cons_zero, List.set_cons_succ, i64_w, i32_w]
    rfl
  refine pure_ (i := 45) (N := some 117) (v := ?_) (a' := ?_) #[true, true, true, true, true, true, true, true, true, true, true, true, true, true, true, true, true, true, true, true, true, true, true, true, true, true, true, true, true, true, true, true, true, true, true, true, true, true, true, true, true, true, true, true, true, true, true, false, false, false, false, false, false, false, false, false, false, false, false, false] rfl rfl (by kernel_rfl) (fun _ _ _ h => h) (Or.inl ⟨by rfl, ?_⟩) ?_ ?_
  rotate_left
  · intro w'
    go_simp
    with_reducible rfl
  rotate_left
  · simp only [Act.put, List.setIfInBounds_toArray, List.set_cons_zero, List.set_cons_succ, i64_w, i32_w]
    rfl
  refine take_ (i := 47) (N := some 119) (v := ?_) (a' := ?_) #[true, true, true, true, true, true, true, true, true, true, true, true, true, true, true, true, true, true, true, true, true, true, true, true, true, true, true, true, true, true, true, true, true, true, true, true, true, true, true, true, true, true, true, true, true, true, true, true, false, false, false, false, false, false, false, false, false, false, false, false] rfl rfl (by kernel_rfl) (fun _ _ _ h => h) (Or.inl ⟨by rfl, ?_⟩) hHeld ?_ ?_
  rotate_left
  · rintro w' ⟨s0, s1, s2, s3, s4, s5, s6, s7, s8⟩
    go_simp
    with_reducible rfl
  rotate_left
  · simp only [Act.put, List.setIfInBounds_toArray, List.set_cons_zero, List.set_cons_succ, i64_w, i32_w]
    rfl
  refine pure_ (i := 48) (N := some 120) (v := ?_) (a' := ?_) #[true, true, true, true, true, true, true, true, true, true, true, true, true, true, true, true, true, true, true, true, true, true, true, true, true, true, true, true, true, true, true, true, true, true, true, true, true, true, true, true, true, true, true, true, true, true, true, true, true, false, false, false, false, false, false, false, false, false, false, false] rfl rfl (by kernel_rfl) (fun _ _ _ h => h) (Or.inl ⟨by rfl, ?_⟩) ?_ ?_
  rotate_left
  · intro w'
    go_simp
    with_reducible rfl
  rotate_left
  · simp only [Act.put, List.setIfInBounds_toArray, List.set_cons_zero, List.set_cons_succ, i64_w, i32_w]
    rfl
  refine pure_ (i := 49) (N := some 121) (v := ?_) (a' := ?_) #[true, true, true, true, true, true, true, true, true, true, true, true, true, true, true, true, true, true, true, true, true, true, true, true, true, true, true, true, true, true, true, true, true, true, true, true, true, true, true, true, true, true, true, true, true, true, true, true, true, true, false, false, false, false, false, false, false, false, false, false] rfl rfl (by kernel_rfl) (fun _ _ _ h => h) (Or.inl ⟨by rfl, ?_⟩) ?_ ?_
  rotate_left
  · intro w'
    go_simp
    with_reducible rfl
  rotate_left
  · simp only [Act.put, List.setIfInBounds_toArray, List.set_cons_zero, List.set_cons_succ, i64_w, i32_w]
    rfl
  refine pure_ (i := 50) (N := some 122) (v := ?_) (a' := ?_) #[true, true, true, true, true, true, true, true, true, true, true, true, true, true, true, true, true, true, true, true, true, true, true, true, true, true, true, true, true, true, true, true, true, true, true, true, true, true, true, true, true, true, true, true, true, true, true, true, true, true, true, false, false, false, false, false, false, false, false, false] rfl rfl (by kernel_rfl) (fun _ _ _ h => h) (Or.inl ⟨by rfl, ?_⟩) ?_ ?_
  rotate_left
  · intro w'
    go_simp
    with_reducible rfl
  rotate_left
  · simp only [Act.put, List.setIfInBounds_toArray, List.set_cons_zero, List.set_cons_succ, i64_w, i32_w]
    rfl
  refine pure_ (i := 51) (N := some 123) (v := ?_) (a' := ?_) #[true, true, true, true, true, true, true, true, true, true, true, true, true, true, true, true, true, true, true, true, true, true, true, true, true, true, true, true, true, true, true, true, true, true, true, true, true, true, true, true, true, true, true, true, true, true, true, true, true, true, true, true, false, false, false, false, false, false, false, false] rfl rfl (by kernel_rfl) (fun _ _ _ h => h) (Or.inl ⟨by rfl, ?_⟩) ?_ ?_
  rotate_left
  · intro w'
    go_simp
    with_reducible rfl
  rotate_left
  · simp only [Act.put, List.setIfInBounds_toArray, List.set_cons_zero, List.set_cons_succ, i64_w, i32_w]
    rfl
  refine pure_ (i := 52) (N := some 124) (v := ?_) (a' := ?_) #[true, true, true, true, true, true, true, true, true, true, true, true, true, true, true, true, true, true, true, true, true, true, true, true, true, true, true, true, true, true, true, true, true, true, true, true, true, true, true, true, true, true, true, true, true, true, true, true, true, true, true, true, true, false, false, false, false, false, false, false] rfl rfl (by kernel_rfl) (fun _ _ _ h => h) (Or.inl ⟨by rfl, ?_⟩) ?_ ?_
  rotate_left
  · intro w'
    go_simp
    with_reducible rfl
  rotate_left
  · simp only [Act.put, List.setIfInBounds_toArray, List.set_cons_zero, List.set_cons_succ, i64_w, i32_w]
    rfl
  refine pure_ (i := 53) (N := some 125) (v := ?_) (a' := ?_) #[true, true, true, true, true, true, true, true, true, true, true, true, true, true, true, true, true, true, true, true, true, true, true, true, true, true, true, true, true, true, true, true, true, true, true, true, true, true, true, true, true, true, true, true, true, true, true, true, true, true, true, true, true, true, false, false, false, false, false, false] rfl rfl (by kernel_rfl) (fun _ _ _ h => h) (Or.inl ⟨by rfl, ?_⟩) ?_ ?_
  rotate_left
  · intro w'
    go_simp
    with_reducible rfl
  rotate_left
  · simp only [Act.put, List.setIfInBounds_toArray, List.set_cons_zero, List.set_cons_succ, i64_w, i32_w]
    rfl
  refine pure_ (i := 56) (N := some 128) (v := ?_) (a' := ?_) #[true, true, true, true, true, true, true, true, true, true, true, true, true, true, true, true, true, true, true, true, true, true, true, true, true, true, true, true, true, true, true, true, true, true, true, true, true, true, true, true, true, true, true, true, true, true, true, true, true, true, true, true, true, true, false, false, true, false, false, false] rfl rfl (by kernel_rfl) (fun _ _ _ h => h) (Or.inl ⟨by rfl, ?_⟩) ?_ ?_
  rotate_left
  · intro w'
    go_simp
    with_reducible rfl
  rotate_left
  · simp only [Act.put, List.setIfInBounds_toArray, List.set_cons_zero, List.set_cons_succ, i64_w, i32_w]
    rfl
  refine take_ (i := 54) (N := some 126) (v := ?_) (a' := ?_) #[true, true, true, true, true, true, true, true, true, true, true, true, true, true, true, true, true, true, true, true, true, true, true, true, true, true, true, true, true, true, true, true, true, true, true, true, true, true, true, true, true, true, true, true, true, true, true, true, true, true, true, true, true, true, true, false, true, false, false, false] rfl rfl (by kernel_rfl) (fun _ _ _ h => h) (Or.inl ⟨by rfl, ?_⟩) hHeld ?_ ?_
  rotate_left
  · rintro w' ⟨s0, s1, s2, s3, s4, s5, s6, s7, s8⟩
    go_simp
    with_reducible rfl
  rotate_left
  · simp only [Act.put, List.setIfInBounds_toArray, List.set_cons_zero, List.set_cons_succ, i64_w, i32_w]
    rfl
  refine pure_ (i := 55) (N := some 127) (v := ?_) (a' := ?_) #[true, true, true, true, true, true, true, true, true, true, true, true, true, true, true, true, true, true, true, true, true, true, true, true, true, true, true, true, true, true, true, true, true, true, true, true, true, true, true, true, true, true, true, true, true, true, true, true, true, true, true, true, true, true, true, true, true, false, false, false] rfl rfl (by kernel_rfl) (fun _ _ _ h => h) (Or.inl ⟨by rfl, ?_⟩) ?_ ?_
  rotate_left
  · intro w'
    go_simp
    with_reducible rfl
  rotate_left
  · simp only [Act.put, List.setIfInBounds_toArray, List.set_cons_zero, List.set_cons_succ, i64_w, i32_w]
    rfl
  refine take_ (i := 57) (N := some 129) (v := ?_) (a' := ?_) #[true, true, true, true, true, true, true, true, true, true, true, true, true, true, true, true, true, true, true, true, true, true, true, true, true, true, true, true, true, true, true, true, true, true, true, true, true, true, true, true, true, true, true, true, true, true, true, true, true, true, true, true, true, true, true, true, true, true, false, false] rfl rfl (by kernel_rfl) (fun _ _ _ h => h) (Or.inl ⟨by rfl, ?_⟩) hHeld ?_ ?_
  rotate_left
  · rintro w' ⟨s0, s1, s2, s3, s4, s5, s6, s7, s8⟩
    go_simp
    with_reducible rfl
  rotate_left
  · simp only [Act.put, List.setIfInBounds_toArray, List.set_cons_zero, List.set_cons_succ, i64_w, i32_w]
    rfl
  refine pure_ (i := 58) (N := some 130) (v := ?_) (a' := ?_) #[true, true, true, true, true, true, true, true, true, true, true, true, true, true, true, true, true, true, true, true, true, true, true, true, true, true, true, true, true, true, true, true, true, true, true, true, true, true, true, true, true, true, true, true, true, true, true, true, true, true, true, true, true, true, true, true, true, true, true, false] rfl rfl (by kernel_rfl) (fun _ _ _ h => h) (Or.inl ⟨by rfl, ?_⟩) ?_ ?_
  rotate_left
  · intro w'
    go_simp
    with_reducible rfl
  rotate_left
  · simp only [Act.put, List.setIfInBounds_toArray, List.set_cons_zero, List.set_cons_succ, i64_w, i32_w]
    rfl
  refine pure_ (i := 59) (N := some 131) (v := ?_) (a' := ?_) #[true, true, true, true, true, true, true, true, true, true, true, true, true, true, true, true, true, true, true, true, true, true, true, true, true, true, true, true, true, true, true, true, true, true, true, true, true, true, true, true, true, true, true, true, true, true, true, true, true, true, true, true, true, true, true, true, true, true, true, true] rfl rfl (by kernel_rfl) (fun _ _ _ h => h) (Or.inl ⟨by rfl, ?_⟩) ?_ ?_
  rotate_left
  · intro w'
    go_simp
    with_reducible rfl
  rotate_left
  · simp only [Act.put, List.setIfInBounds_toArray, List.set_cons_zero, List.set_cons_succ, i64_w, i32_w]
    rfl
  refine done_ (by kernel_rfl) ?_
  refine NoPanic.normal ?_
  obtain ⟨wd, hwd⟩ : ∃ wd, w4.drew = wd := ⟨_, rfl⟩
  rw [hwd] at HWA HWB HB ⊢
  clear hwd x1 x2 x3 x4 x5 x6 x7 x8 x9
  have HL := Lib.hid (Low.refl w3.heap.size wd)
  obtain ⟨s0, hs0⟩ : ∃ s0 : CS, ⟨List.replicate (2 + a).toNat 0, List.replicate n (-1), 0⟩ = s0 := ⟨_, rfl⟩
  rw [hs0] at HWA
  have x1 : wd.cell? ⟨p, 5, none⟩ = some (.pointer (some ⟨q, 0, none⟩)) := HWA.out.hp.cell 5
  go_wp2_with fail
  go_at_call 7
  refine (Store_any q b1 b2 s0 0 7 _ HWA.out.hh).mono ?_
  rintro e9 w5 ⟨rfl, hh, ht⟩
  have n0 := Lib.hid (show Wd w5 W.heap.size p q b1 b2 qs ss qk (.slice (some ⟨gt, 0, none⟩) n ct) pv a n c d m 0 n m (s0.store 0 7) (List.replicate 16 (Value.int .i64 0) ++ [Value.int .i64 (m : Int)]) (List.replicate n (List.replicate c.toNat z97)) from HWA.out.touch hh ht)
  have n1 := Lib.hid (HL.out.trans (Low.of_touch ht HLT.out.2.1 HLT.out.2.2.1 HLT.out.2.2.2.1))
  have n2 := Lib.hid (HB.out.trans (ht.below W.heap.size HWA.out.lo.2.1 HWA.out.lo.2.2.1 HWA.out.lo.2.2.2.1 HB.out.size))
  obtain ⟨s1, hs1⟩ : ∃ s1 : CS, s0.store 0 7 = s1 := ⟨_, rfl⟩
  rw [hs1] at n0
  clear HWA HL HB hh ht x1 hs1
  have HWA := n0
  have HL := n1
  have HB := n2
  clear n0 n1 n2
  have x1 : w5.cell? ⟨p, 5, none⟩ = some (.pointer (some ⟨q, 0, none⟩)) := HWA.out.hp.cell 5
  go_wp2_with fail
  go_at_call 8
  refine (Lock_any q b1 b2 s1 (k : Int) 1 _ HWA.out.hh).mono ?_
  rintro e9 w6 ⟨rfl, hh, ht⟩
  have n0 := Lib.hid (show Wd w6 W.heap.size p q b1 b2 qs ss qk (.slice (some ⟨gt, 0, none⟩) n ct) pv a n c d m 0 n m (s1.lock (k : Int) 1).2 (List.replicate 16 (Value.int .i64 0) ++ [Value.int .i64 (m : Int)]) (List.replicate n (List.replicate c.toNat z97)) from HWA.out.touch hh ht)
  have n1 := Lib.hid (HL.out.trans (Low.of_touch ht HLT.out.2.1 HLT.out.2.2.1 HLT.out.2.2.2.1))
  have n2 := Lib.hid (HB.out.trans (ht.below W.heap.size HWA.out.lo.2.1 HWA.out.lo.2.2.1 HWA.out.lo.2.2.2.1 HB.out.size))
  obtain ⟨s2, hs2⟩ : ∃ s2 : CS, (s1.lock (k : Int) 1).2 = s2 := ⟨_, rfl⟩
  rw [hs2] at n0
  clear HWA HL HB hh ht x1 hs2
  have HWA := n0
  have HL := n1
  have HB := n2
  clear n0 n1 n2
  have HP := Lib.hid HWA.out.hp
  have HS1 := Lib.hid HWA.out.h1
  have HS2 := Lib.hid HWA.out.h2
  have HKE := Lib.hid HWA.out.h3
  obtain ⟨cgt, hcgt⟩ := Kd.R_typed HWA.out.ht gt (by simp [Value.ownBlock])
  have hgp : gt ≠ p := blk_ne hcgt (show w6.heap[p]? = _ from HP.out) (by decide)
  have hgk : gt ≠ qk := blk_ne hcgt (show w6.heap[qk]? = _ from HKE.out) (by decide)
  have hgs : gt ≠ ss := blk_ne hcgt (show w6.heap[ss]? = _ from HS1.out) (by decide)
  have hpk : p ≠ qk := blkNe HP.out HKE.out (by decide)
  have hps : p ≠ ss := blkNe HP.out HS1.out (by decide)
  have hsk : ss ≠ qk := blkNe HS1.out HKE.out (by decide)
  have hqk : qs ≠ qk := blkNe HS2.out HKE.out (by decide)
  have HT := Lib.hid (show Tab w6 (fun k_ => k_ ≠ gt ∧ k_ ≠ qk ∧ k_ ≠ ss ∧ k_ ≠ p) gt (List.replicate n (List.replicate c.toNat z97)) from Tab.of_R HWA.out.ht (by rw [List.length_replicate]; have := HNN.out; omega) (fun k_ cells hk => ⟨blk_ne hk hcgt (by decide), blk_ne hk (show w6.heap[qk]? = _ from HKE.out) (by decide), blk_ne hk (show w6.heap[ss]? = _ from HS1.out) (by decide), blk_ne hk (show w6.heap[p]? = _ from HP.out) (by decide)⟩))
  have HNE := Lib.hid (show gt ≠ p ∧ gt ≠ qk ∧ gt ≠ ss ∧ p ≠ qk ∧ p ≠ ss ∧ ss ≠ qk ∧ qs ≠ qk from ⟨hgp, hgk, hgs, hpk, hps, hsk, hqk⟩)
  have HLO := Lib.hid HWA.out.lo
  have HGLO := Lib.hid (Kd.R_base HWA.out.ht gt (by simp [Value.ownBlock]))
  clear HWA hcgt hgp hgk hgs hpk hps hsk hqk
  have x1 : w6.cell? ⟨p, 7, none⟩ = some (.pointer (some ⟨qk, 0, none⟩)) := HP.out.cell 7
  go_wp2_with fail
  go_at_call 9
  refine (Take_far qk m (by have := HEE.out; omega) (by have := HEE.out; omega) _ HKE.out).mono ?_
  rintro e9 w7 ⟨rfl, hk7⟩
  have n0 := Lib.hid (hk7.blk HP.out HNE.out.2.2.2.1)
  have n1 := Lib.hid (hk7.blk HS1.out HNE.out.2.2.2.2.2.1)
  have n2 := Lib.hid (hk7.blk HS2.out HNE.out.2.2.2.2.2.2)
  have n3 := Lib.hid (hk7.tab HT.out HNE.out.2.1 (fun _ h => h.2.1))
  have n4 := Lib.hid (HL.out.trans (Low.of_kept hk7 HLT.out.2.2.2.2.2.2.1))
  have n5 := Lib.hid (HB.out.trans (hk7.below _ HLO.out.2.2.2.2.2.2 HB.out.size))
  clear HP HS1 HS2 HKE HT HL HB hk7 x1
  have HP := n0
  have HSL := Lib.hid (Sl.of_blk n1.out n2.out)
  have HT := n3
  have HL := n4
  have HB := n5
  clear n0 n1 n2 n3 n4 n5
  have x1 : w7.cell? ⟨p, 6, none⟩ = some (.pointer (some ⟨qs, 0, none⟩)) := HP.out.cell 6
  go_wp2_with fail
  go_at_call 10
  refine (BeginS_any qs ss m _ 0 _ HSL.out).mono ?_
  rintro e9 w8 ⟨rfl, hsl, hk8⟩
  obtain ⟨bb, hbb⟩ : ∃ bb, inS 0 m = bb := ⟨_, rfl⟩
  rw [hbb]
  clear hbb
  have n0 := Lib.hid (hk8.blk HP.out HNE.out.2.2.2.2.1)
  have n1 := Lib.hid hsl
  have n3 := Lib.hid (hk8.tab HT.out HNE.out.2.2.1 (fun _ h => h.2.2.1))
  have n4 := Lib.hid (HL.out.trans (Low.of_kept hk8 HLT.out.2.2.2.2.2.1))
  have n5 := Lib.hid (HB.out.trans (hk8.below _ HLO.out.2.2.2.2.2.1 HB.out.size))
  clear HP HSL HT HL HB hk8 hsl x1
  have HP := n0
  have HSL := n1
  have HT := n3
  have HL := n4
  have HB := n5
  clear n0 n1 n3 n4 n5
  have x1 : w8.cell? ⟨p, 6, none⟩ = some (.pointer (some ⟨qs, 0, none⟩)) := HP.out.cell 6
  go_wp2_with fail
  go_at_call 11
  refine (FillS_any qs ss m _ 0 none 0 [] (Nat.zero_le _) (Nat.le_refl _) rfl _ HSL.out (Kd.R_reads' (Kd.R_nil k90 90 w8 0 (fun _ => True))).2.2).mono ?_
  rintro e9 w9 ⟨rfl, hsl, hk9⟩
  obtain ⟨bf, hbf⟩ : ∃ bf, fillB (putS (List.replicate m none) 0 (some none)) 0 [] = bf := ⟨_, rfl⟩
  rw [hbf]
  clear hbf hsl
  have n0 := Lib.hid (hk9.blk HP.out HNE.out.2.2.2.2.1)
  have n3 := Lib.hid (hk9.tab HT.out HNE.out.2.2.1 (fun _ h => h.2.2.1))
  have n4 := Lib.hid (HL.out.trans (Low.of_kept hk9 HLT.out.2.2.2.2.2.1))
  have n5 := Lib.hid (HB.out.trans (hk9.below _ HLO.out.2.2.2.2.2.1 HB.out.size))
  clear HP HSL HT HL HB hk9 x1
  have HP := n0
  have HT := n3
  have HL := n4
  have HB := n5
  clear n0 n3 n4 n5
  go_wp2_with fail
  go_at_call 12
  refine (Tick_any p _ _ _ _ _ _ _ _ _ _ 0 3 _ HP.out).mono ?_
  rintro e9 wf ⟨rfl, hwf⟩
  rw [if_pos ⟨by decide, by decide, by decide⟩] at hwf
  have hkf : KeptB p w9 wf := by rw [hwf]; exact KeptB.set p 10 _ _
  have n0 := Lib.hid (show Blk wf p 36 [.int .i64 a, .int .i64 (n : Int), .int .i64 c, .int .i64 d, .int .i64 (m : Int), .pointer (some ⟨q, 0, none⟩), .pointer (some ⟨qs, 0, none⟩), .pointer (some ⟨qk, 0, none⟩), .slice (some ⟨gt, 0, none⟩) n ct, pv, .int .i64 (wrap64 (0 + 3))] from by rw [hwf]; exact blk_putL HP.out 10 _)
  have n3 := Lib.hid (hkf.tab HT.out HNE.out.1 (fun _ h => h.2.2.2))
  have n4 := Lib.hid (HL.out.trans (Low.of_kept hkf HLT.out.1))
  have n5 := Lib.hid (HB.out.trans (hkf.below _ HLO.out.1 HB.out.size))
  clear HP HT HL HB hkf hwf
  have HP := n0
  have HT := n3
  have HL := n4
  have HB := n5
  clear n0 n3 n4 n5
  have HFRE := Lib.hid (show ∀ i_, wf.heap.size ≤ i_ → i_ ≠ gt ∧ i_ ≠ qk ∧ i_ ≠ ss ∧ i_ ≠ p from fun i_ hi => by
    have h1 := HLT.out
    have h2 := HP.out.lt
    have h3 := HL.out.size
    have h4 := HWB.out.hp.lt
    have h5 := HWB.out.lo.1
    exact ⟨by omega, by omega, by omega, by omega⟩)
  obtain ⟨A0, c0, z1, hv⟩ := HT.out.at k (by rw [List.length_replicate]; exact HKN.out)
  obtain ⟨l0, hl0⟩ : ∃ l0, (List.replicate n (List.replicate c.toNat z97)).getD k [] = l0 := ⟨_, rfl⟩
  have HPUT := Lib.hid (show flows_Put.f l0 key 1 1 = some (u1, u2) from by rw [← hl0, List.getD_eq_getElem?_getD, List.getElem?_replicate, if_pos HKN.out]; exact HPUT0.out)
  rw [hl0] at z1 hv
  have HV := Lib.hid hv
  have k2 : (0 : Int) ≤ (k : Int) := by omega
  have k3 : (k : Int) < (n : Int) := by have := HKN.out; omega
  have k3n : (k < n) = True := eq_true HKN.out
  have x1 : wf.drew.cell? ⟨p, 8, none⟩ = some (.slice (some ⟨gt, 0, none⟩) n ct) := HP.out.cell 8
  have x2 : wf.drew.cell? ⟨gt, k, none⟩ = some (.slice A0 l0.length c0) := z1
  clear hv hl0 z1
  go_wp2_with fail
  refine wp_region_noPanic ?_
  refine start_ (n := 19) (S := fun w' => w'.cell? ⟨p, 8, none⟩ = some (.slice (some ⟨gt, 0, none⟩) n ct) ∧ w'.cell? ⟨gt, k, none⟩ = some (.slice A0 (l0).length c0)) (ds := [18]) #[false, false, false, false, false, false, false, false, false, false, false, false, false, false, false, false, false, false, false] (by kernel_rfl) rfl rfl ⟨x1, x2⟩ (fun hHeld => ?_)
  refine pure_ (i := 0) (N := some 161) (v := ?_) (a' := ?_) #[true, false, false, false, false, false, false, false, false, false, false, false, false, false, false, false, false, false, false] rfl rfl (by kernel_rfl) (fun _ _ _ h => h) (Or.inl ⟨by rfl, ?_⟩) ?_ ?_
  rotate_left
  · intro w'
    go_simp
    with_reducible rfl
  rotate_left
  · simp only [Act.put, List.setIfInBounds_toArray, List.set_cons_zero, List.set_cons_succ, i64_w, i32_w]
    rfl
  refine pure_ (i := 1) (N := some 162) (v := ?_) (a' := ?_) #[true, true, false, false, false, false, false, false, false, false, false, false, false, false, false, false, false, false, false] rfl rfl (by kernel_rfl) (fun _ _ _ h => h) (Or.inl ⟨by rfl, ?_⟩) ?_ ?_
  rotate_left
  · intro w'
    go_simp
    with_reducible rfl
  rotate_left
  · simp only [Act.put, List.setIfInBounds_toArray, List.set_cons_zero, List.set_cons_succ, i64_w, i32_w]
    rfl
  refine pure_ (i := 2) (N := some 163) (v := ?_) (a' := ?_) #[true, true, true, false, false, false, false, false, false, false, false, false, false, false, false, false, false, false, false] rfl rfl (by kernel_rfl) (fun _ _ _ h => h) (Or.inl ⟨by rfl, ?_⟩) ?_ ?_
  rotate_left
  · intro w'
    go_simp
    with_reducible rfl
  rotate_left
  · simp only [Act.put, List.setIfInBounds_toArray, List.set_cons_zero, List.set_cons_succ, i64_w, i32_w]
    rfl
  refine pure_ (i := 4) (N := some 165) (v := ?_) (a' := ?_) #[true, true, true, false, true, false, false, false, false, false, false, false, false, false, false, false, false, false, false] rfl rfl (by kernel_rfl) (fun _ _ _ h => h) (Or.inl ⟨by rfl, ?_⟩) ?_ ?_
  rotate_left
  · intro w'
    go_simp
    with_reducible rfl
  rotate_left
  · simp only [Act.put, List.setIfInBounds_toArray, List.set_cons_zero, List.set_cons_succ, i64_w, i32_w]
    rfl
  refine pure_ (i := 5) (N := some 166) (v := ?_) (a' := ?_) #[true, true, true, false, true, true, false, false, false, false, false, false, false, false, false, false, false, false, false] rfl rfl (by kernel_rfl) (fun _ _ _ h => h) (Or.inl ⟨by rfl, ?_⟩) ?_ ?_
  rotate_left
  · intro w'
    go_simp
    with_reducible rfl
  rotate_left
  · simp only [Act.put, List.setIfInBounds_toArray, List.set_cons_zero, List.set_cons_succ, i64_w, i32_w]
    rfl
  refine pure_ (i := 6) (N := some 167) (v := ?_) (a' := ?_) #[true, true, true, false, true, true, true, false, false, false, false, false, false, false, false, false, false, false, false] rfl rfl (by kernel_rfl) (fun _ _ _ h => h) (Or.inl ⟨by rfl, ?_⟩) ?_ ?_
  rotate_left
  · intro w'
    go_simp
    with_reducible rfl
  rotate_left
  · simp only [Act.put, List.setIfInBounds_toArray, List.set_cons_zero, List.set_cons_succ, i64_w, i32_w]
    rfl
  refine pure_ (i := 7) (N := some 168) (v := ?_) (a' := ?_) #[true, true, true, false, true, true, true, true, false, false, false, false, false, false, false, false, false, false, false] rfl rfl (by kernel_rfl) (fun _ _ _ h => h) (Or.inl ⟨by rfl, ?_⟩) ?_ ?_
  rotate_left
  · intro w'
    go_simp
    with_reducible rfl
  rotate_left
  · simp only [Act.put, List.setIfInBounds_toArray, List.set_cons_zero, List.set_cons_succ, i64_w, i32_w]
    rfl
  refine pure_ (i := 9) (N := some 170) (v := ?_) (a' := ?_) #[true, true, true, false, true, true, true, true, false, true, false, false, false, false, false, false, false, false, false] rfl rfl (by kernel_rfl) (fun _ _ _ h => h) (Or.inl ⟨by rfl, ?_⟩) ?_ ?_
  rotate_left
  · intro w'
    go_simp
    with_reducible rfl
  rotate_left
  · simp only [Act.put, List.setIfInBounds_toArray, List.set_cons_zero, List.set_cons_succ, i64_w, i32_w]
    rfl
  refine pure_ (i := 12) (N := some 173) (v := ?_) (a' := ?_) #[true, true, true, false, true, true, true, true, false, true, false, false, true, false, false, false, false, false, false] rfl rfl (by kernel_rfl) (fun _ _ _ h => h) (Or.inl ⟨by rfl, ?_⟩) ?_ ?_
  rotate_left
  · intro w'
    go_simp
    with_reducible rfl
  rotate_left
  · simp only [Act.put, List.setIfInBounds_toArray, List.set_cons_zero, List.set_cons_succ, i64_w, i32_w]
    rfl
  refine take_ (i := 3) (N := some 164) (v := ?_) (a' := ?_) #[true, true, true, true, true, true, true, true, false, true, false, false, true, false, false, false, false, false, false] rfl rfl (by kernel_rfl) (fun _ _ _ h => h) (Or.inl ⟨by rfl, ?_⟩) hHeld ?_ ?_
  rotate_left
  · rintro w' ⟨s0, s1⟩
    go_simp
    with_reducible rfl
  rotate_left
  · simp only [Act.put, List.setIfInBounds_toArray, List.set_cons_zero, List.set_cons_succ, i64_w, i32_w]
    rfl
  refine take_ (i := 8) (N := some 169) (v := ?_) (a' := ?_) #[true, true, true, true, true, true, true, true, true, true, false, false, true, false, false, false, false, false, false] rfl rfl (by kernel_rfl) (fun _ _ _ h => h) (Or.inl ⟨by rfl, ?_⟩) hHeld ?_ ?_
  rotate_left
  · rintro w' ⟨s0, s1⟩
    go_simp
    with_reducible rfl
  rotate_left
  · simp only [Act.put, List.setIfInBounds_toArray, List.set_cons_zero, List.set_cons_succ, i64_w, i32_w]
    rfl
  refine pure_ (i := 10) (N := some 171) (v := ?_) (a' := ?_) #[true, true, true, true, true, true, true, true, true, true, true, false, true, false, false, false, false, false, false] rfl rfl (by kernel_rfl) (fun _ _ _ h => h) (Or.inl ⟨by rfl, ?_⟩) ?_ ?_
  rotate_left
  · intro w'
    go_simp
    with_reducible rfl
  rotate_left
  · simp only [Act.put, List.setIfInBounds_toArray, List.set_cons_zero, List.set_cons_succ, i64_w, i32_w]
    rfl
  refine take_ (i := 11) (N := some 172) (v := ?_) (a' := ?_) #[true, true, true, true, true, true, true, true, true, true, true, true, true, false, false, false, false, false, false] rfl rfl (by kernel_rfl) (fun _ _ _ h => h) (Or.inl ⟨by rfl, ?_⟩) hHeld ?_ ?_
  rotate_left
  · rintro w' ⟨s0, s1⟩
    go_simp
    with_reducible rfl
  rotate_left
  · simp only [Act.put, List.setIfInBounds_toArray, List.set_cons_zero, List.set_cons_succ, i64_w, i32_w]
    rfl
  refine one_ (i := 13) (N := some 174) #[true, true, true, true, true, true, true, true, true, true, true, true, true, true, false, false, false, false, false] rfl rfl (by kernel_rfl) (by decide) (fun K hK => ?_)
  refine goes_ Tryz.func13 (by kernel_rfl) rfl #[.slice A0 (l0).length c0, .string key, .int .i64 1, .int .i64 1] (by rfl) rfl rfl (by simp only [List.map_toArray, List.map_cons, List.map_nil]; rfl) ?_
  with_reducible refine (flows_Put.calls (fun k_ => k_ ≠ gt ∧ k_ ≠ qk ∧ k_ ≠ ss ∧ k_ ≠ p) A0 c0 l0 key 1 1 u1 u2 _ (show Kd.V k97 97 wf.drew wf.drew.heap.size (fun k_ => k_ ≠ gt ∧ k_ ≠ qk ∧ k_ ≠ ss ∧ k_ ≠ p) _ _ from vBase (Kd.V_drew HV.out)) HPUT.out).mono ?_
  rintro r w1 ⟨v0, rfl, hv, hb⟩
  refine ⟨_, rfl, ?_⟩
  obtain ⟨A1, c1, rfl⟩ := Kd.V_slice hv
  have hb_ : Below wf.heap.size wf.drew w1 := hb
  have HPP1 := Lib.hid (HP.out.below ((below_drew (Below.refl _ wf)).trans hb_))
  have HT1 := Lib.hid (HT.out.below ((below_drew (Below.refl _ wf)).trans hb_))
  have HWL1 := Lib.hid (Low.of_below (Nb := w3.heap.size) ((below_drew (Below.refl _ wf)).trans hb_))
  have HBB1 := Lib.hid (((below_drew (Below.refl _ wf)).trans hb_).mono HB.out.size)
  have HV1 := Lib.hid (show Kd.V k97 97 w1 0 (fun k_ => k_ ≠ gt ∧ k_ ≠ qk ∧ k_ ≠ ss ∧ k_ ≠ p) (.slice A1 (u1).length c1) u1 from vBase (Kd.V_mono hv (fun i_ hi => hi.elim (fun h => h) (fun h => HFRE.out i_ h))))
  have y1 := HPP1.out.cell 8
  have y2 : w1.cell? ⟨gt, k, none⟩ = some (.slice A0 l0.length c0) := pw_cell_below (w := wf.drew) hb x2
  have yf := (show w1.frozen? ⟨gt, k, none⟩ = false from (HT1.out.blk).elim (fun _ h => h.frozen k))
  clear hb hb_ hv
  refine hK.out _ _ ⟨y1, y2⟩ (fun hHeld => ?_)
  clear hK K
  refine norm_ (a' := ?_) ?_ ?_
  rotate_left
  · show Act.put _ (some 174) _ = _
    simp only [Act.put, List.setIfInBounds_toArray, List.set_cons_zero, List.set_cons_succ, i64_w, i32_w]
    rfl
  refine pure_ (i := 14) (N := some 160) (v := ?_) (a' := ?_) #[true, true, true, true, true, true, true, true, true, true, true, true, true, true, true, false, false, false, false] rfl rfl (by kernel_rfl) (fun _ _ _ h => h) (Or.inl ⟨by rfl, ?_⟩) ?_ ?_
  rotate_left
  · intro w'
    go_simp
    with_reducible rfl
  rotate_left
  · simp only [Act.put, List.setIfInBounds_toArray, List.set_cons_zero, List.set_cons_succ, i64_w, i32_w]
    rfl
  refine pure_ (i := 15) (N := some 175) (v := ?_) (a' := ?_) #[true, true, true, true, true, true, true, true, true, true, true, true, true, true, true, true, false, false, false] rfl rfl (by kernel_rfl) (fun _ _ _ h => h) (Or.inl ⟨by rfl, ?_⟩) ?_ ?_
  rotate_left
  · intro w'
    go_simp
    with_reducible rfl
  rotate_left
  · simp only [Act.put, List.setIfInBounds_toArray, List.set_cons_zero, List.set_cons_succ, i64_w, i32_w]
    rfl
  refine pure_ (i := 16) (N := some 176) (v := ?_) (a' := ?_) #[true, true, true, true, true, true, true, true, true, true, true, true, true, true, true, true, true, false, false] rfl rfl (by kernel_rfl) (fun _ _ _ h => h) (Or.inl ⟨by rfl, ?_⟩) ?_ ?_
  rotate_left
  · intro w'
    go_simp
    with_reducible rfl
  rotate_left
  · simp only [Act.put, List.setIfInBounds_toArray, List.set_cons_zero, List.set_cons_succ, i64_w, i32_w]
    rfl
  refine pure_ (i := 17) (N := some 177) (v := ?_) (a' := ?_) #[true, true, true, true, true, true, true, true, true, true, true, true, true, true, true, true, true, true, false] rfl rfl (by kernel_rfl) (fun _ _ _ h => h) (Or.inl ⟨by rfl, ?_⟩) ?_ ?_
  rotate_left
  · intro w'
    go_simp
    with_reducible rfl
  rotate_left
  · simp only [Act.put, List.setIfInBounds_toArray, List.set_cons_zero, List.set_cons_succ, i64_w, i32_w]
    rfl
  refine last_ (i := 18) (N := none) #[true, true, true, true, true, true, true, true, true, true, true, true, true, true, true, true, true, true, true] rfl rfl (by kernel_rfl) (by decide) (fun K hK => ?_)
  refine skip_ (w1 := ?_) (by rfl) rfl ?_ ?_
  rotate_left
  · go_simp
    rfl
  refine hK.out _ _ ?_
  clear hK K
  refine done_ (by kernel_rfl) ?_
  refine NoPanic.normal ?_
  obtain ⟨wg, hwg⟩ : ∃ wg, w1.setCell ⟨gt, k, none⟩ (.slice A1 u1.length c1) = wg := ⟨_, rfl⟩
  have n0 := Lib.hid (show Blk wg p 36 [.int .i64 a, .int .i64 (n : Int), .int .i64 c, .int .i64 d, .int .i64 (m : Int), .pointer (some ⟨q, 0, none⟩), .pointer (some ⟨qs, 0, none⟩), .pointer (some ⟨qk, 0, none⟩), .slice (some ⟨gt, 0, none⟩) n ct, pv, .int .i64 (wrap64 (0 + 3))] from hwg ▸ HPP1.out.far _ HNE.out.1 _)
  have n1 := Lib.hid (show Tab wg (fun k_ => k_ ≠ gt ∧ k_ ≠ qk ∧ k_ ≠ ss ∧ k_ ≠ p) gt ((List.replicate n (List.replicate c.toNat z97)).set k u1) from hwg ▸ HT1.out.set (fun _ h => h.1) k (by rw [List.length_replicate]; exact HKN.out) _ _ HV1.out)
  have n2 := Lib.hid (show Low w3.heap.size wd wg from (HL.out.trans HWL1.out).trans (hwg ▸ Low.of_kept (KeptB.set gt k w1 _) HLT.out.2.2.2.2.2.2.2))
  have n3 := Lib.hid (show Below W.heap.size W wg from (HB.out.trans HBB1.out).trans (hwg ▸ (Below.refl _ w1).setCell (p := ⟨gt, k, none⟩) HGLO.out _))
  rw [hwg]
  clear hwg HP HT HL HB HPP1 HT1 HWL1 HBB1 HV HV1 HPUT HFRE y1 y2 yf x1 x2
  have HP := n0
  have HT := n1
  have HL := n2
  have HB := n3
  clear n0 n1 n2 n3
  have HWBg := Lib.hid (HL.out.wd HWB.out)
  clear HWB
  have HSB := Lib.hid (Sl.of_blk HWBg.out.h1 HWBg.out.h2)
  have x1 : wg.cell? ⟨p2, 6, none⟩ = some (.pointer (some ⟨qs2, 0, none⟩)) := HWBg.out.hp.cell 6
  go_wp2_with fail
  go_at_call 14
  refine (SizeS_any qs2 ss2 m _ 0 _ HSB.out).mono ?_
  rintro e9 wh ⟨he, hb⟩
  rw [read0] at he
  obtain rfl : e9 = .returned (.tuple #[.int .i64 0, .bool false]) := he
  have n0 := Lib.hid (HP.out.below hb)
  have n1 := Lib.hid (HT.out.below hb)
  have n2 := Lib.hid (HWBg.out.below hb)
  have n3 := Lib.hid (HB.out.trans (hb.mono HB.out.size))
  clear HP HT HL HB HWBg HSB hb x1
  have HP := n0
  have HT := n1
  have HWB := n2
  have HB := n3
  clear n0 n1 n2 n3
  have hone := keysT_one n k HKN.out c.toNat u1 HP2.out
  obtain ⟨ta, hta⟩ : ∃ ta, (List.replicate n (List.replicate c.toNat z97)).set k u1 = ta := ⟨_, rfl⟩
  have htl : ta.length = n := by rw [← hta, List.length_set, List.length_replicate]
  have htl2 : ∀ l ∈ ta, l.length ≤ 1000000 := fun l hl => by
    rw [← hta] at hl
    rcases List.mem_or_eq_of_mem_set hl with h | h
    · rw [List.eq_of_mem_replicate h, List.length_replicate]; have := HCC.out; omega
    · rw [h]; exact HP3.out
  rw [hta] at hone HT
  have HONE := Lib.hid hone
  have HLA := Lib.hid (Live_any p (some ⟨gt, 0, none⟩) ct ta (by rw [htl]; have := HNN.out; omega) htl2 (by rw [hone]; decide) wh HP.out.lt (by rw [htl]; exact HP.out.cell 8) (HT.out.C (by rw [htl]; have := HNN.out; omega)))
  have HLB := Lib.hid (fun (W : World) (hb : Below wh.heap.size wh W) => Live_any p2 (some ⟨gt2, 0, none⟩) ct2 (List.replicate n (List.replicate c.toNat z97)) (by rw [List.length_replicate]; have := HNN.out; omega) (fun l hl => by rw [List.eq_of_mem_replicate hl, List.length_replicate]; have := HCC.out; omega) (by rw [keysT_zero]; exact Nat.zero_le _) W (HWB.out.below hb).hp.lt (by rw [List.length_replicate]; exact (HWB.out.below hb).hp.cell 8) (by
    obtain ⟨A3, k3, h3, hC3⟩ := (HWB.out.below hb).tabs
    injection h3 with e1 e2 e3
    subst e1
    exact hC3))
  clear hta htl htl2 hone HP HT
  obtain ⟨sb, hld, how⟩ := ap_cells (2 + a).toNat n
  have HLD := Lib.hid hld
  have HOW := Lib.hid how
  clear hld how
  have hst : (if (0 : Int) ≤ 0 ∧ (0 : Int) < (m : Int) then (0 : Int) else -1) = 0 := if_pos (by have := HEE.out; omega)
  have HST := Lib.hid hst
  clear hst
  go_wp2_with fail
  go_at_call 15
  refine HLA.out.mono ?_
  rintro e9 wi ⟨va, rfl, hra, hb⟩
  obtain ⟨A4, c4, rfl⟩ := Kd.R_slice hra
  rw [HONE.out]
  have n2 := Lib.hid (HWB.out.below hb)
  have n3 := Lib.hid (HB.out.trans (hb.mono HB.out.size))
  have HBI := Lib.hid hb
  clear HWB HB hra hb
  have HWB := n2
  have HB := n3
  clear n2 n3
  go_wp2_with fail
  go_at_call 15
  refine (HLB.out _ HBI.out).mono ?_
  rintro e9 wj ⟨vb, rfl, hrb, hb⟩
  obtain ⟨A5, c5, rfl⟩ := Kd.R_slice hrb
  rw [keysT_zero]
  have n2 := Lib.hid (HWB.out.below hb)
  have n3 := Lib.hid (HB.out.trans (hb.mono HB.out.size))
  clear HWB HB hrb hb HBI HLA HLB
  have HWB := n2
  have HB := n3
  clear n2 n3
  have x1 : wj.cell? ⟨p2, 10, none⟩ = some (.int .i64 0) := HWB.out.hp.cell 10
  have x2 : wj.cell? ⟨p2, 5, none⟩ = some (.pointer (some ⟨q2, 0, none⟩)) := HWB.out.hp.cell 5
  go_wp2_with fail
  go_at_call 16
  refine (Load_any q2 d1 d2 _ 0 _ HWB.out.hh).mono ?_
  rintro e9 wk ⟨he, hh, ht⟩
  rw [HLD.out] at he hh
  obtain rfl : e9 = .returned (.int .i64 0) := he
  have n2 := Lib.hid (HWB.out.touch hh ht)
  have n3 := Lib.hid (HB.out.trans (ht.below W.heap.size (Nat.le_trans HW3.out HWB.out.lo.2.1) (Nat.le_trans HW3.out HWB.out.lo.2.2.1) (Nat.le_trans HW3.out HWB.out.lo.2.2.2.1) HB.out.size))
  clear HWB HB hh ht x1 x2
  have HWB := n2
  have HB := n3
  clear n2 n3
  have x2 : wk.cell? ⟨p2, 5, none⟩ = some (.pointer (some ⟨q2, 0, none⟩)) := HWB.out.hp.cell 5
  go_wp2_with fail
  go_at_call 17
  refine (Owner_any q2 d1 d2 _ (k : Int) _ HWB.out.hh).mono ?_
  rintro e9 wl ⟨he, rfl⟩
  rw [HOW.out] at he
  obtain rfl : e9 = .returned (.int .i64 (-1)) := he
  have x3 : wl.cell? ⟨p2, 7, none⟩ = some (.pointer (some ⟨qk2, 0, none⟩)) := HWB.out.hp.cell 7
  go_wp2_with fail
  go_at_call 18
  refine (State_any qk2 (m : Int) 0 (by have := HEE.out; omega) _ HWB.out.h3).mono ?_
  rintro e9 wm ⟨he, rfl⟩
  rw [HST.out] at he
  obtain rfl : e9 = .returned (.int .i64 0) := he
  go_wp2_with fail
  go_ret
  exact ⟨rfl, HB.out⟩
end

end Go.Proofs.YtbbgeobnjdgpfaaGreat.P
