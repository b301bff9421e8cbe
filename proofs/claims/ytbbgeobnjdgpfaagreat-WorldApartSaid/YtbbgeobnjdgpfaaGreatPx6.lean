/- Each Go function that the laws reach, as a plain function, with the proof that the machine's call comes to what it says; of a law: its row. Made by a program of this seat (wip/hp.py, over the print). -/
import Derived.Test.YtbbgeobnjdgpfaaGreatPx0
import Derived.Test.YtbbgeobnjdgpfaaGreatPx2
import Derived.Test.YtbbgeobnjdgpfaaGreatPx4
import Derived.Test.YtbbgeobnjdgpfaaGreatPx5
namespace Go.Proofs.YtbbgeobnjdgpfaaGreat.P
open Go.RowKit Go.Proofs.YtbbgeobnjdgpfaaGreatW.PrintWords Go.Proofs.YtbbgeobnjdgpfaaGreatW.PrintLast Go.Proofs.YtbbgeobnjdgpfaaGreatW.PrintMore
attribute [local go_sem] max2_int min2_int max_two min_two max_three min_three max_four min_four   -- for this text's walks alone
set_option linter.unusedVariables false
set_option linter.unusedSimpArgs false

/-! ### points_Of: function 35 -/
section
open Go.Shelf Go.Proofs.YtbbgeobnjdgpfaaGreat.Hand
theorem AppendSeq_any (Bt : Nat) (A : Option Addr) (c : Nat) (ps : List S90) (hps : ps.length ≤ 100000) (hpc : ps.length ≤ c) (w : World) (hC : Kd.C k90 w A ps.length ps) (ht : Blk w Bt 80 [.slice A ps.length c]) :
    Calls Tryz.prog 68 #[.slice none 0 0, .func (.func 59) #[] #[.pointer (some ⟨Bt, 0, none⟩)]] w fun e W' => ∃ v, e = .returned v ∧ Kd.R k117 117 W' w.heap.size (fun _ => True) v (ptsT ps) ∧ Below w.heap.size w W' :=
  (callsIn_wide (n := 6)).1 (AppendSeq_pts 6 (by omega) Bt A c ps hps hpc w hC ht)
set_option maxHeartbeats 1000000 in
theorem Collect_pts (Bt : Nat) (A : Option Addr) (c : Nat) (ps : List S90) (hps : ps.length ≤ 100000) (hpc : ps.length ≤ c) (w : World) (hC : Kd.C k90 w A ps.length ps) (ht : Blk w Bt 80 [.slice A ps.length c]) :
    Calls Tryz.prog 57 #[.func (.func 59) #[] #[.pointer (some ⟨Bt, 0, none⟩)]] w fun e W' => ∃ v, e = .returned v ∧ Kd.R k117 117 W' w.heap.size (fun _ => True) v (ptsT ps) ∧ Below w.heap.size w W' := by
  have hA := Lib.hid (AppendSeq_any Bt A c ps hps hpc w hC ht)
  clear hC ht hps hpc
  go_enter Tryz.func57, Tryz.ntmps57
  go_wp2_with (go_at_call 68; refine hA.out.mono ?_; rintro e w1 ⟨v, rfl, hr, hb⟩; have HR := Lib.hid hr; have HB := Lib.hid hb; clear hr hb)
  go_ret
  exact ⟨v, rfl, HR.out, HB.out⟩
set_option maxHeartbeats 1000000 in
theorem SortedFunc_pts (Bt : Nat) (A : Option Addr) (c : Nat) (ps : List S90) (hps : ps.length ≤ 100000) (hpc : ps.length ≤ c) (w : World) (hC : Kd.C k90 w A ps.length ps) (ht : Blk w Bt 80 [.slice A ps.length c]) :
    Calls Tryz.prog 46 #[.func (.func 59) #[] #[.pointer (some ⟨Bt, 0, none⟩)], .func (.func 48) #[] #[]] w fun e W' => ∃ v, e = .returned v ∧ Kd.R k117 117 W' w.heap.size (fun _ => True) v (srtL (ptsT ps)) ∧ Below w.heap.size w W' := by
  have hln := ptsT_len ps
  have hA := Lib.hid (Collect_pts Bt A c ps hps hpc w hC ht)
  have HL := Lib.hid (show (ptsT ps).length ≤ 100000000 by omega)
  clear hC ht hps hpc hln
  go_enter Tryz.func46, Tryz.ntmps46
  go_wp2_with (first
    | (go_at_call 57; refine hA.out.mono ?_; rintro e w1 ⟨v, rfl, hr, hb⟩; have HR := Lib.hid hr; have HB := Lib.hid hb; clear hr hb)
    | (go_at_call 58; refine (SortFunc_pts v (ptsT ps) HL.out w.heap.size _ HB.out.size HR.out).mono ?_; rintro e w2 ⟨rfl, hr, hb⟩; have HR2 := Lib.hid hr; have HB2 := Lib.hid hb; clear hr hb))
  go_ret
  exact ⟨v, rfl, HR2.out, HB.out.trans HB2.out⟩
/-- Does one point stand ahead of another? -/
def lessP (x y : S123) : Bool := decide (x.f0 < y.f0 ∨ (x.f0 = y.f0 ∧ x.f1 < y.f1))
def leP (x y : S123) : Bool := !lessP y x
def ptOf (x : S117) : S123 := ⟨x.f0, x.f1⟩
def ofL (ps : List S90) : List S123 := (srtL (ptsT ps)).map ptOf
theorem map_take_next (l : List S117) (k : Nat) (h : k < l.length) : (l.take (k + 1)).map ptOf = (l.take k).map ptOf ++ [⟨(l.getD k z117).f0, (l.getD k z117).f1⟩] := by
  rw [List.take_succ_eq_append_getElem h, List.map_append]; simp [h, ptOf]
theorem infoPoint : (Tryz.prog.info? 123).map (fun i => (i.zero, i.size, i.bytes)) = some (some (.agg #[.int .u64 0, .int .i64 0]), 2, 16) := by kernel_rfl
set_option maxRecDepth 100000 in
set_option maxHeartbeats 4000000 in
theorem Of_any (A : Option Addr) (c : Nat) (ps : List S90) (hps : ps.length ≤ 100000) (hpc : ps.length ≤ c) (w : World) (hC : Kd.C k90 w A ps.length ps) :
    Calls Tryz.prog 35 #[.slice A ps.length c] w fun e W' => ∃ v, e = .returned v ∧ Kd.R k123 123 W' w.heap.size (fun _ => True) v (ofL ps) ∧ Below w.heap.size w W' := by
  have hln := ptsT_len ps
  obtain ⟨ys, hys⟩ : ∃ ys, srtL (ptsT ps) = ys := ⟨_, rfl⟩
  have hyl : ys.length ≤ 12800000 := by rw [← hys, srtL_len]; omega
  have hS := SortedFunc_pts w.heap.size A c ps hps hpc (w.alloc (.cells #[.slice A ps.length c] 80)) (Kd.C_alloc hC _) (Blk.new w 80 [.slice A ps.length c])
  unfold ofL
  rw [hys] at hS ⊢
  have HS := Lib.hid hS
  have HYL := Lib.hid hyl
  clear hC hps hpc hln hS hys hyl
  have HB0 := Aside0.mk ((Below.refl w.heap.size w).alloc (Nat.le_refl _) (.cells #[.slice A ps.length c] 80))
  go_enter Tryz.func35, Tryz.ntmps35
  go_wp2_with (first
    | (go_at_call 47; refine (each_any _ _ _ _).mono ?_; rintro e w1 ⟨rfl, rfl⟩)
    | (go_at_call 46; refine HS.out.mono ?_; rintro e w2 ⟨v, rfl, hr, hb⟩; obtain ⟨A2, c2, rfl⟩ := Kd.R_slice hr; have HR := Lib.hid hr; have HB := Lib.hid (HB0.out.trans (hb.mono (by simp))); clear hr hb))
  go_loopw [3, 10] (fun v i wr => ∃ (k : Nat), k ≤ ys.length ∧ i = .int .i64 k ∧ Aside0 (Kd.R k123 123 wr w.heap.size (fun _ => True) v ((ys.take k).map ptOf)) ∧ Aside0 (Kd.R k117 117 wr w.heap.size (fun _ => True) (.slice A2 ys.length c2) ys) ∧ Aside0 (Below w.heap.size w wr))
    (fun _ i _ => ys.length - (intOf i).toNat)
  case atStart => exact ⟨0, Nat.zero_le _, rfl, ⟨Kd.R_nil _ _ _ _ _⟩, ⟨Kd.R_lower HR.out (by simp)⟩, ⟨HB.out⟩⟩
  case round =>
    obtain ⟨k, hk, rfl, HV, HS2, HBr⟩ := hrel
    by_cases hlt : k < ys.length
    · obtain ⟨ad, hA, c0, c1⟩ := at_T117 (Kd.R_reads' HS2.out).2.2 (k : Int) (by omega) (by omega)
      subst hA
      have htk := map_take_next ys k hlt
      rw [show rd_T117 ys (k : Int) = ys.getD k z117 from rfl] at c0 c1
      obtain ⟨b, hb⟩ : ∃ b, ys.getD k z117 = b := ⟨_, rfl⟩
      rw [hb] at c0 c1 htk
      rw [Int.toNat_natCast] at c0 c1
      have HTK := Lib.hid htk
      clear htk hb
      have q1 : decide ((k : Int) < (ys.length : Int)) = true := decide_eq_true (by omega)
      have q2 : (0 : Int) ≤ (k : Int) := by omega
      have q3 : (k : Int) < (ys.length : Int) := by omega
      have hwk : wrap64 ((k : Int) + 1) = ((k + 1 : Nat) : Int) := by have := HYL.out; unfold wrap64; omega
      have HLK := Lib.hid (show ((ys.take k).map ptOf).length + 1 ≤ 12800000 by have := HYL.out; rw [List.length_map, List.length_take]; omega)
      go_upto_region 5 with (fail)
      have hbx := Blk.new wr 117 [.int .u64 b.f0, .int .i64 b.f1]
      have hb1 := below_alloc HBr.out (.cells #[.int .u64 b.f0, .int .i64 b.f1] 117)
      have hv1 := Kd.R_alloc HV.out (.cells #[.int .u64 b.f0, .int .i64 b.f1] 117)
      have hs3 := Kd.R_alloc HS2.out (.cells #[.int .u64 b.f0, .int .i64 b.f1] 117)
      clear HBr HV HS2
      obtain ⟨g5, hg5⟩ : ∃ g5, wr.heap.size = g5 := ⟨_, rfl⟩
      obtain ⟨W1, hW1⟩ : ∃ W1, (wr.alloc (.cells #[.int .u64 b.f0, .int .i64 b.f1] 117)) = W1 := ⟨_, rfl⟩
      rw [hg5] at hbx ⊢
      rw [hW1] at hbx hb1 hv1 hs3 ⊢
      clear hg5 hW1 c0 c1
      have c0 : W1.cell? ⟨g5, 0, none⟩ = some (.int .u64 b.f0) := hbx.cell 0
      have c1 : W1.cell? ⟨g5, 1, none⟩ = some (.int .i64 b.f1) := hbx.cell 1
      have HB1 := Aside0.mk hb1
      have HV1 := Aside0.mk hv1
      have HS3 := Aside0.mk hs3
      clear hbx hb1 hv1 hs3
      go_wp2_with ((with_reducible refine gate_builtin (b := .append) (xs := #[.tmp 14, .tmp 16]) rfl ?_); (try (refine gate_guard (by rfl) ?_; dsimp only)); at_builtin; refine Kd.R_append k123 (w0 := w) w.heap.size rfl (.tmp 14) (.tmp 16) 91 123 (.agg #[(.int .u64 0), (.int .i64 0)]) 16 rfl Tryz.underlying91 infoPoint rfl (by decide) (by omega) u3 ((ys.take k).map ptOf) (⟨b.f0, b.f1⟩ : S123) [.int .u64 b.f0, .int .i64 b.f1] (fun _ => True) (fun _ => False) rfl rfl ?aP (fun _ hk => hk.elim) ?aF ?aO ?aB ?aS ?aL ?_; (case aP => exact k123_mkM _ _ _ (⟨b.f0, b.f1⟩ : S123)); (case aB => exact HB1.out); (case aF => exact (fun _ _ => trivial)); (case aO => exact HV1.out); (case aS => exact HB1.out.size); (case aL => have := HLK.out; omega); intro v2 w3 ho hb hg hat; rw [← HTK.out] at ho; have HV2 := Aside0.mk ho; have HB2 := Aside0.mk hb; have HS4 := Aside0.mk (Kd.R_over HS3.out HV1.out (by decide) hg); clear ho hb hg hat)
      go_roundw
      case rel => exact ⟨k + 1, Nat.succ_le_of_lt hlt, by rw [hwk], HV2, HS4, HB2⟩
      case measure =>
        rw [hwk]
        show ys.length - (((k + 1 : Nat) : Int)).toNat < ys.length - ((k : Int)).toNat
        rw [Int.toNat_natCast, Int.toNat_natCast]
        omega
    · obtain rfl : k = ys.length := by omega
      have q1 : decide ((ys.length : Int) < (ys.length : Int)) = false := decide_eq_false (by omega)
      have hv := HV.out
      rw [List.take_length] at hv
      have HV1 := Aside0.mk hv
      clear hv HV
      go_wp2
      go_ret
      exact ⟨_, rfl, HV1.out, HBr.out⟩
def points_Of.f (l0 : List S90) : Option (List S123) := if l0.length ≤ 100000 then some (ofL l0) else none
theorem points_Of.calls (A0 : Option Addr) (c0 : Nat) (l0 : List S90) (r : List S123) (w : World) (hr0 : Kd.C k90 w A0 l0.length l0) (hc0 : l0.length ≤ c0) (h : points_Of.f l0 = some r) :
    Calls Tryz.prog 35 #[.slice A0 l0.length c0] w fun e w' => ∃ v0_ : Value, e = .returned v0_ ∧ Kd.R k123 123 w' w.heap.size (fun _ => True) v0_ r ∧ Below w.heap.size w w' := by
  unfold points_Of.f at h
  by_cases hl : l0.length ≤ 100000
  · rw [if_pos hl] at h
    obtain rfl := Option.some.inj h
    exact Of_any A0 c0 l0 hl hc0 w hr0
  · rw [if_neg hl] at h
    exact absurd h (by simp)
end

/-! ### slots_Slots_Fill: function 11 -/
section
open Go.Shelf Go.Proofs.YtbbgeobnjdgpfaaGreat.Hand
theorem blk_putS {W : World} {B : Nat} {t : TypeId} {cs : List Value} (h : Blk W B t cs) (i : Nat) (v : Value) : Blk (W.setCell ⟨B, i, none⟩ v) B t (cs.set i v) := by
  have := blk_set (show W.heap[B]? = some (.cells cs.toArray t (0, 0)) from h) i v
  rw [List.setIfInBounds_toArray] at this
  exact this
theorem blkNeS {W : World} {i j : Nat} {t t' : TypeId} {cs cs' : List Value} (h : Blk W i t cs) (h' : Blk W j t' cs') (hne : t ≠ t') : i ≠ j := blk_ne (show W.heap[i]? = _ from h) (show W.heap[j]? = _ from h') hne
/-- Nothing but block ss is written, of what lies ahead. -/
structure KeptB (ss : Nat) (W W' : World) : Prop where
  below : ∀ n, n ≤ ss → n ≤ W.heap.size → Go.RowKit.Below n W W'
  far : ∀ k, k < W.heap.size → k ≠ ss → W'.heap[k]? = W.heap[k]?
theorem KeptB.refl (ss : Nat) (W : World) : KeptB ss W W := ⟨fun n _ _ => Below.refl n W, fun _ _ _ => rfl⟩
theorem KeptB.size {ss : Nat} {W W' : World} (h : KeptB ss W W') : W.heap.size ≤ W'.heap.size := (h.below 0 (Nat.zero_le _) (Nat.zero_le _)).size
theorem KeptB.trans {ss : Nat} {W W' W'' : World} (h : KeptB ss W W') (h' : KeptB ss W' W'') : KeptB ss W W'' :=
  ⟨fun n h1 h2 => (h.below n h1 h2).trans (h'.below n h1 (Nat.le_trans h2 h.size)), fun k h1 h2 => (h'.far k (Nat.lt_of_lt_of_le h1 h.size) h2).trans (h.far k h1 h2)⟩
theorem KeptB.of_below {ss : Nat} {W W' : World} (h : Below W.heap.size W W') : KeptB ss W W' := ⟨fun n _ h2 => h.mono h2, fun k h0 _ => h.block k h0⟩
theorem KeptB.set (ss i : Nat) (W : World) (v : Value) : KeptB ss W (W.setCell ⟨ss, i, none⟩ v) := ⟨fun n h1 _ => (Below.refl n W).setCell (p := ⟨ss, i, none⟩) h1 v, fun _ _ h1 => Below.heap_setCell _ _ _ _ h1⟩
/-- A slot's value: spoilt, being built, or ready with a pool and its points. -/
def SlotV (W : World) (v : Value) (s : Option (Option (List S90))) : Prop :=
  match s with
  | none => v = .nilIface
  | some none => v = .iface 79 (.agg #[])
  | some (some p) => ∃ v1 v2 : Value, v = .iface 95 (.agg #[v1, v2]) ∧ Kd.R k90 90 W 0 (fun _ => True) v1 p ∧ Kd.R k123 123 W 0 (fun _ => True) v2 (ofL p)
theorem SlotV.below {W W' : World} {v : Value} {s : Option (Option (List S90))} (h : SlotV W v s) (hb : Below W.heap.size W W') : SlotV W' v s := by
  match s, h with
  | none, h => exact h
  | some none, h => exact h
  | some (some p), ⟨v1, v2, h1, h2, h3⟩ => exact ⟨v1, v2, h1, Kd.R_below h2 hb, Kd.R_below h3 hb⟩
theorem SlotV.set {W : World} {v : Value} {s : Option (Option (List S90))} (h : SlotV W v s) {ss : Nat} {l : List Value} (hl : Blk W ss 87 l) (i : Nat) (u : Value) : SlotV (W.setCell ⟨ss, i, none⟩ u) v s := by
  match s, h with
  | none, h => exact h
  | some none, h => exact h
  | some (some p), ⟨v1, v2, h1, h2, h3⟩ => exact ⟨v1, v2, h1, Kd.R_set h2 (show W.heap[ss]? = _ from hl) (by decide) i u, Kd.R_set h3 (show W.heap[ss]? = _ from hl) (by decide) i u⟩
/-- Slots in memory: their block, the slots' row, what each slot is. -/
structure Sl (W : World) (qs ss m : Nat) (st : List (Option (Option (List S90)))) : Prop where
  cells : ∃ l : List Value, Blk W ss 87 l ∧ l.length = m ∧ ∀ i, i < m → SlotV W (l.getD i .nilIface) (st.getD i none)
  hq : Blk W qs 83 [.slice (some ⟨ss, 0, none⟩) m m]
  hl : st.length = m
theorem Sl.below {W W' : World} {qs ss m : Nat} {st : List (Option (Option (List S90)))} (h : Sl W qs ss m st) (hb : Below W.heap.size W W') : Sl W' qs ss m st := by
  obtain ⟨⟨l, h1, h2, h3⟩, h4, h5⟩ := h
  exact ⟨⟨l, h1.below hb, h2, fun i hi => (h3 i hi).below hb⟩, h4.below hb, h5⟩
theorem Sl.put {W : World} {qs ss m : Nat} {st : List (Option (Option (List S90)))} (h : Sl W qs ss m st) (i : Nat) (v : Value) (s : Option (Option (List S90))) (hv : SlotV W v s) : Sl (W.setCell ⟨ss, i, none⟩ v) qs ss m (st.set i s) := by
  obtain ⟨⟨l, h1, h2, h3⟩, h4, h5⟩ := h
  refine ⟨⟨l.set i v, blk_putS h1 i v, by rw [List.length_set]; exact h2, fun j hj => ?_⟩, h4.far _ (blkNeS h1 h4 (by decide)) _, by rw [List.length_set]; exact h5⟩
  by_cases hij : i = j
  · subst hij
    rw [List.getD_eq_getElem?_getD, List.getElem?_set_self (by omega), List.getD_eq_getElem?_getD, List.getElem?_set_self (by omega)]
    exact hv.set h1 i v
  · rw [List.getD_eq_getElem?_getD, List.getElem?_set_ne hij, ← List.getD_eq_getElem?_getD, List.getD_eq_getElem?_getD (l := st.set i s), List.getElem?_set_ne hij, ← List.getD_eq_getElem?_getD]
    exact (h3 j hj).set h1 i v
/-- A row of backends stays, whatever is done to slots. -/
theorem KeptB.row {W W' : World} {qs ss m : Nat} {st : List (Option (Option (List S90)))} (h : KeptB ss W W') (hS : Sl W qs ss m st) {v : Value} {p : List S90} (hr : Kd.R k90 90 W 0 (fun _ => True) v p) : Kd.R k90 90 W' 0 (fun _ => True) v p := by
  obtain ⟨l, hl, _⟩ := hS.cells
  exact Kd.R_mono (Kd.R_move (w1 := W') (Kd.R_bound (Kd.R_types hr (show W.heap[ss]? = _ from hl) (by decide))) (fun k hk => h.far k hk.2.2.1 hk.1.2)) (fun _ _ => trivial)
/-- Is there such a slot? -/
def inS (i : Int) (m : Nat) : Bool := decide (0 ≤ i ∧ i < (m : Int))
def putS (st : List (Option (Option (List S90)))) (i : Int) (s : Option (Option (List S90))) : List (Option (Option (List S90))) := if inS i st.length = true then st.set i.toNat s else st
set_option maxHeartbeats 4000000 in
theorem putS_any (qs ss m : Nat) (st : List (Option (Option (List S90)))) (i : Int) (x : Value) (s : Option (Option (List S90))) (hx : x = .nilIface ∨ ∃ t a, x = .iface t a) (W : World) (hS : Sl W qs ss m st) (hv : SlotV W x s) :
    Calls Tryz.prog 32 #[.pointer (some ⟨qs, 0, none⟩), .int .i64 i, x] W fun e W' => e = .returned (.bool (inS i m)) ∧ Sl W' qs ss m (putS st i s) ∧ KeptB ss W W' := by
  obtain ⟨l, h1, h2, h3⟩ := hS.cells
  have z : W.cell? ⟨qs, 0, none⟩ = some (.slice (some ⟨ss, 0, none⟩) m m) := hS.hq.cell 0
  have hl := hS.hl
  unfold putS
  rw [hl]
  by_cases h : 0 ≤ i ∧ i < (m : Int)
  · have hin : inS i m = true := decide_eq_true h
    have zc : W.cell? ⟨ss, i.toNat, none⟩ = some (l.getD i.toNat .nilIface) := by
      have h := h1.cell i.toNat
      rw [h, List.getD_eq_getElem?_getD, List.getElem?_eq_getElem (by omega)]
      rfl
    have zf := h1.frozen i.toNat
    have q0 : decide (i < 0) = false := decide_eq_false (by omega)
    have q1 : decide ((m : Int) ≤ i) = false := decide_eq_false (by omega)
    have q2 := eq_true h.1
    have q3 := eq_true h.2
    rw [hin, if_pos rfl]
    have HR := Lib.hid (hS.put i.toNat x s hv)
    have HK := Lib.hid (KeptB.set ss i.toNat W x)
    clear h1 h2 h3 hS hv hl h hin
    rcases hx with rfl | ⟨t, a, rfl⟩
    · skip
      go_enter Tryz.func32, Tryz.ntmps32
      go_wp2
      go_ret
      exact ⟨rfl, HR.out, HK.out⟩
    · skip
      go_enter Tryz.func32, Tryz.ntmps32
      go_wp2
      go_ret
      exact ⟨rfl, HR.out, HK.out⟩
  · have hin : inS i m = false := decide_eq_false h
    rw [hin, if_neg (by decide)]
    have HS := Lib.hid hS
    clear h1 h2 h3 hS hv hl hin
    by_cases h0 : i < 0
    · have q0 : decide (i < 0) = true := decide_eq_true h0
      clear h h0
      go_enter Tryz.func32, Tryz.ntmps32
      go_wp2
      go_ret
      exact ⟨rfl, HS.out, KeptB.refl _ _⟩
    · have q0 : decide (i < 0) = false := decide_eq_false h0
      have q1 : decide ((m : Int) ≤ i) = true := decide_eq_true (by omega)
      clear h h0
      go_enter Tryz.func32, Tryz.ntmps32
      go_wp2
      go_ret
      exact ⟨rfl, HS.out, KeptB.refl _ _⟩
set_option maxHeartbeats 1000000 in
theorem BeginS_any (qs ss m : Nat) (st : List (Option (Option (List S90)))) (i : Int) (W : World) (hS : Sl W qs ss m st) :
    Calls Tryz.prog 10 #[.pointer (some ⟨qs, 0, none⟩), .int .i64 i] W fun e W' => e = .returned (.bool (inS i m)) ∧ Sl W' qs ss m (putS st i (some none)) ∧ KeptB ss W W' := by
  have HC := Lib.hid (putS_any qs ss m st i (.iface 79 (.agg #[])) (some none) (.inr ⟨_, _, rfl⟩) W hS rfl)
  clear hS
  go_enter Tryz.func10, Tryz.ntmps10
  go_wp2_with (go_at_call 32; refine HC.out.mono ?_; rintro e w1 ⟨rfl, h1, h2⟩; have H1 := Lib.hid h1; have H2 := Lib.hid h2; clear h1 h2)
  go_ret
  exact ⟨rfl, H1.out, H2.out⟩
/-! what a slot's value is asserted to be -/
section
variable (v : Value) (w : World)
theorem ta_bb : (Instr.typeAssert (.iface 79 v) 87 79 true).run Tryz.prog w = .ok (.tuple #[v, .bool true]) w := by simp [Instr.typeAssert, run_underlying Tryz.underlying79]
theorem ta_nb : (Instr.typeAssert .nilIface 87 79 true).run Tryz.prog w = .ok (.tuple #[.agg #[], .bool false]) w := by simp [Instr.typeAssert, run_underlying Tryz.underlying79, Tryz.zeroValue79]
theorem ta_rb : (Instr.typeAssert (.iface 95 v) 87 79 true).run Tryz.prog w = .ok (.tuple #[.agg #[], .bool false]) w := by simp [Instr.typeAssert, run_underlying Tryz.underlying79, Tryz.zeroValue79]
theorem ta_rr : (Instr.typeAssert (.iface 95 v) 87 95 true).run Tryz.prog w = .ok (.tuple #[v, .bool true]) w := by simp [Instr.typeAssert, run_underlying Tryz.underlying95]
theorem ta_nr : (Instr.typeAssert .nilIface 87 95 true).run Tryz.prog w = .ok (.tuple #[.agg #[.slice none 0 0, .slice none 0 0], .bool false]) w := by simp [Instr.typeAssert, run_underlying Tryz.underlying95, Tryz.zeroValue95]
theorem ta_br : (Instr.typeAssert (.iface 79 v) 87 95 true).run Tryz.prog w = .ok (.tuple #[.agg #[.slice none 0 0, .slice none 0 0], .bool false]) w := by simp [Instr.typeAssert, run_underlying Tryz.underlying95, Tryz.zeroValue95]
end
/-- Is a slot being built? -/
def isB (s : Option (Option (List S90))) : Bool :=
  match s with
  | some none => true
  | _ => false
def fillB (st : List (Option (Option (List S90)))) (i : Int) (p : List S90) : Bool := inS i st.length && (decide (checkL p = 0) && isB (st.getD i.toNat none))
def fillS (st : List (Option (Option (List S90)))) (i : Int) (p : List S90) : List (Option (Option (List S90))) := if fillB st i p = true then st.set i.toNat (some (some p)) else st
theorem zSlots {W : World} {qs ss m : Nat} {st : List (Option (Option (List S90)))} (h : Sl W qs ss m st) : W.cell? ⟨qs, 0, none⟩ = some (.slice (some ⟨ss, 0, none⟩) m m) := h.hq.cell 0
theorem zCell {W : World} {qs ss m : Nat} {st : List (Option (Option (List S90)))} (h : Sl W qs ss m st) (i : Nat) (hi : i < m) : ∃ v, W.cell? ⟨ss, i, none⟩ = some v ∧ SlotV W v (st.getD i none) := by
  obtain ⟨l, h1, h2, h3⟩ := h.cells
  refine ⟨l.getD i .nilIface, ?_, h3 i hi⟩
  have h := h1.cell i
  rw [h, List.getD_eq_getElem?_getD, List.getElem?_eq_getElem (by omega)]
  rfl
set_option maxRecDepth 100000 in
set_option maxHeartbeats 8000000 in
theorem FillS_any (qs ss m : Nat) (st : List (Option (Option (List S90)))) (i : Int) (A : Option Addr) (c : Nat) (p : List S90) (hp : p.length ≤ 1000) (hpc : p.length ≤ c) (hwf : idsWf p = true) (W : World) (hS : Sl W qs ss m st) (hC : Kd.C k90 W A p.length p) :
    Calls Tryz.prog 11 #[.pointer (some ⟨qs, 0, none⟩), .int .i64 i, .slice A p.length c] W fun e W' => e = .returned (.bool (fillB st i p)) ∧ Sl W' qs ss m (fillS st i p) ∧ KeptB ss W W' := by
  have hl := hS.hl
  unfold fillS
  have e0 : fillB st i p = (inS i m && (decide (checkL p = 0) && isB (st.getD i.toNat none))) := by unfold fillB; rw [hl]
  rw [e0]
  have z := zSlots hS
  have HCK := Lib.hid (Check_any A c p (by omega) hwf W hC)
  by_cases h : 0 ≤ i ∧ i < (m : Int)
  · have hin : inS i m = true := decide_eq_true h
    have q0 : decide (i < 0) = false := decide_eq_false (by omega)
    have q1 : decide ((m : Int) ≤ i) = false := decide_eq_false (by omega)
    have q2 := eq_true h.1
    have q3 := eq_true h.2
    obtain ⟨ck, hck⟩ : ∃ ck, checkL p = ck := ⟨_, rfl⟩
    rw [hck] at HCK ⊢
    by_cases hc0 : ck = 0
    · have qc : (ck != 0) = false := bne_eq_false_iff_eq.mpr hc0
      have qd : (ck == 0) = true := beq_iff_eq.mpr hc0
      obtain ⟨v, zc, hv⟩ := zCell hS i.toNat (by omega)
      obtain ⟨s, hs⟩ : ∃ s, st.getD i.toNat none = s := ⟨_, rfl⟩
      rw [hs] at hv ⊢
      rw [hin, decide_eq_true hc0]
      have HS := Lib.hid hS
      have HC := Lib.hid hC
      have HPC := Lib.hid hpc
      have HP := Lib.hid hp
      have HV := Lib.hid hv
      by_cases hb : isB s = true
      · rw [hb]
        have hvv : v = .iface 79 (.agg #[]) := by
          match s, hb, hv with
          | some none, _, hv => exact hv
        subst hvv
        have t1 := fun w => ta_bb (.agg #[]) w
        have hlS := Lib.hid hl
        have HIN := Lib.hid hin
        clear hS hC hpc hp hv hl hs e0 hwf hb h hin hck hc0
        go_enter Tryz.func11, Tryz.ntmps11
        go_wp2_with (first
          | (go_at_call 33; refine HCK.out.mono ?_; rintro e w1 ⟨rfl, hb1⟩; have HS1 := Lib.hid (HS.out.below hb1); have HC1 := Lib.hid (Kd.C_below HC.out hb1); have HB1 := Lib.hid hb1; clear hb1; have z1 := zSlots HS1.out; have zc1 := (HB1.out.cell (p := ⟨ss, i.toNat, none⟩) (by obtain ⟨l, h1, _⟩ := HS.out.cells; exact h1.lt)).trans zc))
        go_at_call 34
        refine (cloneBk_any A c p (by have := HP.out; omega) _ (Kd.C_alloc HC1.out _)).mono ?_
        rintro e w2 ⟨v2, rfl, hr2, hb2⟩
        obtain ⟨A2, c2, rfl⟩ := Kd.R_slice hr2
        have HR2 := Lib.hid (Kd.R_lower hr2 (Nat.zero_le _))
        have HC2 := Lib.hid (Kd.C_below (Kd.C_alloc HC1.out _) hb2)
        have HS2 := Lib.hid ((HS1.out.below (below_alloc (Below.refl _ _) _)).below hb2)
        have HK2 := Lib.hid (((KeptB.of_below (ss := ss) HB1.out).trans (KeptB.of_below (below_alloc (Below.refl w1.heap.size w1) (.cells #[] 79)))).trans (KeptB.of_below hb2))
        clear hr2 hb2 zc1 z1 t1 zc z
        go_wp2_with fail
        go_at_call 35
        refine (Of_any A c p (by have := HP.out; omega) HPC.out _ HC2.out).mono ?_
        rintro e w3 ⟨v3, rfl, hr3, hb3⟩
        obtain ⟨A3, c3, rfl⟩ := Kd.R_slice hr3
        have HR3 := Lib.hid (Kd.R_lower hr3 (Nat.zero_le _))
        have HR2b := Lib.hid (Kd.R_below HR2.out hb3)
        have HS3 := Lib.hid (HS2.out.below hb3)
        have HK3 := Lib.hid (HK2.out.trans (KeptB.of_below hb3))
        clear hr3 hb3
        go_wp2_with fail
        have HPUT := Lib.hid (putS_any qs ss m st i (.iface 95 (.agg #[.slice A2 p.length c2, .slice A3 (ofL p).length c3])) (some (some p)) (.inr ⟨_, _, rfl⟩) _ HS3.out ⟨_, _, rfl, HR2b.out, HR3.out⟩)
        with_reducible refine HPUT.out.mono ?_
        rintro e w4 ⟨rfl, h41, h42⟩
        rw [HIN.out]
        have HS4 := Lib.hid h41
        have HK4 := Lib.hid (HK3.out.trans h42)
        clear h41 h42
        go_wp2_with fail
        go_ret
        have e1 : putS st i (some (some p)) = st.set i.toNat (some (some p)) := by unfold putS; rw [hlS.out, HIN.out, if_pos rfl]
        exact ⟨rfl, e1 ▸ HS4.out, HK4.out⟩
      · have hbf : isB s = false := by simpa using hb
        rw [hbf]
        have tq : ∃ tv, ∀ w, (Instr.typeAssert v 87 79 true).run Tryz.prog w = .ok (.tuple #[.agg #[], .bool false]) w ∧ tv = () := by
          refine ⟨(), fun w => ⟨?_, rfl⟩⟩
          match s, hb, hv with
          | none, _, hv => rw [show v = .nilIface from hv]; exact ta_nb w
          | some none, hb, _ => exact absurd rfl hb
          | some (some p), _, ⟨v1, v2, h1, _, _⟩ => rw [h1]; exact ta_rb _ w
        obtain ⟨_, tq⟩ := tq
        have t1 := fun w => (tq w).1
        clear tq hS hC hpc hp hv hl hs e0 hwf hb hbf h hin hck hc0
        go_enter Tryz.func11, Tryz.ntmps11
        go_wp2_with (go_at_call 33; refine HCK.out.mono ?_; rintro e w1 ⟨rfl, hb1⟩; have HS1 := Lib.hid (HS.out.below hb1); have HC1 := Lib.hid (Kd.C_below HC.out hb1); have HB1 := Lib.hid hb1; clear hb1; have z1 := zSlots HS1.out; have zc1 := (HB1.out.cell (p := ⟨ss, i.toNat, none⟩) (by obtain ⟨l, h1, _⟩ := HS.out.cells; exact h1.lt)).trans zc)
        go_ret
        exact ⟨rfl, HS1.out.below (below_alloc (Below.refl _ _) _), (KeptB.of_below (ss := ss) HB1.out).trans (KeptB.of_below (below_alloc (Below.refl w1.heap.size w1) (.cells #[] 79)))⟩
    · have qc : (ck != 0) = true := bne_iff_ne.mpr hc0
      have qd : (ck == 0) = false := beq_eq_false_iff_ne.mpr hc0
      rw [hin, decide_eq_false hc0]
      have HS := Lib.hid hS
      clear hS hC hpc hp hl e0 hwf h hin hck hc0
      go_enter Tryz.func11, Tryz.ntmps11
      go_wp2_with (go_at_call 33; refine HCK.out.mono ?_; rintro e w1 ⟨rfl, hb1⟩; have HS1 := Lib.hid (HS.out.below hb1); have HB1 := Lib.hid hb1; clear hb1)
      go_ret
      exact ⟨rfl, HS1.out, KeptB.of_below HB1.out⟩
  · have hin : inS i m = false := decide_eq_false h
    rw [hin]
    have HS := Lib.hid hS
    clear hS hC hpc hp hl e0 hwf hin HCK
    by_cases h0 : i < 0
    · have q0 : decide (i < 0) = true := decide_eq_true h0
      clear h h0
      go_enter Tryz.func11, Tryz.ntmps11
      go_wp2
      go_ret
      exact ⟨rfl, HS.out, KeptB.refl _ _⟩
    · have q0 : decide (i < 0) = false := decide_eq_false h0
      have q1 : decide ((m : Int) ≤ i) = true := decide_eq_true (by omega)
      clear h h0
      go_enter Tryz.func11, Tryz.ntmps11
      go_wp2
      go_ret
      exact ⟨rfl, HS.out, KeptB.refl _ _⟩
/-- What is asked of a slot that is ready. -/
def readS (st : List (Option (Option (List S90)))) (i : Int) : Option (List S90) := if inS i st.length = true then (match st.getD i.toNat none with | some (some p) => some p | _ => none) else none
def orZ {β : Type} (z : β) (g : List S90 → β) : Option (List S90) → β
  | some p => g p
  | none => z
set_option maxRecDepth 100000 in
set_option maxHeartbeats 8000000 in
theorem readS_int' (qs ss m : Nat) (st : List (Option (Option (List S90)))) (i : Int) (f : Nat) (cb : Array Value) (g : List S90 → Int) (W : World) (hS : Sl W qs ss m st)
    (eg : ∀ args w, (callFunc f args).run Tryz.prog w = .ok (.enter f args) w)
    (hask : ∀ p v1 v2 W', readS st i = some p → Below W.heap.size W W' → Kd.R k90 90 W' 0 (fun _ => True) v1 p → Kd.R k123 123 W' 0 (fun _ => True) v2 (ofL p) → Calls Tryz.prog f (#[.agg #[v1, v2]] ++ cb) W' fun e w => e = .returned (.int .i64 (g p)) ∧ Below W'.heap.size W' w) :
    Calls Tryz.prog 39 #[.pointer (some ⟨qs, 0, none⟩), .int .i64 i, .func (.func f) #[] cb] W fun e W' => e = .returned (.tuple #[.int .i64 (orZ 0 g (readS st i)), .bool (readS st i).isSome]) ∧ Below W.heap.size W W' := by
  have hl := hS.hl
  have z := zSlots hS
  unfold readS
  rw [hl]
  by_cases h : 0 ≤ i ∧ i < (m : Int)
  · have hin : inS i m = true := decide_eq_true h
    have q0 : decide (i < 0) = false := decide_eq_false (by omega)
    have q1 : decide ((m : Int) ≤ i) = false := decide_eq_false (by omega)
    have q2 := eq_true h.1
    have q3 := eq_true h.2
    rw [hin, if_pos rfl]
    obtain ⟨v, zc, hv⟩ := zCell hS i.toNat (by omega)
    obtain ⟨s, hs⟩ : ∃ s, st.getD i.toNat none = s := ⟨_, rfl⟩
    rw [hs] at hv ⊢
    match s, hv with
    | none, hv =>
      have hvv : v = .nilIface := hv
      subst hvv
      have t1 := fun w => ta_nr w
      clear hS hl hs h hin hask eg
      go_enter Tryz.func39, Tryz.ntmps39
      go_wp2
      go_ret2
      exact ⟨rfl, below_alloc (Below.refl _ _) _⟩
    | some none, hv =>
      have hvv : v = .iface 79 (.agg #[]) := hv
      subst hvv
      have t1 := fun w => ta_br (.agg #[]) w
      clear hS hl hs h hin hask eg
      go_enter Tryz.func39, Tryz.ntmps39
      go_wp2
      go_ret2
      exact ⟨rfl, below_alloc (Below.refl _ _) _⟩
    | some (some p), ⟨v1, v2, h1, h2, h3⟩ =>
      subst h1
      have t1 := fun w => ta_rr (.agg #[v1, v2]) w
      obtain ⟨A1, c1, rfl⟩ := Kd.R_slice h2
      obtain ⟨A2, c2, rfl⟩ := Kd.R_slice h3
      have HASK := Lib.hid (hask p _ _ (W.alloc (.cells #[.slice A1 p.length c1, .slice A2 (ofL p).length c2] 95)) (by unfold readS; rw [hl, hin, if_pos rfl, hs]) (below_alloc (Below.refl _ _) _) (Kd.R_alloc h2 _) (Kd.R_alloc h3 _))
      show Calls _ _ _ _ fun e W' => e = .returned (.tuple #[.int .i64 (g p), .bool true]) ∧ _
      have HB := Lib.hid (below_alloc (Below.refl W.heap.size W) (.cells #[.slice A1 p.length c1, .slice A2 (ofL p).length c2] 95))
      clear hS hl hs h hin hask h2 h3
      go_enter Tryz.func39, Tryz.ntmps39
      go_wp2_with fail
      with_reducible refine HASK.out.mono ?_
      rintro e w2 ⟨rfl, hb2⟩
      have HB2 := Lib.hid (HB.out.trans (hb2.mono HB.out.size))
      clear hb2
      go_wp2
      go_ret2
      exact ⟨rfl, HB2.out⟩
  · have hin : inS i m = false := decide_eq_false h
    rw [hin, if_neg (by decide)]
    clear hS hl hin hask eg
    by_cases h0 : i < 0
    · have q0 : decide (i < 0) = true := decide_eq_true h0
      clear h h0
      go_enter Tryz.func39, Tryz.ntmps39
      go_wp2
      go_ret2
      exact ⟨rfl, Below.refl _ _⟩
    · have q0 : decide (i < 0) = false := decide_eq_false h0
      have q1 : decide ((m : Int) ≤ i) = true := decide_eq_true (by omega)
      clear h h0
      go_enter Tryz.func39, Tryz.ntmps39
      go_wp2
      go_ret2
      exact ⟨rfl, Below.refl _ _⟩
set_option maxHeartbeats 1000000 in
theorem size1_any (v1 v2 : Value) (p : List S90) (W : World) (hR : Kd.R k90 90 W 0 (fun _ => True) v1 p) (h2 : ∃ A n c, v2 = .slice A n c) :
    Calls Tryz.prog 40 #[.agg #[v1, v2]] W fun e w => e = .returned (.int .i64 (p.length : Int)) ∧ Below W.heap.size W w := by
  obtain ⟨A2, n2, c2, rfl⟩ := h2
  obtain ⟨A1, c1, rfl⟩ := Kd.R_slice hR
  clear hR
  go_enter Tryz.func40, Tryz.ntmps40
  go_wp2
  go_ret
  exact ⟨rfl, below_alloc (Below.refl _ _) _⟩
theorem slice_of_R {W : World} {v : Value} {l : List S123} (h : Kd.R k123 123 W 0 (fun _ => True) v l) : ∃ A n c, v = .slice A n c := by
  obtain ⟨A, c, rfl⟩ := Kd.R_slice h; exact ⟨A, _, c, rfl⟩
theorem slice_of_RB {W : World} {v : Value} {l : List S90} (h : Kd.R k90 90 W 0 (fun _ => True) v l) : ∃ A n c, v = .slice A n c := by
  obtain ⟨A, c, rfl⟩ := Kd.R_slice h; exact ⟨A, _, c, rfl⟩
set_option maxHeartbeats 1000000 in
theorem SizeS_any (qs ss m : Nat) (st : List (Option (Option (List S90)))) (i : Int) (W : World) (hS : Sl W qs ss m st) :
    Calls Tryz.prog 14 #[.pointer (some ⟨qs, 0, none⟩), .int .i64 i] W fun e W' => e = .returned (.tuple #[.int .i64 (orZ 0 (fun p => (p.length : Int)) (readS st i)), .bool (readS st i).isSome]) ∧ Below W.heap.size W W' := by
  have eg := enters_of Tryz.func40 (by kernel_rfl) rfl
  have HR := Lib.hid (readS_int' qs ss m st i 40 #[] (fun p => (p.length : Int)) W hS eg (fun p v1 v2 W' _ hb h1 h2 => size1_any v1 v2 p W' h1 (slice_of_R h2)))
  clear hS eg
  go_enter Tryz.func14, Tryz.ntmps14
  go_wp2_with (go_at_call 39; refine HR.out.mono ?_; rintro e w2 ⟨rfl, hb⟩; have HB2 := Lib.hid hb; clear hb)
  go_ret2
  exact ⟨rfl, HB2.out⟩
end

/-! ### api_Entry: function 49 -/
section
open Go.Shelf Go.Proofs.YtbbgeobnjdgpfaaGreat.Hand
theorem infoE_ : (Tryz.prog.info? 97).map (fun i => (i.zero, i.size, i.bytes)) = some (some (.agg #[(.int .i64 0), (.string ⟨#[]⟩), (.int .i64 0), (.int .i64 0)]), 4, 40) := by kernel_rfl
def api_Entry.f (l0 : List S97) : Option (List S97) := if l0.length ≤ 1000000 then some l0 else none

set_option maxRecDepth 100000 in
set_option maxHeartbeats 4000000 in
theorem cloneEntry_any (A : Option Addr) (c : Nat) (l : List S97) (hl : l.length ≤ 1000000) (w : World) (hC : Kd.C k97 w A l.length l) :
    Calls Tryz.prog 49 #[.slice A l.length c] w fun e w' => ∃ v : Value, e = .returned v ∧ Kd.R k97 97 w' w.heap.size (fun _ => True) v l ∧ Below w.heap.size w w' := by
  have he := fun (w : World) => Lib.run_eql_slice_nil (P := Tryz.prog) w 43 97 A l.length c 0 0 Tryz.underlying43
  cases A with
  | none =>
    have hn : l = [] := by
      cases l with
      | nil => rfl
      | cons x l => obtain ⟨ad, e, _⟩ := hC.2.2 (by simp); cases e
    subst hn
    clear he
    have he : ∀ w : World, (binOp .eql 43 (.slice none 0 c) (.slice none 0 0)).run Tryz.prog w = .ok (.bool true) w := fun w => Lib.run_eql_slice_nil (P := Tryz.prog) w 43 97 none 0 c 0 0 Tryz.underlying43
    go_enter Tryz.func49, Tryz.ntmps49
    go_wp2
    go_ret
    exact ⟨_, rfl, Kd.R_nil _ _ _ _ _, Below.refl _ _⟩
  | some a =>
    obtain ⟨z, hz⟩ : ∃ z, ([] : List S97) = z := ⟨_, rfl⟩
    have HZ := Lib.hid hz
    clear hz
    have HC := Lib.hid hC
    clear hC
    have HB := Aside0.mk (Below.refl w.heap.size w)
    go_enter Tryz.func49, Tryz.ntmps49
    go_wp2_with (first | ((with_reducible refine gate_dst (N := 5) rfl ?_); refine Kd.R_lit k97 _ 97 ?hg (N := 5) ?hd (xs := ([] : List S97)) (inner := []) (ok := fun _ => True) (okp := fun _ => True) ?hr ?hp (fun _ hk => hk) trivial (Below.refl _ _) (Nat.le_refl _) (by simp) ?_; (case hd => rfl); (case hg => rfl); (case hr => first | (go_simp; done) | (go_simp; rfl)); (case hp => exact (Reps.none _ _)); intro v160 w31 ho32 hb hg_ hnew_; clear hg_ hnew_; rw [HZ.out] at ho32; have HB1 := Aside0.mk hb; have HO1 := Aside0.mk ho32; clear hb ho32) | ((with_reducible refine gate_builtin (b := .append) (xs := #[.tmp 5, .tmp 6]) rfl ?_); at_builtin; refine Kd.R_append_rows k97 (w0 := w) w.heap.size rfl (.tmp 5) (.tmp 6) 43 97 (.agg #[(.int .i64 0), (.string ⟨#[]⟩), (.int .i64 0), (.int .i64 0)]) 40 rfl Tryz.underlying43 infoE_ rfl (by decide) (by omega) v160 z l _ _ _ (fun _ => True) (fun _ => False) rfl rfl ?aO ?aR (fun _ _ h => h) (fun _ h => h.elim) ?aF ?aB ?aS ?aL ?_; (case aR => exact Kd.C_below HC.out HB1.out); (case aB => exact HB1.out); (case aF => exact (fun _ _ => trivial)); (case aO => exact HO1.out); (case aS => exact HB1.out.size); (case aL => rw [← HZ.out]; simp; omega); intro v163 w33 ho hb hg hat; rw [← HZ.out, List.nil_append] at ho; have HB2 := Aside0.mk hb; have HO2 := Aside0.mk ho; clear ho hb hg hat))
    go_ret
    exact ⟨_, rfl, HO2.out, HB2.out⟩

theorem api_Entry.calls (A0 : Option Addr) (c0 : Nat) (l0 : List S97) (r : List S97) (w : World) (hr0 : Kd.C k97 w A0 l0.length l0) (hc0 : l0.length ≤ c0) (h : api_Entry.f l0 = some r) :
    Calls Tryz.prog 49 #[.slice A0 l0.length c0] w fun e w' => ∃ v0_ : Value, e = .returned (v0_) ∧ Kd.R k97 97 w' w.heap.size (fun _ => True) v0_ r ∧ Below w.heap.size w w' := by
  unfold api_Entry.f at h
  by_cases hl : l0.length ≤ 1000000
  · rw [if_pos hl] at h
    obtain rfl := Option.some.inj h
    exact cloneEntry_any A0 c0 l0 hl w hr0
  · rw [if_neg hl] at h
    exact absurd h (by simp)
end

/-! ### flows_changed: function 36 -/
section
open Go.Shelf Go.Proofs.YtbbgeobnjdgpfaaGreat.Hand
set_option maxRecDepth 100000 in
set_option maxHeartbeats 4000000 in
/-- A copy, changed by a function that is handed on; or the table itself. -/
theorem changed_any (g : Nat) (eg : ∀ args w, (callFunc g args).run Tryz.prog w = .ok (.enter g args) w) (cap : Value) (b : Bool) (A : Option Addr) (c : Nat) (l l2 : List S97) (hl : l.length ≤ 1000000) (hcap : l.length ≤ c) (w : World) (hC : Kd.C k97 w A l.length l)
    (hf : ∀ (v : Value) (W : World), Below w.heap.size w W → Kd.R k97 97 W w.heap.size (fun _ => True) v l → Calls Tryz.prog g #[v, cap] W fun e W' => e = .returned (.bool b) ∧ Kd.R k97 97 W' w.heap.size (fun _ => True) v l2 ∧ Below w.heap.size w W') :
    Calls Tryz.prog 36 #[.slice A l.length c, .func (.func g) #[] #[cap]] w fun e w' => ∃ v : Value, e = .returned (.tuple #[v, .bool b]) ∧ (b = true → Kd.R k97 97 w' w.heap.size (fun _ => True) v l2) ∧ (b = false → v = .slice A l.length c) ∧ Below w.heap.size w w' := by
  have HF := Lib.hid hf
  clear hf
  cases b
  all_goals
    go_enter Tryz.func36, Tryz.ntmps36
    go_wp2_with (first | (go_at_call 49; refine (cloneEntry_any A c l hl _ hC).mono ?_; rintro e w1 ⟨v, rfl, hr, hb⟩; have HR := Lib.hid hr; have HB := Lib.hid hb; clear hr hb))
    refine (HF.out v w1 HB.out HR.out).mono ?_
    rintro e w2 ⟨rfl, hr2, hb2⟩
    have HR2 := Lib.hid hr2
    have HB2 := Lib.hid hb2
    clear hr2 hb2
    go_wp2
    go_ret2
    first
    | exact ⟨_, rfl, fun h => absurd h (by decide), fun _ => rfl, HB2.out⟩
    | exact ⟨_, rfl, fun _ => HR2.out, fun h => absurd h (by decide), HB2.out⟩
end

/-! ### probe_Find: function 50 -/
section
open Go.Shelf Go.Proofs.YtbbgeobnjdgpfaaGreat.Hand
attribute [local go_sem] Oper.semAt_some
/-- Does a way go on at this entry? -/
def goesOn (key : ByteArray) (x : S97) : Prop := x.f0 ≠ 0 ∧ ¬ (x.f0 = 1 ∧ x.f1 = key)
def findIn (key : ByteArray) : List (Int × S97) → Int
  | [] => -1
  | (j, x) :: r => if x.f0 = 0 then -1 else if x.f0 = 1 ∧ x.f1 = key then j else findIn key r
theorem findIn_on {key : ByteArray} : ∀ (a b : List (Int × S97)), (∀ p ∈ a, goesOn key p.2) → findIn key (a ++ b) = findIn key b
  | [], _, _ => rfl
  | (j, x) :: a, b, h => by
    have hx := h (j, x) (by simp)
    simp only [List.cons_append, findIn]
    rw [if_neg hx.1, if_neg hx.2]
    exact findIn_on a b (fun p hp => h p (by simp [hp]))
def probe_Find.f (l0 : List S97) (a1 : ByteArray) : Option Int :=
  if l0.length ≤ 1000000 then (probe_Home.f a1 l0.length).bind fun hd => some (findIn a1 (upto (wayAt l0 hd) l0.length)) else none

set_option maxRecDepth 100000 in
set_option maxHeartbeats 8000000 in
theorem Find_any (A : Option Addr) (c : Nat) (l : List S97) (key : ByteArray) (hl : l.length ≤ 1000000) (hd : Int) (hh : probe_Home.f key l.length = some hd) (w : World) (hC : Kd.C k97 w A l.length l) :
    Calls Tryz.prog 50 #[.slice A l.length c, .string key] w fun e W' => e = .returned (.int .i64 (findIn key (upto (wayAt l hd) l.length))) ∧ Below w.heap.size w W' := by
  refine (callsIn_wide (n := 6)).1 ?_
  have hro : Fence.wide.round = none := rfl
  refine callsIn_of_wp_marks Tryz.func50 rfl trivial ?_ hro
  simp only [Tryz.ntmps50, List.size_toArray, List.length_cons, List.length_nil, Nat.reduceAdd, Nat.reduceSub, Array.replicate_succ, Array.replicate_zero, List.push_toArray, List.append_toArray, List.nil_append, List.cons_append]
  gi_wp2
  refine wpIn_scope_wide ?_
  gi_wp2
  refine wpIn_label ?_
  gi_wp2_with (refine ⟨trivial, ?_⟩; gi_at_call 64; refine (callsIn_wide.2 (way_any _ _ _ _ _)).mono ?_; rintro e w' ⟨rfl, rfl⟩)
  have b0 := Blk.new w 9 [.string key]
  have b1 := Blk.new (w.alloc (.cells #[.string key] 9)) 3 [.int .i64 (-1)]
  have b2 := Blk.new ((w.alloc (.cells #[.string key] 9)).alloc (.cells #[.int .i64 (-1)] 3)) 43 [.slice A l.length c]
  have b3 := Blk.new (((w.alloc (.cells #[.string key] 9)).alloc (.cells #[.int .i64 (-1)] 3)).alloc (.cells #[.slice A l.length c] 43)) 9 [.string key]
  have hB0 : Below w.heap.size w ((((w.alloc (.cells #[.string key] 9)).alloc (.cells #[.int .i64 (-1)] 3)).alloc (.cells #[.slice A l.length c] 43)).alloc (.cells #[.string key] 9)) := ((((Below.refl _ w).alloc (Nat.le_refl _) _).alloc (by simp) _).alloc (by simp; omega) _).alloc (by simp; omega) _
  replace b0 := ((b0.alloc (.cells #[.int .i64 (-1)] 3)).alloc (.cells #[.slice A l.length c] 43)).alloc (.cells #[.string key] 9)
  replace b1 := (b1.alloc (.cells #[.slice A l.length c] 43)).alloc (.cells #[.string key] 9)
  replace b2 := b2.alloc (.cells #[.string key] 9)
  have hsz : ((((w.alloc (.cells #[.string key] 9)).alloc (.cells #[.int .i64 (-1)] 3)).alloc (.cells #[.slice A l.length c] 43)).alloc (.cells #[.string key] 9)).heap.size = w.heap.size + 4 := by simp
  simp only [World.size_alloc] at b0 b1 b2 b3
  obtain ⟨W0, hW0⟩ : ∃ W0, ((((w.alloc (.cells #[.string key] 9)).alloc (.cells #[.int .i64 (-1)] 3)).alloc (.cells #[.slice A l.length c] 43)).alloc (.cells #[.string key] 9)) = W0 := ⟨_, rfl⟩
  rw [hW0] at hB0 hsz ⊢
  replace b0 : Blk W0 w.heap.size 9 [.string key] := by rw [← hW0]; exact b0
  replace b1 : Blk W0 (w.heap.size + 1) 3 [.int .i64 (-1)] := by rw [← hW0]; exact b1
  replace b2 : Blk W0 (w.heap.size + 1 + 1) 43 [.slice A l.length c] := by rw [← hW0]; exact b2
  replace b3 : Blk W0 (w.heap.size + 1 + 1 + 1) 9 [.string key] := by rw [← hW0]; exact b3
  clear hW0
  have HH := Lib.hid hsz
  clear hsz
  refine wpIn_rangeFunc_ownH hro (by omega) (gf := 76) (lb := #[.pointer (some ⟨w.heap.size + 1 + 1 + 1, 0, none⟩), .pointer (some ⟨w.heap.size + 1 + 1, 0, none⟩)]) rfl trivial (enters_of Tryz.func76 (by kernel_rfl) rfl)
    (way_stops (6 - 1) (by omega) (w.heap.size + 1 + 1 + 1) (w.heap.size + 1 + 1) w.heap.size A c l key hl hd hh w W0 rfl hC hB0 b3.lt b2.lt (by rw [b3.cell]; rfl) (by rw [b2.cell]; rfl)) kp_t (kp_b hB0.size) (Below.refl _ _) (fun _ => rfl)
    (fun pre W => (Blk W w.heap.size 9 [.string key] ∧ Blk W (w.heap.size + 1) 3 [.int .i64 (-1)]) ∧ Below w.heap.size w W ∧ ∀ p ∈ pre, goesOn key p.2)
    (fun c pre W => (c = .exit 0 ∧ ∃ (ini : List (Int × S97)) (last : Int × S97), pre = ini ++ [last] ∧ (∀ p ∈ ini, goesOn key p.2) ∧ ¬ goesOn key last.2 ∧ Blk W (w.heap.size + 1) 3 [.int .i64 (if last.2.f0 = 0 then -1 else last.1)]) ∧ Below w.heap.size w W)
    ((OwnFrom.and (blk_ownFrom _ _ _ _) (blk_ownFrom _ _ _ _)).and ((ownFrom_below (Nat.le_refl _) hB0.size).and (OwnFrom.pure _)))
    (fun c => OwnFrom.and (fun s W W' row ⟨h1, ini, last, h2, h3, h4, h5⟩ hg hr => ⟨h1, ini, last, h2, h3, h4, blk_ownFrom (β := Unit) W0.heap.size _ _ (fun _ => _) () W W' row h5 hg hr⟩) (ownFrom_below (Nat.le_refl _) hB0.size))
    ⟨⟨b0, b1⟩, hB0, by simp⟩
    (fun x a' W => ∃ Bx, w.heap.size + 1 < Bx ∧ Blk W Bx 97 [.int .i64 x.2.f0, .string x.2.f1, .int .i64 x.2.f2, .int .i64 x.2.f3] ∧ a' = { tmps := #[.slice A l.length c, .string key, undef, .pointer (some ⟨w.heap.size, 0, none⟩), .int .i64 0, .pointer (some ⟨w.heap.size + 1, 0, none⟩), .int .i64 x.1, .pointer (some ⟨Bx, 0, none⟩), .slice A l.length c, .string key, .func (.func 76) #[] #[.pointer (some ⟨w.heap.size + 1 + 1 + 1, 0, none⟩), .pointer (some ⟨w.heap.size + 1 + 1, 0, none⟩)], .int .i64 x.1, entV x.2, undef, undef, undef, undef, undef, undef, undef, undef, undef, undef, undef, undef, undef, undef, undef, undef], defers := [] })
    (fun x a' s W W' row ⟨Bx, h1, h2, h3⟩ hg hr => ⟨Bx, h1, blk_ownFrom (β := Unit) W0.heap.size _ _ (fun _ => _) () W W' row h2 hg hr, h3⟩) ?assign ?body ?done ?stop
  case assign =>
    rintro y pre x W K ⟨⟨c0, c1⟩, hB, hp⟩ hK
    gi_wp2
    exact hK _ _ ((KeepsOthers.alloc _ _).from _) ((KpB.refl _ _ _).alloc hB.size _) ⟨⟨c0.alloc _, c1.alloc _⟩, hB.alloc hB.size _, hp⟩ ⟨_, c1.lt, Blk.new W 97 [.int .i64 x.2.f0, .string x.2.f1, .int .i64 x.2.f2, .int .i64 x.2.f3], rfl⟩
  case body =>
    rintro y pre x a' W hy ⟨r, hr⟩ ⟨⟨c0, c1⟩, hB, hp⟩ ⟨Bx, hBx, cx, rfl⟩ hlt
    have d0 : W.cell? ⟨w.heap.size, 0, none⟩ = some (.string key) := c0.cell 0
    have e0 : W.cell? ⟨Bx, 0, none⟩ = some (.int .i64 x.2.f0) := cx.cell 0
    have e1 : W.cell? ⟨Bx, 1, none⟩ = some (.string x.2.f1) := cx.cell 1
    by_cases h0 : x.2.f0 = 0
    · have q0 : (x.2.f0 == 0) = true := by simpa using h0
      have hx : ¬ goesOn key x.2 := fun h => h.1 h0
      have hz : (if x.2.f0 = 0 then (-1 : Int) else x.1) = -1 := if_pos h0
      have H0 := Lib.hid h0
      have HZ := Lib.hid hz
      clear h0 hz
      gi_wp2
      refine ⟨KeepsFrom.refl _ _, ⟨rfl, pre, x, rfl, hp, hx, ?_⟩, hB⟩
      rw [HZ.out]; exact c1
    · have q0 : (x.2.f0 == 0) = false := by simpa using h0
      have hz : (if x.2.f0 = 0 then (-1 : Int) else x.1) = x.1 := if_neg h0
      have HZ := Lib.hid hz
      have H0 := Lib.hid h0
      clear h0 hz
      by_cases h1 : x.2.f0 = 1
      · have q1 : (x.2.f0 == 1) = true := by simpa using h1
        have H1 := Lib.hid h1
        clear h1
        by_cases hk : x.2.f1 = key
        · have hx : ¬ goesOn key x.2 := fun h => h.2 ⟨H1.out, hk⟩
          have q2 : (x.2.f1.toList == key.toList) = true := by rw [hk]; simp
          have f1 := c1.frozen 0
          have g1 := c1.cell 0
          have HK := Lib.hid hk
          clear hk
          gi_wp2
          refine ⟨(KeepsOthers.setCell _ _ _).from _, ⟨rfl, pre, x, rfl, hp, hx, ?_⟩, hB.setCell (p := ⟨w.heap.size + 1, 0, none⟩) (by simp) _⟩
          rw [HZ.out]; exact c1.set1 _
        · have hx : goesOn key x.2 := ⟨H0.out, fun h => hk h.2⟩
          have q2 : (x.2.f1.toList == key.toList) = false := by
            rw [beq_eq_false_iff_ne]; intro e; exact hk (bytes_eq e)
          have HK := Lib.hid hk
          clear hk
          gi_wp2
          exact ⟨KeepsFrom.refl _ _, KpB.refl _ _ _, ⟨c0, c1⟩, hB, fun p hp' => (List.mem_append.1 hp').elim (hp p) (fun e => by simp at e; subst e; exact hx)⟩
      · have q1 : (x.2.f0 == 1) = false := by simpa using h1
        have hx : goesOn key x.2 := ⟨H0.out, fun h => h1 h.1⟩
        clear h1
        gi_wp2
        exact ⟨KeepsFrom.refl _ _, KpB.refl _ _ _, ⟨c0, c1⟩, hB, fun p hp' => (List.mem_append.1 hp').elim (hp p) (fun e => by simp at e; subst e; exact hx)⟩
  case done =>
    rintro D ys W hD rfl ⟨⟨c0, c1⟩, hB, hp⟩ hK
    have g1 : W.cell? ⟨w.heap.size + 1, 0, none⟩ = some (.int .i64 (-1)) := c1.cell 0
    gi_wp2
    refine ⟨by simp, .inl ⟨_, _, rfl, run_takeDeferred hK, ?_⟩⟩
    refine ⟨_, results_tmp rfl _ _ _, ?_, hB.trans (belowK_b (w := w) (Nat.le_refl _) W D _ _ (Nat.le_trans hB0.size hD) hK rfl rfl)⟩
    have e := findIn_on (upto (wayAt l hd) l.length) [] hp
    rw [List.append_nil] at e
    rw [e]; rfl
  case stop =>
    rintro D cc pre W hD ⟨k, hk, rfl⟩ ⟨⟨rfl, ini, last, e1, e2, e3, c1⟩, hB⟩ hK
    have hf : (if last.2.f0 = 0 then (-1 : Int) else last.1) = findIn key (upto (wayAt l hd) l.length) := by
      obtain ⟨rest, hr⟩ := upto_split (wayAt l hd) hk
      rw [hr, e1, List.append_assoc, findIn_on _ _ e2]
      simp only [List.cons_append, findIn]
      by_cases h0 : last.2.f0 = 0
      · rw [if_pos h0, if_pos h0]
      · rw [if_neg h0, if_neg h0]
        have : last.2.f0 = 1 ∧ last.2.f1 = key := Classical.byContradiction fun h => e3 ⟨h0, h⟩
        rw [if_pos this]
    rw [hf] at c1
    have g1 : W.cell? ⟨w.heap.size + 1, 0, none⟩ = some (.int .i64 (findIn key (upto (wayAt l hd) l.length))) := c1.cell 0
    gi_wp2
    refine ⟨by simp, .inl ⟨_, _, rfl, run_takeDeferred hK, ?_⟩⟩
    exact ⟨_, results_tmp rfl _ _ _, rfl, hB.trans (belowK_b (w := w) (Nat.le_refl _) W D _ _ (Nat.le_trans hB0.size hD) hK rfl rfl)⟩

theorem probe_Find.calls (A0 : Option Addr) (c0 : Nat) (l0 : List S97) (a1 : ByteArray) (r : Int) (w : World) (hr0 : Kd.C k97 w A0 l0.length l0) (hc0 : l0.length ≤ c0) (h : probe_Find.f l0 a1 = some r) :
    Calls Tryz.prog 50 #[.slice A0 l0.length c0, .string a1] w fun e w' => e = .returned (.int .i64 r) ∧ Below w.heap.size w w' := by
  unfold probe_Find.f at h
  by_cases hl : l0.length ≤ 1000000
  · rw [if_pos hl] at h
    obtain ⟨hd, hh, h⟩ := Option.bind_eq_some_iff.mp h
    obtain rfl := Option.some.inj h
    exact Find_any A0 c0 l0 a1 hl hd hh w hr0
  · rw [if_neg hl] at h
    exact absurd h (by simp)
end

/-! ### probe_Room: function 51 -/
section
open Go.Shelf Go.Proofs.YtbbgeobnjdgpfaaGreat.Hand
attribute [local go_sem] Oper.semAt_some
def roomIn : List (Int × S97) → Int
  | [] => -1
  | (j, x) :: r => if x.f0 = 1 then roomIn r else j
theorem roomIn_on : ∀ (a b : List (Int × S97)), (∀ p ∈ a, p.2.f0 = 1) → roomIn (a ++ b) = roomIn b
  | [], _, _ => rfl
  | (j, x) :: a, b, h => by
    have hx := h (j, x) (by simp)
    simp only [List.cons_append, roomIn]
    rw [if_pos hx]
    exact roomIn_on a b (fun p hp => h p (by simp [hp]))
def probe_Room.f (l0 : List S97) (a1 : ByteArray) : Option Int :=
  (probe_Find.f l0 a1).bind fun t => if 0 ≤ t then some (-1) else (probe_Home.f a1 l0.length).bind fun hd => some (roomIn (upto (wayAt l0 hd) l0.length))

set_option maxRecDepth 100000 in
set_option maxHeartbeats 8000000 in
theorem Room_any (A : Option Addr) (c : Nat) (l : List S97) (key : ByteArray) (hcap : l.length ≤ c) (hl : l.length ≤ 1000000) (t : Int) (ht : probe_Find.f l key = some t) (hd : Int) (hh : probe_Home.f key l.length = some hd) (w : World) (hC : Kd.C k97 w A l.length l) :
    Calls Tryz.prog 51 #[.slice A l.length c, .string key] w fun e W' => e = .returned (.int .i64 (if 0 ≤ t then -1 else roomIn (upto (wayAt l hd) l.length))) ∧ Below w.heap.size w W' := by
  refine (callsIn_wide (n := 6)).1 ?_
  have hro : Fence.wide.round = none := rfl
  by_cases htp : 0 ≤ t
  · rw [if_pos htp]
    have hq : decide (0 ≤ t) = true := decide_eq_true htp
    clear htp
    refine callsIn_of_wp_marks Tryz.func51 rfl trivial ?_ hro
    simp only [Tryz.ntmps51, List.size_toArray, List.length_cons, List.length_nil, Nat.reduceAdd, Nat.reduceSub, Array.replicate_succ, Array.replicate_zero, List.push_toArray, List.append_toArray, List.nil_append, List.cons_append]
    have b0 := Blk.new w 3 [.int .i64 0]
    gi_wp2_with (refine ⟨trivial, ?_⟩; gi_at_call 50; refine (callsIn_wide.2 (probe_Find.calls _ _ _ _ _ _ (Kd.C_alloc hC _) hcap ht)).mono ?_; rintro e w1 ⟨rfl, hb1⟩; have b1 := b0.below hb1; have g1 := b1.cell 0; have f1 := b1.frozen 0)
    have g2 := (b1.set1 (.int .i64 (-1))).cell 0
    refine ⟨.int .i64 (-1), ?_, rfl, (((Below.refl _ w).alloc (Nat.le_refl _) _).trans (hb1.mono (by simp))).setCell (p := ⟨w.heap.size, 0, none⟩) (Nat.le_refl _) _⟩
    simp [results, Tryz.f51, go_sem, g2]
  · rw [if_neg htp]
    have hq : decide (0 ≤ t) = false := decide_eq_false htp
    clear htp
    refine callsIn_of_wp_marks Tryz.func51 rfl trivial ?_ hro
    simp only [Tryz.ntmps51, List.size_toArray, List.length_cons, List.length_nil, Nat.reduceAdd, Nat.reduceSub, Array.replicate_succ, Array.replicate_zero, List.push_toArray, List.append_toArray, List.nil_append, List.cons_append]
    have b0 := Blk.new w 3 [.int .i64 0]
    gi_wp2_with (first | (refine ⟨trivial, ?_⟩; gi_at_call 50; refine (callsIn_wide.2 (probe_Find.calls _ _ _ _ _ _ (Kd.C_alloc hC _) hcap ht)).mono ?_; rintro e w1 ⟨rfl, hb1⟩; have b1 := b0.below hb1; have g1 := b1.cell 0; have f1 := b1.frozen 0; have hB1 := ((Below.refl w.heap.size w).alloc (Nat.le_refl _) (.cells #[.int .i64 0] 3)).trans (hb1.mono (by simp)); clear hb1) | (refine ⟨trivial, ?_⟩; gi_at_call 64; refine (callsIn_wide.2 (way_any _ _ _ _ _)).mono ?_; rintro e w' ⟨rfl, rfl⟩))
    have b2 := Blk.new w1 43 [.slice A l.length c]
    have b3 := Blk.new (w1.alloc (.cells #[.slice A l.length c] 43)) 9 [.string key]
    have hB0 : Below w.heap.size w ((w1.alloc (.cells #[.slice A l.length c] 43)).alloc (.cells #[.string key] 9)) := (hB1.alloc hB1.size _).alloc (by have := hB1.size; simp; omega) _
    replace b1 := (b1.alloc (.cells #[.slice A l.length c] 43)).alloc (.cells #[.string key] 9)
    replace b2 := b2.alloc (.cells #[.string key] 9)
    simp only [World.size_alloc] at b2 b3
    obtain ⟨W0, hW0⟩ : ∃ W0, ((w1.alloc (.cells #[.slice A l.length c] 43)).alloc (.cells #[.string key] 9)) = W0 := ⟨_, rfl⟩
    rw [hW0] at hB0 ⊢
    replace b1 : Blk W0 w.heap.size 3 [.int .i64 0] := by rw [← hW0]; exact b1
    replace b2 : Blk W0 w1.heap.size 43 [.slice A l.length c] := by rw [← hW0]; exact b2
    replace b3 : Blk W0 (w1.heap.size + 1) 9 [.string key] := by rw [← hW0]; exact b3
    clear hW0
    refine wpIn_rangeFunc_ownH hro (by omega) (gf := 76) (lb := #[.pointer (some ⟨w1.heap.size + 1, 0, none⟩), .pointer (some ⟨w1.heap.size, 0, none⟩)]) rfl trivial (enters_of Tryz.func76 (by kernel_rfl) rfl)
      (way_stops (6 - 1) (by omega) (w1.heap.size + 1) w1.heap.size w.heap.size A c l key hl hd hh w W0 rfl hC hB0 b3.lt b2.lt (by rw [b3.cell]; rfl) (by rw [b2.cell]; rfl)) kp_t (kp_b hB0.size) (Below.refl _ _) (fun _ => rfl)
      (fun pre W => Blk W w.heap.size 3 [.int .i64 0] ∧ Below w.heap.size w W ∧ ∀ p ∈ pre, p.2.f0 = 1)
      (fun c pre W => (c = .ret ∧ ∃ (ini : List (Int × S97)) (last : Int × S97), pre = ini ++ [last] ∧ (∀ p ∈ ini, p.2.f0 = 1) ∧ ¬ last.2.f0 = 1 ∧ Blk W w.heap.size 3 [.int .i64 last.1]) ∧ Below w.heap.size w W)
      ((blk_ownFrom _ _ _ _).and ((ownFrom_below (Nat.le_refl _) hB0.size).and (OwnFrom.pure _)))
      (fun c => OwnFrom.and (fun s W W' row ⟨h1, ini, last, h2, h3, h4, h5⟩ hg hr => ⟨h1, ini, last, h2, h3, h4, blk_ownFrom (β := Unit) W0.heap.size _ _ (fun _ => _) () W W' row h5 hg hr⟩) (ownFrom_below (Nat.le_refl _) hB0.size))
      ⟨b1, hB0, by simp⟩
      (fun x a' W => ∃ Bx, w.heap.size < Bx ∧ Blk W Bx 97 [.int .i64 x.2.f0, .string x.2.f1, .int .i64 x.2.f2, .int .i64 x.2.f3] ∧ a' = { tmps := #[.slice A l.length c, .string key, undef, undef, .pointer (some ⟨w.heap.size, 0, none⟩), .int .i64 x.1, .pointer (some ⟨Bx, 0, none⟩), .slice A l.length c, .string key, .int .i64 t, .bool false, .slice A l.length c, .string key, .func (.func 76) #[] #[.pointer (some ⟨w1.heap.size + 1, 0, none⟩), .pointer (some ⟨w1.heap.size, 0, none⟩)], .int .i64 x.1, entV x.2, undef, undef, undef, undef], defers := [] })
      (fun x a' s W W' row ⟨Bx, h1, h2, h3⟩ hg hr => ⟨Bx, h1, blk_ownFrom (β := Unit) W0.heap.size _ _ (fun _ => _) () W W' row h2 hg hr, h3⟩) ?assign ?body ?done ?stop
    case assign =>
      rintro y pre x W K ⟨c0, hB, hp⟩ hK
      gi_wp2
      exact hK _ _ ((KeepsOthers.alloc _ _).from _) ((KpB.refl _ _ _).alloc hB.size _) ⟨c0.alloc _, hB.alloc hB.size _, hp⟩ ⟨_, c0.lt, Blk.new W 97 [.int .i64 x.2.f0, .string x.2.f1, .int .i64 x.2.f2, .int .i64 x.2.f3], rfl⟩
    case body =>
      rintro y pre x a' W hy ⟨r, hr⟩ ⟨c0, hB, hp⟩ ⟨Bx, hBx, cx, rfl⟩ hlt
      have e0 : W.cell? ⟨Bx, 0, none⟩ = some (.int .i64 x.2.f0) := cx.cell 0
      by_cases h0 : x.2.f0 = 1
      · have q0 : (x.2.f0 != 1) = false := by simpa using h0
        have H0 := Lib.hid h0
        clear h0
        gi_wp2
        exact ⟨KeepsFrom.refl _ _, KpB.refl _ _ _, c0, hB, fun p hp' => (List.mem_append.1 hp').elim (hp p) (fun e => by simp at e; subst e; exact H0.out)⟩
      · have q0 : (x.2.f0 != 1) = true := by simpa using h0
        have H0 := Lib.hid h0
        clear h0
        have f1 := c0.frozen 0
        have g1 := c0.cell 0
        gi_wp2
        exact ⟨(KeepsOthers.setCell _ _ _).from _, ⟨rfl, pre, x, rfl, hp, H0.out, c0.set1 _⟩, hB.setCell (p := ⟨w.heap.size, 0, none⟩) (Nat.le_refl _) _⟩
    case done =>
      rintro D ys W hD rfl ⟨c0, hB, hp⟩ hK
      have f1 := c0.frozen 0
      have g1 := c0.cell 0
      gi_wp2
      have hK' := (KeepsOthers.setCell W ⟨w.heap.size, 0, none⟩ (.int .i64 (-1))).same D _ hK rfl
      refine ⟨by simp, .inl ⟨_, _, rfl, run_takeDeferred hK', ?_⟩⟩
      have g2 := cell_kept ((c0.set1 (.int .i64 (-1))).cell 0) (grownBy_putObj' _ D (.deferred none)) (fun r e => by cases e; exact ⟨_, hK', rfl⟩)
      have e := roomIn_on (upto (wayAt l hd) l.length) [] hp
      rw [List.append_nil] at e
      refine ⟨.int .i64 (-1), ?_, by rw [e]; rfl, (hB.setCell (p := ⟨w.heap.size, 0, none⟩) (Nat.le_refl _) _).trans (belowK_b (w := w) (Nat.le_refl _) _ D _ _ (Nat.le_trans hB0.size hD) hK' rfl rfl)⟩
      simp [results, Tryz.f51, go_sem, g2]
    case stop =>
      rintro D cc pre W hD ⟨k, hk, rfl⟩ ⟨⟨rfl, ini, last, e1, e2, e3, c1⟩, hB⟩ hK
      have hf : last.1 = roomIn (upto (wayAt l hd) l.length) := by
        obtain ⟨rest, hr⟩ := upto_split (wayAt l hd) hk
        rw [hr, e1, List.append_assoc, roomIn_on _ _ e2]
        simp only [List.cons_append, roomIn]
        rw [if_neg e3]
      rw [hf] at c1
      gi_wp2
      refine ⟨by simp, .inl ⟨_, _, rfl, run_takeDeferred hK, ?_⟩⟩
      have g2 := cell_kept (c1.cell 0) (grownBy_putObj' _ D (.deferred none)) (fun r e => by cases e; exact ⟨_, hK, rfl⟩)
      refine ⟨_, ?_, rfl, hB.trans (belowK_b (w := w) (Nat.le_refl _) W D _ _ (Nat.le_trans hB0.size hD) hK rfl rfl)⟩
      simp [results, Tryz.f51, go_sem, g2]

theorem probe_Room.calls (A0 : Option Addr) (c0 : Nat) (l0 : List S97) (a1 : ByteArray) (r : Int) (w : World) (hr0 : Kd.C k97 w A0 l0.length l0) (hc0 : l0.length ≤ c0) (h : probe_Room.f l0 a1 = some r) :
    Calls Tryz.prog 51 #[.slice A0 l0.length c0, .string a1] w fun e w' => e = .returned (.int .i64 r) ∧ Below w.heap.size w w' := by
  unfold probe_Room.f at h
  obtain ⟨t, ht, h⟩ := Option.bind_eq_some_iff.mp h
  have ht' := ht
  unfold probe_Find.f at ht'
  by_cases hl : l0.length ≤ 1000000
  · rw [if_pos hl] at ht'
    obtain ⟨hd, hh, _⟩ := Option.bind_eq_some_iff.mp ht'
    have hr : r = if 0 ≤ t then -1 else roomIn (upto (wayAt l0 hd) l0.length) := by
      by_cases h0 : 0 ≤ t
      · rw [if_pos h0] at h ⊢; exact (Option.some.inj h).symm
      · rw [if_neg h0, hh] at h
        rw [if_neg h0]
        exact (Option.some.inj h).symm
    rw [hr]
    exact Room_any A0 c0 l0 a1 hc0 hl t ht hd hh w hr0
  · rw [if_neg hl] at ht'
    exact absurd ht' (by simp)
end

end Go.Proofs.YtbbgeobnjdgpfaaGreat.P
