/- Each Go function that the laws reach, as a plain function, with the proof that the machine's call comes to what it says; of a law: its row. Made by a program of this seat (wip/hp.py, over the print). -/
import Derived.Test.YtklngklmeanhcaaPx0
import Derived.Test.YtklngklmeanhcaaPx1
import Derived.Test.YtklngklmeanhcaaPx2
import Derived.Test.YtklngklmeanhcaaPx3
namespace Go.Proofs.Ytklngklmeanhcaa.P
open Go.RowKit Go.Proofs.YtklngklmeanhcaaW.PrintWords Go.Proofs.YtklngklmeanhcaaW.PrintLast Go.Proofs.YtklngklmeanhcaaW.PrintMore
attribute [local go_sem] max2_int min2_int max_two min_two max_three min_three max_four min_four   -- for this text's walks alone
set_option linter.unusedVariables false
set_option linter.unusedSimpArgs false

/-! ### slots_Slots_Fill: function 28 -/
section
open Go.Shelf Go.Proofs.Ytklngklmeanhcaa.Hand
theorem blk_putS {W : World} {B : Nat} {t : TypeId} {cs : List Value} (h : Blk W B t cs) (i : Nat) (v : Value) : Blk (W.setCell ⟨B, i, none⟩ v) B t (cs.set i v) := by
  have := blk_set (show W.heap[B]? = some (.cells cs.toArray t (0, 0)) from h) i v
  rw [List.setIfInBounds_toArray] at this
  exact this
theorem blkNeS {W : World} {i j : Nat} {t t' : TypeId} {cs cs' : List Value} (h : Blk W i t cs) (h' : Blk W j t' cs') (hne : t ≠ t') : i ≠ j := blk_ne (show W.heap[i]? = _ from h) (show W.heap[j]? = _ from h') hne
/-- Nothing but block ss is written, of what lies ahead. -/
structure KeptB (ss : Nat) (W W' : World) : Prop where
  below : ∀ n, n ≤ ss → n ≤ W.heap.size → Go.RowKit.Below n W W'
  far : ∀ k, k < W.heap.size → k ≠ ss → W'.heap[k]? = W.heap[k]?
theorem KeptB.refl (ss : Nat) (W : World) : KeptB ss W W := ⟨fun n _ _ => Below.refl n W, fun _ _ _ => rfl⟩
theorem KeptB.size {ss : Nat} {W W' : World} (h : KeptB ss W W') : W.heap.size ≤ W'.heap.size := (h.below 0 (Nat.zero_le _) (Nat.zero_le _)).size
theorem KeptB.trans {ss : Nat} {W W' W'' : World} (h : KeptB ss W W') (h' : KeptB ss W' W'') : KeptB ss W W'' :=
  ⟨fun n h1 h2 => (h.below n h1 h2).trans (h'.below n h1 (Nat.le_trans h2 h.size)), fun k h1 h2 => (h'.far k (Nat.lt_of_lt_of_le h1 h.size) h2).trans (h.far k h1 h2)⟩
theorem KeptB.of_below {ss : Nat} {W W' : World} (h : Below W.heap.size W W') : KeptB ss W W' := ⟨fun n _ h2 => h.mono h2, fun k h0 _ => h.block k h0⟩
theorem KeptB.set (ss i : Nat) (W : World) (v : Value) : KeptB ss W (W.setCell ⟨ss, i, none⟩ v) := ⟨fun n h1 _ => (Below.refl n W).setCell (p := ⟨ss, i, none⟩) h1 v, fun _ _ h1 => Below.heap_setCell _ _ _ _ h1⟩
/-- A slot's value: spoilt, being built, or ready with a pool and its points. -/
def SlotV (W : World) (v : Value) (s : Option (Option (List S56))) : Prop :=
  match s with
  | none => v = .nilIface
  | some none => v = .iface 92 (.agg #[])
  | some (some p) => ∃ v1 v2 : Value, v = .iface 79 (.agg #[v1, v2]) ∧ Kd.R k56 56 W 0 (fun _ => True) v1 p ∧ Kd.R k124 124 W 0 (fun _ => True) v2 (ofL p)
theorem SlotV.below {W W' : World} {v : Value} {s : Option (Option (List S56))} (h : SlotV W v s) (hb : Below W.heap.size W W') : SlotV W' v s := by
  match s, h with
  | none, h => exact h
  | some none, h => exact h
  | some (some p), ⟨v1, v2, h1, h2, h3⟩ => exact ⟨v1, v2, h1, Kd.R_below h2 hb, Kd.R_below h3 hb⟩
theorem SlotV.set {W : World} {v : Value} {s : Option (Option (List S56))} (h : SlotV W v s) {ss : Nat} {l : List Value} (hl : Blk W ss 95 l) (i : Nat) (u : Value) : SlotV (W.setCell ⟨ss, i, none⟩ u) v s := by
  match s, h with
  | none, h => exact h
  | some none, h => exact h
  | some (some p), ⟨v1, v2, h1, h2, h3⟩ => exact ⟨v1, v2, h1, Kd.R_set h2 (show W.heap[ss]? = _ from hl) (by decide) i u, Kd.R_set h3 (show W.heap[ss]? = _ from hl) (by decide) i u⟩
/-- Slots in memory: their block, the slots' row, what each slot is. -/
structure Sl (W : World) (qs ss m : Nat) (st : List (Option (Option (List S56)))) : Prop where
  cells : ∃ l : List Value, Blk W ss 95 l ∧ l.length = m ∧ ∀ i, i < m → SlotV W (l.getD i .nilIface) (st.getD i none)
  hq : Blk W qs 72 [.slice (some ⟨ss, 0, none⟩) m m]
  hl : st.length = m
theorem Sl.below {W W' : World} {qs ss m : Nat} {st : List (Option (Option (List S56)))} (h : Sl W qs ss m st) (hb : Below W.heap.size W W') : Sl W' qs ss m st := by
  obtain ⟨⟨l, h1, h2, h3⟩, h4, h5⟩ := h
  exact ⟨⟨l, h1.below hb, h2, fun i hi => (h3 i hi).below hb⟩, h4.below hb, h5⟩
theorem Sl.put {W : World} {qs ss m : Nat} {st : List (Option (Option (List S56)))} (h : Sl W qs ss m st) (i : Nat) (v : Value) (s : Option (Option (List S56))) (hv : SlotV W v s) : Sl (W.setCell ⟨ss, i, none⟩ v) qs ss m (st.set i s) := by
  obtain ⟨⟨l, h1, h2, h3⟩, h4, h5⟩ := h
  refine ⟨⟨l.set i v, blk_putS h1 i v, by rw [List.length_set]; exact h2, fun j hj => ?_⟩, h4.far _ (blkNeS h1 h4 (by decide)) _, by rw [List.length_set]; exact h5⟩
  by_cases hij : i = j
  · subst hij
    rw [List.getD_eq_getElem?_getD, List.getElem?_set_self (by omega), List.getD_eq_getElem?_getD, List.getElem?_set_self (by omega)]
    exact hv.set h1 i v
  · rw [List.getD_eq_getElem?_getD, List.getElem?_set_ne hij, ← List.getD_eq_getElem?_getD, List.getD_eq_getElem?_getD (l := st.set i s), List.getElem?_set_ne hij, ← List.getD_eq_getElem?_getD]
    exact (h3 j hj).set h1 i v
/-- A row of backends stays, whatever is done to slots. -/
theorem KeptB.row {W W' : World} {qs ss m : Nat} {st : List (Option (Option (List S56)))} (h : KeptB ss W W') (hS : Sl W qs ss m st) {v : Value} {p : List S56} (hr : Kd.R k56 56 W 0 (fun _ => True) v p) : Kd.R k56 56 W' 0 (fun _ => True) v p := by
  obtain ⟨l, hl, _⟩ := hS.cells
  exact Kd.R_mono (Kd.R_move (w1 := W') (Kd.R_bound (Kd.R_types hr (show W.heap[ss]? = _ from hl) (by decide))) (fun k hk => h.far k hk.2.2.1 hk.1.2)) (fun _ _ => trivial)
/-- Is there such a slot? -/
def inS (i : Int) (m : Nat) : Bool := decide (0 ≤ i ∧ i < (m : Int))
def putS (st : List (Option (Option (List S56)))) (i : Int) (s : Option (Option (List S56))) : List (Option (Option (List S56))) := if inS i st.length = true then st.set i.toNat s else st
set_option maxHeartbeats 4000000 in
theorem putS_any (qs ss m : Nat) (st : List (Option (Option (List S56)))) (i : Int) (x : Value) (s : Option (Option (List S56))) (hx : x = .nilIface ∨ ∃ t a, x = .iface t a) (W : World) (hS : Sl W qs ss m st) (hv : SlotV W x s) :
    Calls Try.prog 59 #[.pointer (some ⟨qs, 0, none⟩), .int .i64 i, x] W fun e W' => e = .returned (.bool (inS i m)) ∧ Sl W' qs ss m (putS st i s) ∧ KeptB ss W W' := by
  obtain ⟨l, h1, h2, h3⟩ := hS.cells
  have z : W.cell? ⟨qs, 0, none⟩ = some (.slice (some ⟨ss, 0, none⟩) m m) := hS.hq.cell 0
  have hl := hS.hl
  unfold putS
  rw [hl]
  by_cases h : 0 ≤ i ∧ i < (m : Int)
  · have hin : inS i m = true := decide_eq_true h
    have zc : W.cell? ⟨ss, i.toNat, none⟩ = some (l.getD i.toNat .nilIface) := by
      have h := h1.cell i.toNat
      rw [h, List.getD_eq_getElem?_getD, List.getElem?_eq_getElem (by omega)]
      rfl
    have zf := h1.frozen i.toNat
    have q0 : decide (i < 0) = false := decide_eq_false (by omega)
    have q1 : decide ((m : Int) ≤ i) = false := decide_eq_false (by omega)
    have q2 := eq_true h.1
    have q3 := eq_true h.2
    rw [hin, if_pos rfl]
    have HR := Lib.hid (hS.put i.toNat x s hv)
    have HK := Lib.hid (KeptB.set ss i.toNat W x)
    clear h1 h2 h3 hS hv hl h hin
    rcases hx with rfl | ⟨t, a, rfl⟩
    · skip
      go_enter Try.func59, Try.ntmps59
      go_wp2
      go_ret
      exact ⟨rfl, HR.out, HK.out⟩
    · skip
      go_enter Try.func59, Try.ntmps59
      go_wp2
      go_ret
      exact ⟨rfl, HR.out, HK.out⟩
  · have hin : inS i m = false := decide_eq_false h
    rw [hin, if_neg (by decide)]
    have HS := Lib.hid hS
    clear h1 h2 h3 hS hv hl hin
    by_cases h0 : i < 0
    · have q0 : decide (i < 0) = true := decide_eq_true h0
      clear h h0
      go_enter Try.func59, Try.ntmps59
      go_wp2
      go_ret
      exact ⟨rfl, HS.out, KeptB.refl _ _⟩
    · have q0 : decide (i < 0) = false := decide_eq_false h0
      have q1 : decide ((m : Int) ≤ i) = true := decide_eq_true (by omega)
      clear h h0
      go_enter Try.func59, Try.ntmps59
      go_wp2
      go_ret
      exact ⟨rfl, HS.out, KeptB.refl _ _⟩
set_option maxHeartbeats 1000000 in
theorem BeginS_any (qs ss m : Nat) (st : List (Option (Option (List S56)))) (i : Int) (W : World) (hS : Sl W qs ss m st) :
    Calls Try.prog 27 #[.pointer (some ⟨qs, 0, none⟩), .int .i64 i] W fun e W' => e = .returned (.bool (inS i m)) ∧ Sl W' qs ss m (putS st i (some none)) ∧ KeptB ss W W' := by
  have HC := Lib.hid (putS_any qs ss m st i (.iface 92 (.agg #[])) (some none) (.inr ⟨_, _, rfl⟩) W hS rfl)
  clear hS
  go_enter Try.func27, Try.ntmps27
  go_wp2_with (go_at_call 59; refine HC.out.mono ?_; rintro e w1 ⟨rfl, h1, h2⟩; have H1 := Lib.hid h1; have H2 := Lib.hid h2; clear h1 h2)
  go_ret
  exact ⟨rfl, H1.out, H2.out⟩
set_option maxHeartbeats 1000000 in
theorem SpoilS_any (qs ss m : Nat) (st : List (Option (Option (List S56)))) (i : Int) (W : World) (hS : Sl W qs ss m st) :
    Calls Try.prog 30 #[.pointer (some ⟨qs, 0, none⟩), .int .i64 i] W fun e W' => e = .returned (.bool (inS i m)) ∧ Sl W' qs ss m (putS st i none) ∧ KeptB ss W W' := by
  have HC := Lib.hid (putS_any qs ss m st i .nilIface none (.inl rfl) W hS rfl)
  clear hS
  go_enter Try.func30, Try.ntmps30
  go_wp2_with (go_at_call 59; refine HC.out.mono ?_; rintro e w1 ⟨rfl, h1, h2⟩; have H1 := Lib.hid h1; have H2 := Lib.hid h2; clear h1 h2)
  go_ret
  exact ⟨rfl, H1.out, H2.out⟩
/-! what a slot's value is asserted to be -/
section
variable (v : Value) (w : World)
theorem ta_bb : (Instr.typeAssert (.iface 92 v) 95 92 true).run Try.prog w = .ok (.tuple #[v, .bool true]) w := by simp [Instr.typeAssert, run_underlying Try.underlying92]
theorem ta_nb : (Instr.typeAssert .nilIface 95 92 true).run Try.prog w = .ok (.tuple #[.agg #[], .bool false]) w := by simp [Instr.typeAssert, run_underlying Try.underlying92, Try.zeroValue92]
theorem ta_rb : (Instr.typeAssert (.iface 79 v) 95 92 true).run Try.prog w = .ok (.tuple #[.agg #[], .bool false]) w := by simp [Instr.typeAssert, run_underlying Try.underlying92, Try.zeroValue92]
theorem ta_rr : (Instr.typeAssert (.iface 79 v) 95 79 true).run Try.prog w = .ok (.tuple #[v, .bool true]) w := by simp [Instr.typeAssert, run_underlying Try.underlying79]
theorem ta_nr : (Instr.typeAssert .nilIface 95 79 true).run Try.prog w = .ok (.tuple #[.agg #[.slice none 0 0, .slice none 0 0], .bool false]) w := by simp [Instr.typeAssert, run_underlying Try.underlying79, Try.zeroValue79]
theorem ta_br : (Instr.typeAssert (.iface 92 v) 95 79 true).run Try.prog w = .ok (.tuple #[.agg #[.slice none 0 0, .slice none 0 0], .bool false]) w := by simp [Instr.typeAssert, run_underlying Try.underlying79, Try.zeroValue79]
end
/-- Is a slot being built? -/
def isB (s : Option (Option (List S56))) : Bool :=
  match s with
  | some none => true
  | _ => false
def fillB (st : List (Option (Option (List S56)))) (i : Int) (p : List S56) : Bool := inS i st.length && (decide (checkL p = 0) && isB (st.getD i.toNat none))
def fillS (st : List (Option (Option (List S56)))) (i : Int) (p : List S56) : List (Option (Option (List S56))) := if fillB st i p = true then st.set i.toNat (some (some p)) else st
theorem zSlots {W : World} {qs ss m : Nat} {st : List (Option (Option (List S56)))} (h : Sl W qs ss m st) : W.cell? ⟨qs, 0, none⟩ = some (.slice (some ⟨ss, 0, none⟩) m m) := h.hq.cell 0
theorem zCell {W : World} {qs ss m : Nat} {st : List (Option (Option (List S56)))} (h : Sl W qs ss m st) (i : Nat) (hi : i < m) : ∃ v, W.cell? ⟨ss, i, none⟩ = some v ∧ SlotV W v (st.getD i none) := by
  obtain ⟨l, h1, h2, h3⟩ := h.cells
  refine ⟨l.getD i .nilIface, ?_, h3 i hi⟩
  have h := h1.cell i
  rw [h, List.getD_eq_getElem?_getD, List.getElem?_eq_getElem (by omega)]
  rfl
set_option maxRecDepth 100000 in
set_option maxHeartbeats 8000000 in
theorem FillS_any (qs ss m : Nat) (st : List (Option (Option (List S56)))) (i : Int) (A : Option Addr) (c : Nat) (p : List S56) (hp : p.length ≤ 1000) (hpc : p.length ≤ c) (hwf : idsWf p = true) (W : World) (hS : Sl W qs ss m st) (hC : Kd.C k56 W A p.length p) :
    Calls Try.prog 28 #[.pointer (some ⟨qs, 0, none⟩), .int .i64 i, .slice A p.length c] W fun e W' => e = .returned (.bool (fillB st i p)) ∧ Sl W' qs ss m (fillS st i p) ∧ KeptB ss W W' := by
  have hl := hS.hl
  unfold fillS
  have e0 : fillB st i p = (inS i m && (decide (checkL p = 0) && isB (st.getD i.toNat none))) := by unfold fillB; rw [hl]
  rw [e0]
  have z := zSlots hS
  have HCK := Lib.hid (Check_any A c p (by omega) hwf W hC)
  by_cases h : 0 ≤ i ∧ i < (m : Int)
  · have hin : inS i m = true := decide_eq_true h
    have q0 : decide (i < 0) = false := decide_eq_false (by omega)
    have q1 : decide ((m : Int) ≤ i) = false := decide_eq_false (by omega)
    have q2 := eq_true h.1
    have q3 := eq_true h.2
    obtain ⟨ck, hck⟩ : ∃ ck, checkL p = ck := ⟨_, rfl⟩
    rw [hck] at HCK ⊢
    by_cases hc0 : ck = 0
    · have qc : (ck != 0) = false := bne_eq_false_iff_eq.mpr hc0
      have qd : (ck == 0) = true := beq_iff_eq.mpr hc0
      obtain ⟨v, zc, hv⟩ := zCell hS i.toNat (by omega)
      obtain ⟨s, hs⟩ : ∃ s, st.getD i.toNat none = s := ⟨_, rfl⟩
      rw [hs] at hv ⊢
      rw [hin, decide_eq_true hc0]
      have HS := Lib.hid hS
      have HC := Lib.hid hC
      have HPC := Lib.hid hpc
      have HP := Lib.hid hp
      have HV := Lib.hid hv
      by_cases hb : isB s = true
      · rw [hb]
        have hvv : v = .iface 92 (.agg #[]) := by
          match s, hb, hv with
          | some none, _, hv => exact hv
        subst hvv
        have t1 := fun w => ta_bb (.agg #[]) w
        have hlS := Lib.hid hl
        have HIN := Lib.hid hin
        clear hS hC hpc hp hv hl hs e0 hwf hb h hin hck hc0
        go_enter Try.func28, Try.ntmps28
        go_wp2_with (first
          | (go_at_call 26; refine HCK.out.mono ?_; rintro e w1 ⟨rfl, hb1⟩; have HS1 := Lib.hid (HS.out.below hb1); have HC1 := Lib.hid (Kd.C_below HC.out hb1); have HB1 := Lib.hid hb1; clear hb1; have z1 := zSlots HS1.out; have zc1 := (HB1.out.cell (p := ⟨ss, i.toNat, none⟩) (by obtain ⟨l, h1, _⟩ := HS.out.cells; exact h1.lt)).trans zc))
        go_at_call 60
        refine (cloneBk_any A c p (by have := HP.out; omega) _ (Kd.C_alloc HC1.out _)).mono ?_
        rintro e w2 ⟨v2, rfl, hr2, hb2⟩
        obtain ⟨A2, c2, rfl⟩ := Kd.R_slice hr2
        have HR2 := Lib.hid (Kd.R_lower hr2 (Nat.zero_le _))
        have HC2 := Lib.hid (Kd.C_below (Kd.C_alloc HC1.out _) hb2)
        have HS2 := Lib.hid ((HS1.out.below (below_alloc (Below.refl _ _) _)).below hb2)
        have HK2 := Lib.hid (((KeptB.of_below (ss := ss) HB1.out).trans (KeptB.of_below (below_alloc (Below.refl w1.heap.size w1) (.cells #[] 92)))).trans (KeptB.of_below hb2))
        clear hr2 hb2 zc1 z1 t1 zc z
        go_wp2_with fail
        go_at_call 61
        refine (Of_any A c p (by have := HP.out; omega) HPC.out _ HC2.out).mono ?_
        rintro e w3 ⟨v3, rfl, hr3, hb3⟩
        obtain ⟨A3, c3, rfl⟩ := Kd.R_slice hr3
        have HR3 := Lib.hid (Kd.R_lower hr3 (Nat.zero_le _))
        have HR2b := Lib.hid (Kd.R_below HR2.out hb3)
        have HS3 := Lib.hid (HS2.out.below hb3)
        have HK3 := Lib.hid (HK2.out.trans (KeptB.of_below hb3))
        clear hr3 hb3
        go_wp2_with fail
        have HPUT := Lib.hid (putS_any qs ss m st i (.iface 79 (.agg #[.slice A2 p.length c2, .slice A3 (ofL p).length c3])) (some (some p)) (.inr ⟨_, _, rfl⟩) _ HS3.out ⟨_, _, rfl, HR2b.out, HR3.out⟩)
        with_reducible refine HPUT.out.mono ?_
        rintro e w4 ⟨rfl, h41, h42⟩
        rw [HIN.out]
        have HS4 := Lib.hid h41
        have HK4 := Lib.hid (HK3.out.trans h42)
        clear h41 h42
        go_wp2_with fail
        go_ret
        have e1 : putS st i (some (some p)) = st.set i.toNat (some (some p)) := by unfold putS; rw [hlS.out, HIN.out, if_pos rfl]
        exact ⟨rfl, e1 ▸ HS4.out, HK4.out⟩
      · have hbf : isB s = false := by simpa using hb
        rw [hbf]
        have tq : ∃ tv, ∀ w, (Instr.typeAssert v 95 92 true).run Try.prog w = .ok (.tuple #[.agg #[], .bool false]) w ∧ tv = () := by
          refine ⟨(), fun w => ⟨?_, rfl⟩⟩
          match s, hb, hv with
          | none, _, hv => rw [show v = .nilIface from hv]; exact ta_nb w
          | some none, hb, _ => exact absurd rfl hb
          | some (some p), _, ⟨v1, v2, h1, _, _⟩ => rw [h1]; exact ta_rb _ w
        obtain ⟨_, tq⟩ := tq
        have t1 := fun w => (tq w).1
        clear tq hS hC hpc hp hv hl hs e0 hwf hb hbf h hin hck hc0
        go_enter Try.func28, Try.ntmps28
        go_wp2_with (go_at_call 26; refine HCK.out.mono ?_; rintro e w1 ⟨rfl, hb1⟩; have HS1 := Lib.hid (HS.out.below hb1); have HC1 := Lib.hid (Kd.C_below HC.out hb1); have HB1 := Lib.hid hb1; clear hb1; have z1 := zSlots HS1.out; have zc1 := (HB1.out.cell (p := ⟨ss, i.toNat, none⟩) (by obtain ⟨l, h1, _⟩ := HS.out.cells; exact h1.lt)).trans zc)
        go_ret
        exact ⟨rfl, HS1.out.below (below_alloc (Below.refl _ _) _), (KeptB.of_below (ss := ss) HB1.out).trans (KeptB.of_below (below_alloc (Below.refl w1.heap.size w1) (.cells #[] 92)))⟩
    · have qc : (ck != 0) = true := bne_iff_ne.mpr hc0
      have qd : (ck == 0) = false := beq_eq_false_iff_ne.mpr hc0
      rw [hin, decide_eq_false hc0]
      have HS := Lib.hid hS
      clear hS hC hpc hp hl e0 hwf h hin hck hc0
      go_enter Try.func28, Try.ntmps28
      go_wp2_with (go_at_call 26; refine HCK.out.mono ?_; rintro e w1 ⟨rfl, hb1⟩; have HS1 := Lib.hid (HS.out.below hb1); have HB1 := Lib.hid hb1; clear hb1)
      go_ret
      exact ⟨rfl, HS1.out, KeptB.of_below HB1.out⟩
  · have hin : inS i m = false := decide_eq_false h
    rw [hin]
    have HS := Lib.hid hS
    clear hS hC hpc hp hl e0 hwf hin HCK
    by_cases h0 : i < 0
    · have q0 : decide (i < 0) = true := decide_eq_true h0
      clear h h0
      go_enter Try.func28, Try.ntmps28
      go_wp2
      go_ret
      exact ⟨rfl, HS.out, KeptB.refl _ _⟩
    · have q0 : decide (i < 0) = false := decide_eq_false h0
      have q1 : decide ((m : Int) ≤ i) = true := decide_eq_true (by omega)
      clear h h0
      go_enter Try.func28, Try.ntmps28
      go_wp2
      go_ret
      exact ⟨rfl, HS.out, KeptB.refl _ _⟩
/-- What is asked of a slot that is ready. -/
def readS (st : List (Option (Option (List S56)))) (i : Int) : Option (List S56) := if inS i st.length = true then (match st.getD i.toNat none with | some (some p) => some p | _ => none) else none
def orZ {β : Type} (z : β) (g : List S56 → β) : Option (List S56) → β
  | some p => g p
  | none => z
set_option maxRecDepth 100000 in
set_option maxHeartbeats 8000000 in
theorem readS_int' (qs ss m : Nat) (st : List (Option (Option (List S56)))) (i : Int) (f : Nat) (cb : Array Value) (g : List S56 → Int) (W : World) (hS : Sl W qs ss m st)
    (eg : ∀ args w, (callFunc f args).run Try.prog w = .ok (.enter f args) w)
    (hask : ∀ p v1 v2 W', readS st i = some p → Below W.heap.size W W' → Kd.R k56 56 W' 0 (fun _ => True) v1 p → Kd.R k124 124 W' 0 (fun _ => True) v2 (ofL p) → Calls Try.prog f (#[.agg #[v1, v2]] ++ cb) W' fun e w => e = .returned (.int .i64 (g p)) ∧ Below W'.heap.size W' w) :
    Calls Try.prog 49 #[.pointer (some ⟨qs, 0, none⟩), .int .i64 i, .func (.func f) #[] cb] W fun e W' => e = .returned (.tuple #[.int .i64 (orZ 0 g (readS st i)), .bool (readS st i).isSome]) ∧ Below W.heap.size W W' := by
  have hl := hS.hl
  have z := zSlots hS
  unfold readS
  rw [hl]
  by_cases h : 0 ≤ i ∧ i < (m : Int)
  · have hin : inS i m = true := decide_eq_true h
    have q0 : decide (i < 0) = false := decide_eq_false (by omega)
    have q1 : decide ((m : Int) ≤ i) = false := decide_eq_false (by omega)
    have q2 := eq_true h.1
    have q3 := eq_true h.2
    rw [hin, if_pos rfl]
    obtain ⟨v, zc, hv⟩ := zCell hS i.toNat (by omega)
    obtain ⟨s, hs⟩ : ∃ s, st.getD i.toNat none = s := ⟨_, rfl⟩
    rw [hs] at hv ⊢
    match s, hv with
    | none, hv =>
      have hvv : v = .nilIface := hv
      subst hvv
      have t1 := fun w => ta_nr w
      clear hS hl hs h hin hask eg
      go_enter Try.func49, Try.ntmps49
      go_wp2
      go_ret2
      exact ⟨rfl, below_alloc (Below.refl _ _) _⟩
    | some none, hv =>
      have hvv : v = .iface 92 (.agg #[]) := hv
      subst hvv
      have t1 := fun w => ta_br (.agg #[]) w
      clear hS hl hs h hin hask eg
      go_enter Try.func49, Try.ntmps49
      go_wp2
      go_ret2
      exact ⟨rfl, below_alloc (Below.refl _ _) _⟩
    | some (some p), ⟨v1, v2, h1, h2, h3⟩ =>
      subst h1
      have t1 := fun w => ta_rr (.agg #[v1, v2]) w
      obtain ⟨A1, c1, rfl⟩ := Kd.R_slice h2
      obtain ⟨A2, c2, rfl⟩ := Kd.R_slice h3
      have HASK := Lib.hid (hask p _ _ (W.alloc (.cells #[.slice A1 p.length c1, .slice A2 (ofL p).length c2] 79)) (by unfold readS; rw [hl, hin, if_pos rfl, hs]) (below_alloc (Below.refl _ _) _) (Kd.R_alloc h2 _) (Kd.R_alloc h3 _))
      show Calls _ _ _ _ fun e W' => e = .returned (.tuple #[.int .i64 (g p), .bool true]) ∧ _
      have HB := Lib.hid (below_alloc (Below.refl W.heap.size W) (.cells #[.slice A1 p.length c1, .slice A2 (ofL p).length c2] 79))
      clear hS hl hs h hin hask h2 h3
      go_enter Try.func49, Try.ntmps49
      go_wp2_with fail
      with_reducible refine HASK.out.mono ?_
      rintro e w2 ⟨rfl, hb2⟩
      have HB2 := Lib.hid (HB.out.trans (hb2.mono HB.out.size))
      clear hb2
      go_wp2
      go_ret2
      exact ⟨rfl, HB2.out⟩
  · have hin : inS i m = false := decide_eq_false h
    rw [hin, if_neg (by decide)]
    clear hS hl hin hask eg
    by_cases h0 : i < 0
    · have q0 : decide (i < 0) = true := decide_eq_true h0
      clear h h0
      go_enter Try.func49, Try.ntmps49
      go_wp2
      go_ret2
      exact ⟨rfl, Below.refl _ _⟩
    · have q0 : decide (i < 0) = false := decide_eq_false h0
      have q1 : decide ((m : Int) ≤ i) = true := decide_eq_true (by omega)
      clear h h0
      go_enter Try.func49, Try.ntmps49
      go_wp2
      go_ret2
      exact ⟨rfl, Below.refl _ _⟩
set_option maxRecDepth 100000 in
set_option maxHeartbeats 8000000 in
theorem readS_bool' (qs ss m : Nat) (st : List (Option (Option (List S56)))) (i : Int) (f : Nat) (cb : Array Value) (g : List S56 → Bool) (W : World) (hS : Sl W qs ss m st)
    (eg : ∀ args w, (callFunc f args).run Try.prog w = .ok (.enter f args) w)
    (hask : ∀ p v1 v2 W', readS st i = some p → Below W.heap.size W W' → Kd.R k56 56 W' 0 (fun _ => True) v1 p → Kd.R k124 124 W' 0 (fun _ => True) v2 (ofL p) → Calls Try.prog f (#[.agg #[v1, v2]] ++ cb) W' fun e w => e = .returned (.bool (g p)) ∧ Below W'.heap.size W' w) :
    Calls Try.prog 54 #[.pointer (some ⟨qs, 0, none⟩), .int .i64 i, .func (.func f) #[] cb] W fun e W' => e = .returned (.tuple #[.bool (orZ false g (readS st i)), .bool (readS st i).isSome]) ∧ Below W.heap.size W W' := by
  have hl := hS.hl
  have z := zSlots hS
  unfold readS
  rw [hl]
  by_cases h : 0 ≤ i ∧ i < (m : Int)
  · have hin : inS i m = true := decide_eq_true h
    have q0 : decide (i < 0) = false := decide_eq_false (by omega)
    have q1 : decide ((m : Int) ≤ i) = false := decide_eq_false (by omega)
    have q2 := eq_true h.1
    have q3 := eq_true h.2
    rw [hin, if_pos rfl]
    obtain ⟨v, zc, hv⟩ := zCell hS i.toNat (by omega)
    obtain ⟨s, hs⟩ : ∃ s, st.getD i.toNat none = s := ⟨_, rfl⟩
    rw [hs] at hv ⊢
    match s, hv with
    | none, hv =>
      have hvv : v = .nilIface := hv
      subst hvv
      have t1 := fun w => ta_nr w
      clear hS hl hs h hin hask eg
      go_enter Try.func54, Try.ntmps54
      go_wp2
      go_ret2
      exact ⟨rfl, below_alloc (Below.refl _ _) _⟩
    | some none, hv =>
      have hvv : v = .iface 92 (.agg #[]) := hv
      subst hvv
      have t1 := fun w => ta_br (.agg #[]) w
      clear hS hl hs h hin hask eg
      go_enter Try.func54, Try.ntmps54
      go_wp2
      go_ret2
      exact ⟨rfl, below_alloc (Below.refl _ _) _⟩
    | some (some p), ⟨v1, v2, h1, h2, h3⟩ =>
      subst h1
      have t1 := fun w => ta_rr (.agg #[v1, v2]) w
      obtain ⟨A1, c1, rfl⟩ := Kd.R_slice h2
      obtain ⟨A2, c2, rfl⟩ := Kd.R_slice h3
      have HASK := Lib.hid (hask p _ _ (W.alloc (.cells #[.slice A1 p.length c1, .slice A2 (ofL p).length c2] 79)) (by unfold readS; rw [hl, hin, if_pos rfl, hs]) (below_alloc (Below.refl _ _) _) (Kd.R_alloc h2 _) (Kd.R_alloc h3 _))
      show Calls _ _ _ _ fun e W' => e = .returned (.tuple #[.bool (g p), .bool true]) ∧ _
      have HB := Lib.hid (below_alloc (Below.refl W.heap.size W) (.cells #[.slice A1 p.length c1, .slice A2 (ofL p).length c2] 79))
      clear hS hl hs h hin hask h2 h3
      go_enter Try.func54, Try.ntmps54
      go_wp2_with fail
      with_reducible refine HASK.out.mono ?_
      rintro e w2 ⟨rfl, hb2⟩
      have HB2 := Lib.hid (HB.out.trans (hb2.mono HB.out.size))
      clear hb2
      go_wp2
      go_ret2
      exact ⟨rfl, HB2.out⟩
  · have hin : inS i m = false := decide_eq_false h
    rw [hin, if_neg (by decide)]
    clear hS hl hin hask eg
    by_cases h0 : i < 0
    · have q0 : decide (i < 0) = true := decide_eq_true h0
      clear h h0
      go_enter Try.func54, Try.ntmps54
      go_wp2
      go_ret2
      exact ⟨rfl, Below.refl _ _⟩
    · have q0 : decide (i < 0) = false := decide_eq_false h0
      have q1 : decide ((m : Int) ≤ i) = true := decide_eq_true (by omega)
      clear h h0
      go_enter Try.func54, Try.ntmps54
      go_wp2
      go_ret2
      exact ⟨rfl, Below.refl _ _⟩
/-- Points of a pool that isn't large. -/
theorem ofL_few (p : List S56) (hp : p.length ≤ 1000) : (ofL p).length ≤ 1000000 := by
  have h := ptsT_len p
  unfold ofL
  rw [List.length_map]
  unfold srtL
  rw [List.length_mergeSort]
  omega
theorem succ_someS (l : List S124) (h : Int) (hl : l.length ≤ 1000000) : ring_Succ.f l h = some (succL l h) := by
  unfold ring_Succ.f ring_circle_succ.f
  rw [if_pos (by omega)]
  rfl
/-- How few backends there are in each slot. -/
def FewS (st : List (Option (Option (List S56)))) : Prop := ∀ i p, st.getD i none = some (some p) → p.length ≤ 1000
theorem readS_some {st : List (Option (Option (List S56)))} {i : Int} {p : List S56} (h : readS st i = some p) : st.getD i.toNat none = some (some p) := by
  unfold readS at h
  split at h
  · split at h
    · injection h with h; subst h; assumption
    · cases h
  · cases h
set_option maxHeartbeats 1000000 in
theorem pick1_any (h : Int) (B : Nat) (v1 v2 : Value) (l : List S124) (hl : l.length ≤ 1000000) (W : World) (hR : Kd.R k124 124 W 0 (fun _ => True) v2 l) (hB : B < W.heap.size) (hc : W.cell? ⟨B, 0, none⟩ = some (.int .u64 h)) (h1 : ∃ A n c, v1 = .slice A n c) :
    Calls Try.prog 50 #[.agg #[v1, v2], .pointer (some ⟨B, 0, none⟩)] W fun e w => e = .returned (.int .i64 (succL l h)) ∧ Below W.heap.size W w := by
  obtain ⟨A1, n1, c1, rfl⟩ := h1
  obtain ⟨A2, c2, rfl⟩ := Kd.R_slice hR
  have hne : B ≠ W.heap.size := by omega
  have HS := Lib.hid (fun w1 (hb : Below W.heap.size W w1) => ring_Succ.calls A2 c2 l h (succL l h) w1 (Kd.R_reads' (Kd.R_below hR hb)).2.2 (Kd.R_reads' hR).2.1 (succ_someS l h hl))
  clear hR
  go_enter Try.func50, Try.ntmps50
  go_wp2_with (go_at_call 51; refine (HS.out _ (below_alloc (Below.refl _ _) _)).mono ?_; rintro e w2 ⟨rfl, hb⟩; have HB := Lib.hid hb; clear hb)
  go_ret
  exact ⟨rfl, (below_alloc (Below.refl _ _) _).trans (HB.out.mono (by simp))⟩
set_option maxHeartbeats 1000000 in
theorem has1_any (id : Int) (B : Nat) (v1 v2 : Value) (p : List S56) (hp : p.length ≤ 1000) (W : World) (hR : Kd.R k56 56 W 0 (fun _ => True) v1 p) (hB : B < W.heap.size) (hc : W.cell? ⟨B, 0, none⟩ = some (.int .i64 id)) (h2 : ∃ A n c, v2 = .slice A n c) :
    Calls Try.prog 55 #[.agg #[v1, v2], .pointer (some ⟨B, 0, none⟩)] W fun e w => e = .returned (.bool (decide (0 ≤ findL p id))) ∧ Below W.heap.size W w := by
  obtain ⟨A2, n2, c2, rfl⟩ := h2
  obtain ⟨A1, c1, rfl⟩ := Kd.R_slice hR
  have hne : B ≠ W.heap.size := by omega
  have HF := Lib.hid (fun w1 (hb : Below W.heap.size W w1) => Find_any A1 c1 p (by omega) id w1 (Kd.R_reads' (Kd.R_below hR hb)).2.2)
  clear hR hp
  obtain ⟨r, hr⟩ : ∃ r, findL p id = r := ⟨_, rfl⟩
  rw [hr] at HF ⊢
  clear hr
  have HH := Lib.hid (show ∀ w1, Below W.heap.size W w1 → Calls Try.prog 56 #[.slice A1 p.length c1, .int .i64 id] w1 fun e w => e = .returned (.bool (decide (0 ≤ r))) ∧ Below w1.heap.size w1 w from fun w1 hb => by
    have HF1 := Lib.hid (HF.out w1 hb)
    clear HF hb hc hne hB
    go_enter Try.func56, Try.ntmps56
    go_wp2_with (go_at_call 29; refine HF1.out.mono ?_; rintro e w2 ⟨rfl, hb⟩; have HB := Lib.hid hb; clear hb)
    go_ret
    exact ⟨rfl, HB.out⟩)
  clear HF
  go_enter Try.func55, Try.ntmps55
  go_wp2_with (go_at_call 56; refine (HH.out _ (below_alloc (Below.refl _ _) _)).mono ?_; rintro e w2 ⟨rfl, hb⟩; have HB := Lib.hid hb; clear hb)
  go_ret
  exact ⟨rfl, (below_alloc (Below.refl _ _) _).trans (HB.out.mono (by simp))⟩
set_option maxHeartbeats 1000000 in
theorem size1_any (v1 v2 : Value) (p : List S56) (W : World) (hR : Kd.R k56 56 W 0 (fun _ => True) v1 p) (h2 : ∃ A n c, v2 = .slice A n c) :
    Calls Try.prog 57 #[.agg #[v1, v2]] W fun e w => e = .returned (.int .i64 (p.length : Int)) ∧ Below W.heap.size W w := by
  obtain ⟨A2, n2, c2, rfl⟩ := h2
  obtain ⟨A1, c1, rfl⟩ := Kd.R_slice hR
  clear hR
  go_enter Try.func57, Try.ntmps57
  go_wp2
  go_ret
  exact ⟨rfl, below_alloc (Below.refl _ _) _⟩
theorem slice_of_R {W : World} {v : Value} {l : List S124} (h : Kd.R k124 124 W 0 (fun _ => True) v l) : ∃ A n c, v = .slice A n c := by
  obtain ⟨A, c, rfl⟩ := Kd.R_slice h; exact ⟨A, _, c, rfl⟩
theorem slice_of_RB {W : World} {v : Value} {l : List S56} (h : Kd.R k56 56 W 0 (fun _ => True) v l) : ∃ A n c, v = .slice A n c := by
  obtain ⟨A, c, rfl⟩ := Kd.R_slice h; exact ⟨A, _, c, rfl⟩
set_option maxHeartbeats 1000000 in
theorem PickS_any (qs ss m : Nat) (st : List (Option (Option (List S56)))) (i h : Int) (W : World) (hS : Sl W qs ss m st) (hF : FewS st) :
    Calls Try.prog 20 #[.pointer (some ⟨qs, 0, none⟩), .int .i64 i, .int .u64 h] W fun e W' => e = .returned (.tuple #[.int .i64 (orZ 0 (fun p => succL (ofL p) h) (readS st i)), .bool (readS st i).isSome]) ∧ Below W.heap.size W W' := by
  have eg := enters_of Try.func50 (by kernel_rfl) rfl
  have HB := Lib.hid (below_alloc (Below.refl W.heap.size W) (.cells #[.int .u64 h] 23))
  have hx := Blk.new W 23 [.int .u64 h]
  have HR := Lib.hid (readS_int' qs ss m st i 50 #[.pointer (some ⟨W.heap.size, 0, none⟩)] (fun p => succL (ofL p) h) (W.alloc (.cells #[.int .u64 h] 23)) (hS.below (below_alloc (Below.refl _ _) _)) eg (fun p v1 v2 W' hp hb h1 h2 => pick1_any h W.heap.size v1 v2 (ofL p) (ofL_few p (hF i.toNat p (readS_some hp))) W' h2 (Nat.lt_of_lt_of_le hx.lt hb.size) ((hx.below hb).cell 0) (slice_of_RB h1)))
  clear hS hF hx eg
  go_enter Try.func20, Try.ntmps20
  go_wp2_with (go_at_call 49; refine HR.out.mono ?_; rintro e w2 ⟨rfl, hb⟩; have HB2 := Lib.hid (HB.out.trans (hb.mono HB.out.size)); clear hb)
  go_ret2
  exact ⟨rfl, HB2.out⟩
set_option maxHeartbeats 1000000 in
theorem HasS_any (qs ss m : Nat) (st : List (Option (Option (List S56)))) (i id : Int) (W : World) (hS : Sl W qs ss m st) (hF : FewS st) :
    Calls Try.prog 22 #[.pointer (some ⟨qs, 0, none⟩), .int .i64 i, .int .i64 id] W fun e W' => e = .returned (.tuple #[.bool (orZ false (fun p => decide (0 ≤ findL p id)) (readS st i)), .bool (readS st i).isSome]) ∧ Below W.heap.size W W' := by
  have eg := enters_of Try.func55 (by kernel_rfl) rfl
  have HB := Lib.hid (below_alloc (Below.refl W.heap.size W) (.cells #[.int .i64 id] 3))
  have hx := Blk.new W 3 [.int .i64 id]
  have HR := Lib.hid (readS_bool' qs ss m st i 55 #[.pointer (some ⟨W.heap.size, 0, none⟩)] (fun p => decide (0 ≤ findL p id)) (W.alloc (.cells #[.int .i64 id] 3)) (hS.below (below_alloc (Below.refl _ _) _)) eg (fun p v1 v2 W' hp hb h1 h2 => has1_any id W.heap.size v1 v2 p (hF i.toNat p (readS_some hp)) W' h1 (Nat.lt_of_lt_of_le hx.lt hb.size) ((hx.below hb).cell 0) (slice_of_R h2)))
  clear hS hF hx eg
  go_enter Try.func22, Try.ntmps22
  go_wp2_with (go_at_call 54; refine HR.out.mono ?_; rintro e w2 ⟨rfl, hb⟩; have HB2 := Lib.hid (HB.out.trans (hb.mono HB.out.size)); clear hb)
  go_ret2
  exact ⟨rfl, HB2.out⟩
set_option maxHeartbeats 1000000 in
theorem SizeS_any (qs ss m : Nat) (st : List (Option (Option (List S56)))) (i : Int) (W : World) (hS : Sl W qs ss m st) :
    Calls Try.prog 24 #[.pointer (some ⟨qs, 0, none⟩), .int .i64 i] W fun e W' => e = .returned (.tuple #[.int .i64 (orZ 0 (fun p => (p.length : Int)) (readS st i)), .bool (readS st i).isSome]) ∧ Below W.heap.size W W' := by
  have eg := enters_of Try.func57 (by kernel_rfl) rfl
  have HR := Lib.hid (readS_int' qs ss m st i 57 #[] (fun p => (p.length : Int)) W hS eg (fun p v1 v2 W' _ hb h1 h2 => size1_any v1 v2 p W' h1 (slice_of_R h2)))
  clear hS eg
  go_enter Try.func24, Try.ntmps24
  go_wp2_with (go_at_call 49; refine HR.out.mono ?_; rintro e w2 ⟨rfl, hb⟩; have HB2 := Lib.hid hb; clear hb)
  go_ret2
  exact ⟨rfl, HB2.out⟩
end

-- NOT PRINTED: function 30 (slots_Slots_Spoil)

/-! ### bk -/
section
open Go.Shelf Go.Proofs.Ytklngklmeanhcaa.Hand
def encBk (x : S56) : List Value := [.int .i64 x.f0, .int .i64 x.f1]
theorem reps_flat2 {R : S56 → List Value → Prop} (hR : ∀ p c, R p c → c = encBk p) : ∀ (xs : List S56) (cs : List Value), Reps R 2 xs cs → cs = xs.flatMap encBk
  | [], cs, h => by have := h.1; simp at this; simp [this]
  | x :: l, cs, h => by
    have h0 := hR _ _ (h.2 0 x rfl)
    have hl := h.1
    rw [Nat.zero_mul, List.drop_zero] at h0
    have ht : Reps R 2 l (cs.drop 2) := ⟨by rw [List.length_drop, hl, List.length_cons, Nat.add_mul, Nat.one_mul, Nat.add_sub_cancel], fun j p hj => by
      have := h.2 (j + 1) p hj
      rw [List.drop_drop, show 2 + j * 2 = (j + 1) * 2 by rw [Nat.add_mul, Nat.one_mul, Nat.add_comm]]
      exact this⟩
    have ih := reps_flat2 hR l _ ht
    rw [List.flatMap_cons, ← h0, ← ih, List.take_append_drop]
theorem reps_of2 {R : S56 → List Value → Prop} (hR : ∀ p, R p (encBk p)) : ∀ (l pre : List S56) (cs : List Value), Reps R 2 pre cs → Reps R 2 (pre ++ l) (cs ++ l.flatMap encBk)
  | [], pre, cs, h => by simpa using h
  | x :: l, pre, cs, h => by
    have e1 : pre ++ x :: l = (pre ++ [x]) ++ l := by simp
    have e2 : cs ++ (x :: l).flatMap encBk = (cs ++ encBk x) ++ l.flatMap encBk := by simp
    rw [e1, e2]
    exact reps_of2 hR l _ _ (h.snoc (hR x) rfl)
theorem R_bk {W : World} {base : Nat} {v : Value} {xs : List S56} (h : W.ownsRow base 56 2 v xs.length (xs.flatMap encBk)) : Kd.R k56 56 W base (fun _ => True) v xs :=
  ⟨fun _ _ => trivial, xs.flatMap encBk, h, by
    have e := reps_of2 (R := (k56).M W base (fun k => True ∧ some k ≠ v.ownBlock)) (fun x => k56_mkM W base _ x) xs [] [] (Reps.none _ _)
    rw [List.nil_append, List.nil_append] at e
    exact e⟩
theorem flat_take2 (xs : List S56) : ∀ i, i ≤ xs.length → (xs.flatMap encBk).take (i * 2) = (xs.take i).flatMap encBk := by
  induction xs with
  | nil => intro i hi; simp
  | cons x l ih =>
    intro i hi
    cases i with
    | zero => simp
    | succ i =>
      have := ih i (by simpa using hi)
      rw [List.take_succ_cons, List.flatMap_cons, List.flatMap_cons, ← this, Nat.add_mul, Nat.one_mul]
      simp [encBk]
theorem own_bk {W : World} {base g c : Nat} {xs : List S56} (h : Kd.R k56 56 W base (fun _ => True) (.slice (some ⟨g, 0, none⟩) xs.length c) xs) :
    W.ownsRow base 56 2 (.slice (some ⟨g, 0, none⟩) xs.length c) xs.length (xs.flatMap encBk) ∧ (∀ t, t < xs.length * 2 → (W.cell? ⟨g, t, none⟩).isSome = true) ∧ ∀ t, W.frozen? ⟨g, t, none⟩ = false := by
  obtain ⟨_, inner, ho, hr⟩ := h
  obtain rfl := reps_flat2 (fun p c h => k56_openM h) xs inner hr
  have ho' : W.ownsRow base 56 2 (.slice (some ⟨g, 0, none⟩) xs.length c) xs.length (xs.flatMap encBk) := ho
  refine ⟨ho', ?_⟩
  obtain ⟨hl, hn | ⟨g', cap', cur, hv, hb, hg, h1, h2, h3, h4⟩⟩ := ho'
  · cases hn.1
  · injection hv with hA _ hc
    injection hA with hA
    injection hA with hA
    subst hA
    refine ⟨fun t ht => ?_, fun t => ?_⟩
    · simp only [World.cell?, hg]
      have : t < cur.size := by rw [h3]; omega
      simp [this]
    · simp only [World.frozen?, hg]
      simp
theorem own_bk_end {W : World} {base g c : Nat} {xs : List S56} (h : W.ownsRow base 56 2 (.slice (some ⟨g, 0, none⟩) xs.length c) xs.length (xs.flatMap encBk)) {i : Nat} (hi : i ≤ xs.length) (us : List Value) :
    Kd.R k56 56 (W.setCells g (i * 2) us) base (fun _ => True) (.slice (some ⟨g, 0, none⟩) (xs.take i).length c) (xs.take i) := by
  have h1 := own_cut h hi
  rw [flat_take2 xs i hi] at h1
  have h2 := own_beyonds us (i * 2) W h1 (Nat.le_refl _)
  have hl : (xs.take i).length = i := by rw [List.length_take]; omega
  exact R_bk (by rw [hl]; exact h2)
end

/-! ### gangplanklaw16_works: function 14 -/
section
open Go.Shelf Go.Proofs.Ytklngklmeanhcaa.Hand
def mOf (n : Int) : Nat := (mx 0 (mn n 8)).toNat
theorem mOf_eq (n : Int) : mx 0 (mn n 8) = (mOf n : Int) := by unfold mOf mx mn; split <;> split <;> omega
theorem mOf_in (n i : Int) : inS i (mOf n) = decide (0 ≤ i ∧ i < n ∧ i < 8) := by
  unfold inS
  have h := mOf_eq n
  unfold mx mn at h
  refine decide_eq_decide.2 ?_
  split at h <;> split at h <;> omega
theorem newS_any (n : Int) (W : World) : Calls Try.prog 16 #[.int .i64 n] W fun e W' => ∃ qs ss, e = .returned (.pointer (some ⟨qs, 0, none⟩)) ∧ Sl W' qs ss (mOf n) (List.replicate (mOf n) none) ∧ W.heap.size ≤ ss ∧ Below W.heap.size W W' := by
  refine (slotsNew_any n (mOf n) (mOf_eq n) W).mono ?_
  rintro e W' ⟨rfl, rfl⟩
  refine ⟨_, W.heap.size, rfl, ⟨⟨List.replicate (mOf n) .nilIface, (Blk.new W 95 _).alloc _, List.length_replicate, fun i hi => ?_⟩, ?_, List.length_replicate⟩, Nat.le_refl _, (below_alloc (Below.refl W.heap.size W) _).alloc (by simp) _⟩
  · rw [List.getD_eq_getElem?_getD, List.getD_eq_getElem?_getD, List.getElem?_replicate, List.getElem?_replicate, if_pos hi, if_pos hi]
    rfl
  · have h := Blk.new (W.alloc (.cells (List.replicate (mOf n) Value.nilIface).toArray 95)) 72 [.slice (some ⟨W.heap.size, 0, none⟩) (mOf n) (mOf n)]
    rw [show (W.alloc (.cells (List.replicate (mOf n) Value.nilIface).toArray 95)).heap.size = W.heap.size + 1 from by simp] at h
    exact h
theorem succ_mem (l : List S124) (h : Int) (hl : 0 < l.length) : ∃ x ∈ l, succL l h = x.f1 := by
  unfold succL
  rw [if_neg (by omega)]
  have hi : srch (geP l h) l.length 0 l.length % l.length < l.length := Nat.mod_lt _ hl
  exact ⟨l[srch (geP l h) l.length 0 l.length % l.length], List.getElem_mem hi, by rw [List.getD_eq_getElem?_getD, List.getElem?_eq_getElem hi]; rfl⟩
theorem ofL_f1 (p : List S56) (x : S124) (hx : x ∈ ofL p) : ∃ b ∈ p, x.f1 = b.f0 := by
  unfold ofL at hx
  obtain ⟨y, hy, rfl⟩ := List.mem_map.1 hx
  unfold srtL at hy
  obtain ⟨b, hb, hy⟩ := List.mem_flatMap.1 ((List.mergeSort_perm _ _).mem_iff.1 hy)
  obtain ⟨n, _, rfl⟩ := List.mem_map.1 hy
  exact ⟨b, hb, rfl⟩
theorem ofL_len16 (p : List S56) : (ofL p).length = (ptsT p).length := by
  unfold ofL
  rw [List.length_map]
  unfold srtL
  rw [List.length_mergeSort]
theorem pick16 : succL (ofL [⟨7, 1⟩]) 3 = 7 := by
  obtain ⟨x, hx, e⟩ := succ_mem (ofL [⟨7, 1⟩]) 3 (by rw [ofL_len16]; simp [ptsT, ptsL, cntL]; decide)
  obtain ⟨b, hb, e2⟩ := ofL_f1 _ x hx
  rw [List.mem_singleton.1 hb] at e2
  rw [e, e2]
theorem few1 (p : List S56) (hp : p.length ≤ 1000) : FewS [some (some p)] := fun i q h => by
  cases i with
  | zero =>
    have h2 : (some (some p) : Option (Option (List S56))) = some (some q) := h
    injection h2 with h2; injection h2 with h2; rw [← h2]; exact hp
  | succ i => cases h
theorem few0 : FewS [none] := fun i q h => by cases i <;> cases h
theorem f16a : fillB [none] 0 [⟨7, 1⟩] = false := by decide
theorem s16a : fillS [none] 0 [⟨7, 1⟩] = [none] := by unfold fillS; rw [f16a]; rfl
theorem f16b : fillB [some none] 0 [⟨7, 1⟩] = true := by decide
theorem s16b : fillS [some none] 0 [⟨7, 1⟩] = [some (some [⟨7, 1⟩])] := by unfold fillS; rw [f16b]; rfl
theorem r16 : readS [some (some [⟨7, 1⟩])] 0 = some [⟨7, 1⟩] := by rfl
set_option maxRecDepth 100000 in
set_option maxHeartbeats 8000000 in
theorem works16_any (w : World) : Calls Try.prog 14 #[] w fun e w' => e = .returned (.bool true) ∧ Below w.heap.size w w' := by
  have c0 : idsWf [⟨7, 1⟩] = true := by decide
  have C0 := Lib.hid c0
  clear c0
  go_enter Try.func14, Try.ntmps14
  go_wp2_with fail
  go_at_call 16
  refine (newS_any 1 _).mono ?_
  rintro e w1 ⟨qs, ss, rfl, hs, hss, hb⟩
  have HS := Lib.hid (show Sl w1 qs ss 1 [none] from hs)
  have HSS := Lib.hid hss
  have HB := Lib.hid hb
  clear hs hss hb
  go_wp2_with fail
  have HS1 := Lib.hid (HS.out.below (below_alloc (Below.refl w1.heap.size w1) (.cells #[.int .i64 7, .int .i64 1] 56)))
  have HP1 := Lib.hid (show Kd.R k56 56 (w1.alloc (.cells #[.int .i64 7, .int .i64 1] 56)) 0 (fun _ => True) (.slice (some ⟨w1.heap.size, 0, none⟩) 1 1) [⟨7, 1⟩] from R_bk (World.ownsRow_lit w1 #[.int .i64 7, .int .i64 1] 1 (Nat.zero_le _) (by decide) rfl))
  have HK1 := Lib.hid (KeptB.of_below (ss := ss) (below_alloc (Below.refl w1.heap.size w1) (.cells #[.int .i64 7, .int .i64 1] 56)))
  go_wp2_with fail
  go_at_call 28
  refine (FillS_any qs ss 1 [none] 0 _ 1 [⟨7, 1⟩] (by decide) (by decide) C0.out _ HS1.out (Kd.R_reads' HP1.out).2.2).mono ?_
  rintro e wa1 ⟨he, h1, h2⟩
  rw [f16a] at he
  rw [s16a] at h1
  obtain rfl : e = .returned (.bool false) := he
  have HSa1 := Lib.hid (show Sl wa1 qs ss 1 [none] from h1)
  have HKa1 := Lib.hid (HK1.out.trans h2)
  have HRp1 := Lib.hid (h2.row HS1.out HP1.out)
  clear h1 h2
  go_wp2_with fail
  go_at_call 27
  refine (BeginS_any qs ss 1 [none] 0 _ HSa1.out).mono ?_
  rintro e wa2 ⟨he, h1, h2⟩
  obtain rfl : e = .returned (.bool true) := he
  have HSa2 := Lib.hid (show Sl wa2 qs ss 1 [some none] from h1)
  have HKa2 := Lib.hid (HKa1.out.trans h2)
  have HRp2 := Lib.hid (h2.row HSa1.out HRp1.out)
  clear h1 h2
  go_wp2_with fail
  go_at_call 28
  refine (FillS_any qs ss 1 [some none] 0 _ 1 [⟨7, 1⟩] (by decide) (by decide) C0.out _ HSa2.out (Kd.R_reads' HRp2.out).2.2).mono ?_
  rintro e wa3 ⟨he, h1, h2⟩
  rw [f16b] at he
  rw [s16b] at h1
  obtain rfl : e = .returned (.bool true) := he
  have HSa3 := Lib.hid (show Sl wa3 qs ss 1 [some (some [⟨7, 1⟩])] from h1)
  have HKa3 := Lib.hid (HKa2.out.trans h2)
  have HRp3 := Lib.hid (h2.row HSa2.out HRp2.out)
  clear h1 h2
  go_wp2_with fail
  go_at_call 20
  refine (PickS_any qs ss 1 [some (some [⟨7, 1⟩])] 0 3 _ HSa3.out (few1 _ (by decide))).mono ?_
  rintro e wa4 ⟨he, hb⟩
  rw [r16, show orZ 0 (fun p => succL (ofL p) 3) (some [⟨7, 1⟩]) = 7 from pick16] at he
  obtain rfl : e = .returned (.tuple #[.int .i64 7, .bool true]) := he
  have HSa4 := Lib.hid (HSa3.out.below hb)
  have HKa4 := Lib.hid (HKa3.out.trans (KeptB.of_below hb))
  clear hb
  go_wp2_with fail
  go_at_call 22
  refine (HasS_any qs ss 1 [some (some [⟨7, 1⟩])] 0 7 _ HSa4.out (few1 _ (by decide))).mono ?_
  rintro e wa5 ⟨he, hb⟩
  rw [r16, show orZ false (fun p => decide (0 ≤ findL p 7)) (some [⟨7, 1⟩]) = true from by decide] at he
  obtain rfl : e = .returned (.tuple #[.bool true, .bool true]) := he
  have HSa5 := Lib.hid (HSa4.out.below hb)
  have HKa5 := Lib.hid (HKa4.out.trans (KeptB.of_below hb))
  clear hb
  go_wp2_with fail
  go_at_call 24
  refine (SizeS_any qs ss 1 [some (some [⟨7, 1⟩])] 0 _ HSa5.out).mono ?_
  rintro e wa6 ⟨he, hb⟩
  rw [r16] at he
  obtain rfl : e = .returned (.tuple #[.int .i64 1, .bool true]) := he
  have HSa6 := Lib.hid (HSa5.out.below hb)
  have HKa6 := Lib.hid (HKa5.out.trans (KeptB.of_below hb))
  clear hb
  go_wp2_with fail
  go_at_call 30
  refine (SpoilS_any qs ss 1 [some (some [⟨7, 1⟩])] 0 _ HSa6.out).mono ?_
  rintro e wa7 ⟨he, h1, h2⟩
  obtain rfl : e = .returned (.bool true) := he
  have HSa7 := Lib.hid (show Sl wa7 qs ss 1 [none] from h1)
  have HKa7 := Lib.hid (HKa6.out.trans h2)
  clear h1 h2
  go_wp2_with fail
  go_at_call 20
  refine (PickS_any qs ss 1 [none] 0 3 _ HSa7.out few0).mono ?_
  rintro e wa8 ⟨he, hb⟩
  obtain rfl : e = .returned (.tuple #[.int .i64 0, .bool false]) := he
  have HSa8 := Lib.hid (HSa7.out.below hb)
  have HKa8 := Lib.hid (HKa7.out.trans (KeptB.of_below hb))
  clear hb
  go_wp2_with fail
  go_at_call 27
  refine (BeginS_any qs ss 1 [none] 1 _ HSa8.out).mono ?_
  rintro e wa9 ⟨he, h1, h2⟩
  obtain rfl : e = .returned (.bool false) := he
  have HSa9 := Lib.hid (show Sl wa9 qs ss 1 [none] from h1)
  have HKa9 := Lib.hid (HKa8.out.trans h2)
  clear h1 h2
  go_wp2_with fail
  go_at_call 30
  refine (SpoilS_any qs ss 1 [none] (-1) _ HSa9.out).mono ?_
  rintro e wa10 ⟨he, h1, h2⟩
  obtain rfl : e = .returned (.bool false) := he
  have HSa10 := Lib.hid (show Sl wa10 qs ss 1 [none] from h1)
  have HKa10 := Lib.hid (HKa9.out.trans h2)
  clear h1 h2
  go_wp2_with fail
  go_ret
  exact ⟨rfl, HB.out.trans (HKa10.out.below _ HSS.out HB.out.size)⟩
def gangplanklaw16_works.f : Option Bool := some true
theorem gangplanklaw16_works.calls (r : Bool) (w : World) (h : gangplanklaw16_works.f = some r) : Calls Try.prog 14 #[] w fun e w' => e = .returned (.bool r) ∧ Below w.heap.size w w' := by
  obtain rfl : true = r := Option.some.inj h
  exact works16_any w
end

/-! ### gangplanklaw16_few: function 15 -/
def gangplanklaw16_few.l0 : Nat → List (S33) → Int → Option (Bool)
  | 0, _, _ => none
  | k + 1, x0, x3 => if x3 < (x0.length : Int) then (if 0 ≤ x3 then (if (((rd_T33 x0 x3).f2).length : Int) > 8 then (some false) else (gangplanklaw16_few.l0 k x0 (wrap64 (x3 + 1)))) else (none)) else (some true)
def gangplanklaw16_few.f (k : Nat) (l0 : List (S33)) : Option (Bool) := if (l0.length : Int) > 30 then (some false) else (gangplanklaw16_few.l0 k l0 0)
theorem gangplanklaw16_few.mono_l : ∀ k, (∀ y0 y1, LeO (gangplanklaw16_few.l0 k y0 y1) (gangplanklaw16_few.l0 (k + 1) y0 y1))
  | 0 => fun _ _ r h => by simp [gangplanklaw16_few.l0] at h
  | k + 1 => by
    have ih0 := gangplanklaw16_few.mono_l k
    · intro y0 y1
      unfold gangplanklaw16_few.l0
      repeat' first
      | (with_reducible exact ih0 _ _)
      | (with_reducible exact LeO.refl _)
      | (with_reducible exact LeO.none _)
      | (with_reducible refine LeO.ite ?_ ?_)
      | (with_reducible refine LeO.bind ?_ (fun _ => ?_))
      | exact ih0 _ _
      | exact LeO.none _
      | refine LeO.ite ?_ ?_
      | refine LeO.bind ?_ (fun _ => ?_)
theorem gangplanklaw16_few.mono : ∀ a0 k, LeO (gangplanklaw16_few.f k a0) (gangplanklaw16_few.f (k + 1) a0) := by
  intro a0 k
  have ih0 := gangplanklaw16_few.mono_l k
  unfold gangplanklaw16_few.f
  repeat' first
      | (with_reducible exact ih0 _ _)
      | (with_reducible exact LeO.refl _)
      | (with_reducible exact LeO.none _)
      | (with_reducible refine LeO.ite ?_ ?_)
      | (with_reducible refine LeO.bind ?_ (fun _ => ?_))
      | exact ih0 _ _
      | exact LeO.none _
      | refine LeO.ite ?_ ?_
      | refine LeO.bind ?_ (fun _ => ?_)
set_option maxHeartbeats 8000000 in
set_option maxRecDepth 100000 in
theorem gangplanklaw16_few.calls (k : Nat) (A0 : Option Addr) (c0 : Nat) (l0 : List (S33)) (r : Bool) (w : World) (hr0 : Kd.C k33 w A0 l0.length l0) (hc0 : l0.length ≤ c0) (h : gangplanklaw16_few.f k l0 = some r) :
    Calls Try.prog 15 #[.slice A0 l0.length c0] w fun e w' => e = .returned (.bool r) ∧ Drawn0 w w' := by
  have HR0 := Aside0.mk hr0
  have HC0 := Aside0.mk hc0
  clear hr0 hc0
  have H : (if (l0.length : Int) > 30 then (some false) else (gangplanklaw16_few.l0 k l0 0)) = some r := h
  clear h
  by_cases c2 : (l0.length : Int) > 30
  · rw [if_pos c2] at H
    have c2b0 : decide (30 < (l0.length : Int)) = true := decide_eq_true c2
    have c2b1 : decide (30 < l0.length) = true := decide_eq_true (by omega)
    clear c2
    obtain rfl := Option.some.inj H
    go_enter Try.func15, Try.ntmps15
    go_wp2
    go_ret
    exact ⟨by first | rfl | (simp; done) | (simp [*]; done), by repeat (first | exact Drawn0.refl _ | apply Drawn0.step)⟩
  · rw [if_neg c2] at H
    have c2b0 : decide (30 < (l0.length : Int)) = false := decide_eq_false c2
    have c2b1 : decide (30 < l0.length) = false := decide_eq_false (by omega)
    clear c2
    have H' := Aside0.mk H
    clear H
    go_enter Try.func15, Try.ntmps15
    go_wp2
    go_loopg [3] k (fun kq v3 w' => ∃ (x3_1 : Int), v3 = .int .i64 x3_1 ∧ Aside0 (gangplanklaw16_few.l0 kq l0 x3_1 = some r) ∧ Aside0 (kq ≤ k) ∧ Drawn0 w w')
    case atStart => exact ⟨(0), (by first | rfl | (simp; done) | (simp [*]; done)), H', ⟨Nat.le_refl _⟩, by repeat (first | exact Drawn0.refl _ | apply Drawn0.step)⟩
    case round =>
      clear H'
      try clear c1
      try clear c2
      try clear c2b0
      try clear c2b1
      try clear p2
      obtain ⟨x3_1, rfl, HA, HK1, ⟨m1, rfl⟩⟩ := hrel
      cases gk with
      | zero => exact absurd HA.out (by simp [gangplanklaw16_few.l0])
      | succ k1 =>
        have H := HA.out
        clear HA
        simp only [gangplanklaw16_few.l0] at H
        by_cases c3 : x3_1 < (l0.length : Int)
        · rw [if_pos c3] at H
          have c3b0 : decide (x3_1 < (l0.length : Int)) = true := decide_eq_true c3
          clear c3
          by_cases c4 : 0 ≤ x3_1
          · rw [if_pos c4] at H
            have c4b0 : decide (0 ≤ x3_1) = true := decide_eq_true c4
            clear c4
            by_cases c5 : (((rd_T33 l0 x3_1).f2).length : Int) > 8
            · rw [if_pos c5] at H
              have c5b0 : decide (8 < (((rd_T33 l0 x3_1).f2).length : Int)) = true := decide_eq_true c5
              have c5b1 : decide (8 < ((rd_T33 l0 x3_1).f2).length) = true := decide_eq_true (by omega)
              clear c5
              obtain rfl := Option.some.inj H
              have p121 : 0 ≤ (x3_1 : Int) := of_decide_eq_true (by first | (with_reducible assumption) | assumption)
              have q121 : x3_1 < (l0.length : Int) := of_decide_eq_true (by first | (with_reducible assumption) | assumption)
              obtain ⟨ad121, A121_2, c121_2, e121, hx121_0, hx121_1, hx121_2, hl121_2, hi121_2⟩ := at_T33 HR0.out x3_1 p121 q121
              cases e121
              have HR121_2 := Aside0.mk hi121_2
              have HC121_2 := Aside0.mk hl121_2
              clear hi121_2 hl121_2
              replace p121 := eq_true p121
              replace q121 := eq_true q121
              go_wp2
              go_ret
              exact ⟨by first | rfl | (simp; done) | (simp [*]; done), by repeat (first | exact Drawn0.refl _ | apply Drawn0.step)⟩
            · rw [if_neg c5] at H
              have c5b0 : decide (8 < (((rd_T33 l0 x3_1).f2).length : Int)) = false := decide_eq_false c5
              have c5b1 : decide (8 < ((rd_T33 l0 x3_1).f2).length) = false := decide_eq_false (by omega)
              clear c5
              have H' := Aside0.mk H
              clear H
              have p121 : 0 ≤ (x3_1 : Int) := of_decide_eq_true (by first | (with_reducible assumption) | assumption)
              have q121 : x3_1 < (l0.length : Int) := of_decide_eq_true (by first | (with_reducible assumption) | assumption)
              obtain ⟨ad121, A121_2, c121_2, e121, hx121_0, hx121_1, hx121_2, hl121_2, hi121_2⟩ := at_T33 HR0.out x3_1 p121 q121
              cases e121
              have HR121_2 := Aside0.mk hi121_2
              have HC121_2 := Aside0.mk hl121_2
              clear hi121_2 hl121_2
              replace p121 := eq_true p121
              replace q121 := eq_true q121
              go_wp2
              go_roundg k1
              case measure => have := HK1.out; omega
              case rel => exact ⟨(wrap64 (x3_1 + 1)), (by first | rfl | (simp; done) | (simp [*]; done)), H', ⟨by have := HK1.out; omega⟩, by repeat (first | exact Drawn0.refl _ | apply Drawn0.step)⟩
          · rw [if_neg c4] at H
            exact absurd H (by simp)
        · rw [if_neg c3] at H
          have c3b0 : decide (x3_1 < (l0.length : Int)) = false := decide_eq_false c3
          clear c3
          obtain rfl := Option.some.inj H
          go_wp2
          go_ret
          exact ⟨by first | rfl | (simp; done) | (simp [*]; done), by repeat (first | exact Drawn0.refl _ | apply Drawn0.step)⟩

end Go.Proofs.Ytklngklmeanhcaa.P
