/- Each Go function that the laws reach, as a plain function, with the proof that the machine's call comes to what it says; of a law: its row. Made by a program of this seat (wip/hp.py, over the print). -/
import Derived.Test.YtbbgeobnjdgpfaaGreatPx0
import Derived.Test.YtbbgeobnjdgpfaaGreatPx1
import Derived.Test.YtbbgeobnjdgpfaaGreatPx2
namespace Go.Proofs.YtbbgeobnjdgpfaaGreat.P
open Go.RowKit Go.Proofs.YtbbgeobnjdgpfaaGreatW.PrintWords Go.Proofs.YtbbgeobnjdgpfaaGreatW.PrintLast Go.Proofs.YtbbgeobnjdgpfaaGreatW.PrintMore
attribute [local go_sem] max2_int min2_int max_two min_two max_three min_three max_four min_four   -- for this text's walks alone
set_option linter.unusedVariables false
set_option linter.unusedSimpArgs false

/-! ### world_World_keys: function 41 -/
section
open Go.Shelf Go.Proofs.YtbbgeobnjdgpfaaGreat.Hand
attribute [local go_sem] Oper.semAt_some
/-- The keys of all flows of some tables, one table after another. -/
def keysL (l : List S97) : List ByteArray := (liveL l).map fun p => p.2.f1
def keysT (ts : List (List S97)) : List ByteArray := ts.flatMap keysL
/-- The block that a variable (block b) holds. -/
def Own1 (b : Nat) (t : TypeId) (W : World) (k : Nat) : Prop := ∃ v, Boxed W b t v ∧ v.ownBlock = some k
def Whole (b : Nat) (t : TypeId) (W : World) : Prop := ∀ k, Own1 b t W k → k < W.heap.size
/-- Only what lies in that variable's block, and the variable, was written. -/
def KpO (n₀ b : Nat) (t : TypeId) (W W' : World) : Prop :=
  Below n₀ W W' ∧ (Whole b t W → Whole b t W' ∧ ∀ k c u m, W.heap[k]? = some (.cells c u m) → k ≠ b → ¬ Own1 b t W k → W'.heap[k]? = some (.cells c u m) ∧ ¬ Own1 b t W' k)
theorem KpO.refl (n₀ b : Nat) (t : TypeId) (W : World) : KpO n₀ b t W W := ⟨Below.refl _ _, fun h => ⟨h, fun _ _ _ _ hc _ ho => ⟨hc, ho⟩⟩⟩
theorem KpO.trans {n₀ b : Nat} {t : TypeId} {A B C : World} (h : KpO n₀ b t A B) (k : KpO n₀ b t B C) : KpO n₀ b t A C :=
  ⟨h.1.trans k.1, fun hw => ⟨(k.2 (h.2 hw).1).1, fun i c u m hc hne ho => (fun x => (k.2 (h.2 hw).1).2 i c u m x.1 hne x.2) ((h.2 hw).2 i c u m hc hne ho)⟩⟩
theorem Own1.same {b : Nat} {t : TypeId} {W W' : World} {k : Nat} (hb : W'.heap[b]? = W.heap[b]?) (h : Own1 b t W' k) : Own1 b t W k := by
  obtain ⟨v, hv, hk⟩ := h
  exact ⟨v, hb.symm.trans hv, hk⟩
theorem Whole.below {b : Nat} {t : TypeId} {W W' : World} (h : Whole b t W) (hb : Below W.heap.size W W') (hlt : b < W.heap.size) : Whole b t W' := fun k hk =>
  Nat.lt_of_lt_of_le (h k (hk.same (hb.block b hlt))) hb.size
theorem KpO.putObj {n₀ b : Nat} {t : TypeId} {w : World} (hn : n₀ ≤ w.heap.size) (hb : b < w.heap.size) (W : World) (l : Nat) (o o' : Obj) (hl : w.heap.size ≤ l) (h : W.heap[l]? = some o) (h1 : o.isCells = false) (h2 : o.isWalk = false) : KpO n₀ b t W (W.putObj l o') := by
  have hs : (W.putObj l o').heap.size = W.heap.size := by simp [World.putObj]
  have hbb : (W.putObj l o').heap[b]? = W.heap[b]? := World.putObj_heap_other (by omega)
  refine ⟨belowK_b (w := w) hn W l o o' hl h h1 h2, fun hw => ⟨fun k hk => by rw [hs]; exact hw k (hk.same hbb), fun k c u m hc hne ho => ⟨?_, fun hk => ho (hk.same hbb)⟩⟩⟩
  have hkl : k ≠ l := by
    rintro rfl
    rw [h] at hc
    injection hc with hc
    subst hc
    simp [Obj.isCells] at h1
  exact (World.putObj_heap_other hkl).trans hc
/-- A row that was made apart from it stays. -/
theorem KpO.row {α : Type} {d : Kd α} (hE : d.E = []) {n₀ b e base : Nat} {t : TypeId} {W W' : World} {v : Value} {xs : List α} (h : KpO n₀ b t W W') (hw : Whole b t W)
    (hr : Kd.R d e W base (fun k => k ≠ b ∧ ¬ Own1 b t W k) v xs) : Kd.R d e W' base (fun k => k ≠ b ∧ ¬ Own1 b t W' k) v xs := by
  have h1 := Kd.R_bound hr
  have h2 := Kd.R_move (w1 := W') h1 (fun k hk => by obtain ⟨hk0, _, _, q, _, cells, hc⟩ := hk; exact ((h.2 hw).2 k cells q (0, 0) hc hk0.1 hk0.2).1.trans hc.symm)
  exact Kd.R_mono h2 (fun k hk => by obtain ⟨hk0, _, _, q, _, cells, hc⟩ := hk; exact ⟨hk0.1, ((h.2 hw).2 k cells q (0, 0) hc hk0.1 hk0.2).2⟩)
theorem row_apart {α : Type} {d : Kd α} {b e : Nat} {t : TypeId} {W W' : World} {v : Value} {xs : List α} (hb : Below W.heap.size W W') (hlt : b < W.heap.size) (hw : Whole b t W) (hr : Kd.R d e W' W.heap.size (fun _ => True) v xs) : Kd.R d e W' W.heap.size (fun k => k ≠ b ∧ ¬ Own1 b t W' k) v xs :=
  Kd.R_mono (Kd.R_bound hr) (fun k hk => ⟨by have := hk.2.1; omega, fun ho => by have := hw k (ho.same (hb.block b hlt)); have := hk.2.1; omega⟩)
theorem keysT_take (ts : List (List S97)) (k : Nat) (h : k < ts.length) : keysT (ts.take (k + 1)) = keysT (ts.take k) ++ keysL (ts.getD k []) := by
  unfold keysT
  rw [List.take_succ_eq_append_getElem h, List.flatMap_append]
  simp [h]
theorem keysT_prefix (ts : List (List S97)) (k : Nat) : keysT (ts.take k) <+: keysT ts := by
  unfold keysT
  conv => rhs; rw [← List.take_append_drop k ts, List.flatMap_append]
  exact List.prefix_append _ _
theorem take_next {α : Type} (l : List α) (z : α) (j : Nat) (h : j < l.length) : l.take (j + 1) = l.take j ++ [l.getD j z] := by
  rw [List.take_succ_eq_append_getElem h]; simp [h]

set_option maxRecDepth 100000 in
set_option maxHeartbeats 8000000 in
theorem keys1_in (n : Nat) (hn : 2 ≤ n) (y Bt p b n₀ : Nat) (t : TypeId) (A : Option Addr) (c : Nat) (ts : List (List S97)) (hts : ts.length ≤ 1000000) (hl : ∀ l ∈ ts, l.length ≤ 1000000)
    (w : World) (hw : w.heap.size = n₀) (hC : Kd.C (Kd.slice 97 k97) w A ts.length ts) (J Jx : List ByteArray → World → Prop) (B : Nat) (hJ : AbidesFrom B J)
    (hY : ∀ pre x W, J pre W → pre.length < (keysT ts).length → YieldAt Fence.wide (n - 1) Tryz.prog y #[.string x] W fun e W' =>
      (e = .returned (.bool true) ∧ J (pre ++ [x]) W' ∧ KpO n₀ b t W W') ∨ (e = .returned (.bool false) ∧ Jx (pre ++ [x]) W'))
    (W : World) (hB : Below n₀ w W) (hbW : b < W.heap.size) (hWh : Whole b t W) (ht : W.cell? ⟨Bt, 0, none⟩ = some (.pointer (some ⟨p, 0, none⟩))) (ht8 : W.cell? ⟨p, 8, none⟩ = some (.slice A ts.length c)) (h0 : J [] W) :
    CallsIn Fence.wide n Tryz.prog 52 #[.func (.yield y) #[] #[], .pointer (some ⟨Bt, 0, none⟩)] W fun e W' => (∃ v, e = .returned v) ∧
      ((∃ ys : List ByteArray, ys = keysT ts ∧ J ys W') ∨ (∃ pre : List ByteArray, (pre <+: keysT ts) ∧ Jx pre W')) := by
  have hro : Fence.wide.round = none := rfl
  refine callsIn_of_wp Tryz.func52 rfl trivial ?_ hro
  simp only [Tryz.ntmps52, List.size_toArray, List.length_cons, List.length_nil, Nat.reduceAdd, Nat.reduceSub, Array.replicate_succ, Array.replicate_zero, List.push_toArray, List.append_toArray, List.nil_append, List.cons_append]
  have HTS := Lib.hid hts
  have HLL := Lib.hid hl
  have HC := Lib.hid hC
  have HB := Lib.hid hB
  have HW0 := Lib.hid hw
  have HBW := Lib.hid hbW
  have HY := Lib.hid hY
  have HJ := Lib.hid hJ
  have H0 := Lib.hid h0
  have HWH := Lib.hid hWh
  have HN := Lib.hid hn
  clear hts hl hC hB hw hbW hY hJ h0 hWh hn
  gi_wp2
  gi_loopw [12] (fun i wr => ∃ (k : Nat), k ≤ ts.length ∧ i = .int .i64 k ∧ J (keysT (ts.take k)) wr ∧ Below n₀ W wr ∧ W.heap.size ≤ wr.heap.size ∧ b < wr.heap.size ∧ Whole b t wr)
    (fun i _ => ts.length - (intOf i).toNat)
  case atStart => exact ⟨0, Nat.zero_le _, rfl, by simpa [keysT] using H0.out, Below.refl _ _, Nat.le_refl _, HBW.out, HWH.out⟩
  case round =>
    obtain ⟨k, hk', rfl, hJs, hnx, hsz, hbr, hwh⟩ := hrel
    have hBr : Below w.heap.size w wr := by rw [HW0.out]; exact HB.out.trans hnx
    by_cases hlt : k < ts.length
    · obtain ⟨ad, cc, hA, _, hK, hc0⟩ := Kd.C_get (Kd.C_below HC.out hBr) ([] : List S97) k (by omega) (by omega)
      subst hA
      obtain ⟨A0, c0, rfl, l0, g0⟩ := hK
      have z0 := hc0 0 _ rfl
      rw [show (Kd.slice 97 k97).sz = 1 from rfl, Nat.mul_one, Nat.add_zero] at z0
      simp only [Int.toNat_natCast] at z0 g0
      have htk := keysT_take ts k hlt
      have hle : (ts.getD k []).length ≤ 1000000 := HLL.out _ (by rw [List.getD_eq_getElem?_getD, List.getElem?_eq_getElem hlt]; exact List.getElem_mem hlt)
      have hks : (keysL (ts.getD k [])).length ≤ 1000000 := by unfold keysL; rw [List.length_map]; exact Nat.le_trans (liveUpto_le _ _) hle
      have hpx := (keysT_prefix ts (k + 1))
      obtain ⟨tk, hTk⟩ : ∃ tk, ts.getD k [] = tk := ⟨_, rfl⟩
      rw [hTk] at z0 g0 htk hle hks
      have hKA := Keys_any A0 c0 tk hle wr g0
      rw [show ((liveL tk).map fun p => p.2.f1) = keysL tk from rfl] at hKA
      obtain ⟨ks, hKs⟩ : ∃ ks, keysL tk = ks := ⟨_, rfl⟩
      rw [hKs] at htk hks hKA
      have hlt2 : (keysT (ts.take k)).length + ks.length ≤ (keysT ts).length := by have := hpx.length_le; rw [htk, List.length_append] at this; exact this
      have q1 : decide ((k : Int) < (ts.length : Int)) = true := decide_eq_true (by omega)
      have q2 : (0 : Int) ≤ (k : Int) := by omega
      have q3 : (k : Int) < (ts.length : Int) := by omega
      have hwk : wrap64 ((k : Int) + 1) = ((k + 1 : Nat) : Int) := by have := HTS.out; unfold wrap64; omega
      have HPX := Lib.hid hpx
      have HTK := Lib.hid htk
      have HL2 := Lib.hid hlt2
      have HKS := Lib.hid hks
      have HKA := Lib.hid hKA
      have HJ1 := Lib.hid hJs
      have HNX := Lib.hid hnx
      have HSZ := Lib.hid hsz
      have HBR := Lib.hid hbr
      have HWR := Lib.hid hwh
      clear hpx htk hlt2 hks hKA hJs hnx hsz hbr hwh hTk hKs l0 g0 hle hc0 hBr
      gi_wp2_with (refine ⟨trivial, fun _ => (by have := HN.out; omega), ?_⟩; gi_at_call 53; refine (callsIn_wide.2 HKA.out).mono ?_; rintro e w1 ⟨v, rfl, hr, hb⟩; obtain ⟨A2, c2, rfl⟩ := Kd.R_slice hr; have HR1 := Lib.hid (row_apart hb HBR.out HWR.out hr); have HB1 := Lib.hid hb; clear hr hb)
      gi_loopw [19] (fun i w2 => ∃ (j : Nat), j ≤ ks.length ∧ i = .int .i64 j ∧ J (keysT (ts.take k) ++ ks.take j) w2 ∧ Below n₀ W w2 ∧ W.heap.size ≤ w2.heap.size ∧ b < w2.heap.size ∧ Whole b t w2 ∧ Kd.R Kd.string 9 w2 wr.heap.size (fun k => k ≠ b ∧ ¬ Own1 b t w2 k) (.slice A2 ks.length c2) ks)
        (fun i _ => ks.length - (intOf i).toNat)
      case atStart => exact ⟨0, Nat.zero_le _, rfl, by rw [List.take_zero, List.append_nil]; exact HJ.out _ _ _ none HJ1.out (grown_of_below HB1.out none) (fun r e => by cases e), HNX.out.trans (HB1.out.mono (by have := HNX.out.size; have := HB.out.size; have := HW0.out; omega)), Nat.le_trans HSZ.out HB1.out.size, Nat.lt_of_lt_of_le HBR.out HB1.out.size, HWR.out.below HB1.out HBR.out, HR1.out⟩
      case round =>
        obtain ⟨j, hj', rfl, hJs, hnx, hsz, hbr, hwh, hR⟩ := hrel
        by_cases hj : j < ks.length
        · obtain ⟨g, cap, hv, hg1, hg2, _⟩ := Kd.R_form hR (by omega)
          injection hv with hA _ hcap
          subst hA
          subst hcap
          have z1 := (Kd.R_celln (⟨#[]⟩ : ByteArray) hR (j : Int) (by omega) (by omega)).1
          have htn := take_next ks (⟨#[]⟩ : ByteArray) j hj
          rw [show rdOf (⟨#[]⟩ : ByteArray) ks (j : Int) = ks.getD j ⟨#[]⟩ from rfl] at z1
          obtain ⟨x, hx⟩ : ∃ x, ks.getD j ⟨#[]⟩ = x := ⟨_, rfl⟩
          rw [hx] at z1 htn
          rw [Int.toNat_natCast] at z1
          have hlen : (keysT (ts.take k) ++ ks.take j).length < (keysT ts).length := by have := HL2.out; rw [List.length_append, List.length_take]; omega
          obtain ⟨fn, tmps, assign, body, hy, hYR⟩ := HY.out _ x _ hJs hlen
          have r1 : decide ((j : Int) < (ks.length : Int)) = true := decide_eq_true (by omega)
          have r2 : (0 : Int) ≤ (j : Int) := by omega
          have r3 : (j : Int) < (ks.length : Int) := by omega
          have hwj : wrap64 ((j : Int) + 1) = ((j + 1 : Nat) : Int) := by have := HKS.out; unfold wrap64; omega
          have HTN := Lib.hid htn
          have HNX2 := Lib.hid hnx
          have HSZ2 := Lib.hid hsz
          have HBR2 := Lib.hid hbr
          have HWH2 := Lib.hid hwh
          have HR2 := Lib.hid hR
          clear hx hlen htn hnx hsz hbr hwh hR hJs hg1 hg2
          gi_wp2
          refine ⟨fun _ => (by have := HN.out; omega), hYR.mono ?_⟩
          rintro e W3 (⟨rfl, hJ3, hk3⟩ | ⟨rfl, hJx3⟩)
          · have HJ3 := Lib.hid hJ3
            have HK3 := Lib.hid hk3
            clear hJ3 hk3
            gi_wp2
            go_roundw
            case rel => exact ⟨j + 1, by omega, by rw [hwj], by rw [HTN.out, ← List.append_assoc]; exact HJ3.out, HNX2.out.trans HK3.out.1, Nat.le_trans HSZ2.out HK3.out.1.size, Nat.lt_of_lt_of_le HBR2.out HK3.out.1.size, (HK3.out.2 HWH2.out).1, HK3.out.row rfl HWH2.out HR2.out⟩
            case measure =>
              rw [hwj]
              show ks.length - (((j + 1 : Nat) : Int)).toNat < ks.length - ((j : Int)).toNat
              rw [Int.toNat_natCast, Int.toNat_natCast]
              omega
          · have HJ3 := Lib.hid hJx3
            clear hJx3
            gi_wp2
            refine bodyPost_ret (results_none rfl _ _ _) rfl ?_
            refine ⟨⟨_, rfl⟩, .inr ⟨keysT (ts.take k) ++ ks.take j ++ [x], ?_, HJ3.out⟩⟩
            rw [List.append_assoc, ← HTN.out]
            refine List.IsPrefix.trans ?_ HPX.out
            rw [HTK.out]
            exact (List.prefix_append_right_inj _).2 (List.take_prefix _ _)
        · obtain rfl : j = ks.length := by omega
          have r1 : decide ((ks.length : Int) < (ks.length : Int)) = false := decide_eq_false (by omega)
          have HJ3 := Lib.hid hJs
          have HNX2 := Lib.hid hnx
          have HSZ2 := Lib.hid hsz
          have HBR2 := Lib.hid hbr
          have HWH2 := Lib.hid hwh
          clear hnx hsz hbr hwh hR hJs
          gi_wp2
          go_roundw
          case rel => exact ⟨k + 1, by omega, by rw [hwk], by rw [HTK.out]; have h := HJ3.out; rw [List.take_length] at h; exact h, HNX2.out, HSZ2.out, HBR2.out, HWH2.out⟩
          case measure =>
            rw [hwk]
            show ts.length - (((k + 1 : Nat) : Int)).toNat < ts.length - ((k : Int)).toNat
            rw [Int.toNat_natCast, Int.toNat_natCast]
            omega
    · obtain rfl : k = ts.length := by omega
      have q1 : decide ((ts.length : Int) < (ts.length : Int)) = false := decide_eq_false (by omega)
      have HJ3 := Lib.hid hJs
      clear hJs hnx hsz hbr hwh hBr
      gi_wp2
      go_end0
      exact ⟨⟨_, rfl⟩, .inl ⟨_, by rw [List.take_length], HJ3.out⟩⟩

set_option maxHeartbeats 1000000 in
theorem keys_any (p : Nat) (w : World) :
    Calls Tryz.prog 41 #[.pointer (some ⟨p, 0, none⟩)] w fun e w' => e = .returned (.func (.func 52) #[] #[.pointer (some ⟨w.heap.size, 0, none⟩)]) ∧ w' = w.alloc (.cells #[.pointer (some ⟨p, 0, none⟩)] 26) := by
  go_enter Tryz.func41, Tryz.ntmps41
  go_wp2
  go_ret
  exact ⟨rfl, rfl⟩

theorem keys_stops (n : Nat) (hn : 2 ≤ n) (Bt p b n₀ : Nat) (t : TypeId) (A : Option Addr) (c : Nat) (ts : List (List S97)) (hts : ts.length ≤ 1000000) (hl : ∀ l ∈ ts, l.length ≤ 1000000)
    (w W : World) (hw : w.heap.size = n₀) (hC : Kd.C (Kd.slice 97 k97) w A ts.length ts) (hB : Below n₀ w W) (hBt : Bt < W.heap.size) (hb : b < W.heap.size) (hp : p < W.heap.size) (hWh : Whole b t W) (ht : W.cell? ⟨Bt, 0, none⟩ = some (.pointer (some ⟨p, 0, none⟩))) (ht8 : W.cell? ⟨p, 8, none⟩ = some (.slice A ts.length c)) :
    SeqStopsK Fence.wide n Tryz.prog 52 #[.pointer (some ⟨Bt, 0, none⟩)] (fun x : ByteArray => #[.string x]) (KpO n₀ b t) (fun ys => ys = keysT ts) (fun pre => pre <+: keysT ts) (keysT ts).length W := fun y J Jx W' hW hJ _ hY h0 =>
  keys1_in n hn y Bt p b n₀ t A c ts hts hl w hw hC J Jx _ hJ hY W' (hB.trans (hW.mono (by have := hB.size; omega))) (Nat.lt_of_lt_of_le hb hW.size) (hWh.below hW hb) ((hW.cell (p := ⟨Bt, 0, none⟩) hBt).trans ht) ((hW.cell (p := ⟨p, 8, none⟩) hp).trans ht8) h0
end

/-! ### world_World_Live: function 15 -/
section
open Go.Shelf Go.Proofs.YtbbgeobnjdgpfaaGreat.Hand
attribute [local go_sem] Oper.semAt_some
theorem infoStr : (Tryz.prog.info? 9).map (fun i => (i.zero, i.size, i.bytes)) = some (some (.string ⟨#[]⟩), 1, 16) := by kernel_rfl
def strs0 (l : List ByteArray) : List Value := l.map Value.string
theorem KpO.appended {n₀ b : Nat} {t e : TypeId} {W w1 : World} {v v' : Value} {k m : Nat} {xs ys : List Value} {tmp : Obj}
    (hv : Boxed W b t v) (hte : t ≠ e) (hrow : W.ownsRow n₀ e 1 v k xs) (hn₀ : n₀ ≤ W.heap.size) (hB : n₀ ≤ b)
    (hown' : w1.ownsRow n₀ e 1 v' m ys) (hgrow : (W.alloc tmp).grownBy w1 v.ownBlock) (hat : v'.ownBlock = v.ownBlock ∨ v'.ownBlock = some (W.alloc tmp).heap.size) : KpO n₀ b t W (w1.setCell ⟨b, 0, none⟩ v') := by
  obtain ⟨hv1, hv2, hr2, hk2, hb2⟩ := hv.appended hte hrow hn₀ hB hown' hgrow
  have same : ∀ {V : World} {u u' : Value}, Boxed V b t u → Boxed V b t u' → u = u' := fun h h' => by
    have := (show _ = _ from h).symm.trans h'
    injection this with this
    injection this with this
    injection this with this
    injection this
  refine ⟨hb2, fun hw => ⟨fun r hr => ?_, fun i c u q hc hne ho => ?_⟩⟩
  · obtain ⟨x, hx, hxr⟩ := hr
    obtain rfl := same hx hv2
    exact own_lt hr2 r hxr
  · have hi : i < W.heap.size := (Array.getElem?_eq_some_iff.1 hc).1
    have hiv : some i ≠ v.ownBlock := fun e' => ho ⟨v, hv, e'.symm⟩
    refine ⟨(Below.heap_setCell w1 ⟨b, 0, none⟩ v' i hne).trans ((hgrow.block i (by simp; omega) hiv).trans ((Below.heap_alloc W tmp i hi).trans hc)), ?_⟩
    rintro ⟨x, hx, hxr⟩
    obtain rfl := same hx hv2
    rcases hat with h | h
    · exact hiv (hxr.symm.trans h)
    · rw [h] at hxr
      injection hxr with hxr
      simp at hxr
      omega
set_option maxRecDepth 100000 in
set_option maxHeartbeats 8000000 in
theorem Live_any (p : Nat) (A : Option Addr) (c : Nat) (ts : List (List S97)) (hts : ts.length ≤ 1000000) (hl : ∀ l ∈ ts, l.length ≤ 1000000) (hk : (keysT ts).length ≤ 1000000) (w : World) (hp : p < w.heap.size)
    (ht8 : w.cell? ⟨p, 8, none⟩ = some (.slice A ts.length c)) (hC : Kd.C (Kd.slice 97 k97) w A ts.length ts) :
    Calls Tryz.prog 15 #[.pointer (some ⟨p, 0, none⟩)] w fun e W' => ∃ v, e = .returned v ∧ Kd.R Kd.string 9 W' w.heap.size (fun _ => True) v (keysT ts) ∧ Below w.heap.size w W' := by
  refine (callsIn_wide (n := 6)).1 ?_
  have hro : Fence.wide.round = none := rfl
  obtain ⟨i0, hi, hz0, hz1, hz2⟩ := info_parts infoStr
  refine callsIn_of_wp_marks Tryz.func15 rfl trivial ?_ hro
  simp only [Tryz.ntmps15, List.size_toArray, List.length_cons, List.length_nil, Nat.reduceAdd, Nat.reduceSub, Array.replicate_succ, Array.replicate_zero, List.push_toArray, List.append_toArray, List.nil_append, List.cons_append]
  gi_wp2_with (refine ⟨trivial, ?_⟩; gi_at_call 41; refine (callsIn_wide.2 (keys_any _ _)).mono ?_; rintro e w' ⟨rfl, rfl⟩)
  have b0 := Boxed.new w 48 (.slice none 0 0)
  have b2 := Blk.new (w.alloc (.cells #[.slice none 0 0] 48)) 26 [.pointer (some ⟨p, 0, none⟩)]
  have hB0 : Below w.heap.size w ((w.alloc (.cells #[.slice none 0 0] 48)).alloc (.cells #[.pointer (some ⟨p, 0, none⟩)] 26)) := ((Below.refl _ w).alloc (Nat.le_refl _) _).alloc (by simp) _
  replace b0 := b0.alloc (.cells #[.pointer (some ⟨p, 0, none⟩)] 26)
  simp only [World.size_alloc] at b0 b2
  obtain ⟨W0, hW0⟩ : ∃ W0, ((w.alloc (.cells #[.slice none 0 0] 48)).alloc (.cells #[.pointer (some ⟨p, 0, none⟩)] 26)) = W0 := ⟨_, rfl⟩
  rw [hW0] at hB0 ⊢
  replace b0 : Boxed W0 w.heap.size 48 (.slice none 0 0) := by rw [← hW0]; exact b0
  replace b2 : Blk W0 (w.heap.size + 1) 26 [.pointer (some ⟨p, 0, none⟩)] := by rw [← hW0]; exact b2
  clear hW0
  have hw0 : Whole w.heap.size 48 W0 := by
    rintro k ⟨v, hv, hk⟩
    have h := (show _ = _ from b0).symm.trans hv
    injection h with h
    injection h with h
    injection h with h
    injection h with h
    subst h
    simp [Value.ownBlock] at hk
  refine wpIn_rangeFunc_ownH hro (by omega) (gf := 52) (lb := #[.pointer (some ⟨w.heap.size + 1, 0, none⟩)]) rfl trivial (enters_of Tryz.func52 (by kernel_rfl) rfl)
    (keys_stops (6 - 1) (by omega) (w.heap.size + 1) p w.heap.size w.heap.size 48 A c ts hts hl w W0 rfl hC hB0 b2.lt b0.lt (Nat.lt_of_lt_of_le hp hB0.size) hw0 (by rw [b2.cell]; rfl) ((hB0.cell (p := ⟨p, 8, none⟩) hp).trans ht8)) (fun h k => h.trans k) (fun W L o o' hL h1 h2 h3 => KpO.putObj (w := W0) hB0.size b0.lt W L o o' hL h1 h2 h3) (Below.refl _ _) (fun _ => rfl)
    (fun pre W => (∃ v, Boxed W w.heap.size 48 v ∧ W.ownsRow w.heap.size 9 1 v (strs0 pre).length (strs0 pre) ∧ True) ∧ Below w.heap.size w W)
    (fun _ _ _ => False)
    (OwnFrom.and (Own.from (holdsRow_own w.heap.size w.heap.size 48 9 1 (fun pre => (strs0 pre).length) (fun pre => strs0 pre) (fun pre v => True)) _) (ownFrom_below (Nat.le_refl _) hB0.size))
    (fun _ _ _ _ _ hs _ _ => hs)
    ⟨⟨_, b0, World.ownsRow_nil _ _ _ _, trivial⟩, hB0⟩
    (fun x a' W => a' = { tmps := #[.pointer (some ⟨p, 0, none⟩), undef, .slice none 0 0, .pointer (some ⟨w.heap.size, 0, none⟩), .string x, .pointer (some ⟨p, 0, none⟩), .func (.func 52) #[] #[.pointer (some ⟨w.heap.size + 1, 0, none⟩)], .string x, undef, undef, undef, undef, undef], defers := [] })
    (fun x a' s W W' row h3 hg hr => h3) ?assign ?body ?done ?stop
  case assign =>
    rintro y pre x W K ⟨⟨v, hv, hrow, _⟩, hB⟩ hK
    gi_wp2
    exact hK _ _ (KeepsFrom.refl _ _) (KpO.refl _ _ _ _) ⟨⟨v, hv, hrow, trivial⟩, hB⟩ rfl
  case body =>
    rintro y pre x a' W hy ⟨r, hr⟩ ⟨⟨v, hv, hrow, _⟩, hB⟩ rfl hlt
    have hc := hv.cell
    have hpl : (strs0 pre).length = pre.length := by simp [strs0]
    have hmx : (1000000 : Nat) < maxLen := by decide
    have HPL := Lib.hid hpl
    clear hpl
    gi_wp2_with (gi_at_builtin; refine wpListIn_append_own_at _ rfl _ _ 48 rfl w.heap.size 9 i0 (.string ⟨#[]⟩) 1 16 Tryz.underlying48 hi hz0 hz1 hz2 rfl (by decide) _ _ _ rfl (hrow.alloc _) ⟨W.heap.size, 0, none⟩ 1 1 [.string x] rfl rfl (cell_one_new _ _ _) (by simp [Value.oneCell']) (by have := HPL.out; omega) (by have := HPL.out; omega) (by have := hB.size; simp; omega) ?_; intro v' w1 hown' hgrow _ hat; obtain ⟨g', cap', rfl⟩ := ownsRow_succ hown'; obtain ⟨hv1, hv2, hr2, hk2, hb2⟩ := hv.appended (by decide) hrow hB.size (Nat.le_refl _) hown' hgrow; have hkp := KpO.appended hv (by decide) hrow hB.size (Nat.le_refl _) hown' hgrow hat; have hc1 := hv1.cell; have hf1 := hv1.frozen)
    have ek : strs0 (pre ++ [x]) = strs0 pre ++ [.string x] := by simp [strs0]
    exact ⟨hk2.from _, hkp, ⟨_, hv2, by rw [ek]; simpa using hr2, trivial⟩, hB.trans hb2⟩
  case done =>
    rintro D ys W hD hys ⟨⟨v, hv, hrow, _⟩, hB⟩ hK
    subst hys
    have hc := hv.cell
    gi_wp2
    refine ⟨by simp, .inl ⟨_, _, rfl, run_takeDeferred hK, ?_⟩⟩
    have ek : strs0 (keysT ts) = encs Value.string (keysT ts) := rfl
    have hr2 := ownsRow_putObj hrow (.deferred none) hK rfl
    rw [ek] at hr2
    refine ⟨_, results_tmp rfl _ _ _, v, rfl, Kd.R_of_own (by rw [encs_length] at hr2; exact hr2) (fun _ _ => trivial), hB.trans (belowK_b (w := w) (Nat.le_refl _) W D _ _ (Nat.le_trans hB0.size hD) hK rfl rfl)⟩
  case stop =>
    rintro D c pre W _ _ h _
    exact h.elim
end

-- NOT PRINTED: function 19 (world_World_Pin)

-- NOT PRINTED: function 17 (cells_Cells_Owner)

/-! ### world_World_Owners: function 20 -/
section
open Go.Shelf Go.Proofs.YtbbgeobnjdgpfaaGreat.Hand
theorem Held.below {W W' : World} {p b1 b2 : Nat} {s : CS} (h : Held W p b1 b2 s) (hb : Below W.heap.size W W') : Held W' p b1 b2 s := ⟨h.hp.below hb, h.h1.below hb, h.h2.below hb, h.ne, h.n1, h.n2⟩
set_option maxRecDepth 100000 in
set_option maxHeartbeats 8000000 in
theorem Owners_any (p q b1 b2 : Nat) (s : CS) (A : Option Addr) (c n : Nat) (hn : n ≤ 1000000) (W : World) (hq : W.cell? ⟨p, 5, none⟩ = some (.pointer (some ⟨q, 0, none⟩))) (ht8 : W.cell? ⟨p, 8, none⟩ = some (.slice A n c)) (hH : Held W q b1 b2 s) :
    Calls Tryz.prog 20 #[.pointer (some ⟨p, 0, none⟩)] W fun r W' => ∃ v, r = .returned v ∧ Kd.R (Kd.int .i64) 3 W' W.heap.size (fun _ => True) v (upto (fun i => s.owner i) n) ∧ Below W.heap.size W W' := by
  have HN := Lib.hid hn
  have HH := Lib.hid hH
  have HQ := Lib.hid hq
  clear hn hH hq
  go_enter Tryz.func20, Tryz.ntmps20
  go_wp2
  go_loopw [3, 10] (fun l i wr => ∃ k : Nat, k ≤ n ∧ i = .int .i64 k ∧ Kd.R (Kd.int .i64) 3 wr W.heap.size (fun _ => True) l (upto (fun i => s.owner i) k) ∧ Below W.heap.size W wr) (fun _ i _ => n - (intOf i).toNat)
  case atStart => exact ⟨0, Nat.zero_le _, rfl, Kd.R_nil _ _ _ _ _, Below.refl _ _⟩
  case round =>
    obtain ⟨k, hk, rfl, hr, hb⟩ := hrel
    obtain ⟨lv, hlv⟩ : ∃ lv, u3 = lv := ⟨_, rfl⟩
    subst hlv
    have HR := Lib.hid hr
    have HB := Lib.hid hb
    have HH1 := Lib.hid (HH.out.below hb)
    have z5 := pw_cell_below hb HQ.out
    clear hr hb
    by_cases hlt : k < n
    · have p1 : decide ((k : Int) < (n : Int)) = true := decide_eq_true (by omega)
      have hw : wrap64 ((k : Int) + 1) = ((k + 1 : Nat) : Int) := by have := HN.out; unfold wrap64; omega
      go_wp2_with (first
        | (go_at_call 17; refine (Owner_any q b1 b2 s k _ HH1.out).mono ?_; rintro r w1 ⟨rfl, rfl⟩)
        | (at_builtin; refine Kd.R_append (Kd.int .i64) (w0 := _) W.heap.size rfl (.tmp 13) (.tmp 20) 34 3 (.int .i64 0) 8 rfl Tryz.underlying34 infoInt rfl (by decide) (by omega) u3 (upto (fun i => s.owner i) k) (s.owner k) [.int .i64 (s.owner k)] (fun _ => True) (fun _ => False) rfl rfl rfl (fun _ hk => hk.elim) (fun _ _ => trivial) HR.out (Below.refl _ _) HB.out.size (by have := HN.out; rw [upto_length]; omega) ?_; intro pv2 w4 hl2 hb2 hg2 _; have HL4 := Lib.hid hl2; have HB4 := Lib.hid (pw_below_grown HB.out _ HB.out.size hg2 (Kd.R_base HR.out)); clear hl2 hb2 hg2))
      go_roundw
      case rel => exact ⟨k + 1, by omega, by rw [hw], by rw [upto_succ]; exact HL4.out, HB4.out⟩
      case measure =>
        rw [hw]
        show n - (((k + 1 : Nat) : Int)).toNat < n - ((k : Int)).toNat
        rw [Int.toNat_natCast, Int.toNat_natCast]
        omega
    · obtain rfl : k = n := by omega
      have p1 : decide ((k : Int) < (k : Int)) = false := decide_eq_false (by omega)
      go_wp2
      go_ret
      exact ⟨_, rfl, HR.out, HB.out⟩
end

/-! ### gangplanklaw18_works: function 4 -/
section
open Go.Shelf Go.Proofs.YtbbgeobnjdgpfaaGreat.Hand
theorem Wd.below {W W' : World} {N p q b1 b2 qs ss qk : Nat} {tv pv : Value} {a b c d e now : Int} {n m : Nat} {s : CS} {ks : List Value} {tabs : List (List S97)} (h : Wd W N p q b1 b2 qs ss qk tv pv a b c d e now n m s ks tabs) (hb : Below W.heap.size W W') : Wd W' N p q b1 b2 qs ss qk tv pv a b c d e now n m s ks tabs :=
  ⟨h.hp.below hb, h.hh.below hb, h.h1.below hb, h.h2.below hb, h.h3.below hb, Kd.R_below h.ht hb, h.hv, h.lo⟩
theorem blkNe {W : World} {i j : Nat} {t t' : TypeId} {cs cs' : List Value} (h : Blk W i t cs) (h' : Blk W j t' cs') (hne : t ≠ t') : i ≠ j := blk_ne (show W.heap[i]? = _ from h) (show W.heap[j]? = _ from h') hne
theorem Wd.set10 {W : World} {N p q b1 b2 qs ss qk : Nat} {tv pv : Value} {a b c d e now : Int} {n m : Nat} {s : CS} {ks : List Value} {tabs : List (List S97)} (h : Wd W N p q b1 b2 qs ss qk tv pv a b c d e now n m s ks tabs) (v : Int) : Wd (W.setCell ⟨p, 10, none⟩ (.int .i64 v)) N p q b1 b2 qs ss qk tv pv a b c d e v n m s ks tabs :=
  ⟨blk_putL h.hp 10 _, h.hh.other _ (blkNe h.hp h.hh.hp (by decide)) (blkNe h.hp h.hh.h1 (by decide)) (blkNe h.hp h.hh.h2 (by decide)) _, h.h1.far _ (blkNe h.hp h.h1 (by decide)) _, h.h2.far _ (blkNe h.hp h.h2 (by decide)) _, h.h3.far _ (blkNe h.hp h.h3 (by decide)) _, Kd.R_set h.ht (show W.heap[p]? = _ from h.hp) (by decide) 10 _, h.hv, h.lo⟩
theorem R_touch {α : Type} {d : Kd α} {W W' : World} {p b1 b2 e base : Nat} {s : CS} {v : Value} {xs : List α} (h : Kd.R d e W base (fun _ => True) v xs) (hh : Held W p b1 b2 s) (ht : Touch W W' p b1 b2) (h1 : ∀ t, t ∈ e :: d.E → t ≠ 70) (h2 : ∀ t, t ∈ e :: d.E → t ≠ 3) : Kd.R d e W' base (fun _ => True) v xs := by
  refine Kd.R_mono (Kd.R_move (w1 := W') (Kd.R_bound h) (fun k hk => ?_)) (fun _ _ => trivial)
  obtain ⟨_, _, hlt, t, hmem, cells, hc⟩ := hk
  exact ht.far k hlt (blk_ne hc (show W.heap[p]? = _ from hh.hp) (h1 t hmem)) (blk_ne hc (show W.heap[b1]? = _ from hh.h1) (h2 t hmem)) (blk_ne hc (show W.heap[b2]? = _ from hh.h2) (h2 t hmem))
theorem Wd.touch {W W' : World} {N p q b1 b2 qs ss qk : Nat} {tv pv : Value} {a b c d e now : Int} {n m : Nat} {s s' : CS} {ks : List Value} {tabs : List (List S97)} (h : Wd W N p q b1 b2 qs ss qk tv pv a b c d e now n m s ks tabs) (hh : Held W' q b1 b2 s') (ht : Touch W W' q b1 b2) : Wd W' N p q b1 b2 qs ss qk tv pv a b c d e now n m s' ks tabs :=
  ⟨ht.blk h.hp (blkNe h.hp h.hh.hp (by decide)) (blkNe h.hp h.hh.h1 (by decide)) (blkNe h.hp h.hh.h2 (by decide)), hh, ht.blk h.h1 (blkNe h.h1 h.hh.hp (by decide)) (blkNe h.h1 h.hh.h1 (by decide)) (blkNe h.h1 h.hh.h2 (by decide)), ht.blk h.h2 (blkNe h.h2 h.hh.hp (by decide)) (blkNe h.h2 h.hh.h1 (by decide)) (blkNe h.h2 h.hh.h2 (by decide)), ht.blk h.h3 (blkNe h.h3 h.hh.hp (by decide)) (blkNe h.h3 h.hh.h1 (by decide)) (blkNe h.h3 h.hh.h2 (by decide)), R_touch h.ht h.hh ht (by decide) (by decide), h.hv, h.lo⟩
theorem Wd.tabs {W : World} {N p q b1 b2 qs ss qk : Nat} {tv pv : Value} {a b c d e now : Int} {n m : Nat} {s : CS} {ks : List Value} {tabs : List (List S97)} (h : Wd W N p q b1 b2 qs ss qk tv pv a b c d e now n m s ks tabs) : ∃ A k, tv = .slice A tabs.length k ∧ Kd.C (Kd.slice 97 k97) W A tabs.length tabs := by
  obtain ⟨A, k, h1, _, h2⟩ := Kd.R_reads h.ht
  exact ⟨A, k, h1, h2⟩
theorem Wd.tabsG {W : World} {N p q b1 b2 qs ss qk : Nat} {tv pv : Value} {a b c d e now : Int} {n m : Nat} {s : CS} {ks : List Value} {tabs : List (List S97)} (h : Wd W N p q b1 b2 qs ss qk tv pv a b c d e now n m s ks tabs) (hl : 0 < tabs.length) : ∃ g k, tv = .slice (some ⟨g, 0, none⟩) tabs.length k ∧ Kd.C (Kd.slice 97 k97) W (some ⟨g, 0, none⟩) tabs.length tabs := by
  obtain ⟨g, k, hv, _⟩ := Kd.R_form h.ht hl
  obtain ⟨A, k2, h1, _, h2⟩ := Kd.R_reads h.ht
  rw [hv] at h1
  injection h1 with h1 _ _
  subst h1
  exact ⟨g, k, hv, h2⟩
theorem w18_tabs : keysT [[z97, z97, z97], [z97, z97, z97]] = [] := by kernel_rfl
set_option maxRecDepth 100000 in
set_option maxHeartbeats 8000000 in
theorem works18_any (W : World) : Calls Tryz.prog 4 #[] W fun e W' => e = .returned (.bool true) ∧ Below W.heap.size W W' := by
  go_enter Tryz.func4, Tryz.ntmps4
  go_wp2_with fail
  go_at_call 6
  refine (New_good 2 2 3 0 2 (by kernel_rfl) _).mono ?_
  rintro e w1 ⟨p, q, b1, b2, qs, ss, qk, tv, pv, rfl, hw, hb⟩
  have HW := Lib.hid (show Wd w1 W.heap.size p q b1 b2 qs ss qk tv pv 2 2 3 0 2 0 2 2 ⟨[0, 0, 0, 0], [-1, -1], 0⟩ _ [[z97, z97, z97], [z97, z97, z97]] from hw)
  have HB := Lib.hid hb
  clear hw hb
  go_wp2_with fail
  go_at_call 6
  refine (New_bad 0 0 0 0 0 (by decide) _).mono ?_
  rintro e w2 ⟨he, hb⟩
  obtain rfl : e = .returned (.tuple #[.pointer none, .int .i64 1]) := he
  have n0 := Lib.hid (HW.out.below hb)
  have n1 := Lib.hid (HB.out.trans (hb.mono HB.out.size))
  clear HW HB hb
  have HW := n0
  have HB := n1
  clear n0 n1
  have y5 : w2.cell? ⟨p, 5, none⟩ = some (.pointer (some ⟨q, 0, none⟩)) := HW.out.hp.cell 5
  have y6 : w2.cell? ⟨p, 6, none⟩ = some (.pointer (some ⟨qs, 0, none⟩)) := HW.out.hp.cell 6
  have y7 : w2.cell? ⟨p, 7, none⟩ = some (.pointer (some ⟨qk, 0, none⟩)) := HW.out.hp.cell 7
  go_wp2_with fail
  clear y5 y6 y7
  go_at_call 12
  refine (Tick_any p _ _ _ _ _ _ _ _ _ _ 0 5 _ HW.out.hp).mono ?_
  rintro e w3 ⟨rfl, hww⟩
  rw [if_pos (by decide), show wrap64 (0 + 5) = 5 from by kernel_rfl] at hww
  have n0 := Lib.hid (show Wd w3 _ p q b1 b2 qs ss qk tv pv 2 2 3 0 2 5 2 2 _ _ _ from hww ▸ HW.out.set10 5)
  have n1 := Lib.hid (show Below W.heap.size W w3 from hww ▸ HB.out.setCell (p := ⟨p, 10, none⟩) HW.out.lo.1 _)
  clear HW HB hww
  have HW := n0
  have HB := n1
  clear n0 n1
  go_wp2_with fail
  go_at_call 12
  refine (Tick_any p _ _ _ _ _ _ _ _ _ _ 5 (-1) _ HW.out.hp).mono ?_
  rintro e w4 ⟨rfl, hww⟩
  rw [if_neg (by decide)] at hww
  subst hww
  have y8 := HW.out.hp.cell 8
  have y9 := HW.out.hp.cell 9
  have y10 : w4.cell? ⟨p, 10, none⟩ = some (.int .i64 5) := HW.out.hp.cell 10
  obtain ⟨gt, ct, htv, hC⟩ := HW.out.tabsG (by decide)
  obtain ⟨Ap, cp, hpv⟩ := HW.out.hv
  subst htv
  subst hpv
  replace y8 : w4.cell? ⟨p, 8, none⟩ = some (.slice (some ⟨gt, 0, none⟩) 2 ct) := y8
  replace y9 : w4.cell? ⟨p, 9, none⟩ = some (.slice Ap 2 cp) := y9
  obtain ⟨ad, cc, hA, _, hK, hc0⟩ := Kd.C_get hC ([] : List S97) 0 (by omega) (by decide)
  injection hA with hA
  subst hA
  obtain ⟨A0, c0, rfl, l0, g0⟩ := hK
  have z0 : w4.cell? ⟨gt, 0, none⟩ = some (.slice A0 3 c0) := hc0 0 _ rfl
  have HC := Lib.hid hC
  clear hC hc0 l0 g0
  have f1 : (if (1 : Int) < 1 ∨ (2 : Int) < 1 then (-1 : Int) else wrap64 (wrap64 (2 + 1) - 1)) = 2 := by kernel_rfl
  have f2 : (if (2 : Int) < 1 ∨ (2 : Int) < 2 then (-1 : Int) else wrap64 (wrap64 (2 + 2) - 1)) = 3 := by kernel_rfl
  have f3 : (if (0 : Int) < 1 ∨ (2 : Int) < 0 then (-1 : Int) else wrap64 (wrap64 (2 + 0) - 1)) = -1 := by kernel_rfl
  have f4 : (if (3 : Int) < 1 ∨ (2 : Int) < 3 then (-1 : Int) else wrap64 (wrap64 (2 + 3) - 1)) = -1 := by kernel_rfl
  go_wp2_with fail
  go_at_call 19
  refine (Pin_any p 2 1 _ _ _ _ _ _ _ _ _ _ _ HW.out.hp).mono ?_
  rintro e w5 ⟨he, hww⟩
  rw [f1] at he
  subst he
  subst hww
  go_wp2_with fail
  go_at_call 19
  refine (Pin_any p 2 2 _ _ _ _ _ _ _ _ _ _ _ HW.out.hp).mono ?_
  rintro e w5 ⟨he, hww⟩
  rw [f2] at he
  subst he
  subst hww
  go_wp2_with fail
  go_at_call 19
  refine (Pin_any p 2 0 _ _ _ _ _ _ _ _ _ _ _ HW.out.hp).mono ?_
  rintro e w5 ⟨he, hww⟩
  rw [f3] at he
  subst he
  subst hww
  go_wp2_with fail
  go_at_call 19
  refine (Pin_any p 2 3 _ _ _ _ _ _ _ _ _ _ _ HW.out.hp).mono ?_
  rintro e w5 ⟨he, hww⟩
  rw [f4] at he
  subst he
  subst hww
  go_wp2_with fail
  go_at_call 15
  refine (Live_any p _ _ _ (by decide) (by decide) (by rw [w18_tabs]; decide) _ HW.out.hp.lt (HW.out.hp.cell 8) HC.out).mono ?_
  rintro e w6 ⟨lv, rfl, hr, hb⟩
  rw [w18_tabs] at hr
  obtain ⟨Al, cl, rfl⟩ : ∃ Al cl, lv = .slice Al 0 cl := Kd.R_slice hr
  have n0 := Lib.hid (HW.out.below hb)
  have n1 := Lib.hid (HB.out.trans (hb.mono HB.out.size))
  clear HW HB HC hb hr
  have HW := n0
  have HB := n1
  clear n0 n1
  go_wp2_with fail
  go_at_call 20
  refine (Owners_any p q b1 b2 _ _ _ 2 (by decide) _ (HW.out.hp.cell 5) (HW.out.hp.cell 8) HW.out.hh).mono ?_
  rintro e w7 ⟨ov, rfl, hr, hb⟩
  obtain ⟨Ao, co, rfl⟩ : ∃ Ao co, ov = .slice Ao 2 co := Kd.R_slice hr
  have n1 := Lib.hid (HB.out.trans (hb.mono HB.out.size))
  clear HW HB hb hr
  have HB := n1
  clear n1
  go_wp2_with fail
  go_ret
  exact ⟨rfl, HB.out⟩
end

/-! ### gangplankref17_Small: function 5 -/
def gangplankref17_Small.f (a0_0 : Int) (a0_1 : Int) (a0_2 : Int) (a0_3 : Int) (a0_4 : Int) : Option (Bool) := if a0_0 ≤ 6 then (if a0_1 ≤ 6 then (some (decide (a0_2 ≤ 12))) else (some false)) else (some false)
set_option maxHeartbeats 8000000 in
set_option maxRecDepth 100000 in
theorem gangplankref17_Small.calls (a0_0 : Int) (a0_1 : Int) (a0_2 : Int) (a0_3 : Int) (a0_4 : Int) (r : Bool) (w : World) (h : gangplankref17_Small.f a0_0 a0_1 a0_2 a0_3 a0_4 = some r) :
    Calls Tryz.prog 5 #[.agg #[.int .i64 a0_0, .int .i64 a0_1, .int .i64 a0_2, .int .i64 a0_3, .int .i64 a0_4]] w fun e w' => e = .returned (.bool r) ∧ Below w.heap.size w w' := by
  have hu23 := Tryz.underlying23
  have HB := Aside0.mk (Below.refl w.heap.size w)
  have H : (if a0_0 ≤ 6 then (if a0_1 ≤ 6 then (some (decide (a0_2 ≤ 12))) else (some false)) else (some false)) = some r := h
  clear h
  by_cases c2 : a0_0 ≤ 6
  · rw [if_pos c2] at H
    have c2b0 : decide (a0_0 ≤ 6) = true := decide_eq_true c2
    clear c2
    by_cases c3 : a0_1 ≤ 6
    · rw [if_pos c3] at H
      have c3b0 : decide (a0_1 ≤ 6) = true := decide_eq_true c3
      clear c3
      obtain rfl := Option.some.inj H
      go_enter Tryz.func5, Tryz.ntmps5
      go_wp2_with (first | ((with_reducible refine gate_dst (N := 1) rfl ?_); refine box_event ?hg (N := 1) ?hd (cs := #[.int .i64 a0_0, .int .i64 a0_1, .int .i64 a0_2, .int .i64 a0_3, .int .i64 a0_4]) (t := 23) ?hr ?_; (case hd => rfl); (case hg => rfl); (case hr => first | (go_simp; done) | (go_simp; rfl)); intro gb106 hg w4 hbox hb; have n0_ := Aside0.mk (below_step (by repeat (first | (with_reducible first | exact HB.out | apply below_alloc | apply pw_below_drewN | apply below_drew1) | exact HB.out)) hb); have n1_ := Aside0.mk (hbox); have n2_ := Aside0.mk ((by rw [hg]; exact (below_size (by repeat (first | (with_reducible first | exact HB.out | apply below_alloc | apply pw_below_drewN | apply below_drew1) | exact HB.out))) : w.heap.size ≤ gb106)); have n3_ := Aside0.mk ((by rw [hg]; exact (below_size (by repeat (first | (with_reducible first | exact HB.out | apply below_alloc | apply pw_below_drewN | apply below_drew1) | exact HB.out))) : w.heap.size ≤ gb106)); clear HB; have HB := n0_; have BK106 := n1_; have GW106 := n2_; have GE106 := n3_; clear n0_ n1_ n2_ n3_; clear hb hbox hg; have hcz5_0 : w4.cell? ⟨gb106, 0, none⟩ = some (.int .i64 a0_0) := (blk_cell BK106.out 0).trans rfl; have hcz5_1 : w4.cell? ⟨gb106, 1, none⟩ = some (.int .i64 a0_1) := (blk_cell BK106.out 1).trans rfl; have hcz5_2 : w4.cell? ⟨gb106, 2, none⟩ = some (.int .i64 a0_2) := (blk_cell BK106.out 2).trans rfl; have hcz5_3 : w4.cell? ⟨gb106, 3, none⟩ = some (.int .i64 a0_3) := (blk_cell BK106.out 3).trans rfl; have hcz5_4 : w4.cell? ⟨gb106, 4, none⟩ = some (.int .i64 a0_4) := (blk_cell BK106.out 4).trans rfl; have hfz5_0 := blk_frozen BK106.out 0; have hfz5_1 := blk_frozen BK106.out 1; have hfz5_2 := blk_frozen BK106.out 2; have hfz5_3 := blk_frozen BK106.out 3; have hfz5_4 := blk_frozen BK106.out 4))
      go_ret
      exact ⟨by first | rfl | (simp [errW_none, errW_some] <;> rfl) | (simp [*, errW_none, errW_some] <;> rfl), by repeat (first | (with_reducible first | exact HB.out | apply below_alloc | apply pw_below_drewN | apply below_drew1 | refine below_set ?_ GE106.out) | exact HB.out)⟩
    · rw [if_neg c3] at H
      have c3b0 : decide (a0_1 ≤ 6) = false := decide_eq_false c3
      clear c3
      obtain rfl := Option.some.inj H
      go_enter Tryz.func5, Tryz.ntmps5
      go_wp2_with (first | ((with_reducible refine gate_dst (N := 1) rfl ?_); refine box_event ?hg (N := 1) ?hd (cs := #[.int .i64 a0_0, .int .i64 a0_1, .int .i64 a0_2, .int .i64 a0_3, .int .i64 a0_4]) (t := 23) ?hr ?_; (case hd => rfl); (case hg => rfl); (case hr => first | (go_simp; done) | (go_simp; rfl)); intro gb106 hg w6 hbox hb; have n0_ := Aside0.mk (below_step (by repeat (first | (with_reducible first | exact HB.out | apply below_alloc | apply pw_below_drewN | apply below_drew1) | exact HB.out)) hb); have n1_ := Aside0.mk (hbox); have n2_ := Aside0.mk ((by rw [hg]; exact (below_size (by repeat (first | (with_reducible first | exact HB.out | apply below_alloc | apply pw_below_drewN | apply below_drew1) | exact HB.out))) : w.heap.size ≤ gb106)); have n3_ := Aside0.mk ((by rw [hg]; exact (below_size (by repeat (first | (with_reducible first | exact HB.out | apply below_alloc | apply pw_below_drewN | apply below_drew1) | exact HB.out))) : w.heap.size ≤ gb106)); clear HB; have HB := n0_; have BK106 := n1_; have GW106 := n2_; have GE106 := n3_; clear n0_ n1_ n2_ n3_; clear hb hbox hg; have hcz7_0 : w6.cell? ⟨gb106, 0, none⟩ = some (.int .i64 a0_0) := (blk_cell BK106.out 0).trans rfl; have hcz7_1 : w6.cell? ⟨gb106, 1, none⟩ = some (.int .i64 a0_1) := (blk_cell BK106.out 1).trans rfl; have hcz7_2 : w6.cell? ⟨gb106, 2, none⟩ = some (.int .i64 a0_2) := (blk_cell BK106.out 2).trans rfl; have hcz7_3 : w6.cell? ⟨gb106, 3, none⟩ = some (.int .i64 a0_3) := (blk_cell BK106.out 3).trans rfl; have hcz7_4 : w6.cell? ⟨gb106, 4, none⟩ = some (.int .i64 a0_4) := (blk_cell BK106.out 4).trans rfl; have hfz7_0 := blk_frozen BK106.out 0; have hfz7_1 := blk_frozen BK106.out 1; have hfz7_2 := blk_frozen BK106.out 2; have hfz7_3 := blk_frozen BK106.out 3; have hfz7_4 := blk_frozen BK106.out 4))
      go_ret
      exact ⟨by first | rfl | (simp [errW_none, errW_some] <;> rfl) | (simp [*, errW_none, errW_some] <;> rfl), by repeat (first | (with_reducible first | exact HB.out | apply below_alloc | apply pw_below_drewN | apply below_drew1 | refine below_set ?_ GE106.out) | exact HB.out)⟩
  · rw [if_neg c2] at H
    have c2b0 : decide (a0_0 ≤ 6) = false := decide_eq_false c2
    clear c2
    obtain rfl := Option.some.inj H
    go_enter Tryz.func5, Tryz.ntmps5
    go_wp2_with (first | ((with_reducible refine gate_dst (N := 1) rfl ?_); refine box_event ?hg (N := 1) ?hd (cs := #[.int .i64 a0_0, .int .i64 a0_1, .int .i64 a0_2, .int .i64 a0_3, .int .i64 a0_4]) (t := 23) ?hr ?_; (case hd => rfl); (case hg => rfl); (case hr => first | (go_simp; done) | (go_simp; rfl)); intro gb106 hg w8 hbox hb; have n0_ := Aside0.mk (below_step (by repeat (first | (with_reducible first | exact HB.out | apply below_alloc | apply pw_below_drewN | apply below_drew1) | exact HB.out)) hb); have n1_ := Aside0.mk (hbox); have n2_ := Aside0.mk ((by rw [hg]; exact (below_size (by repeat (first | (with_reducible first | exact HB.out | apply below_alloc | apply pw_below_drewN | apply below_drew1) | exact HB.out))) : w.heap.size ≤ gb106)); have n3_ := Aside0.mk ((by rw [hg]; exact (below_size (by repeat (first | (with_reducible first | exact HB.out | apply below_alloc | apply pw_below_drewN | apply below_drew1) | exact HB.out))) : w.heap.size ≤ gb106)); clear HB; have HB := n0_; have BK106 := n1_; have GW106 := n2_; have GE106 := n3_; clear n0_ n1_ n2_ n3_; clear hb hbox hg; have hcz9_0 : w8.cell? ⟨gb106, 0, none⟩ = some (.int .i64 a0_0) := (blk_cell BK106.out 0).trans rfl; have hcz9_1 : w8.cell? ⟨gb106, 1, none⟩ = some (.int .i64 a0_1) := (blk_cell BK106.out 1).trans rfl; have hcz9_2 : w8.cell? ⟨gb106, 2, none⟩ = some (.int .i64 a0_2) := (blk_cell BK106.out 2).trans rfl; have hcz9_3 : w8.cell? ⟨gb106, 3, none⟩ = some (.int .i64 a0_3) := (blk_cell BK106.out 3).trans rfl; have hcz9_4 : w8.cell? ⟨gb106, 4, none⟩ = some (.int .i64 a0_4) := (blk_cell BK106.out 4).trans rfl; have hfz9_0 := blk_frozen BK106.out 0; have hfz9_1 := blk_frozen BK106.out 1; have hfz9_2 := blk_frozen BK106.out 2; have hfz9_3 := blk_frozen BK106.out 3; have hfz9_4 := blk_frozen BK106.out 4))
    go_ret
    exact ⟨by first | rfl | (simp [errW_none, errW_some] <;> rfl) | (simp [*, errW_none, errW_some] <;> rfl), by repeat (first | (with_reducible first | exact HB.out | apply below_alloc | apply pw_below_drewN | apply below_drew1 | refine below_set ?_ GE106.out) | exact HB.out)⟩

-- NOT PRINTED: function 30 (cells_Cells_spot)

-- NOT PRINTED: function 7 (cells_Cells_Store)

-- NOT PRINTED: function 31 (cells_turn)

-- NOT PRINTED: function 8 (cells_Cells_Lock)

-- NOT PRINTED: function 9 (epoch_Keeper_Take)

-- NOT PRINTED: function 32 (slots_Slots_put)

/-! ### slots_Slots_Begin: function 10 -/
section
open Go.Shelf Go.Proofs.YtbbgeobnjdgpfaaGreat.Hand
set_option maxHeartbeats 4000000 in
theorem put_in (qs ss m : Nat) (i : Int) (h0 : 0 ≤ i) (hi : i < (m : Int)) (l : List Value) (hl : l.length = m) (W : World) (h1 : Blk W ss 87 l) (h2 : Blk W qs 83 [.slice (some ⟨ss, 0, none⟩) m m]) :
    Calls Tryz.prog 32 #[.pointer (some ⟨qs, 0, none⟩), .int .i64 i, .iface 79 (.agg #[])] W fun e W' => e = .returned (.bool true) ∧ W' = W.setCell ⟨ss, i.toNat, none⟩ (.iface 79 (.agg #[])) := by
  have z : W.cell? ⟨qs, 0, none⟩ = some (.slice (some ⟨ss, 0, none⟩) m m) := h2.cell 0
  have zc : W.cell? ⟨ss, i.toNat, none⟩ = some (l.getD i.toNat .nilIface) := by
    have h := h1.cell i.toNat
    rw [h, List.getD_eq_getElem?_getD, List.getElem?_eq_getElem (by omega)]
    rfl
  have zf := h1.frozen i.toNat
  have q0 : decide (i < 0) = false := decide_eq_false (by omega)
  have q1 : decide ((m : Int) ≤ i) = false := decide_eq_false (by omega)
  have q2 := eq_true h0
  have q3 := eq_true hi
  clear h1 h2
  go_enter Tryz.func32, Tryz.ntmps32
  go_wp2
  go_ret
  exact ⟨rfl, rfl⟩
set_option maxHeartbeats 4000000 in
theorem put_out (qs ss m : Nat) (i : Int) (x : Value) (h : ¬ (0 ≤ i ∧ i < (m : Int))) (W : World) (h2 : Blk W qs 83 [.slice (some ⟨ss, 0, none⟩) m m]) :
    Calls Tryz.prog 32 #[.pointer (some ⟨qs, 0, none⟩), .int .i64 i, x] W fun e W' => e = .returned (.bool false) ∧ W' = W := by
  have z : W.cell? ⟨qs, 0, none⟩ = some (.slice (some ⟨ss, 0, none⟩) m m) := h2.cell 0
  clear h2
  by_cases h0 : i < 0
  · have q0 : decide (i < 0) = true := decide_eq_true h0
    clear h h0
    go_enter Tryz.func32, Tryz.ntmps32
    go_wp2
    go_ret
    exact ⟨rfl, rfl⟩
  · have q0 : decide (i < 0) = false := decide_eq_false h0
    have q1 : decide ((m : Int) ≤ i) = true := decide_eq_true (by omega)
    clear h h0
    go_enter Tryz.func32, Tryz.ntmps32
    go_wp2
    go_ret
    exact ⟨rfl, rfl⟩
theorem Begin_any (qs ss m : Nat) (i : Int) (l : List Value) (hl : l.length = m) (W : World) (h1 : Blk W ss 87 l) (h2 : Blk W qs 83 [.slice (some ⟨ss, 0, none⟩) m m]) :
    Calls Tryz.prog 10 #[.pointer (some ⟨qs, 0, none⟩), .int .i64 i] W fun e W' => e = .returned (.bool (decide (0 ≤ i ∧ i < (m : Int)))) ∧ (∀ k, k ≠ ss → W'.heap[k]? = W.heap[k]?) ∧ ∀ N, N ≤ ss → Below N W W' := by
  have H1 := Lib.hid h1
  have H2 := Lib.hid h2
  have HL := Lib.hid hl
  clear h1 h2 hl
  by_cases h : 0 ≤ i ∧ i < (m : Int)
  · have q : decide (0 ≤ i ∧ i < (m : Int)) = true := decide_eq_true h
    rw [q]
    have HI := Lib.hid h
    clear h q
    go_enter Tryz.func10, Tryz.ntmps10
    go_wp2_with (go_at_call 32; refine (put_in qs ss m i HI.out.1 HI.out.2 l HL.out _ H1.out H2.out).mono ?_; rintro e w1 ⟨rfl, rfl⟩)
    go_ret
    exact ⟨rfl, fun k hk => Below.heap_setCell _ _ _ _ hk, fun N hN => (Below.refl N W).setCell hN _⟩
  · have q : decide (0 ≤ i ∧ i < (m : Int)) = false := decide_eq_false h
    rw [q]
    have HI := Lib.hid h
    clear h q
    go_enter Tryz.func10, Tryz.ntmps10
    go_wp2_with (go_at_call 32; refine (put_out qs ss m i _ HI.out _ H2.out).mono ?_; rintro e w1 ⟨rfl, rfl⟩)
    go_ret
    exact ⟨rfl, fun k hk => rfl, fun N hN => Below.refl N _⟩
theorem keeper_at (W : World) (qk : Nat) (n : Int) (h3 : Blk W qk 77 (List.replicate 16 (Value.int .i64 0) ++ [Value.int .i64 n])) (j : Nat) (hj : j < 16) : W.cell? ⟨qk, j, none⟩ = some (.int .i64 0) := by
  refine (h3.cell j).trans ?_
  rw [List.getElem?_append_left (by simpa using hj)]
  rw [List.getElem?_replicate, if_pos hj]
set_option maxHeartbeats 4000000 in
theorem State_any (qk : Nat) (n i : Int) (hn : n ≤ 8) (W : World) (h3 : Blk W qk 77 (List.replicate 16 (Value.int .i64 0) ++ [Value.int .i64 n])) :
    Calls Tryz.prog 18 #[.pointer (some ⟨qk, 0, none⟩), .int .i64 i] W fun e W' => e = .returned (.int .i64 (if 0 ≤ i ∧ i < n then 0 else -1)) ∧ W' = W := by
  have z : W.cell? ⟨qk, 16, none⟩ = some (.int .i64 n) := h3.cell 16
  by_cases h : 0 ≤ i ∧ i < n
  · rw [if_pos h]
    have z1 := keeper_at W qk n h3 (i.toNat * 2) (by omega)
    have q0 : decide (i < 0) = false := decide_eq_false (by omega)
    have q1 : decide (n ≤ i) = false := decide_eq_false (by omega)
    have q2 := eq_true h.1
    have q3 : i < 8 := by omega
    clear h3 h hn
    go_enter Tryz.func18, Tryz.ntmps18
    go_wp2
    go_ret
    exact ⟨rfl, rfl⟩
  · rw [if_neg h]
    clear h3
    by_cases h0 : i < 0
    · have q0 : decide (i < 0) = true := decide_eq_true h0
      clear h h0
      go_enter Tryz.func18, Tryz.ntmps18
      go_wp2
      go_ret
      exact ⟨rfl, rfl⟩
    · have q0 : decide (i < 0) = false := decide_eq_false h0
      have q1 : decide (n ≤ i) = true := decide_eq_true (by omega)
      clear h h0
      go_enter Tryz.func18, Tryz.ntmps18
      go_wp2
      go_ret
      exact ⟨rfl, rfl⟩
set_option maxHeartbeats 4000000 in
theorem Take_any (qk : Nat) (n : Nat) (hn : 1 ≤ n) (hn8 : n ≤ 8) (W : World) (h3 : Blk W qk 77 (List.replicate 16 (Value.int .i64 0) ++ [Value.int .i64 (n : Int)])) :
    Calls Tryz.prog 9 #[.pointer (some ⟨qk, 0, none⟩)] W fun e W' => e = .returned (.int .i64 0) ∧ ∀ N, N ≤ qk → Below N W W' := by
  have z : W.cell? ⟨qk, 16, none⟩ = some (.int .i64 (n : Int)) := h3.cell 16
  have z0 := keeper_at W qk n h3 0 (by omega)
  have z1 := keeper_at W qk n h3 1 (by omega)
  have zf := h3.frozen 0
  have q0 : decide ((0 : Int) < (n : Int)) = true := decide_eq_true (by omega)
  have q1 : (n : Int) ≤ 8 := by omega
  have q2 : (0 : Int) ≤ (n : Int) := by omega
  have q3 : n ≤ 8 := hn8
  have HN := Lib.hid hn
  clear h3 hn hn8
  go_enter Tryz.func9, Tryz.ntmps9
  go_wp2
  go_region_held3 (fun w' => w'.cell? ⟨qk, 16, none⟩ = some (.int .i64 (n : Int))) (exact z) (fail)
  go_wp2
  go_loopw [13] (fun i wr => i = .int .i64 0 ∧ wr = W.drew) (fun i _ => n - (intOf i).toNat)
  case atStart => exact ⟨rfl, rfl⟩
  case round =>
    obtain ⟨rfl, rfl⟩ := hrel
    go_wp2
    go_ret
    exact ⟨rfl, fun N hN => (below_drew (Below.refl N W)).setCell hN _⟩
end

-- NOT PRINTED: function 67 (slices_IndexFunc_2_int_2_int)

-- NOT PRINTED: function 55 (slices_ContainsFunc_2_int_2_int)

-- NOT PRINTED: function 56 (pool_within_1)

/-! ### pool_within: function 45 -/
section
open Go.Shelf Go.Proofs.YtbbgeobnjdgpfaaGreat.Hand
def encPr (x : Int × Int) : List Value := [.int .i64 x.1, .int .i64 x.2]
def outP (x : Int × Int) : Bool := decide (x.1 < 1) || decide (x.2 < x.1)
set_option maxHeartbeats 1000000 in
theorem within1_any (x : Int × Int) (W : World) : Calls Tryz.prog 56 #[.agg #[.int .i64 x.1, .int .i64 x.2]] W fun e w' => e = .returned (.bool (outP x)) ∧ w' = W.alloc (.cells #[.int .i64 x.1, .int .i64 x.2] 112) := by
  obtain ⟨a, b⟩ := x
  by_cases h1 : a < 1
  · have q1 : decide (a < 1) = true := decide_eq_true h1
    have hO : outP (a, b) = true := by simp [outP, h1]
    rw [hO]
    clear hO
    go_enter Tryz.func56, Tryz.ntmps56
    go_wp2
    go_ret
    exact ⟨rfl, rfl⟩
  · have q1 : decide (a < 1) = false := decide_eq_false h1
    have hO : outP (a, b) = decide (b < a) := by simp [outP, h1]
    rw [hO]
    clear hO
    go_enter Tryz.func56, Tryz.ntmps56
    go_wp2
    go_ret
    exact ⟨rfl, rfl⟩
set_option maxRecDepth 100000 in
set_option maxHeartbeats 1000000 in
theorem within_any (g : Nat) (a b : Int) (W : World) (h : Blk W g 112 [.int .i64 a, .int .i64 65535, .int .i64 b, .int .i64 16]) :
    Calls Tryz.prog 45 #[.slice (some ⟨g, 0, none⟩) 2 2] W fun e w' => e = .returned (.bool (!(outP (a, 65535) || outP (b, 16)))) ∧ Below W.heap.size W w' := by
  have eg : ∀ args w, (callFunc 56 args).run Tryz.prog w = .ok (.enter 56 args) w := enters_of Tryz.func56 (by kernel_rfl) rfl
  have hcon := AnyQ.slices_ContainsFunc Tryz.anyPr 2 Tryz.isAgg112 Tryz.sizeOf112 encPr (fun _ => rfl) outP 56 #[] eg g 0 2 2 [(a, 65535), (b, 16)] W
    (fun W' x hb => (within1_any x W').mono fun e w' ⟨he, hw⟩ => ⟨he, by subst hw; exact hb.alloc hb.size _⟩) (by simp) (by decide) h.lt (fun j hj i v hv => by
      have c0 := h.cell 0
      have c1 := h.cell 1
      have c2 := h.cell 2
      have c3 := h.cell 3
      match j, hj, i, hv with
      | 0, _, 0, hv => simp [encPr] at hv; rw [← hv]; exact c0
      | 0, _, 1, hv => simp [encPr] at hv; rw [← hv]; exact c1
      | 1, _, 0, hv => simp [encPr] at hv; rw [← hv]; exact c2
      | 1, _, 1, hv => simp [encPr] at hv; rw [← hv]; exact c3
      | 0, _, i + 2, hv => simp [encPr] at hv
      | 1, _, i + 2, hv => simp [encPr] at hv
      | j + 2, hj, _, _ => simp at hj; omega)
  change Calls Tryz.prog 55 _ _ _ at hcon
  have e : ([(a, (65535 : Int)), (b, 16)].take 2).any outP = (outP (a, 65535) || outP (b, 16)) := by simp
  rw [e] at hcon
  generalize (outP (a, 65535) || outP (b, 16)) = r at hcon ⊢
  have HCON := Lib.hid hcon
  clear hcon h e eg
  go_enter Tryz.func45, Tryz.ntmps45
  go_wp2_with (go_at_call 55; refine HCON.out.mono ?_; rintro e w1 ⟨rfl, hb⟩; have HB := Lib.hid hb; clear hb)
  go_ret
  exact ⟨rfl, HB.out⟩
end

end Go.Proofs.YtbbgeobnjdgpfaaGreat.P
