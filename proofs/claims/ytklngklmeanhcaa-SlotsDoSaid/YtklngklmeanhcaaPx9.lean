/- Each Go function that the laws reach, as a plain function, with the proof that the machine's call comes to what it says; of a law: its row. Made by a program of this seat (wip/hp.py, over the print). -/
import Derived.Test.YtklngklmeanhcaaPx0
import Derived.Test.YtklngklmeanhcaaPx1
import Derived.Test.YtklngklmeanhcaaPx3
import Derived.Test.YtklngklmeanhcaaPx4
import Derived.Test.YtklngklmeanhcaaPx5
import Derived.Test.YtklngklmeanhcaaPx8
namespace Go.Proofs.Ytklngklmeanhcaa.P
open Go.RowKit Go.Proofs.YtklngklmeanhcaaW.PrintWords Go.Proofs.YtklngklmeanhcaaW.PrintLast Go.Proofs.YtklngklmeanhcaaW.PrintMore
attribute [local go_sem] max2_int min2_int max_two min_two max_three min_three max_four min_four   -- for this text's walks alone
set_option linter.unusedVariables false
set_option linter.unusedSimpArgs false

/-! ### gangplanklaw16_told: function 19 -/
section
open Go.Shelf Go.Proofs.Ytklngklmeanhcaa.Hand
/-- The reference's number of a state, and its pool. -/
def stN (s : Option (Option (List S56))) : Int :=
  match s with
  | none => 0
  | some none => 1
  | some (some _) => 2
def poolS (s : Option (Option (List S56))) : List S56 :=
  match s with
  | some (some p) => p
  | _ => []
/-- The cells of one of the reference's slots; its pool lies in the elder world w. -/
def SlotR (w : World) (cs : List Value) (s : Option (Option (List S56))) : Prop := ∃ A c, cs = [.int .i64 (stN s), .slice A (poolS s).length c] ∧ (poolS s).length ≤ c ∧ Kd.C k56 w A (poolS s).length (poolS s)
theorem SlotR.nil (w : World) (s : Option (Option (List S56))) (h : poolS s = []) : SlotR w [.int .i64 (stN s), .slice none 0 0] s := by
  refine ⟨none, 0, by rw [h]; rfl, by rw [h]; exact Nat.le_refl 0, ?_⟩
  rw [h]
  exact (Kd.R_reads' (Kd.R_nil k56 56 w 0 (fun _ => True))).2.2
theorem SlotR.full (w : World) (A : Option Addr) (c : Nat) (p : List S56) (hc : p.length ≤ c) (hC : Kd.C k56 w A p.length p) : SlotR w [.int .i64 2, .slice A p.length c] (some (some p)) := ⟨A, c, rfl, hc, hC⟩
theorem SlotR.raw {w : World} {cs : List Value} {s : Option (Option (List S56))} (h : SlotR w cs s) : cs.length = 2 ∧ ∀ u ∈ cs, u.oneCell' = true := by
  obtain ⟨A, c, rfl, _⟩ := h
  exact ⟨rfl, fun u hu => by simp at hu; rcases hu with rfl | rfl <;> rfl⟩
/-- The reference's list of slots in memory. -/
structure Rl (w W : World) (A : Option Addr) (m c : Nat) (st : List (Option (Option (List S56)))) : Prop where
  row : ∃ xs : List (List Value), Kd.R (Kd.raw 2) 84 W 0 (fun _ => True) (.slice A m c) xs ∧ xs.length = m ∧ ∀ i, i < m → SlotR w (xs.getD i []) (st.getD i none)
  hl : st.length = m
theorem Rl.below {w W W' : World} {A : Option Addr} {m c : Nat} {st : List (Option (Option (List S56)))} (h : Rl w W A m c st) (hb : Below W.heap.size W W') : Rl w W' A m c st := by
  obtain ⟨⟨xs, h1, h2, h3⟩, h4⟩ := h
  exact ⟨⟨xs, Kd.R_below h1 hb, h2, h3⟩, h4⟩
theorem Rl.kept {w W W' : World} {A : Option Addr} {m c : Nat} {st : List (Option (Option (List S56)))} (h : Rl w W A m c st) {qs ss m' : Nat} {st' : List (Option (Option (List S56)))} (hS : Sl W qs ss m' st') (hk : KeptB ss W W') : Rl w W' A m c st := by
  obtain ⟨⟨xs, h1, h2, h3⟩, h4⟩ := h
  obtain ⟨l, hl, _⟩ := hS.cells
  exact ⟨⟨xs, Kd.R_mono (Kd.R_move (w1 := W') (Kd.R_bound (Kd.R_types h1 (show W.heap[ss]? = _ from hl) (by decide))) (fun k hk2 => hk.far k hk2.2.2.1 hk2.1.2)) (fun _ _ => trivial), h2, h3⟩, h4⟩
theorem Rl.at {w W : World} {A : Option Addr} {m c : Nat} {st : List (Option (Option (List S56)))} (h : Rl w W A m c st) (i : Int) (h0 : 0 ≤ i) (h1 : i < m) : ∃ ad B d, A = some ad ∧ W.cell? (ad.add (i.toNat * 2)) = some (.int .i64 (stN (st.getD i.toNat none))) ∧ W.cell? ⟨(ad.add (i.toNat * 2)).block, (ad.add (i.toNat * 2)).off + 1, none⟩ = some (.slice B (poolS (st.getD i.toNat none)).length d) ∧ (poolS (st.getD i.toNat none)).length ≤ d ∧ Kd.C k56 w B (poolS (st.getD i.toNat none)).length (poolS (st.getD i.toNat none)) := by
  obtain ⟨⟨xs, hr, hx, hs⟩, hl⟩ := h
  have hC := (Kd.R_reads' hr).2.2
  obtain ⟨ad, cs, e, _, hK, hc0⟩ := Kd.C_get hC [] i h0 (by omega)
  obtain ⟨B, d, e2, h3, h4⟩ := hs i.toNat (by omega)
  have hc : ∀ j u, cs[j]? = some u → W.cell? (ad.add (i.toNat * 2 + j)) = some u := hc0
  obtain rfl : cs = xs.getD i.toNat [] := hK.1
  rw [e2] at hc
  exact ⟨ad, B, d, e, hc 0 _ rfl, by rw [← add_field _ _ 1 (by omega)]; exact hc 1 _ rfl, h3, h4⟩
theorem infoSl : (Try.prog.info? 84).map (fun i => (i.zero, i.size, i.bytes)) = some (some (.agg #[.int .i64 0, .slice none 0 0]), 2, 32) := by kernel_rfl
theorem gate_mk16 {P : Program} {ops : Array Oper} {Q : Exit → Act → World → Prop} {o : Oper} {rest : List Oper} {a : Act} {W : World} {t : TypeId} {p x : Operand} (_ho : o.op = .makeSlice t p x) (h : wpList P ops Q (o :: rest) a W) : wpList P ops Q (o :: rest) a W := h
theorem gate_st16 {P : Program} {ops : Array Oper} {Q : Exit → Act → World → Prop} {o : Oper} {rest : List Oper} {a : Act} {W : World} {t : TypeId} {p x : Operand} (_ho : o.op = .store t p x) (h : wpList P ops Q (o :: rest) a W) : wpList P ops Q (o :: rest) a W := h
set_option maxHeartbeats 1000000 in
theorem Is16_any (A : Option Addr) (m c : Nat) (i : Int) (W : World) :
    Calls Try.prog 72 #[.slice A m c, .int .i64 i] W fun e W' => e = .returned (.bool (inS i m)) ∧ W' = W := by
  by_cases h0 : 0 ≤ i
  · have q0 : decide (0 ≤ i) = true := decide_eq_true h0
    by_cases h1 : i < (m : Int)
    · have q1 : decide (i < (m : Int)) = true := decide_eq_true h1
      rw [show inS i m = true from decide_eq_true ⟨h0, h1⟩]
      clear h0 h1
      go_enter Try.func72, Try.ntmps72
      go_wp2
      go_ret
      exact ⟨rfl, rfl⟩
    · have q1 : decide (i < (m : Int)) = false := decide_eq_false h1
      rw [show inS i m = false from decide_eq_false (fun h => h1 h.2)]
      clear h0 h1
      go_enter Try.func72, Try.ntmps72
      go_wp2
      go_ret
      exact ⟨rfl, rfl⟩
  · have q0 : decide (0 ≤ i) = false := decide_eq_false h0
    rw [show inS i m = false from decide_eq_false (fun h => h0 h.1)]
    clear h0
    go_enter Try.func72, Try.ntmps72
    go_wp2
    go_ret
    exact ⟨rfl, rfl⟩
set_option maxRecDepth 100000 in
set_option maxHeartbeats 4000000 in
theorem With16_any (w W : World) (A : Option Addr) (m c : Nat) (st : List (Option (Option (List S56)))) (hm : m ≤ 8) (hR : Rl w W A m c st) (i : Int) (hi : inS i m = true) (s : Option (Option (List S56))) (x0 : Int) (B : Option Addr) (n d : Nat) (hs : SlotR w [.int .i64 x0, .slice B n d] s) :
    Calls Try.prog 73 #[.slice A m c, .int .i64 i, .agg #[.int .i64 x0, .slice B n d]] W fun e W' => ∃ A' c', e = .returned (.slice A' m c') ∧ Rl w W' A' m c' (st.set i.toNat s) ∧ Below W.heap.size W W' := by
  have hin := of_decide_eq_true hi
  obtain ⟨⟨xs, hr, hx, hss⟩, hl⟩ := hR
  have hC := (Kd.R_reads' hr).2.2
  have hb0 := below_alloc (Below.refl W.heap.size W) (.cells #[.int .i64 x0, .slice B n d] 84)
  have hx0 := Blk.new W 84 [.int .i64 x0, .slice B n d]
  have hC0 := Kd.C_below hC hb0
  obtain ⟨W1, hW1⟩ : ∃ W1, (W.alloc (.cells #[.int .i64 x0, .slice B n d] 84)) = W1 := ⟨_, rfl⟩
  rw [hW1] at hb0 hx0 hC0
  obtain ⟨y0, y1, hy⟩ : ∃ y0 y1, xs.getD i.toNat [] = [y0, y1] := by
    obtain ⟨B', d', h, _⟩ := hss i.toNat (by omega)
    exact ⟨_, _, h⟩
  have HC0 := Lib.hid hC0
  have HB0 := Lib.hid hb0
  have HX0 := Lib.hid hx0
  have HX := Lib.hid hx
  have HM := Lib.hid hm
  have HIN := Lib.hid hin
  have HY := Lib.hid hy
  have HFIN := Lib.hid (show ∀ j, j < m → SlotR w ((xs.set i.toNat [.int .i64 x0, .slice B n d]).getD j []) ((st.set i.toNat s).getD j none) from fun j hj => by
    by_cases hij : i.toNat = j
    · subst hij
      rw [List.getD_eq_getElem?_getD, List.getElem?_set_self (by omega), List.getD_eq_getElem?_getD, List.getElem?_set_self (by omega)]
      exact hs
    · rw [List.getD_eq_getElem?_getD, List.getElem?_set_ne hij, ← List.getD_eq_getElem?_getD, List.getD_eq_getElem?_getD (l := st.set i.toNat s), List.getElem?_set_ne hij, ← List.getD_eq_getElem?_getD]
      exact hss j hj)
  have HL2 := Lib.hid (show (st.set i.toNat s).length = m by rw [List.length_set]; exact hl)
  obtain ⟨z, hz⟩ : ∃ z, ([] : List (List Value)) = z := ⟨_, rfl⟩
  have HZ := Lib.hid hz
  clear hz hr hC hb0 hx0 hC0 hx hl hss hs hm hi hin hy
  go_enter Try.func73, Try.ntmps73
  go_upto_region 1 with (fail)
  clear hW1
  go_upto_region 2 with (first
    | ((with_reducible refine gate_dst (N := 8) rfl ?_); refine Kd.R_lit (Kd.raw 2) _ 84 ?hg (N := 8) ?hd (xs := ([] : List (List Value))) (inner := []) (ok := fun _ => True) (okp := fun _ => True) ?hr ?hp (fun _ hk => hk) trivial (Below.refl _ _) (Nat.le_refl _) (by simp) ?_; (case hd => rfl); (case hg => rfl); (case hr => first | (go_simp; done) | (go_simp; rfl)); (case hp => exact (Reps.none _ _)); intro v8 w2 ho hb hg_ hnew_; clear hg_ hnew_; rw [HZ.out] at ho; have HB1 := Aside0.mk hb; have HO1 := Aside0.mk ho; clear hb ho)
    | (at_builtin; refine Kd.R_append_rows (Kd.raw 2) (w0 := W1) W1.heap.size rfl (.tmp 8) (.tmp 9) 28 84 (.agg #[.int .i64 0, .slice none 0 0]) 32 rfl Try.underlying28 infoSl rfl (by decide) (by omega) v8 z xs _ _ _ (fun _ => True) (fun _ => False) rfl rfl ?aO ?aR (fun _ _ h => h) (fun _ h => h.elim) ?aF ?aB ?aS ?aL ?_; (case aR => have h := Kd.C_below HC0.out HB1.out; rw [HX.out] at h; exact h); (case aB => exact HB1.out); (case aF => exact (fun _ _ => trivial)); (case aO => exact HO1.out); (case aS => exact HB1.out.size); (case aL => rw [← HZ.out]; have := HM.out; simp; omega); intro v10 w3 ho hb hg hat; rw [← HZ.out, List.nil_append] at ho; obtain ⟨g, cap, rfl, _, _, _⟩ := Kd.R_form ho (by have := HX.out; have := HIN.out; omega); rw [HX.out] at ho ⊢; have HB2 := Aside0.mk hb; have HO2 := Aside0.mk ho; clear ho hb hg hat))
  obtain ⟨ad2, cs, hA2, _, hK, hc0⟩ := Kd.C_get (Kd.R_reads' HO2.out).2.2 [] i HIN.out.1 (by have := HX.out; have := HIN.out; omega)
  cases hA2
  have hc : ∀ j u, cs[j]? = some u → w3.cell? ((⟨g, 0, none⟩ : Addr).add (i.toNat * 2 + j)) = some u := hc0
  obtain rfl : cs = xs.getD i.toNat [] := hK.1
  rw [HY.out] at hc
  have d0 := hc 0 _ rfl
  have d1 := hc 1 _ rfl
  rw [add_plain] at d0 d1
  have D0 := Lib.hid d0
  have D1 := Lib.hid d1
  have b0 : w3.cell? ⟨W.heap.size, 0, none⟩ = some (.int .i64 x0) := (HX0.out.below HB2.out).cell 0
  have b1 : w3.cell? ⟨W.heap.size, 1, none⟩ = some (.slice B n d) := (HX0.out.below HB2.out).cell 1
  have q0 : decide (0 ≤ i) = true := decide_eq_true HIN.out.1
  have q1 : (0 : Int) ≤ i := HIN.out.1
  have q2 : i < (m : Int) := HIN.out.2
  clear d0 d1 hc hc0 hK
  go_wp2_with ((with_reducible refine gate_st16 (t := 84) rfl ?_); refine Kd.R_store (Kd.raw 2) (w0 := W1) W1.heap.size rfl rfl 84 _ _ rfl 84 i 0 xs [.int .i64 x0, .slice B n d] _ [.int .i64 x0, .slice B n d] [y0, y1] (fun _ => True) (fun _ => False) rfl ?sO rfl rfl (by kernel_rfl) ?sI HO2.out q1 q2 rfl ?sC (Nat.le_refl 2) ⟨rfl, rfl, ?sM⟩ (fun _ h => h.elim) HB2.out ?_; (case sO => rfl); (case sI => intro q hq; simp at hq; rcases hq with rfl | rfl <;> rfl); (case sM => intro q hq; simp at hq; rcases hq with rfl | rfl <;> rfl); (case sC => intro jj uu hu; match jj, hu with | 0, hu => (simp at hu; rw [← hu]; exact D0.out) | 1, hu => (simp at hu; rw [← hu]; exact D1.out) | jj + 2, hu => simp at hu); intro w5 hr5 hb5 hg5; have HR5 := Lib.hid hr5; have HB5 := Lib.hid hb5; clear hr5 hb5 hg5)
  go_ret
  exact ⟨_, _, rfl, ⟨⟨_, Kd.R_lower HR5.out (Nat.zero_le _), by rw [List.length_set]; exact HX.out, HFIN.out⟩, HL2.out⟩, HB0.out.trans (HB5.out.mono HB0.out.size)⟩
set_option maxHeartbeats 1000000 in
theorem Begin16_any (w W : World) (A : Option Addr) (m c : Nat) (st : List (Option (Option (List S56)))) (hm : m ≤ 8) (hR : Rl w W A m c st) (i : Int) :
    Calls Try.prog 46 #[.slice A m c, .int .i64 i] W fun e W' => ∃ A' c', e = .returned (.tuple #[.slice A' m c', .bool (inS i m)]) ∧ Rl w W' A' m c' (putS st i (some none)) ∧ Below W.heap.size W W' := by
  have hIS := fun W => Is16_any A m c i W
  cases hi : inS i m with
  | false =>
    have es : putS st i (some none) = st := by unfold putS; rw [hR.hl, hi, if_neg (by decide)]
    rw [es]
    rw [hi] at hIS
    have HIS := Lib.hid hIS
    have HR := Lib.hid hR
    clear hIS hR hi es hm
    go_enter Try.func46, Try.ntmps46
    go_wp2_with (go_at_call 72; refine (HIS.out _).mono ?_; rintro e w1 ⟨rfl, rfl⟩)
    go_ret2
    exact ⟨_, _, rfl, HR.out, Below.refl _ _⟩
  | true =>
    have es : putS st i (some none) = st.set i.toNat (some none) := by unfold putS; rw [hR.hl, hi, if_pos rfl]
    rw [es]
    have HW := Lib.hid (fun W' h => With16_any w W' A m c st hm h i hi (some none) 1 none 0 0 (SlotR.nil w (some none) rfl))
    rw [hi] at hIS
    have HIS := Lib.hid hIS
    have HR := Lib.hid hR
    clear hIS hR hi es hm
    go_enter Try.func46, Try.ntmps46
    go_wp2_with (first | (go_at_call 72; refine (HIS.out _).mono ?_; rintro e w1 ⟨rfl, rfl⟩) | (go_at_call 73; refine (HW.out _ HR.out).mono ?_; rintro e w2 ⟨A', c', rfl, hr, hb⟩; have HR2 := Lib.hid hr; have HB2 := Lib.hid hb; clear hr hb))
    go_ret2
    exact ⟨_, _, rfl, HR2.out, HB2.out⟩

set_option maxHeartbeats 1000000 in
theorem Spoil16_any (w W : World) (A : Option Addr) (m c : Nat) (st : List (Option (Option (List S56)))) (hm : m ≤ 8) (hR : Rl w W A m c st) (i : Int) :
    Calls Try.prog 48 #[.slice A m c, .int .i64 i] W fun e W' => ∃ A' c', e = .returned (.tuple #[.slice A' m c', .bool (inS i m)]) ∧ Rl w W' A' m c' (putS st i (none)) ∧ Below W.heap.size W W' := by
  have hIS := fun W => Is16_any A m c i W
  cases hi : inS i m with
  | false =>
    have es : putS st i (none) = st := by unfold putS; rw [hR.hl, hi, if_neg (by decide)]
    rw [es]
    rw [hi] at hIS
    have HIS := Lib.hid hIS
    have HR := Lib.hid hR
    clear hIS hR hi es hm
    go_enter Try.func48, Try.ntmps48
    go_wp2_with (go_at_call 72; refine (HIS.out _).mono ?_; rintro e w1 ⟨rfl, rfl⟩)
    go_ret2
    exact ⟨_, _, rfl, HR.out, Below.refl _ _⟩
  | true =>
    have es : putS st i (none) = st.set i.toNat (none) := by unfold putS; rw [hR.hl, hi, if_pos rfl]
    rw [es]
    have HW := Lib.hid (fun W' h => With16_any w W' A m c st hm h i hi (none) 0 none 0 0 (SlotR.nil w (none) rfl))
    rw [hi] at hIS
    have HIS := Lib.hid hIS
    have HR := Lib.hid hR
    clear hIS hR hi es hm
    go_enter Try.func48, Try.ntmps48
    go_wp2_with (first | (go_at_call 72; refine (HIS.out _).mono ?_; rintro e w1 ⟨rfl, rfl⟩) | (go_at_call 73; refine (HW.out _ HR.out).mono ?_; rintro e w2 ⟨A', c', rfl, hr, hb⟩; have HR2 := Lib.hid hr; have HB2 := Lib.hid hb; clear hr hb))
    go_ret2
    exact ⟨_, _, rfl, HR2.out, HB2.out⟩

theorem isB_stN (s : Option (Option (List S56))) : isB s = true ↔ stN s = 1 := by
  match s with
  | none => exact ⟨fun h => (Bool.noConfusion h), fun h => absurd h (by decide)⟩
  | some none => exact ⟨fun _ => rfl, fun _ => rfl⟩
  | some (some p) => exact ⟨fun h => (Bool.noConfusion h), fun h => absurd (show (2 : Int) = 1 from h) (by decide)⟩
set_option maxRecDepth 100000 in
set_option maxHeartbeats 4000000 in
theorem Fill16_any (w W : World) (hBW : Below w.heap.size w W) (A : Option Addr) (m c : Nat) (st : List (Option (Option (List S56)))) (hm : m ≤ 8) (hR : Rl w W A m c st) (i : Int) (A2 : Option Addr) (c2 : Nat) (p : List S56) (hpc : p.length ≤ c2) (hC : Kd.C k56 w A2 p.length p)
    (hck : ∀ W', Kd.C k56 W' A2 p.length p → Calls Try.prog 43 #[.slice A2 p.length c2] W' fun e w' => e = .returned (.int .i64 (checkL p)) ∧ Below W'.heap.size W' w') :
    Calls Try.prog 47 #[.slice A m c, .int .i64 i, .slice A2 p.length c2] W fun e W' => ∃ A' c', e = .returned (.tuple #[.slice A' m c', .bool (fillB st i p)]) ∧ Rl w W' A' m c' (fillS st i p) ∧ Below W.heap.size W W' := by
  have hIS := fun W => Is16_any A m c i W
  have HCK := Lib.hid hck
  have HBW := Lib.hid hBW
  have HCP := Lib.hid hC
  cases hi : inS i m with
  | false =>
    have eb : fillB st i p = false := by unfold fillB; rw [hR.hl, hi]; rfl
    have es : fillS st i p = st := by unfold fillS; rw [eb, if_neg (by decide)]
    rw [es, eb]
    rw [hi] at hIS
    have HIS := Lib.hid hIS
    have HR := Lib.hid hR
    clear hIS hR hi es eb hm hck hBW hC hpc
    go_enter Try.func47, Try.ntmps47
    go_wp2_with (go_at_call 72; refine (HIS.out _).mono ?_; rintro e w1 ⟨rfl, rfl⟩)
    go_ret2
    exact ⟨_, _, rfl, HR.out, Below.refl _ _⟩
  | true =>
    have hin := of_decide_eq_true hi
    obtain ⟨ad, B, d, hA, hx0, hx1, _, _⟩ := hR.at i hin.1 hin.2
    subst hA
    have q0 : decide (0 ≤ i) = true := decide_eq_true hin.1
    have q2 : (0 : Int) ≤ i := hin.1
    have q3 : i < (m : Int) := hin.2
    by_cases hb1 : isB (st.getD i.toNat none) = true
    · have hn : stN (st.getD i.toNat none) = 1 := (isB_stN _).1 hb1
      rw [hn] at hx0
      by_cases hz : checkL p = 0
      · have eb : fillB st i p = true := by unfold fillB; rw [hR.hl, hi, hb1, hz]; rfl
        have es : fillS st i p = st.set i.toNat (some (some p)) := by unfold fillS; rw [eb, if_pos rfl]
        rw [es, eb]
        have HW := Lib.hid (fun W' h => With16_any w W' (some ad) m c st hm h i hi (some (some p)) 2 A2 p.length c2 (SlotR.full w A2 c2 p hpc hC))
        have qz : (checkL p != 0) = false := by rw [hz]; rfl
        have qz2 : (checkL p == 0) = true := by rw [hz]; rfl
        rw [hi] at hIS
        have HIS := Lib.hid hIS
        have HR := Lib.hid hR
        clear hIS hR hi es eb hm hck hBW hC hpc hin hx1 hb1 hn hz
        go_enter Try.func47, Try.ntmps47
        go_wp2_with (first | (go_at_call 72; refine (HIS.out _).mono ?_; rintro e w1 ⟨rfl, rfl⟩) | (go_at_call 43; refine (HCK.out _ (Kd.C_below HCP.out HBW.out)).mono ?_; rintro e w3 ⟨rfl, hb⟩; have HB3 := Lib.hid hb; clear hb) | (go_at_call 73; refine (HW.out _ (HR.out.below HB3.out)).mono ?_; rintro e w2 ⟨A', c', rfl, hr, hb⟩; have HR2 := Lib.hid hr; have HB2 := Lib.hid hb; clear hr hb))
        go_ret2
        exact ⟨_, _, rfl, HR2.out, HB3.out.trans (HB2.out.mono HB3.out.size)⟩
      · have eb : fillB st i p = false := by unfold fillB; rw [decide_eq_false hz, Bool.false_and, Bool.and_false]
        have es : fillS st i p = st := by unfold fillS; rw [eb, if_neg (by decide)]
        rw [es, eb]
        have qz : (checkL p != 0) = true := bne_iff_ne.mpr hz
        have qz2 : (checkL p == 0) = false := beq_eq_false_iff_ne.mpr hz
        rw [hi] at hIS
        have HIS := Lib.hid hIS
        have HR := Lib.hid hR
        clear hIS hR hi es eb hm hck hBW hC hpc hin hx1 hb1 hn hz
        go_enter Try.func47, Try.ntmps47
        go_wp2_with (first | (go_at_call 72; refine (HIS.out _).mono ?_; rintro e w1 ⟨rfl, rfl⟩) | (go_at_call 43; refine (HCK.out _ (Kd.C_below HCP.out HBW.out)).mono ?_; rintro e w3 ⟨rfl, hb⟩; have HB3 := Lib.hid hb; clear hb))
        go_ret2
        exact ⟨_, _, rfl, HR.out.below HB3.out, HB3.out⟩
    · have eb : fillB st i p = false := by unfold fillB; rw [Bool.eq_false_iff.2 hb1, Bool.and_false, Bool.and_false]
      have es : fillS st i p = st := by unfold fillS; rw [eb, if_neg (by decide)]
      rw [es, eb]
      have hn : stN (st.getD i.toNat none) ≠ 1 := fun h => hb1 ((isB_stN _).2 h)
      obtain ⟨sn, hsn⟩ : ∃ sn, stN (st.getD i.toNat none) = sn := ⟨_, rfl⟩
      rw [hsn] at hx0 hn
      have q1 : (sn != 1) = true := bne_iff_ne.mpr hn
      have q5 : (sn == 1) = false := beq_eq_false_iff_ne.mpr hn
      clear hsn
      rw [hi] at hIS
      have HIS := Lib.hid hIS
      have HR := Lib.hid hR
      clear hIS hR hi es eb hm hck hBW hC hpc hin hx1 hb1 hn
      go_enter Try.func47, Try.ntmps47
      go_wp2_with (go_at_call 72; refine (HIS.out _).mono ?_; rintro e w1 ⟨rfl, rfl⟩)
      go_ret2
      exact ⟨_, _, rfl, HR.out, Below.refl _ _⟩
set_option maxRecDepth 100000 in
set_option maxHeartbeats 2000000 in
theorem Ready16r_any (w W : World) (A : Option Addr) (m c : Nat) (st : List (Option (Option (List S56)))) (hR : Rl w W A m c st) (i : Int) :
    Calls Try.prog 52 #[.slice A m c, .int .i64 i] W fun e W' => e = .returned (.bool (readS st i).isSome) ∧ W' = W := by
  have hIS := fun W => Is16_any A m c i W
  have hrs : readS st i = if inS i m = true then (match st.getD i.toNat none with | some (some p) => some p | _ => none) else none := by unfold readS; rw [hR.hl]; try rfl
  cases hi : inS i m with
  | false =>
    rw [hi, if_neg (by decide)] at hrs
    rw [hrs]
    rw [hi] at hIS
    have HIS := Lib.hid hIS
    clear hIS hR hi hrs
    go_enter Try.func52, Try.ntmps52
    go_wp2_with (go_at_call 72; refine (HIS.out _).mono ?_; rintro e w1 ⟨rfl, rfl⟩)
    go_ret
    exact ⟨rfl, rfl⟩
  | true =>
    have hin := of_decide_eq_true hi
    obtain ⟨ad, B, d, hA, hx0, hx1, _, _⟩ := hR.at i hin.1 hin.2
    subst hA
    have q2 : (0 : Int) ≤ i := hin.1
    have q3 : i < (m : Int) := hin.2
    have e2 : (readS st i).isSome = (stN (st.getD i.toNat none) == 2) := by
      rw [hrs, hi, if_pos rfl]
      match st.getD i.toNat none with
      | none => rfl
      | some none => rfl
      | some (some p) => rfl
    obtain ⟨sn, hsn⟩ : ∃ sn, stN (st.getD i.toNat none) = sn := ⟨_, rfl⟩
    rw [hsn] at hx0 e2
    rw [e2]
    rw [hi] at hIS
    have HIS := Lib.hid hIS
    clear hIS hR hi hrs hin hx1 e2 hsn
    go_enter Try.func52, Try.ntmps52
    go_wp2_with (go_at_call 72; refine (HIS.out _).mono ?_; rintro e w1 ⟨rfl, rfl⟩)
    go_ret
    exact ⟨rfl, rfl⟩

set_option maxRecDepth 100000 in
set_option maxHeartbeats 2000000 in
theorem Size16r_any (w W : World) (hBW : Below w.heap.size w W) (A : Option Addr) (m c : Nat) (st : List (Option (Option (List S56)))) (hR : Rl w W A m c st) (i : Int) :
    Calls Try.prog 25 #[.slice A m c, .int .i64 i] W fun e W' => e = .returned (.tuple #[.int .i64 (orZ 0 (fun p => (p.length : Int)) (readS st i)), .bool (readS st i).isSome]) ∧ Below W.heap.size W W' := by
  have hRD := Ready16r_any w W A m c st hR i
  have hrs : readS st i = if inS i m = true then (match st.getD i.toNat none with | some (some p) => some p | _ => none) else none := by unfold readS; rw [hR.hl]; try rfl
  cases hr : readS st i with
  | none =>
    rw [hr] at hRD
    have HRD := Lib.hid hRD
    clear hRD hrs hr hR hBW
    go_enter Try.func25, Try.ntmps25
    go_wp2_with (go_at_call 52; refine (HRD.out).mono ?_; rintro e w1 ⟨rfl, rfl⟩)
    go_ret2
    exact ⟨rfl, Below.refl _ _⟩
  | some p =>
    rw [hr] at hRD hrs
    have hi : inS i m = true := by
      cases hi : inS i m with
      | true => rfl
      | false => rw [hi, if_neg (by decide)] at hrs; cases hrs
    rw [hi, if_pos rfl] at hrs
    have hst : st.getD i.toNat none = some (some p) := by
      cases hg : st.getD i.toNat none with
      | none => rw [hg] at hrs; cases hrs
      | some s =>
        cases s with
        | none => rw [hg] at hrs; cases hrs
        | some q => rw [hg] at hrs; cases hrs; rfl
    have hin := of_decide_eq_true hi
    obtain ⟨ad, B, d, hA, hx0, hx1, hd, hC⟩ := hR.at i hin.1 hin.2
    subst hA
    rw [hst] at hx1 hd hC
    have hx1 : W.cell? ⟨(ad.add (i.toNat * 2)).block, (ad.add (i.toNat * 2)).off + 1, none⟩ = some (.slice B p.length d) := hx1
    have hd : p.length ≤ d := hd
    have hC : Kd.C k56 w B p.length p := hC
    have q2 : (0 : Int) ≤ i := hin.1
    have q3 : i < (m : Int) := hin.2
    have HRD := Lib.hid hRD
    clear hRD hrs hr hR hBW hi hst hin hx0 hd hC
    go_enter Try.func25, Try.ntmps25
    go_wp2_with (go_at_call 52; refine (HRD.out).mono ?_; rintro e w1 ⟨rfl, rfl⟩)
    go_ret2
    exact ⟨rfl, Below.refl _ _⟩

set_option maxRecDepth 100000 in
set_option maxHeartbeats 2000000 in
theorem Pick16r_any (w W : World) (hBW : Below w.heap.size w W) (A : Option Addr) (m c : Nat) (st : List (Option (Option (List S56)))) (hR : Rl w W A m c st) (i : Int) (h : Int)
    (hyp : ∀ p, readS st i = some p → ∀ A c W', p.length ≤ c → Kd.C k56 W' A p.length p → Calls Try.prog 53 #[.slice A p.length c, .int .u64 h] W' fun e w' => e = .returned (.int .i64 (succL (ofL p) h)) ∧ Below W'.heap.size W' w') :
    Calls Try.prog 21 #[.slice A m c, .int .i64 i, .int .u64 h] W fun e W' => e = .returned (.tuple #[.int .i64 (orZ 0 (fun p => succL (ofL p) h) (readS st i)), .bool (readS st i).isSome]) ∧ Below W.heap.size W W' := by
  have hRD := Ready16r_any w W A m c st hR i
  have hrs : readS st i = if inS i m = true then (match st.getD i.toNat none with | some (some p) => some p | _ => none) else none := by unfold readS; rw [hR.hl]; try rfl
  cases hr : readS st i with
  | none =>
    rw [hr] at hRD
    have HRD := Lib.hid hRD
    clear hRD hrs hr hR hBW hyp
    go_enter Try.func21, Try.ntmps21
    go_wp2_with (go_at_call 52; refine (HRD.out).mono ?_; rintro e w1 ⟨rfl, rfl⟩)
    go_ret2
    exact ⟨rfl, Below.refl _ _⟩
  | some p =>
    rw [hr] at hRD hrs
    have hi : inS i m = true := by
      cases hi : inS i m with
      | true => rfl
      | false => rw [hi, if_neg (by decide)] at hrs; cases hrs
    rw [hi, if_pos rfl] at hrs
    have hst : st.getD i.toNat none = some (some p) := by
      cases hg : st.getD i.toNat none with
      | none => rw [hg] at hrs; cases hrs
      | some s =>
        cases s with
        | none => rw [hg] at hrs; cases hrs
        | some q => rw [hg] at hrs; cases hrs; rfl
    have hin := of_decide_eq_true hi
    obtain ⟨ad, B, d, hA, hx0, hx1, hd, hC⟩ := hR.at i hin.1 hin.2
    subst hA
    rw [hst] at hx1 hd hC
    have hx1 : W.cell? ⟨(ad.add (i.toNat * 2)).block, (ad.add (i.toNat * 2)).off + 1, none⟩ = some (.slice B p.length d) := hx1
    have hd : p.length ≤ d := hd
    have hC : Kd.C k56 w B p.length p := hC
    have q2 : (0 : Int) ≤ i := hin.1
    have q3 : i < (m : Int) := hin.2
    have HRD := Lib.hid hRD
    have HPK := Lib.hid (hyp p hr B d W hd (Kd.C_below hC hBW))
    clear hRD hrs hr hR hBW hi hst hin hx0 hd hC hyp
    obtain ⟨y, hy⟩ : ∃ y, succL (ofL p) h = y := ⟨_, rfl⟩
    show Calls _ _ _ _ fun e W' => e = .returned (.tuple #[.int .i64 (succL (ofL p) h), .bool true]) ∧ Below W.heap.size W W'
    rw [hy] at HPK ⊢
    clear hy
    go_enter Try.func21, Try.ntmps21
    go_wp2_with (first | (go_at_call 52; refine (HRD.out).mono ?_; rintro e w1 ⟨rfl, rfl⟩) | (go_at_call 53; refine HPK.out.mono ?_; rintro e w2 ⟨rfl, hb⟩; have HB2 := Lib.hid hb; clear hb))
    go_ret2
    exact ⟨rfl, HB2.out⟩

set_option maxRecDepth 100000 in
set_option maxHeartbeats 2000000 in
theorem Has16r_any (w W : World) (hBW : Below w.heap.size w W) (A : Option Addr) (m c : Nat) (st : List (Option (Option (List S56)))) (hR : Rl w W A m c st) (i : Int) (id : Int)
    (hyp : ∀ p, readS st i = some p → ∀ A c W', p.length ≤ c → Kd.C k56 W' A p.length p → Calls Try.prog 44 #[.slice A p.length c, .int .i64 id] W' fun e w' => e = .returned (.int .i64 (findL p id)) ∧ Below W'.heap.size W' w') :
    Calls Try.prog 23 #[.slice A m c, .int .i64 i, .int .i64 id] W fun e W' => e = .returned (.tuple #[.bool (orZ false (fun p => decide (0 ≤ findL p id)) (readS st i)), .bool (readS st i).isSome]) ∧ Below W.heap.size W W' := by
  have hRD := Ready16r_any w W A m c st hR i
  have hrs : readS st i = if inS i m = true then (match st.getD i.toNat none with | some (some p) => some p | _ => none) else none := by unfold readS; rw [hR.hl]; try rfl
  cases hr : readS st i with
  | none =>
    rw [hr] at hRD
    have HRD := Lib.hid hRD
    clear hRD hrs hr hR hBW hyp
    go_enter Try.func23, Try.ntmps23
    go_wp2_with (go_at_call 52; refine (HRD.out).mono ?_; rintro e w1 ⟨rfl, rfl⟩)
    go_ret2
    exact ⟨rfl, Below.refl _ _⟩
  | some p =>
    rw [hr] at hRD hrs
    have hi : inS i m = true := by
      cases hi : inS i m with
      | true => rfl
      | false => rw [hi, if_neg (by decide)] at hrs; cases hrs
    rw [hi, if_pos rfl] at hrs
    have hst : st.getD i.toNat none = some (some p) := by
      cases hg : st.getD i.toNat none with
      | none => rw [hg] at hrs; cases hrs
      | some s =>
        cases s with
        | none => rw [hg] at hrs; cases hrs
        | some q => rw [hg] at hrs; cases hrs; rfl
    have hin := of_decide_eq_true hi
    obtain ⟨ad, B, d, hA, hx0, hx1, hd, hC⟩ := hR.at i hin.1 hin.2
    subst hA
    rw [hst] at hx1 hd hC
    have hx1 : W.cell? ⟨(ad.add (i.toNat * 2)).block, (ad.add (i.toNat * 2)).off + 1, none⟩ = some (.slice B p.length d) := hx1
    have hd : p.length ≤ d := hd
    have hC : Kd.C k56 w B p.length p := hC
    have q2 : (0 : Int) ≤ i := hin.1
    have q3 : i < (m : Int) := hin.2
    have HRD := Lib.hid hRD
    have HPK := Lib.hid (hyp p hr B d W hd (Kd.C_below hC hBW))
    clear hRD hrs hr hR hBW hi hst hin hx0 hd hC hyp
    obtain ⟨y, hy⟩ : ∃ y, findL p id = y := ⟨_, rfl⟩
    show Calls _ _ _ _ fun e W' => e = .returned (.tuple #[.bool (decide (0 ≤ findL p id)), .bool true]) ∧ Below W.heap.size W W'
    rw [hy] at HPK ⊢
    clear hy
    go_enter Try.func23, Try.ntmps23
    go_wp2_with (first | (go_at_call 52; refine (HRD.out).mono ?_; rintro e w1 ⟨rfl, rfl⟩) | (go_at_call 44; refine HPK.out.mono ?_; rintro e w2 ⟨rfl, hb⟩; have HB2 := Lib.hid hb; clear hb))
    go_ret2
    exact ⟨rfl, HB2.out⟩

set_option maxRecDepth 100000 in
set_option maxHeartbeats 1000000 in
theorem New16_any (w : World) (n : Int) (m : Nat) (hm : mx 0 (mn n 8) = (m : Int)) (W : World) :
    Calls Try.prog 17 #[.int .i64 n] W fun e W' => ∃ A c, e = .returned (.slice A m c) ∧ Rl w W' A m c (List.replicate m none) ∧ Below W.heap.size W W' := by
  obtain ⟨y, hy⟩ : ∃ y, mn n 8 = y := ⟨_, rfl⟩
  rw [hy] at hm
  have hy_ : (if 8 < n then 8 else n) = y := hy
  have hm_ : (if 0 < y then y else 0) = (m : Int) := hm
  have hm8 : m ≤ 8 := by unfold mn at hy; unfold mx at hm; split at hy <;> split at hm <;> omega
  have HM := Lib.hid hm8
  have q0 : (0 : Int) ≤ (m : Int) := by omega
  clear hy hm hm8
  go_enter Try.func17, Try.ntmps17
  go_wp2_with ((with_reducible refine gate_mk16 (t := 28) rfl ?_); refine Kd.R_make (Kd.raw 2) (w0 := W) W.heap.size 84 rfl rfl 28 _ _ rfl (m : Int) rfl rfl Try.underlying28 (.agg #[.int .i64 0, .slice none 0 0]) 32 infoSl rfl (by decide) (by decide) [.int .i64 0, .slice none 0 0] (ok := fun _ => True) (okp := fun _ => False) ⟨rfl, rfl, (SlotR.nil w none rfl).raw.2⟩ (fun _ h => h.elim) trivial q0 ?mL (Below.refl _ _) (Nat.le_refl _) ?_; (case mL => have := HM.out; omega); intro v w1 hr hb hg hn; obtain ⟨A1, c1, rfl⟩ := Kd.R_slice hr; rw [List.length_replicate, Int.toNat_natCast] at hr ⊢; have HR := Lib.hid hr; have HB := Lib.hid hb; clear hr hb hg hn)
  go_ret
  refine ⟨_, _, rfl, ⟨⟨_, Kd.R_lower HR.out (Nat.zero_le _), List.length_replicate, fun i hi => ?_⟩, List.length_replicate⟩, HB.out⟩
  rw [List.getD_eq_getElem?_getD, List.getElem?_replicate, if_pos hi, List.getD_eq_getElem?_getD, List.getElem?_replicate, if_pos hi]
  exact SlotR.nil w none rfl
set_option maxRecDepth 100000 in
set_option maxHeartbeats 4000000 in
theorem told16_any (w W : World) (hBW : Below w.heap.size w W) (A : Option Addr) (m c : Nat) (st : List (Option (Option (List S56)))) (hm : m ≤ 8) (hR : Rl w W A m c st) (k i : Int) (A2 : Option Addr) (c2 : Nat) (p : List S56) (hpc : p.length ≤ c2) (hC : Kd.C k56 w A2 p.length p)
    (hck : ∀ W', Kd.C k56 W' A2 p.length p → Calls Try.prog 43 #[.slice A2 p.length c2] W' fun e w' => e = .returned (.int .i64 (checkL p)) ∧ Below W'.heap.size W' w') :
    Calls Try.prog 19 #[.slice A m c, .agg #[.int .i64 k, .int .i64 i, .slice A2 p.length c2]] W fun e W' => ∃ A' c', e = .returned (.tuple #[.slice A' m c', .bool (actB st k i p)]) ∧ Rl w W' A' m c' (actS st k i p) ∧ Below W.heap.size W W' := by
  have hl := hR.hl
  have hb0 := below_alloc (Below.refl W.heap.size W) (.cells #[.int .i64 k, .int .i64 i, .slice A2 p.length c2] 33)
  have HB0 := Lib.hid hb0
  have hR := hR.below hb0
  have hBW := hBW.trans (hb0.mono hBW.size)
  by_cases h0 : k = 0
  · have HC := Lib.hid (Begin16_any w _ A m c st hm hR i)
    have eb : actB st k i p = inS i m := by unfold actB; rw [if_pos h0, hl]
    have es : actS st k i p = putS st i (some none) := by unfold actS; rw [if_pos h0]
    have e0 : (k == 0) = true := beq_iff_eq.mpr h0
    rw [eb, es]
    clear hR hC hl h0 eb es hpc hm hck hBW hb0
    go_enter Try.func19, Try.ntmps19
    go_wp2_with (go_at_call 46; refine HC.out.mono ?_; rintro e w1 ⟨A', c', rfl, h1, h2⟩; have H1 := Lib.hid h1; have H2 := Lib.hid h2; clear h1 h2)
    go_ret2
    exact ⟨_, _, rfl, H1.out, HB0.out.trans (H2.out.mono HB0.out.size)⟩
  by_cases h1 : k = 1
  · have HC := Lib.hid (Fill16_any w _ hBW A m c st hm hR i A2 c2 p hpc hC hck)
    have eb : actB st k i p = fillB st i p := by unfold actB; rw [if_neg h0, if_pos h1]
    have es : actS st k i p = fillS st i p := by unfold actS; rw [if_neg h0, if_pos h1]
    have e0 : (k == 0) = false := beq_eq_false_iff_ne.mpr h0
    have e1 : (k == 1) = true := beq_iff_eq.mpr h1
    rw [eb, es]
    clear hR hC hl h0 h1 eb es hpc hm hck hBW hb0
    go_enter Try.func19, Try.ntmps19
    go_wp2_with (go_at_call 47; refine HC.out.mono ?_; rintro e w1 ⟨A', c', rfl, h1, h2⟩; have H1 := Lib.hid h1; have H2 := Lib.hid h2; clear h1 h2)
    go_ret2
    exact ⟨_, _, rfl, H1.out, HB0.out.trans (H2.out.mono HB0.out.size)⟩
  · have HC := Lib.hid (Spoil16_any w _ A m c st hm hR i)
    have eb : actB st k i p = inS i m := by unfold actB; rw [if_neg h0, if_neg h1, hl]
    have es : actS st k i p = putS st i none := by unfold actS; rw [if_neg h0, if_neg h1]
    have e0 : (k == 0) = false := beq_eq_false_iff_ne.mpr h0
    have e1 : (k == 1) = false := beq_eq_false_iff_ne.mpr h1
    rw [eb, es]
    clear hR hC hl h0 h1 eb es hpc hm hck hBW hb0
    go_enter Try.func19, Try.ntmps19
    go_wp2_with (go_at_call 48; refine HC.out.mono ?_; rintro e w1 ⟨A', c', rfl, h1, h2⟩; have H1 := Lib.hid h1; have H2 := Lib.hid h2; clear h1 h2)
    go_ret2
    exact ⟨_, _, rfl, H1.out, HB0.out.trans (H2.out.mono HB0.out.size)⟩
end

/-! ### gangplankref16_Ready: function 52 -/
def gangplankref16_Ready.f (l0 : List (S84)) (a1 : Int) : Option (Bool) := (gangplankref16_Is.f l0 a1).bind fun t197 => (if t197 = true then (if 0 ≤ a1 then (if a1 < (l0.length : Int) then (some (((rd_T84 l0 a1).f0) == 2)) else (none)) else (none)) else (some false))
set_option maxHeartbeats 8000000 in
set_option maxRecDepth 100000 in
theorem gangplankref16_Ready.calls (A0 : Option Addr) (c0 : Nat) (l0 : List (S84)) (a1 : Int) (r : Bool) (w : World) (hr0 : Kd.C k84 w A0 l0.length l0) (hc0 : l0.length ≤ c0) (h : gangplankref16_Ready.f l0 a1 = some r) :
    Calls Try.prog 52 #[.slice A0 l0.length c0, .int .i64 a1] w fun e w' => e = .returned (.bool r) ∧ Drawn0 w w' := by
  have HR0 := Aside0.mk hr0
  have HC0 := Aside0.mk hc0
  clear hr0 hc0
  have H : ((gangplankref16_Is.f l0 a1).bind fun t197 => (if t197 = true then (if 0 ≤ a1 then (if a1 < (l0.length : Int) then (some (((rd_T84 l0 a1).f0) == 2)) else (none)) else (none)) else (some false))) = some r := h
  clear h
  replace H := Option.bind_eq_some_iff.mp H
  obtain ⟨t197, A30, H⟩ := H
  replace H : (if t197 = true then (if 0 ≤ a1 then (if a1 < (l0.length : Int) then (some (((rd_T84 l0 a1).f0) == 2)) else (none)) else (none)) else (some false)) = some r := H
  have A3 := Aside0.mk A30
  clear A30
  by_cases c4 : t197 = true
  · subst c4
    have H1 : (if 0 ≤ a1 then (if a1 < (l0.length : Int) then (some (((rd_T84 l0 a1).f0) == 2)) else (none)) else (none)) = some r := by first | (rw [if_pos rfl] at H; exact H) | (rw [if_pos trivial] at H; exact H)
    clear H
    have H := H1
    clear H1
    by_cases c5 : 0 ≤ a1
    · rw [if_pos c5] at H
      have c5b0 : decide (0 ≤ a1) = true := decide_eq_true c5
      clear c5
      by_cases c6 : a1 < (l0.length : Int)
      · rw [if_pos c6] at H
        have c6b0 : decide (a1 < (l0.length : Int)) = true := decide_eq_true c6
        clear c6
        obtain rfl := Option.some.inj H
        go_enter Try.func52, Try.ntmps52
        go_wp2_with (first | ((with_reducible refine gate_callee (f := 72) rfl ?_); refine goesL_ (some 7) rfl rfl Try.func72 (by kernel_rfl) rfl #[.slice A0 l0.length c0, .int .i64 a1] rfl (by (try simp only [List.map_toArray, List.map_cons, List.map_nil]); first | done | rfl | (simp only [List.length_drop, List.length_take]; rfl)) ?_; (with_reducible refine (gangplankref16_Is.calls _ _ l0 a1 true _ ?side1 ?side2 A3.out).mono ?_); (case side1 => repeat (first | exact HR0.out | (with_reducible refine Kd.C_alloc ?_ _) | (with_reducible refine Kd.C_drewN ?_ _) | (with_reducible refine Kd.C_drew ?_))); (case side2 => exact HC0.out); (try clear A3); rintro e w' ⟨rfl, ⟨nd, rfl⟩⟩; refine ⟨_, rfl, ?_⟩; have p198 : 0 ≤ (a1 : Int) := of_decide_eq_true (by first | (with_reducible assumption) | assumption); have q198 : a1 < (l0.length : Int) := of_decide_eq_true (by first | (with_reducible assumption) | assumption); obtain ⟨ad198, A198_1, c198_1, e198, hx198_0, hx198_1, hl198_1, hi198_1⟩ := at_T84 HR0.out a1 p198 q198; cases e198; have HR198_1 := Aside0.mk hi198_1; have HC198_1 := Aside0.mk hl198_1; clear hi198_1 hl198_1; replace p198 := eq_true p198; replace q198 := eq_true q198))
        go_ret
        exact ⟨by first | rfl | (simp; done) | (simp [*]; done), by repeat (first | exact Drawn0.refl _ | apply Drawn0.step)⟩
      · rw [if_neg c6] at H
        exact absurd H (by simp)
    · rw [if_neg c5] at H
      exact absurd H (by simp)
  · replace c4 := Bool.eq_false_iff.mpr c4
    subst c4
    have H1 : (some false) = some r := by rw [if_neg (show ¬ (false = true) by decide)] at H; exact H
    clear H
    have H := H1
    clear H1
    obtain rfl := Option.some.inj H
    go_enter Try.func52, Try.ntmps52
    go_wp2_with (first | ((with_reducible refine gate_callee (f := 72) rfl ?_); refine goesL_ (some 7) rfl rfl Try.func72 (by kernel_rfl) rfl #[.slice A0 l0.length c0, .int .i64 a1] rfl (by (try simp only [List.map_toArray, List.map_cons, List.map_nil]); first | done | rfl | (simp only [List.length_drop, List.length_take]; rfl)) ?_; (with_reducible refine (gangplankref16_Is.calls _ _ l0 a1 false _ ?side1 ?side2 A3.out).mono ?_); (case side1 => repeat (first | exact HR0.out | (with_reducible refine Kd.C_alloc ?_ _) | (with_reducible refine Kd.C_drewN ?_ _) | (with_reducible refine Kd.C_drew ?_))); (case side2 => exact HC0.out); (try clear A3); rintro e w' ⟨rfl, ⟨nd, rfl⟩⟩; refine ⟨_, rfl, ?_⟩))
    go_ret
    exact ⟨by first | rfl | (simp; done) | (simp [*]; done), by repeat (first | exact Drawn0.refl _ | apply Drawn0.step)⟩

/-! ### gangplankref16_Pick: function 21 -/
def gangplankref16_Pick.f (k : Nat) (l0 : List (S84)) (a1 : Int) (a2 : Int) : Option (Int × Bool) := (gangplankref16_Ready.f l0 a1).bind fun t199 => (if t199 = true then (if 0 ≤ a1 then (if a1 < (l0.length : Int) then ((gangplankref10_Pick.f k ((rd_T84 l0 a1).f1) a2).bind fun t201 => (some (t201, true))) else (none)) else (none)) else (some (0, false)))
theorem gangplankref16_Pick.mono : ∀ a0 a1 a2 k, LeO (gangplankref16_Pick.f k a0 a1 a2) (gangplankref16_Pick.f (k + 1) a0 a1 a2) := by
  intro a0 a1 a2 k
  unfold gangplankref16_Pick.f
  repeat' first
      | (with_reducible exact gangplankref10_Pick.mono _ _ _)
      | (with_reducible exact LeO.refl _)
      | (with_reducible exact LeO.none _)
      | (with_reducible refine LeO.ite ?_ ?_)
      | (with_reducible refine LeO.bind ?_ (fun _ => ?_))
      | exact gangplankref10_Pick.mono _ _ _
      | exact LeO.none _
      | refine LeO.ite ?_ ?_
      | refine LeO.bind ?_ (fun _ => ?_)
set_option maxHeartbeats 8000000 in
set_option maxRecDepth 100000 in
theorem gangplankref16_Pick.calls (k : Nat) (A0 : Option Addr) (c0 : Nat) (l0 : List (S84)) (a1 : Int) (a2 : Int) (r1 : Int) (r2 : Bool) (w : World) (hr0 : Kd.C k84 w A0 l0.length l0) (hc0 : l0.length ≤ c0) (h : gangplankref16_Pick.f k l0 a1 a2 = some (r1, r2)) :
    Calls Try.prog 21 #[.slice A0 l0.length c0, .int .i64 a1, .int .u64 a2] w fun e w' => e = .returned (.tuple #[.int .i64 r1, .bool r2]) ∧ Below w.heap.size w w' := by
  have HR0 := Aside0.mk hr0
  have HC0 := Aside0.mk hc0
  clear hr0 hc0
  have HB := Aside0.mk (Below.refl w.heap.size w)
  have H : ((gangplankref16_Ready.f l0 a1).bind fun t199 => (if t199 = true then (if 0 ≤ a1 then (if a1 < (l0.length : Int) then ((gangplankref10_Pick.f k ((rd_T84 l0 a1).f1) a2).bind fun t201 => (some (t201, true))) else (none)) else (none)) else (some (0, false)))) = some (r1, r2) := h
  clear h
  replace H := Option.bind_eq_some_iff.mp H
  obtain ⟨t199, A40, H⟩ := H
  replace H : (if t199 = true then (if 0 ≤ a1 then (if a1 < (l0.length : Int) then ((gangplankref10_Pick.f k ((rd_T84 l0 a1).f1) a2).bind fun t201 => (some (t201, true))) else (none)) else (none)) else (some (0, false))) = some (r1, r2) := H
  have A4 := Aside0.mk A40
  clear A40
  by_cases c5 : t199 = true
  · subst c5
    have H1 : (if 0 ≤ a1 then (if a1 < (l0.length : Int) then ((gangplankref10_Pick.f k ((rd_T84 l0 a1).f1) a2).bind fun t201 => (some (t201, true))) else (none)) else (none)) = some (r1, r2) := by first | (rw [if_pos rfl] at H; exact H) | (rw [if_pos trivial] at H; exact H)
    clear H
    have H := H1
    clear H1
    by_cases c6 : 0 ≤ a1
    · rw [if_pos c6] at H
      have c6b0 : decide (0 ≤ a1) = true := decide_eq_true c6
      clear c6
      by_cases c7 : a1 < (l0.length : Int)
      · rw [if_pos c7] at H
        have c7b0 : decide (a1 < (l0.length : Int)) = true := decide_eq_true c7
        clear c7
        replace H := Option.bind_eq_some_iff.mp H
        obtain ⟨t201, A80, H⟩ := H
        replace H : (some (t201, true)) = some (r1, r2) := H
        have A8 := Aside0.mk A80
        clear A80
        simp only [Option.some.injEq, Prod.mk.injEq] at H
        obtain ⟨rfl, rfl⟩ := H
        go_enter Try.func21, Try.ntmps21
        go_wp2_with (first | ((with_reducible refine gate_callee (f := 52) rfl ?_); refine goesL_ (some 10) rfl rfl Try.func52 (by kernel_rfl) rfl #[.slice A0 l0.length c0, .int .i64 a1] rfl (by (try simp only [List.map_toArray, List.map_cons, List.map_nil]); first | done | rfl | (simp only [List.length_drop, List.length_take]; rfl)) ?_; (with_reducible refine (gangplankref16_Ready.calls _ _ l0 a1 true _ ?side1 ?side2 A4.out).mono ?_); (case side1 => repeat (first | exact HR0.out | (with_reducible refine Kd.C_alloc ?_ _) | (with_reducible refine Kd.C_drewN ?_ _) | (with_reducible refine Kd.C_drew ?_))); (case side2 => exact HC0.out); (try clear A4); rintro e w' ⟨rfl, ⟨nd, rfl⟩⟩; refine ⟨_, rfl, ?_⟩; have p200 : 0 ≤ (a1 : Int) := of_decide_eq_true (by first | (with_reducible assumption) | assumption); have q200 : a1 < (l0.length : Int) := of_decide_eq_true (by first | (with_reducible assumption) | assumption); obtain ⟨ad200, A200_1, c200_1, e200, hx200_0, hx200_1, hl200_1, hi200_1⟩ := at_T84 HR0.out a1 p200 q200; cases e200; have HR200_1 := Aside0.mk hi200_1; have HC200_1 := Aside0.mk hl200_1; clear hi200_1 hl200_1; replace p200 := eq_true p200; replace q200 := eq_true q200) | ((with_reducible refine gate_callee (f := 53) rfl ?_); refine goesL_ (some 18) rfl rfl Try.func53 (by kernel_rfl) rfl #[.slice A200_1 ((rd_T84 l0 a1).f1).length c200_1, .int .u64 a2] rfl (by (try simp only [List.map_toArray, List.map_cons, List.map_nil]); first | done | rfl | (simp only [List.length_drop, List.length_take]; rfl)) ?_; (with_reducible refine (gangplankref10_Pick.calls k _ _ ((rd_T84 l0 a1).f1) a2 t201 _ ?side1 ?side2 A8.out).mono ?_); (case side1 => repeat (first | exact HR200_1.out | (with_reducible refine Kd.C_alloc ?_ _) | (with_reducible refine Kd.C_drewN ?_ _) | (with_reducible refine Kd.C_drew ?_))); (case side2 => exact HC200_1.out); (try clear A8); rintro e w9 ⟨rfl, hb⟩; refine ⟨_, rfl, ?_⟩; have n0_ := Aside0.mk (below_step (by repeat (first | (with_reducible first | exact HB.out | apply below_alloc | apply pw_below_drewN | apply below_drew1) | exact HB.out)) hb); clear HB; have HB := n0_; clear n0_; (try clear hb); (try clear hb2); (try clear hk); (try clear hi)))
        go_ret2
        exact ⟨by first | rfl | (simp [errW_none, errW_some] <;> rfl) | (simp [*, errW_none, errW_some] <;> rfl), by repeat (first | (with_reducible first | exact HB.out | apply below_alloc | apply pw_below_drewN | apply below_drew1) | exact HB.out)⟩
      · rw [if_neg c7] at H
        exact absurd H (by simp)
    · rw [if_neg c6] at H
      exact absurd H (by simp)
  · replace c5 := Bool.eq_false_iff.mpr c5
    subst c5
    have H1 : (some (0, false)) = some (r1, r2) := by rw [if_neg (show ¬ (false = true) by decide)] at H; exact H
    clear H
    have H := H1
    clear H1
    simp only [Option.some.injEq, Prod.mk.injEq] at H
    obtain ⟨rfl, rfl⟩ := H
    go_enter Try.func21, Try.ntmps21
    go_wp2_with (first | ((with_reducible refine gate_callee (f := 52) rfl ?_); refine goesL_ (some 10) rfl rfl Try.func52 (by kernel_rfl) rfl #[.slice A0 l0.length c0, .int .i64 a1] rfl (by (try simp only [List.map_toArray, List.map_cons, List.map_nil]); first | done | rfl | (simp only [List.length_drop, List.length_take]; rfl)) ?_; (with_reducible refine (gangplankref16_Ready.calls _ _ l0 a1 false _ ?side1 ?side2 A4.out).mono ?_); (case side1 => repeat (first | exact HR0.out | (with_reducible refine Kd.C_alloc ?_ _) | (with_reducible refine Kd.C_drewN ?_ _) | (with_reducible refine Kd.C_drew ?_))); (case side2 => exact HC0.out); (try clear A4); rintro e w' ⟨rfl, ⟨nd, rfl⟩⟩; refine ⟨_, rfl, ?_⟩))
    go_ret2
    exact ⟨by first | rfl | (simp [errW_none, errW_some] <;> rfl) | (simp [*, errW_none, errW_some] <;> rfl), by repeat (first | (with_reducible first | exact HB.out | apply below_alloc | apply pw_below_drewN | apply below_drew1) | exact HB.out)⟩

/-! ### gangplankref16_Has: function 23 -/
def gangplankref16_Has.f (k : Nat) (l0 : List (S84)) (a1 : Int) (a2 : Int) : Option (Bool × Bool) := (gangplankref16_Ready.f l0 a1).bind fun t202 => (if t202 = true then (if 0 ≤ a1 then (if a1 < (l0.length : Int) then ((gangplankref08_Find.f k ((rd_T84 l0 a1).f1) a2).bind fun t204 => (some (decide (t204 ≥ 0), true))) else (none)) else (none)) else (some (false, false)))
theorem gangplankref16_Has.mono : ∀ a0 a1 a2 k, LeO (gangplankref16_Has.f k a0 a1 a2) (gangplankref16_Has.f (k + 1) a0 a1 a2) := by
  intro a0 a1 a2 k
  unfold gangplankref16_Has.f
  repeat' first
      | (with_reducible exact gangplankref08_Find.mono _ _ _)
      | (with_reducible exact LeO.refl _)
      | (with_reducible exact LeO.none _)
      | (with_reducible refine LeO.ite ?_ ?_)
      | (with_reducible refine LeO.bind ?_ (fun _ => ?_))
      | exact gangplankref08_Find.mono _ _ _
      | exact LeO.none _
      | refine LeO.ite ?_ ?_
      | refine LeO.bind ?_ (fun _ => ?_)
set_option maxHeartbeats 8000000 in
set_option maxRecDepth 100000 in
theorem gangplankref16_Has.calls (k : Nat) (A0 : Option Addr) (c0 : Nat) (l0 : List (S84)) (a1 : Int) (a2 : Int) (r1 : Bool) (r2 : Bool) (w : World) (hr0 : Kd.C k84 w A0 l0.length l0) (hc0 : l0.length ≤ c0) (h : gangplankref16_Has.f k l0 a1 a2 = some (r1, r2)) :
    Calls Try.prog 23 #[.slice A0 l0.length c0, .int .i64 a1, .int .i64 a2] w fun e w' => e = .returned (.tuple #[.bool r1, .bool r2]) ∧ Drawn0 w w' := by
  have HR0 := Aside0.mk hr0
  have HC0 := Aside0.mk hc0
  clear hr0 hc0
  have H : ((gangplankref16_Ready.f l0 a1).bind fun t202 => (if t202 = true then (if 0 ≤ a1 then (if a1 < (l0.length : Int) then ((gangplankref08_Find.f k ((rd_T84 l0 a1).f1) a2).bind fun t204 => (some (decide (t204 ≥ 0), true))) else (none)) else (none)) else (some (false, false)))) = some (r1, r2) := h
  clear h
  replace H := Option.bind_eq_some_iff.mp H
  obtain ⟨t202, A40, H⟩ := H
  replace H : (if t202 = true then (if 0 ≤ a1 then (if a1 < (l0.length : Int) then ((gangplankref08_Find.f k ((rd_T84 l0 a1).f1) a2).bind fun t204 => (some (decide (t204 ≥ 0), true))) else (none)) else (none)) else (some (false, false))) = some (r1, r2) := H
  have A4 := Aside0.mk A40
  clear A40
  by_cases c5 : t202 = true
  · subst c5
    have H1 : (if 0 ≤ a1 then (if a1 < (l0.length : Int) then ((gangplankref08_Find.f k ((rd_T84 l0 a1).f1) a2).bind fun t204 => (some (decide (t204 ≥ 0), true))) else (none)) else (none)) = some (r1, r2) := by first | (rw [if_pos rfl] at H; exact H) | (rw [if_pos trivial] at H; exact H)
    clear H
    have H := H1
    clear H1
    by_cases c6 : 0 ≤ a1
    · rw [if_pos c6] at H
      have c6b0 : decide (0 ≤ a1) = true := decide_eq_true c6
      clear c6
      by_cases c7 : a1 < (l0.length : Int)
      · rw [if_pos c7] at H
        have c7b0 : decide (a1 < (l0.length : Int)) = true := decide_eq_true c7
        clear c7
        replace H := Option.bind_eq_some_iff.mp H
        obtain ⟨t204, A80, H⟩ := H
        replace H : (some (decide (t204 ≥ 0), true)) = some (r1, r2) := H
        have A8 := Aside0.mk A80
        clear A80
        simp only [Option.some.injEq, Prod.mk.injEq] at H
        obtain ⟨rfl, rfl⟩ := H
        go_enter Try.func23, Try.ntmps23
        go_wp2_with (first | ((with_reducible refine gate_callee (f := 52) rfl ?_); refine goesL_ (some 10) rfl rfl Try.func52 (by kernel_rfl) rfl #[.slice A0 l0.length c0, .int .i64 a1] rfl (by (try simp only [List.map_toArray, List.map_cons, List.map_nil]); first | done | rfl | (simp only [List.length_drop, List.length_take]; rfl)) ?_; (with_reducible refine (gangplankref16_Ready.calls _ _ l0 a1 true _ ?side1 ?side2 A4.out).mono ?_); (case side1 => repeat (first | exact HR0.out | (with_reducible refine Kd.C_alloc ?_ _) | (with_reducible refine Kd.C_drewN ?_ _) | (with_reducible refine Kd.C_drew ?_))); (case side2 => exact HC0.out); (try clear A4); rintro e w' ⟨rfl, ⟨nd, rfl⟩⟩; refine ⟨_, rfl, ?_⟩; have p203 : 0 ≤ (a1 : Int) := of_decide_eq_true (by first | (with_reducible assumption) | assumption); have q203 : a1 < (l0.length : Int) := of_decide_eq_true (by first | (with_reducible assumption) | assumption); obtain ⟨ad203, A203_1, c203_1, e203, hx203_0, hx203_1, hl203_1, hi203_1⟩ := at_T84 HR0.out a1 p203 q203; cases e203; have HR203_1 := Aside0.mk hi203_1; have HC203_1 := Aside0.mk hl203_1; clear hi203_1 hl203_1; replace p203 := eq_true p203; replace q203 := eq_true q203) | ((with_reducible refine gate_callee (f := 44) rfl ?_); refine goesL_ (some 18) rfl rfl Try.func44 (by kernel_rfl) rfl #[.slice A203_1 ((rd_T84 l0 a1).f1).length c203_1, .int .i64 a2] rfl (by (try simp only [List.map_toArray, List.map_cons, List.map_nil]); first | done | rfl | (simp only [List.length_drop, List.length_take]; rfl)) ?_; (with_reducible refine (gangplankref08_Find.calls k _ _ ((rd_T84 l0 a1).f1) a2 t204 _ ?side1 ?side2 A8.out).mono ?_); (case side1 => repeat (first | exact HR203_1.out | (with_reducible refine Kd.C_alloc ?_ _) | (with_reducible refine Kd.C_drewN ?_ _) | (with_reducible refine Kd.C_drew ?_))); (case side2 => exact HC203_1.out); (try clear A8); rintro e w' ⟨rfl, ⟨nd, rfl⟩⟩; refine ⟨_, rfl, ?_⟩))
        go_ret2
        exact ⟨by first | rfl | (simp; done) | (simp [*]; done), by repeat (first | exact Drawn0.refl _ | apply Drawn0.step)⟩
      · rw [if_neg c7] at H
        exact absurd H (by simp)
    · rw [if_neg c6] at H
      exact absurd H (by simp)
  · replace c5 := Bool.eq_false_iff.mpr c5
    subst c5
    have H1 : (some (false, false)) = some (r1, r2) := by rw [if_neg (show ¬ (false = true) by decide)] at H; exact H
    clear H
    have H := H1
    clear H1
    simp only [Option.some.injEq, Prod.mk.injEq] at H
    obtain ⟨rfl, rfl⟩ := H
    go_enter Try.func23, Try.ntmps23
    go_wp2_with (first | ((with_reducible refine gate_callee (f := 52) rfl ?_); refine goesL_ (some 10) rfl rfl Try.func52 (by kernel_rfl) rfl #[.slice A0 l0.length c0, .int .i64 a1] rfl (by (try simp only [List.map_toArray, List.map_cons, List.map_nil]); first | done | rfl | (simp only [List.length_drop, List.length_take]; rfl)) ?_; (with_reducible refine (gangplankref16_Ready.calls _ _ l0 a1 false _ ?side1 ?side2 A4.out).mono ?_); (case side1 => repeat (first | exact HR0.out | (with_reducible refine Kd.C_alloc ?_ _) | (with_reducible refine Kd.C_drewN ?_ _) | (with_reducible refine Kd.C_drew ?_))); (case side2 => exact HC0.out); (try clear A4); rintro e w' ⟨rfl, ⟨nd, rfl⟩⟩; refine ⟨_, rfl, ?_⟩))
    go_ret2
    exact ⟨by first | rfl | (simp; done) | (simp [*]; done), by repeat (first | exact Drawn0.refl _ | apply Drawn0.step)⟩

/-! ### gangplankref16_Size: function 25 -/
def gangplankref16_Size.f (l0 : List (S84)) (a1 : Int) : Option (Int × Bool) := (gangplankref16_Ready.f l0 a1).bind fun t205 => (if t205 = true then (if 0 ≤ a1 then (if a1 < (l0.length : Int) then (some ((((rd_T84 l0 a1).f1).length : Int), true)) else (none)) else (none)) else (some (0, false)))
set_option maxHeartbeats 8000000 in
set_option maxRecDepth 100000 in
theorem gangplankref16_Size.calls (A0 : Option Addr) (c0 : Nat) (l0 : List (S84)) (a1 : Int) (r1 : Int) (r2 : Bool) (w : World) (hr0 : Kd.C k84 w A0 l0.length l0) (hc0 : l0.length ≤ c0) (h : gangplankref16_Size.f l0 a1 = some (r1, r2)) :
    Calls Try.prog 25 #[.slice A0 l0.length c0, .int .i64 a1] w fun e w' => e = .returned (.tuple #[.int .i64 r1, .bool r2]) ∧ Drawn0 w w' := by
  have HR0 := Aside0.mk hr0
  have HC0 := Aside0.mk hc0
  clear hr0 hc0
  have H : ((gangplankref16_Ready.f l0 a1).bind fun t205 => (if t205 = true then (if 0 ≤ a1 then (if a1 < (l0.length : Int) then (some ((((rd_T84 l0 a1).f1).length : Int), true)) else (none)) else (none)) else (some (0, false)))) = some (r1, r2) := h
  clear h
  replace H := Option.bind_eq_some_iff.mp H
  obtain ⟨t205, A30, H⟩ := H
  replace H : (if t205 = true then (if 0 ≤ a1 then (if a1 < (l0.length : Int) then (some ((((rd_T84 l0 a1).f1).length : Int), true)) else (none)) else (none)) else (some (0, false))) = some (r1, r2) := H
  have A3 := Aside0.mk A30
  clear A30
  by_cases c4 : t205 = true
  · subst c4
    have H1 : (if 0 ≤ a1 then (if a1 < (l0.length : Int) then (some ((((rd_T84 l0 a1).f1).length : Int), true)) else (none)) else (none)) = some (r1, r2) := by first | (rw [if_pos rfl] at H; exact H) | (rw [if_pos trivial] at H; exact H)
    clear H
    have H := H1
    clear H1
    by_cases c5 : 0 ≤ a1
    · rw [if_pos c5] at H
      have c5b0 : decide (0 ≤ a1) = true := decide_eq_true c5
      clear c5
      by_cases c6 : a1 < (l0.length : Int)
      · rw [if_pos c6] at H
        have c6b0 : decide (a1 < (l0.length : Int)) = true := decide_eq_true c6
        clear c6
        simp only [Option.some.injEq, Prod.mk.injEq] at H
        obtain ⟨rfl, rfl⟩ := H
        go_enter Try.func25, Try.ntmps25
        go_wp2_with (first | ((with_reducible refine gate_callee (f := 52) rfl ?_); refine goesL_ (some 8) rfl rfl Try.func52 (by kernel_rfl) rfl #[.slice A0 l0.length c0, .int .i64 a1] rfl (by (try simp only [List.map_toArray, List.map_cons, List.map_nil]); first | done | rfl | (simp only [List.length_drop, List.length_take]; rfl)) ?_; (with_reducible refine (gangplankref16_Ready.calls _ _ l0 a1 true _ ?side1 ?side2 A3.out).mono ?_); (case side1 => repeat (first | exact HR0.out | (with_reducible refine Kd.C_alloc ?_ _) | (with_reducible refine Kd.C_drewN ?_ _) | (with_reducible refine Kd.C_drew ?_))); (case side2 => exact HC0.out); (try clear A3); rintro e w' ⟨rfl, ⟨nd, rfl⟩⟩; refine ⟨_, rfl, ?_⟩; have p206 : 0 ≤ (a1 : Int) := of_decide_eq_true (by first | (with_reducible assumption) | assumption); have q206 : a1 < (l0.length : Int) := of_decide_eq_true (by first | (with_reducible assumption) | assumption); obtain ⟨ad206, A206_1, c206_1, e206, hx206_0, hx206_1, hl206_1, hi206_1⟩ := at_T84 HR0.out a1 p206 q206; cases e206; have HR206_1 := Aside0.mk hi206_1; have HC206_1 := Aside0.mk hl206_1; clear hi206_1 hl206_1; replace p206 := eq_true p206; replace q206 := eq_true q206))
        go_ret2
        exact ⟨by first | rfl | (simp; done) | (simp [*]; done), by repeat (first | exact Drawn0.refl _ | apply Drawn0.step)⟩
      · rw [if_neg c6] at H
        exact absurd H (by simp)
    · rw [if_neg c5] at H
      exact absurd H (by simp)
  · replace c4 := Bool.eq_false_iff.mpr c4
    subst c4
    have H1 : (some (0, false)) = some (r1, r2) := by rw [if_neg (show ¬ (false = true) by decide)] at H; exact H
    clear H
    have H := H1
    clear H1
    simp only [Option.some.injEq, Prod.mk.injEq] at H
    obtain ⟨rfl, rfl⟩ := H
    go_enter Try.func25, Try.ntmps25
    go_wp2_with (first | ((with_reducible refine gate_callee (f := 52) rfl ?_); refine goesL_ (some 8) rfl rfl Try.func52 (by kernel_rfl) rfl #[.slice A0 l0.length c0, .int .i64 a1] rfl (by (try simp only [List.map_toArray, List.map_cons, List.map_nil]); first | done | rfl | (simp only [List.length_drop, List.length_take]; rfl)) ?_; (with_reducible refine (gangplankref16_Ready.calls _ _ l0 a1 false _ ?side1 ?side2 A3.out).mono ?_); (case side1 => repeat (first | exact HR0.out | (with_reducible refine Kd.C_alloc ?_ _) | (with_reducible refine Kd.C_drewN ?_ _) | (with_reducible refine Kd.C_drew ?_))); (case side2 => exact HC0.out); (try clear A3); rintro e w' ⟨rfl, ⟨nd, rfl⟩⟩; refine ⟨_, rfl, ?_⟩))
    go_ret2
    exact ⟨by first | rfl | (simp; done) | (simp [*]; done), by repeat (first | exact Drawn0.refl _ | apply Drawn0.step)⟩

end Go.Proofs.Ytklngklmeanhcaa.P
