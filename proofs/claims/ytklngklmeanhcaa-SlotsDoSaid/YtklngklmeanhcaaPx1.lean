/- Each Go function that the laws reach, as a plain function, with the proof that the machine's call comes to what it says; of a law: its row. Made by a program of this seat (wip/hp.py, over the print). -/
import Derived.Test.YtklngklmeanhcaaPx0
namespace Go.Proofs.Ytklngklmeanhcaa.P
open Go.RowKit Go.Proofs.YtklngklmeanhcaaW.PrintWords Go.Proofs.YtklngklmeanhcaaW.PrintLast Go.Proofs.YtklngklmeanhcaaW.PrintMore
attribute [local go_sem] max2_int min2_int max_two min_two max_three min_three max_four min_four   -- for this text's walks alone
set_option linter.unusedVariables false
set_option linter.unusedSimpArgs false

/-- What is known of a value of struct type 56 that came in. -/
def okS56 (x : S56) : Prop := (Lit.int .i64 x.f0).wf = true ∧ (Lit.int .i64 x.f1).wf = true
/-- What is known of a value of struct type 33 that came in. -/
def okS33 (x : S33) : Prop := (Lit.int .i64 x.f0).wf = true ∧ (Lit.int .i64 x.f1).wf = true ∧ x.f2.length ≤ maxLen ∧ ∀ y_4 ∈ x.f2, okS56 y_4

/-! ### slots_New: function 16 -/
section
open Go.Shelf Go.Proofs.Ytklngklmeanhcaa.Hand
theorem run_make_slot (n : Nat) (hn : n ≤ 1024) (w : World) : (Instr.makeSlice 70 (.int .i64 (n : Int)) (.int .i64 (n : Int))).run Try.prog w = .ok (.slice (some ⟨w.heap.size, 0, none⟩) n n) (w.alloc (.cells (List.replicate n Value.nilIface).toArray 95)) := by
  obtain ⟨i, hi, hz0, hz1, hz2⟩ := info_parts (show (Try.prog.info? 95).map (fun i => (i.zero, i.size, i.bytes)) = some (some .nilIface, 1, 16) from by kernel_rfl)
  have hr := run_make (P := Try.prog) w 70 95 i .nilIface Try.underlying70 hi hz0 .i64 .i64 n n (by omega) (Int.le_refl _) (by rw [hz2]; omega) (by omega)
  simp only [Int.toNat_natCast] at hr
  rw [hr, hz1]
  have e : madeCells (Value.nilIface).cells (n * 1) = (List.replicate n Value.nilIface).toArray := by
    have h := toList_madeCells_one .nilIface n
    rw [Nat.mul_one, ← h]; rfl
  rw [e]
set_option maxHeartbeats 4000000 in
theorem slotsNew_any (n : Int) (m : Nat) (hm : mx 0 (mn n 8) = (m : Int)) (W : World) :
    Calls Try.prog 16 #[.int .i64 n] W fun e W' => e = .returned (.pointer (some ⟨W.heap.size + 1, 0, none⟩)) ∧ W' = (W.alloc (.cells (List.replicate m Value.nilIface).toArray 95)).alloc (.cells #[.slice (some ⟨W.heap.size, 0, none⟩) m m] 72) := by
  obtain ⟨y, hy⟩ : ∃ y, mn n 8 = y := ⟨_, rfl⟩
  rw [hy] at hm
  have hy_ : (if 8 < n then 8 else n) = y := hy
  have hm_ : (if 0 < y then y else 0) = (m : Int) := hm
  have hm8 : m ≤ 8 := by unfold mn at hy; unfold mx at hm; split at hy <;> split at hm <;> omega
  have r1 := fun w => run_make_slot m (by omega) w
  clear hy hm hm8
  go_enter Try.func16, Try.ntmps16
  go_wp2
  go_ret
  exact ⟨rfl, rfl⟩
end

-- NOT PRINTED: function 49 (slots_read_int)

-- NOT PRINTED: function 89 (sort_Search)

-- NOT PRINTED: function 90 (ring_circle_succ_1)

/-! ### ring_circle_succ: function 74 -/
section
open Go.Shelf Go.Proofs.Ytklngklmeanhcaa.Hand
/-- Where a binary search comes to. -/
def srch (p : Nat → Bool) : Nat → Nat → Nat → Nat
  | 0, i, _ => i
  | f + 1, i, j => if i < j then (if p ((i + j) / 2) = true then srch p f i ((i + j) / 2) else srch p f ((i + j) / 2 + 1) j) else i
theorem srch_le (p : Nat → Bool) : ∀ f i j, i ≤ j → srch p f i j ≤ j
  | 0, i, j, h => h
  | f + 1, i, j, h => by
    unfold srch
    split
    · split
      · exact Nat.le_trans (srch_le p f _ _ (by omega)) (by omega)
      · exact srch_le p f _ _ (by omega)
    · exact h
theorem srch_end (p : Nat → Bool) (f i : Nat) : srch p f i i = i := by
  cases f with
  | zero => rfl
  | succ f => unfold srch; rw [if_neg (Nat.lt_irrefl i)]
theorem search_nums (i j n m : Nat) (hm : (i + j) / 2 = m) (hij : i < j) (hj : j ≤ n) (hn : n ≤ 1000000000) : decide ((i : Int) < (j : Int)) = true ∧ wrap64 (IntKind.u64.wrap (wrap64 ((i : Int) + (j : Int))) / 2) = (m : Int) ∧ wrap64 ((m : Int) + 1) = ((m + 1 : Nat) : Int) ∧ m < n := by
  refine ⟨decide_eq_true (by omega), ?_, by unfold wrap64; omega, by omega⟩
  have e0 : wrap64 ((i : Int) + (j : Int)) = (i : Int) + (j : Int) := by unfold wrap64; omega
  have e : IntKind.u64.wrap ((i : Int) + (j : Int)) = (i : Int) + (j : Int) := by simp [IntKind.wrap, IntKind.bits, IntKind.signed]; omega
  rw [e0, e]
  unfold wrap64
  omega
theorem search_facts (i j m f : Nat) (hm : (i + j) / 2 = m) (hij : i < j) (hf : j - i ≤ f + 1) : m - i ≤ f ∧ j - (m + 1) ≤ f ∧ i ≤ m ∧ m + 1 ≤ j := by omega
theorem search_step (p : Nat → Bool) (i j f r m : Nat) (pm : Bool) (hm : (i + j) / 2 = m) (hij : i < j) (hp : p m = pm) (h : srch p (f + 1) i j = r) : (pm = true → srch p f i m = r) ∧ (pm = false → srch p f (m + 1) j = r) := by
  unfold srch at h
  rw [if_pos hij, hm, hp] at h
  cases pm with
  | true => exact ⟨fun _ => (if_pos rfl).symm.trans h, fun e => absurd e (by decide)⟩
  | false => exact ⟨fun e => absurd e (by decide), fun _ => (if_neg (by decide)).symm.trans h⟩
theorem search_meas (i j m : Nat) (hm : (i + j) / 2 = m) (h : i < j) : ((m : Int)).toNat - ((i : Int)).toNat < ((j : Int)).toNat - ((i : Int)).toNat ∧ ((j : Int)).toNat - (((m + 1 : Nat) : Int)).toNat < ((j : Int)).toNat - ((i : Int)).toNat := by
  simp only [Int.toNat_natCast]; omega
set_option maxRecDepth 100000 in
set_option maxHeartbeats 4000000 in
theorem Search_any (p : Nat → Bool) (cb : Array Value) (c1 c2 : Value) (hcb : cb = #[c1, c2]) (n : Nat) (hn : n ≤ 1000000000) (w : World)
    (hf : ∀ (W : World) (i : Nat), i < n → Below w.heap.size w W → Calls Try.prog 90 #[.int .i64 (i : Int), c1, c2] W fun e w' => e = .returned (.bool (p i)) ∧ Below w.heap.size w w') :
    Calls Try.prog 89 #[.int .i64 (n : Int), .func (.func 90) #[] cb] w fun e w' => e = .returned (.int .i64 (srch p n 0 n : Int)) ∧ Below w.heap.size w w' := by
  subst hcb
  obtain ⟨r, hr⟩ : ∃ r, srch p n 0 n = r := ⟨_, rfl⟩
  rw [hr]
  have HR := Lib.hid hr
  have HF := Lib.hid hf
  have HN := Lib.hid hn
  clear hr hf hn
  go_enter Try.func89, Try.ntmps89
  go_wp2
  go_loopw [5, 6] (fun s5 s6 wr => ∃ (i j f : Nat), s5 = .int .i64 i ∧ s6 = .int .i64 j ∧ i ≤ j ∧ j ≤ n ∧ Aside0 (j - i ≤ f ∧ srch p f i j = r) ∧ Aside0 (Below w.heap.size w wr))
    (fun s5 s6 _ => (intOf s6).toNat - (intOf s5).toNat)
  case atStart => exact ⟨0, n, n, rfl, rfl, Nat.zero_le _, Nat.le_refl _, ⟨by omega, HR.out⟩, ⟨Below.refl _ _⟩⟩
  case round =>
    obtain ⟨i, j, f, rfl, rfl, hij, hjn, HS, HB⟩ := hrel
    by_cases hlt : i < j
    · obtain ⟨m, hmm⟩ : ∃ m, (i + j) / 2 = m := ⟨_, rfl⟩
      obtain ⟨q1, q5, q6, hm⟩ := search_nums i j n m hmm hlt hjn HN.out
      have hcall := HF.out wr m hm HB.out
      obtain ⟨m1, m2⟩ := search_meas i j m hmm hlt
      obtain ⟨f', rfl⟩ : ∃ q, f = q + 1 := ⟨f - 1, by have := HS.out.1; omega⟩
      obtain ⟨n1, n2, n3, n5⟩ := search_facts i j m f' hmm hlt HS.out.1
      have n4 : m ≤ n := Nat.le_of_lt hm
      obtain ⟨pm, hpm⟩ : ∃ pm, p m = pm := ⟨_, rfl⟩
      obtain ⟨ht, hfa⟩ := search_step p i j f' r m pm hmm hlt hpm HS.out.2
      rw [hpm] at hcall
      have N1 := Lib.hid n1
      have N2 := Lib.hid n2
      have N3 := Lib.hid n3
      have N4 := Lib.hid n4
      have N5 := Lib.hid n5
      have M1 := Lib.hid m1
      have M2 := Lib.hid m2
      have HCL := Lib.hid hcall
      have HT := Lib.hid ht
      have HFA := Lib.hid hfa
      clear n1 n2 n3 n4 n5 m1 m2 HS hm hpm hmm hcall ht hfa
      cases pm with
      | true =>
        have HS2 := Lib.hid (HT.out rfl)
        go_wp2_with fail
        (with_reducible refine HCL.out.mono ?_)
        rintro e w3 ⟨rfl, hb3⟩
        have HB3 := Lib.hid hb3
        clear hb3
        go_wp2
        go_roundw
        case rel => exact ⟨i, m, f', rfl, rfl, N3.out, N4.out, ⟨N1.out, HS2.out⟩, ⟨HB3.out⟩⟩
        case measure => exact M1.out
      | false =>
        have HS2 := Lib.hid (HFA.out rfl)
        go_wp2_with fail
        (with_reducible refine HCL.out.mono ?_)
        rintro e w3 ⟨rfl, hb3⟩
        have HB3 := Lib.hid hb3
        clear hb3
        go_wp2
        go_roundw
        case rel => exact ⟨m + 1, j, f', by rw [q6], rfl, N5.out, hjn, ⟨N2.out, HS2.out⟩, ⟨HB3.out⟩⟩
        case measure => rw [q6]; exact M2.out
    · obtain rfl : i = j := Nat.le_antisymm hij (Nat.le_of_not_lt hlt)
      have q1 : decide ((i : Int) < (i : Int)) = false := decide_eq_false (by omega)
      have hri : i = r := by have h := HS.out.2; rwa [srch_end] at h
      have HRI := Lib.hid hri
      clear hri HS
      go_wp2
      go_ret
      exact ⟨by rw [HRI.out]; rfl, HB.out⟩
/-- Where a hash goes to, on a list of points. -/
def geP (l : List S124) (h : Int) (i : Nat) : Bool := decide (h ≤ (l.getD i z124).f0)
def succL (l : List S124) (h : Int) : Int := if l.length = 0 then -1 else (l.getD (srch (geP l h) l.length 0 l.length % l.length) z124).f1
set_option maxRecDepth 100000 in
set_option maxHeartbeats 4000000 in
theorem succ1_any (l : List S124) (h : Int) (A : Option Addr) (c : Nat) (B1 B2 : Nat) (i : Nat) (hi : i < l.length) (W : World) (hC : Kd.C k124 W A l.length l) (b1 : Blk W B1 110 [.slice A l.length c]) (b2 : Blk W B2 23 [.int .u64 h]) :
    Calls Try.prog 90 #[.int .i64 (i : Int), .pointer (some ⟨B1, 0, none⟩), .pointer (some ⟨B2, 0, none⟩)] W fun e w' => e = .returned (.bool (geP l h i)) ∧ ∃ q, w' = W.drewN q := by
  have hlen := hC.2.1
  obtain ⟨ad, hA, c0, c1⟩ := at_T124 hC (i : Int) (by omega) (by omega)
  subst hA
  have z1 : W.cell? ⟨B1, 0, none⟩ = some (.slice (some ad) l.length c) := b1.cell 0
  have z2 : W.cell? ⟨B2, 0, none⟩ = some (.int .u64 h) := b2.cell 0
  unfold geP
  rw [show rd_T124 l (i : Int) = l.getD i z124 from rfl] at c0 c1
  rw [Int.toNat_natCast] at c0 c1
  obtain ⟨b, hb⟩ : ∃ b, l.getD i z124 = b := ⟨_, rfl⟩
  rw [hb] at c0 c1 ⊢
  have q2 : (0 : Int) ≤ (i : Int) := by omega
  have q3 : (i : Int) < (l.length : Int) := by omega
  clear hb hC b1 b2 hlen c1
  go_enter Try.func90, Try.ntmps90
  go_wp2
  go_quiet (fail)
  go_wp2
  go_ret
  exact ⟨rfl, _, rfl⟩
set_option maxHeartbeats 4000000 in
theorem succ_empty (h : Int) (A : Option Addr) (c : Nat) (w : World) :
    Calls Try.prog 74 #[.slice A 0 c, .int .u64 h] w fun e w' => e = .returned (.int .i64 (-1)) ∧ Below w.heap.size w w' := by
  go_enter Try.func74, Try.ntmps74
  go_wp2
  go_ret
  exact ⟨rfl, below_alloc (below_alloc (Below.refl _ _) _) _⟩
theorem below_drewN2 {B : Nat} {w W : World} (h : Below B w W) (q : Nat) : Below B w (W.drewN q) := ⟨h.os, h.tape, h.output, h.size, h.block⟩
theorem succ_nums (n m k : Nat) (hn : 0 < n) (hl : n ≤ 1000000000) (hk : m % n = k) (hkl : k < n) : ((n : Int) == 0) = false ∧ (m : Int).tmod (n : Int) = (k : Int) ∧ (0 : Int) ≤ (k : Int) ∧ (k : Int) < (n : Int) :=
  ⟨beq_eq_false_iff_ne.2 (by omega), by rw [Int.tmod_eq_emod_of_nonneg (by omega), ← hk]; rfl, by omega, by omega⟩
set_option maxRecDepth 100000 in
set_option maxHeartbeats 4000000 in
theorem succ_some (l : List S124) (h : Int) (A : Option Addr) (c : Nat) (hn : 0 < l.length) (hl : l.length ≤ 1000000000) (w : World) (hC : Kd.C k124 w A l.length l) :
    Calls Try.prog 74 #[.slice A l.length c, .int .u64 h] w fun e w' => e = .returned (.int .i64 (l.getD (srch (geP l h) l.length 0 l.length % l.length) z124).f1) ∧ Below w.heap.size w w' := by
  have hb1 := (Blk.new w 110 [.slice A l.length c]).alloc (.cells #[.int .u64 h] 23)
  have hb2 := Blk.new (w.alloc (.cells #[.slice A l.length c] 110)) 23 [.int .u64 h]
  have hw0 := below_alloc (below_alloc (Below.refl w.heap.size w) (.cells #[.slice A l.length c] 110)) (.cells #[.int .u64 h] 23)
  have hC0 := Kd.C_below hC hw0
  have hs0 : (w.alloc (.cells #[.slice A l.length c] 110)).heap.size = w.heap.size + 1 := by simp
  obtain ⟨m, hm⟩ : ∃ m, srch (geP l h) l.length 0 l.length = m := ⟨_, rfl⟩
  have hml : m ≤ l.length := by rw [← hm]; exact srch_le _ _ _ _ (Nat.zero_le _)
  obtain ⟨W0, hW0⟩ : ∃ W0, ((w.alloc (.cells #[.slice A l.length c] 110)).alloc (.cells #[.int .u64 h] 23)) = W0 := ⟨_, rfl⟩
  have hS := Search_any (geP l h) #[.pointer (some ⟨w.heap.size, 0, none⟩), .pointer (some ⟨w.heap.size + 1, 0, none⟩)] _ _ rfl l.length hl W0 (fun W i hi hb => by
    rw [← hW0] at hb
    rw [hs0] at hb2
    refine (succ1_any l h A c w.heap.size (w.heap.size + 1) i hi W (Kd.C_below hC0 hb) (hb1.below hb) (hb2.below hb)).mono ?_
    rintro e w' ⟨rfl, q, rfl⟩
    rw [← hW0]
    exact ⟨rfl, below_drewN2 hb q⟩)
  rw [hm] at hS
  rw [hm]
  obtain ⟨k, hk⟩ : ∃ k, m % l.length = k := ⟨_, rfl⟩
  have hkl : k < l.length := by rw [← hk]; exact Nat.mod_lt _ hn
  rw [hk]
  have hC1 := Kd.C_below hC hw0
  rw [hW0] at hC1 hb1
  rw [hW0, hs0] at hb2
  have hlen := hC.2.1
  obtain ⟨q0, qr, q2, q3⟩ := succ_nums l.length m k hn hl hk hkl
  obtain ⟨b, hb⟩ : ∃ b, l.getD k z124 = b := ⟨_, rfl⟩
  rw [hb]
  have HS := Lib.hid hS
  have HW0 := Lib.hid hW0
  have HC1 := Lib.hid hC1
  have HB1 := Lib.hid hb1
  have HB2 := Lib.hid hb2
  have HBW := Lib.hid hw0
  have HK := Lib.hid hkl
  have HBB := Lib.hid hb
  clear hS hm hml hk hkl hC hC0 hC1 hb1 hb2 hw0 hs0 hb hlen hn hl
  have z1 : W0.cell? ⟨w.heap.size, 0, none⟩ = some (.slice A l.length c) := HB1.out.cell 0
  go_enter Try.func74, Try.ntmps74
  go_upto_region 1 with (fail)
  clear hW0
  go_wp2_with (go_at_call 89; (with_reducible refine HS.out.mono ?_); rintro e w2 ⟨rfl, hb2⟩; have HB3 := Lib.hid hb2; clear hb2)
  obtain ⟨ad, hA, c0, c1⟩ := at_T124 (Kd.C_below HC1.out HB3.out) (k : Int) q2 (by have := HK.out; omega)
  subst hA
  rw [show rd_T124 l (k : Int) = l.getD k z124 from rfl, HBB.out, Int.toNat_natCast] at c0 c1
  have z2 : w2.cell? ⟨w.heap.size, 0, none⟩ = some (.slice (some ad) l.length c) := (HB1.out.below HB3.out).cell 0
  clear z1 c0
  go_quiet (fail)
  go_wp2
  go_ret
  refine ⟨rfl, below_drewN2 ?_ _⟩
  have h := HBW.out
  rw [HW0.out] at h
  exact h.trans (HB3.out.mono h.size)
def ring_circle_succ.f (l0 : List S124) (a1 : Int) : Option Int := if l0.length ≤ 1000000000 then some (succL l0 a1) else none
theorem ring_circle_succ.calls (A0 : Option Addr) (c0 : Nat) (l0 : List S124) (a1 : Int) (r : Int) (w : World) (hr0 : Kd.C k124 w A0 l0.length l0) (hc0 : l0.length ≤ c0) (h : ring_circle_succ.f l0 a1 = some r) :
    Calls Try.prog 74 #[.slice A0 l0.length c0, .int .u64 a1] w fun e w' => e = .returned (.int .i64 r) ∧ Below w.heap.size w w' := by
  unfold ring_circle_succ.f at h
  by_cases hl : l0.length ≤ 1000000000
  · rw [if_pos hl] at h
    obtain rfl := Option.some.inj h
    unfold succL
    by_cases h0 : l0.length = 0
    · rw [if_pos h0, h0]
      exact succ_empty a1 A0 c0 w
    · rw [if_neg h0]
      exact succ_some l0 a1 A0 c0 (by omega) hl w hr0
  · rw [if_neg hl] at h
    exact absurd h (by simp)
end

/-! ### ring_Succ: function 51 -/
def ring_Succ.f (l0 : List (S124)) (a1 : Int) : Option (Int) := (ring_circle_succ.f l0 a1).bind fun t101 => (some t101)
set_option maxHeartbeats 8000000 in
set_option maxRecDepth 100000 in
theorem ring_Succ.calls (A0 : Option Addr) (c0 : Nat) (l0 : List (S124)) (a1 : Int) (r : Int) (w : World) (hr0 : Kd.C k124 w A0 l0.length l0) (hc0 : l0.length ≤ c0) (h : ring_Succ.f l0 a1 = some r) :
    Calls Try.prog 51 #[.slice A0 l0.length c0, .int .u64 a1] w fun e w' => e = .returned (.int .i64 r) ∧ Below w.heap.size w w' := by
  have HR0 := Aside0.mk hr0
  have HC0 := Aside0.mk hc0
  clear hr0 hc0
  have HB := Aside0.mk (Below.refl w.heap.size w)
  have H : ((ring_circle_succ.f l0 a1).bind fun t101 => (some t101)) = some r := h
  clear h
  replace H := Option.bind_eq_some_iff.mp H
  obtain ⟨t101, A30, H⟩ := H
  replace H : (some t101) = some r := H
  have A3 := Aside0.mk A30
  clear A30
  obtain rfl := Option.some.inj H
  go_enter Try.func51, Try.ntmps51
  go_wp2_with (first | ((with_reducible refine gate_callee (f := 74) rfl ?_); refine goesL_ (some 7) rfl rfl Try.func74 (by kernel_rfl) rfl #[.slice A0 l0.length c0, .int .u64 a1] rfl (by (try simp only [List.map_toArray, List.map_cons, List.map_nil]); first | done | rfl | (simp only [List.length_drop, List.length_take]; rfl)) ?_; (with_reducible refine (ring_circle_succ.calls _ _ l0 a1 t101 _ ?side1 ?side2 A3.out).mono ?_); (case side1 => repeat (first | exact HR0.out | (with_reducible refine Kd.C_alloc ?_ _) | (with_reducible refine Kd.C_drewN ?_ _) | (with_reducible refine Kd.C_drew ?_))); (case side2 => exact HC0.out); (try clear A3); rintro e w4 ⟨rfl, hb⟩; refine ⟨_, rfl, ?_⟩; have n0_ := Aside0.mk (below_step (by repeat (first | (with_reducible first | exact HB.out | apply below_alloc | apply pw_below_drewN | apply below_drew1) | exact HB.out)) hb); clear HB; have HB := n0_; clear n0_; (try clear hb); (try clear hb2); (try clear hk); (try clear hi)))
  go_ret
  exact ⟨by first | rfl | (simp [errW_none, errW_some] <;> rfl) | (simp [*, errW_none, errW_some] <;> rfl), by repeat (first | (with_reducible first | exact HB.out | apply below_alloc | apply pw_below_drewN | apply below_drew1) | exact HB.out)⟩

-- NOT PRINTED: function 50 (slots_Slots_Pick_1)

-- NOT PRINTED: function 20 (slots_Slots_Pick)

-- NOT PRINTED: function 54 (slots_read_bool)

-- NOT PRINTED: function 55 (slots_Slots_Has_1)

-- NOT PRINTED: function 22 (slots_Slots_Has)

-- NOT PRINTED: function 57 (slots_Slots_Size_1)

-- NOT PRINTED: function 24 (slots_Slots_Size)

-- NOT PRINTED: function 59 (slots_Slots_put)

-- NOT PRINTED: function 27 (slots_Slots_Begin)

-- NOT PRINTED: function 93 (slices_IndexFunc_2_int_2_int)

-- NOT PRINTED: function 77 (slices_ContainsFunc_2_int_2_int)

-- NOT PRINTED: function 78 (pool_within_1)

/-! ### pool_within: function 58 -/
section
open Go.Shelf Go.Proofs.Ytklngklmeanhcaa.Hand
def encPr (x : Int × Int) : List Value := [.int .i64 x.1, .int .i64 x.2]
def outP (x : Int × Int) : Bool := decide (x.1 < 1) || decide (x.2 < x.1)
set_option maxHeartbeats 1000000 in
theorem within1_any (x : Int × Int) (W : World) : Calls Try.prog 78 #[.agg #[.int .i64 x.1, .int .i64 x.2]] W fun e w' => e = .returned (.bool (outP x)) ∧ w' = W.alloc (.cells #[.int .i64 x.1, .int .i64 x.2] 89) := by
  obtain ⟨a, b⟩ := x
  by_cases h1 : a < 1
  · have q1 : decide (a < 1) = true := decide_eq_true h1
    have hO : outP (a, b) = true := by simp [outP, h1]
    rw [hO]
    clear hO
    go_enter Try.func78, Try.ntmps78
    go_wp2
    go_ret
    exact ⟨rfl, rfl⟩
  · have q1 : decide (a < 1) = false := decide_eq_false h1
    have hO : outP (a, b) = decide (b < a) := by simp [outP, h1]
    rw [hO]
    clear hO
    go_enter Try.func78, Try.ntmps78
    go_wp2
    go_ret
    exact ⟨rfl, rfl⟩
set_option maxRecDepth 100000 in
set_option maxHeartbeats 1000000 in
theorem within_any (g : Nat) (a b : Int) (W : World) (h : Blk W g 89 [.int .i64 a, .int .i64 65535, .int .i64 b, .int .i64 16]) :
    Calls Try.prog 58 #[.slice (some ⟨g, 0, none⟩) 2 2] W fun e w' => e = .returned (.bool (!(outP (a, 65535) || outP (b, 16)))) ∧ Below W.heap.size W w' := by
  have eg : ∀ args w, (callFunc 78 args).run Try.prog w = .ok (.enter 78 args) w := enters_of Try.func78 (by kernel_rfl) rfl
  have hcon := AnyQ.slices_ContainsFunc Try.anyPr 2 Try.isAgg89 Try.sizeOf89 encPr (fun _ => rfl) outP 78 #[] eg g 0 2 2 [(a, 65535), (b, 16)] W
    (fun W' x hb => (within1_any x W').mono fun e w' ⟨he, hw⟩ => ⟨he, by subst hw; exact hb.alloc hb.size _⟩) (by simp) (by decide) h.lt (fun j hj i v hv => by
      have c0 := h.cell 0
      have c1 := h.cell 1
      have c2 := h.cell 2
      have c3 := h.cell 3
      match j, hj, i, hv with
      | 0, _, 0, hv => simp [encPr] at hv; rw [← hv]; exact c0
      | 0, _, 1, hv => simp [encPr] at hv; rw [← hv]; exact c1
      | 1, _, 0, hv => simp [encPr] at hv; rw [← hv]; exact c2
      | 1, _, 1, hv => simp [encPr] at hv; rw [← hv]; exact c3
      | 0, _, i + 2, hv => simp [encPr] at hv
      | 1, _, i + 2, hv => simp [encPr] at hv
      | j + 2, hj, _, _ => simp at hj; omega)
  change Calls Try.prog 77 _ _ _ at hcon
  have e : ([(a, (65535 : Int)), (b, 16)].take 2).any outP = (outP (a, 65535) || outP (b, 16)) := by simp
  rw [e] at hcon
  generalize (outP (a, 65535) || outP (b, 16)) = r at hcon ⊢
  have HCON := Lib.hid hcon
  clear hcon h e eg
  go_enter Try.func58, Try.ntmps58
  go_wp2_with (go_at_call 77; refine HCON.out.mono ?_; rintro e w1 ⟨rfl, hb⟩; have HB := Lib.hid hb; clear hb)
  go_ret
  exact ⟨rfl, HB.out⟩
end

/-! ### pool_Check: function 26 -/
section
open Go.Shelf Go.Proofs.Ytklngklmeanhcaa.Hand Go.Maps
theorem plainElem_bool_inv {H : Type} {P : Program} {e : TypeId} (he : P.underlying e = some .bool) {v : Value} {z : DataW H × List MemPlace} (h : plainElem P e v = some z) : ∃ y, v = .bool y ∧ z = (.lit (.bool y), []) := by
  unfold plainElem at h
  rw [he] at h
  cases v <;> simp at h
  exact ⟨_, rfl, h.symm⟩
theorem atKey_foldN {H : Type} (u : DataW H) (k : Lit) (z : DataW H) : ∀ (acc : List Lit) (m : DataW H), k ∉ acc → (acc.foldl (fun m x => m.put x u) m).atKey k z = m.atKey k z
  | [], m, _ => rfl
  | x :: acc, m, h => by
    rw [List.foldl_cons, atKey_foldN u k z acc (m.put x u) (fun h1 => h (List.mem_cons_of_mem _ h1)), atKey_put_other (fun e : k = x => h (by rw [e]; exact List.mem_cons_self))]
theorem atKey_foldY {H : Type} (u : DataW H) (k : Lit) (hk : WideAt.IsKeyLit k) (z : DataW H) : ∀ (acc : List Lit) (m : DataW H), IsMap m → k ∈ acc → (acc.foldl (fun m x => m.put x u) m).atKey k z = u
  | [], m, _, h => by cases h
  | x :: acc, m, hm, h => by
    rw [List.foldl_cons]
    by_cases h1 : k ∈ acc
    · exact atKey_foldY u k hk z acc _ (hm.put x u) h1
    · rcases List.mem_cons.1 h with rfl | h2
      · rw [atKey_foldN u k z acc _ h1, atKey_put_same hm hk]
      · exact absurd h2 h1
/-- The ids seen so far, as the map holds them. -/
def seenD (ids : List Int) : DataW Unit := setOf (.lit (.bool true)) (ids.map (Lit.int .i64))
theorem seenD_snoc (ids : List Int) (x : Int) : seenD (ids ++ [x]) = (seenD ids).put (.int .i64 x) (.lit (.bool true)) := by
  unfold seenD; rw [List.map_append, List.map_singleton, setOf_snoc]
set_option maxRecDepth 100000 in
theorem seen_look (ids : List Int) (b n : Nat) (W : World) (x : Int) (hx : (Lit.int .i64 x).wf = true) (h : W.ownsMap Try.prog 3 (plainElem Try.prog 4) b n (seenD ids)) :
    (Instr.lookup 87 (.map (some b)) (.int .i64 x) false).run Try.prog W = .ok (.bool (decide (x ∈ ids))) W := by
  have K : Keyed Try.prog 3 := int_keyed Try.underlying3
  have hkey := keyOf_int_mk (P := Try.prog) Try.underlying3 hx
  obtain ⟨v, ps, hrun, hv⟩ := h.lookup K Try.underlying87 (Try.zeroValue4 W) (plainElem_bool Try.underlying4 false) hkey
  obtain ⟨y, rfl, hy⟩ := plainElem_bool_inv Try.underlying4 hv
  have e : (seenD ids).atKey (.int .i64 x) (.lit (.bool false)) = .lit (.bool (decide (x ∈ ids))) := by
    unfold seenD setOf
    by_cases hm : x ∈ ids
    · rw [atKey_foldY _ _ (K.key hkey) _ _ _ isMap_empty (List.mem_map.2 ⟨x, hm, rfl⟩), decide_eq_true hm]
    · rw [atKey_foldN _ _ _ _ _ (fun h => by obtain ⟨a, ha, e⟩ := List.mem_map.1 h; cases e; exact hm ha), decide_eq_false hm]
      rfl
  rw [e] at hy
  have hy1 := congrArg Prod.fst hy
  have hy2 : decide (x ∈ ids) = y := by injection hy1 with h1; injection h1
  subst hy2
  exact hrun
/-- Is one of a pool's backends one that may not be? -/
def badFrom : List S56 → List Int → Bool
  | [], _ => false
  | b :: r, seen => decide (b.f0 ∈ seen) || (outP (b.f0, 65535) || outP (b.f1, 16)) || badFrom r (seen ++ [b.f0])
def checkL (l : List S56) : Int := if badFrom l [] = true then 10 else if 32 < l.length then 10 else 0
def idsL (l : List S56) : List Int := l.map (·.f0)
theorem badFrom_step (l : List S56) (k : Nat) (h : k < l.length) : badFrom (l.drop k) (idsL (l.take k)) = (decide ((l.getD k z56).f0 ∈ idsL (l.take k)) || (outP ((l.getD k z56).f0, 65535) || outP ((l.getD k z56).f1, 16)) || badFrom (l.drop (k + 1)) (idsL (l.take (k + 1)))) := by
  rw [List.drop_eq_getElem_cons h]
  have e : idsL (l.take (k + 1)) = idsL (l.take k) ++ [l[k].f0] := by unfold idsL; rw [List.take_succ_eq_append_getElem h, List.map_append]; rfl
  rw [e]
  simp [badFrom, h]
theorem idsL_take (l : List S56) (k : Nat) (h : k < l.length) : idsL (l.take (k + 1)) = idsL (l.take k) ++ [(l.getD k z56).f0] := by
  unfold idsL; rw [List.take_succ_eq_append_getElem h, List.map_append]; simp [h]
def idsWf (l : List S56) : Bool := l.all fun b => (Lit.int .i64 b.f0).wf
theorem check_nums (n k : Nat) (hl : n ≤ 1000000) (h : k < n) : decide ((k : Int) < (n : Int)) = true ∧ (0 : Int) ≤ (k : Int) ∧ (k : Int) < (n : Int) ∧ wrap64 ((k : Int) + 1) = ((k + 1 : Nat) : Int) ∧ k < maxLen :=
  ⟨decide_eq_true (by omega), by omega, by omega, by unfold wrap64; omega, by unfold maxLen; omega⟩
theorem check_meas (n k : Nat) (h : k < n) : n - (((k + 1 : Nat) : Int)).toNat < n - ((k : Int)).toNat := by
  rw [Int.toNat_natCast, Int.toNat_natCast]; omega
set_option maxRecDepth 100000 in
set_option maxHeartbeats 8000000 in
theorem Check_any (A : Option Addr) (c : Nat) (l : List S56) (hl : l.length ≤ 1000000) (hwf : idsWf l = true) (w : World) (hC : Kd.C k56 w A l.length l) :
    Calls Try.prog 26 #[.slice A l.length c] w fun e w' => e = .returned (.int .i64 (checkL l)) ∧ Below w.heap.size w w' := by
  have hmm := @run_makeMap Try.prog
  have HC := Lib.hid hC
  have HL := Lib.hid hl
  have HWF := Lib.hid hwf
  clear hC hl hwf
  have hown0 := World.ownsMap_made w Try.prog 3 (plainElem (H := Unit) Try.prog 4)
  have hb0 := below_alloc (Below.refl w.heap.size w) (.map #[] 0)
  have HO0 := Lib.hid hown0
  have HB0 := Lib.hid hb0
  clear hown0 hb0
  obtain ⟨r, hr⟩ : ∃ r, checkL l = r := ⟨_, rfl⟩
  rw [hr]
  have HR := Lib.hid hr
  clear hr
  go_enter Try.func26, Try.ntmps26
  go_wp2
  go_loopw [9] (fun i wr => ∃ (k : Nat), k ≤ l.length ∧ i = .int .i64 k ∧ Aside0 (wr.ownsMap Try.prog 3 (plainElem Try.prog 4) w.heap.size k (seenD (idsL (l.take k)))) ∧ Aside0 (badFrom (l.drop k) (idsL (l.take k)) = badFrom l []) ∧ Aside0 (Below w.heap.size w wr))
    (fun i _ => l.length - (intOf i).toNat)
  case atStart => exact ⟨0, Nat.zero_le _, rfl, ⟨HO0.out⟩, ⟨rfl⟩, ⟨HB0.out⟩⟩
  case round =>
    obtain ⟨k, hk, rfl, HO, HK, HBr⟩ := hrel
    by_cases hlt : k < l.length
    · obtain ⟨ad, hA, c0, c1⟩ := at_T56 (Kd.C_below HC.out HBr.out) (k : Int) (by omega) (by omega)
      subst hA
      have hst := HK.out
      have hid := idsL_take l k hlt
      rw [badFrom_step l k hlt] at hst
      rw [show rd_T56 l (k : Int) = l.getD k z56 from rfl] at c0 c1
      have hbw : (Lit.int .i64 (l.getD k z56).f0).wf = true := by
        have h := List.all_eq_true.1 HWF.out (l.getD k z56) (by simp [hlt])
        exact h
      obtain ⟨b, hb⟩ : ∃ b, l.getD k z56 = b := ⟨_, rfl⟩
      rw [hb] at c0 c1 hst hbw hid
      rw [Int.toNat_natCast] at c0 c1
      obtain ⟨q1, q2, q3, hwk, hkm⟩ := check_nums l.length k HL.out hlt
      have HST := Lib.hid hst
      have HBW := Lib.hid HBr.out
      have HID := Lib.hid hid
      have HWB := Lib.hid hbw
      have HKM := Lib.hid hkm
      clear hst hb HK HBr hid hbw hkm
      obtain ⟨b0, b1⟩ := b
      go_upto_region 5 with (fail)
      have hbx := Blk.new wr 56 [.int .i64 b0, .int .i64 b1]
      have hb1 := below_alloc HBW.out (.cells #[.int .i64 b0, .int .i64 b1] 56)
      have ho1 := HO.out.alloc (.cells #[.int .i64 b0, .int .i64 b1] 56)
      obtain ⟨g5, hg5⟩ : ∃ g5, wr.heap.size = g5 := ⟨_, rfl⟩
      obtain ⟨W1, hW1⟩ : ∃ W1, (wr.alloc (.cells #[.int .i64 b0, .int .i64 b1] 56)) = W1 := ⟨_, rfl⟩
      rw [hg5] at hbx ⊢
      rw [hW1] at hbx hb1 ho1 ⊢
      clear hg5 hW1 c0 c1 HBW HO
      have c0 : W1.cell? ⟨g5, 0, none⟩ = some (.int .i64 b0) := hbx.cell 0
      have c1 : W1.cell? ⟨g5, 1, none⟩ = some (.int .i64 b1) := hbx.cell 1
      have hlook := seen_look _ _ _ W1 b0 HWB.out ho1
      have HB1 := Lib.hid hb1
      have HO1 := Lib.hid ho1
      have HBX := Lib.hid hbx
      clear hb1 ho1 hbx
      obtain ⟨sn, hsn⟩ : ∃ sn, decide (b0 ∈ idsL (l.take k)) = sn := ⟨_, rfl⟩
      have hst := HST.out
      rw [hsn] at hlook hst
      clear HST hsn
      have HLK := Lib.hid hlook
      clear hlook
      cases sn with
      | true =>
        have hr1 : r = 10 := by rw [← HR.out]; unfold checkL; rw [← hst]; rfl
        have HR1 := Lib.hid hr1
        clear hst hr1
        have hlook := HLK.out
        clear HLK
        go_wp2
        go_ret
        exact ⟨by rw [HR1.out]; rfl, HB1.out⟩
      | false =>
        obtain ⟨ou, hou⟩ : ∃ ou, (outP (b0, 65535) || outP (b1, 16)) = ou := ⟨_, rfl⟩
        have hwi := within_any W1.heap.size b0 b1 (W1.alloc (.cells #[.int .i64 b0, .int .i64 65535, .int .i64 b1, .int .i64 16] 89)) (Blk.new W1 89 [.int .i64 b0, .int .i64 65535, .int .i64 b1, .int .i64 16])
        rw [hou] at hwi hst
        clear hou
        have HWI := Lib.hid hwi
        have hlook := HLK.out
        clear HLK hwi
        cases ou with
        | true =>
          have hr1 : r = 10 := by rw [← HR.out]; unfold checkL; rw [← hst]; rfl
          have HR1 := Lib.hid hr1
          clear hst hr1
          go_wp2_with (go_at_call 58; refine HWI.out.mono ?_; rintro e w3 ⟨rfl, hb3⟩; have HB3 := Lib.hid hb3; clear hb3)
          go_ret
          exact ⟨by rw [HR1.out]; rfl, (below_alloc HB1.out _).trans (HB3.out.mono (below_alloc HB1.out _).size)⟩
        | false =>
          have HST := Lib.hid (show badFrom (l.drop (k + 1)) (idsL (l.take (k + 1))) = badFrom l [] from by simpa using hst)
          clear hst
          have hkey := keyOf_int_mk (P := Try.prog) Try.underlying3 HWB.out
          have hb2 := below_alloc HB1.out (.cells #[.int .i64 b0, .int .i64 65535, .int .i64 b1, .int .i64 16] 89)
          have ho2 := HO1.out.alloc (.cells #[.int .i64 b0, .int .i64 65535, .int .i64 b1, .int .i64 16] 89)
          have hx2 := HBX.out.alloc (.cells #[.int .i64 b0, .int .i64 65535, .int .i64 b1, .int .i64 16] 89)
          have HB2 := Lib.hid hb2
          have HO2 := Lib.hid ho2
          have HX2 := Lib.hid hx2
          have HKEY := Lib.hid hkey
          clear hb2 ho2 hx2 hkey
          go_wp2_with (first
            | (go_at_call 58; refine HWI.out.mono ?_; rintro e w3 ⟨rfl, hb3⟩; have HB3 := Lib.hid (HB2.out.trans (hb3.mono HB2.out.size)); have HO3 := Lib.hid (HO2.out.kept (grown_of_below hb3 none) (by simp)); have HX3 := Lib.hid (HX2.out.below hb3); clear hb3; have c3 : w3.cell? ⟨g5, 0, none⟩ = some (.int .i64 b0) := HX3.out.cell 0)
            | (at_mapUpdate; refine wpList_mapUpdate_own _ rfl _ _ _ 87 rfl 3 4 (int_keyed Try.underlying3) Try.underlying87 (plainElem Try.prog 4) w.heap.size k _ rfl HO3.out HKM.out _ _ _ rfl rfl HKEY.out _ [] (plainElem_bool Try.underlying4 true) ?_; intro w4 hown4 hgrow4; have HO4 := Aside0.mk (show w4.ownsMap Try.prog 3 (plainElem Try.prog 4) w.heap.size (k + 1) (seenD (idsL (l.take (k + 1)))) from by rw [HID.out, seenD_snoc]; exact hown4); have HB4 := Aside0.mk (HB3.out.grown hgrow4 HB3.out.size (fun k e => by cases e; exact Nat.le_refl _)); clear hown4 hgrow4))
          go_roundw
          case rel => exact ⟨k + 1, Nat.succ_le_of_lt hlt, by rw [hwk], HO4, ⟨HST.out⟩, HB4⟩
          case measure =>
            rw [hwk]
            exact check_meas _ _ hlt
    · obtain rfl : k = l.length := Nat.le_antisymm hk (Nat.le_of_not_lt hlt)
      have q1 : decide ((l.length : Int) < (l.length : Int)) = false := decide_eq_false (by omega)
      have hb0 : badFrom l [] = false := by have h := HK.out; rw [List.drop_length] at h; exact h.symm
      clear HK HO
      by_cases h32 : 32 < l.length
      · have hr1 : r = 10 := by rw [← HR.out]; unfold checkL; rw [hb0, if_pos h32]; rfl
        have HR1 := Lib.hid hr1
        clear hr1 hb0
        have q2 : decide ((32 : Int) < (l.length : Int)) = true := decide_eq_true (by omega)
        go_wp2
        go_ret
        exact ⟨by rw [HR1.out]; rfl, HBr.out⟩
      · have hr1 : r = 0 := by rw [← HR.out]; unfold checkL; rw [hb0, if_neg h32]; rfl
        have HR1 := Lib.hid hr1
        clear hr1 hb0
        have q2 : decide ((32 : Int) < (l.length : Int)) = false := decide_eq_false (by omega)
        go_wp2
        go_ret
        exact ⟨by rw [HR1.out]; rfl, HBr.out⟩
def pool_Check.f (l0 : List S56) : Option Int := if l0.length ≤ 1000000 ∧ idsWf l0 = true then some (checkL l0) else none
theorem pool_Check.calls (A0 : Option Addr) (c0 : Nat) (l0 : List S56) (r : Int) (w : World) (hr0 : Kd.C k56 w A0 l0.length l0) (hc0 : l0.length ≤ c0) (h : pool_Check.f l0 = some r) :
    Calls Try.prog 26 #[.slice A0 l0.length c0] w fun e w' => e = .returned (.int .i64 r) ∧ Below w.heap.size w w' := by
  unfold pool_Check.f at h
  by_cases hl : l0.length ≤ 1000000 ∧ idsWf l0 = true
  · rw [if_pos hl] at h
    obtain rfl := Option.some.inj h
    exact Check_any A0 c0 l0 hl.1 hl.2 w hr0
  · rw [if_neg hl] at h
    exact absurd h (by simp)
end

-- NOT PRINTED: function 62 (api_Backend_62)

-- NOT PRINTED: function 82 (pool_named_1)

-- NOT PRINTED: function 63 (pool_named)

/-! ### pool_Find: function 29 -/
section
open Go.Shelf Go.Proofs.Ytklngklmeanhcaa.Hand
def findAt (id : Int) : List S56 → Int → Int
  | [], _ => -1
  | b :: l, i => if b.f0 = id then i else findAt id l (i + 1)
/-- Where a backend stands, or -1. -/
def findL (l : List S56) (id : Int) : Int := findAt id l 0
theorem findAt_step (id : Int) (l : List S56) (k : Nat) (h : k < l.length) (i : Int) : findAt id (l.drop k) i = if (l.getD k z56).f0 = id then i else findAt id (l.drop (k + 1)) (i + 1) := by
  rw [List.drop_eq_getElem_cons h]
  simp [findAt, h]
theorem findAt_end (id : Int) (l : List S56) (i : Int) : findAt id (l.drop l.length) i = -1 := by
  rw [List.drop_length]; rfl
theorem findAt_cases (id : Int) : ∀ (l : List S56) (i : Int), (findAt id l i = -1 ∧ ∀ b ∈ l, b.f0 ≠ id) ∨ ∃ k : Nat, ∃ h : k < l.length, findAt id l i = i + k ∧ l[k].f0 = id ∧ ∀ j (hj : j < k), l[j].f0 ≠ id
  | [], i => .inl ⟨rfl, fun b hb => by cases hb⟩
  | b :: l, i => by
    by_cases hb : b.f0 = id
    · exact .inr ⟨0, by simp, by simp [findAt, hb], hb, fun j hj => absurd hj (Nat.not_lt_zero _)⟩
    · rcases findAt_cases id l (i + 1) with ⟨h1, h2⟩ | ⟨k, h, h1, h2, h3⟩
      · exact .inl ⟨by simp [findAt, hb, h1], fun x hx => by rcases List.mem_cons.1 hx with rfl | hx; exact hb; exact h2 x hx⟩
      · refine .inr ⟨k + 1, by simp; omega, by simp [findAt, hb, h1]; omega, by simpa using h2, fun j hj => ?_⟩
        cases j with
        | zero => simpa using hb
        | succ j => simpa using h3 j (by omega)
theorem findL_cases (l : List S56) (id : Int) : (findL l id = -1 ∧ ∀ b ∈ l, b.f0 ≠ id) ∨ ∃ k : Nat, ∃ h : k < l.length, findL l id = k ∧ l[k].f0 = id ∧ ∀ j (hj : j < k), l[j].f0 ≠ id := by
  rcases findAt_cases id l 0 with h | ⟨k, h, h1, h2⟩
  · exact .inl h
  · exact .inr ⟨k, h, by unfold findL; omega, h2⟩
set_option maxHeartbeats 1000000 in
theorem named1_any (id : Int) (B : Nat) (x : S56) (W : World) (hc : W.cell? ⟨B, 0, none⟩ = some (.int .i64 id)) (hB : B < W.heap.size) :
    Calls Try.prog 82 #[.agg #[.int .i64 x.f0, .int .i64 x.f1], .pointer (some ⟨B, 0, none⟩)] W fun e w' => e = .returned (.bool (x.f0 == id)) ∧ w' = W.alloc (.cells #[.int .i64 x.f0, .int .i64 x.f1] 56) := by
  obtain ⟨x0, x1⟩ := x
  have hne : B ≠ W.heap.size := by omega
  go_enter Try.func82, Try.ntmps82
  go_wp2
  go_ret
  exact ⟨rfl, rfl⟩
set_option maxHeartbeats 1000000 in
theorem named_any (id : Int) (W : World) :
    Calls Try.prog 63 #[.int .i64 id] W fun e w' => e = .returned (.func (.func 82) #[] #[.pointer (some ⟨W.heap.size, 0, none⟩)]) ∧ w' = W.alloc (.cells #[.int .i64 id] 3) := by
  go_enter Try.func63, Try.ntmps63
  go_wp2
  go_ret
  exact ⟨rfl, rfl⟩
set_option maxRecDepth 100000 in
set_option maxHeartbeats 4000000 in
theorem IndexFunc_named (id : Int) (B : Nat) (A : Option Addr) (c : Nat) (l : List S56) (hl : l.length ≤ 4611686018427387904) (w : World) (hC : Kd.C k56 w A l.length l) (hB : B < w.heap.size) (hc : w.cell? ⟨B, 0, none⟩ = some (.int .i64 id)) :
    Calls Try.prog 62 #[.slice A l.length c, .func (.func 82) #[] #[.pointer (some ⟨B, 0, none⟩)]] w fun e w' => e = .returned (.int .i64 (findL l id)) ∧ Below w.heap.size w w' := by
  have HC := Lib.hid hC
  have HL := Lib.hid hl
  have HB := Lib.hid hB
  have HCC := Lib.hid hc
  clear hC hl hB hc
  unfold findL
  obtain ⟨r, hr⟩ : ∃ r, findAt id l 0 = r := ⟨_, rfl⟩
  rw [hr]
  have eg := enters_of Try.func82 (by kernel_rfl) rfl
  have HR := Lib.hid hr
  clear hr
  go_enter Try.func62, Try.ntmps62
  go_wp2
  go_loopw [8] (fun i wr => ∃ (k : Nat), k ≤ l.length ∧ i = .int .i64 k ∧ Aside0 (findAt id (l.drop k) (k : Int) = r) ∧ Aside0 (Below w.heap.size w wr))
    (fun i _ => l.length - (intOf i).toNat)
  case atStart => exact ⟨0, Nat.zero_le _, rfl, ⟨HR.out⟩, ⟨Below.refl _ _⟩⟩
  case round =>
    obtain ⟨k, hk, rfl, HK, HBr⟩ := hrel
    by_cases hlt : k < l.length
    · obtain ⟨ad, hA, c0, c1⟩ := at_T56 (Kd.C_below HC.out HBr.out) (k : Int) (by omega) (by omega)
      subst hA
      have hst := HK.out
      rw [findAt_step id l k hlt] at hst
      rw [show rd_T56 l (k : Int) = l.getD k z56 from rfl] at c0 c1
      obtain ⟨b, hb⟩ : ∃ b, l.getD k z56 = b := ⟨_, rfl⟩
      rw [hb] at c0 c1 hst
      rw [Int.toNat_natCast] at c0 c1
      have hcall := named1_any id B b wr ((HBr.out.cell (p := ⟨B, 0, none⟩) HB.out).trans HCC.out) (Nat.lt_of_lt_of_le HB.out HBr.out.size)
      have HST := Lib.hid hst
      have HBW := Lib.hid HBr.out
      have q1 : decide ((k : Int) < (l.length : Int)) = true := decide_eq_true (by omega)
      have q2 : (0 : Int) ≤ (k : Int) := by omega
      have q3 : (k : Int) < (l.length : Int) := by omega
      have hwk : wrap64 ((k : Int) + 1) = ((k + 1 : Nat) : Int) := by have := HL.out; unfold wrap64; omega
      have hbe : (b.f0 == id) = true ∨ (b.f0 == id) = false := by cases (b.f0 == id) <;> simp
      clear hst hb HK HBr
      rcases hbe with hbe | hbe
      · rw [hbe] at hcall
        have hr2 : (k : Int) = r := by have h := HST.out; rw [if_pos (by simpa using hbe)] at h; exact h
        have HR2 := Lib.hid hr2
        clear hr2 hbe
        have HCL := Lib.hid hcall
        clear hcall
        go_wp2_with fail
        refine HCL.out.mono ?_
        rintro e w3 ⟨rfl, rfl⟩
        go_wp2
        go_ret
        exact ⟨by rw [HR2.out]; rfl, below_alloc HBW.out _⟩
      · rw [hbe] at hcall
        have hr2 : findAt id (l.drop (k + 1)) ((k : Int) + 1) = r := by have h := HST.out; rw [if_neg (by simpa using hbe)] at h; exact h
        have HR2 := Lib.hid hr2
        clear hr2 hbe
        have HCL := Lib.hid hcall
        clear hcall
        go_wp2_with fail
        refine HCL.out.mono ?_
        rintro e w3 ⟨rfl, rfl⟩
        go_wp2
        go_roundw
        case rel => exact ⟨k + 1, Nat.succ_le_of_lt hlt, by rw [hwk], ⟨HR2.out⟩, ⟨below_alloc HBW.out _⟩⟩
        case measure =>
          rw [hwk]
          show l.length - (((k + 1 : Nat) : Int)).toNat < l.length - ((k : Int)).toNat
          rw [Int.toNat_natCast, Int.toNat_natCast]
          exact Nat.sub_succ_lt_self _ _ hlt
    · obtain rfl : k = l.length := Nat.le_antisymm hk (Nat.le_of_not_lt hlt)
      have q1 : decide ((l.length : Int) < (l.length : Int)) = false := decide_eq_false (by omega)
      have HR2 := Lib.hid (HK.out.symm.trans (findAt_end id l _))
      clear HK
      go_wp2
      go_ret
      exact ⟨by rw [HR2.out]; rfl, HBr.out⟩
def pool_Find.f (l0 : List S56) (a1 : Int) : Option Int := if l0.length ≤ 8796093021952 then some (findL l0 a1) else none
set_option maxHeartbeats 1000000 in
theorem Find_any (A : Option Addr) (c : Nat) (l : List S56) (hl : l.length ≤ 8796093021952) (id : Int) (w : World) (hC : Kd.C k56 w A l.length l) :
    Calls Try.prog 29 #[.slice A l.length c, .int .i64 id] w fun e w' => e = .returned (.int .i64 (findL l id)) ∧ Below w.heap.size w w' := by
  have hI := IndexFunc_named id w.heap.size A c l (Nat.le_trans hl (by decide)) (w.alloc (.cells #[.int .i64 id] 3)) (Kd.C_alloc hC _) (by simp) ((Blk.new w 3 [.int .i64 id]).cell 0)
  have HI := Lib.hid hI
  clear hI hC hl
  go_enter Try.func29, Try.ntmps29
  go_wp2_with (first
    | (go_at_call 63; refine (named_any _ _).mono ?_; rintro e w1 ⟨rfl, rfl⟩)
    | (go_at_call 62; refine HI.out.mono ?_; rintro e w2 ⟨rfl, hb⟩; have HB2 := Lib.hid hb; clear hb))
  go_ret
  exact ⟨rfl, (below_alloc (Below.refl _ _) _).trans (HB2.out.mono (by simp))⟩
theorem pool_Find.calls (A0 : Option Addr) (c0 : Nat) (l0 : List S56) (a1 : Int) (r : Int) (w : World) (hr0 : Kd.C k56 w A0 l0.length l0) (hc0 : l0.length ≤ c0) (h : pool_Find.f l0 a1 = some r) :
    Calls Try.prog 29 #[.slice A0 l0.length c0, .int .i64 a1] w fun e w' => e = .returned (.int .i64 r) ∧ Below w.heap.size w w' := by
  unfold pool_Find.f at h
  by_cases hl : l0.length ≤ 8796093021952
  · rw [if_pos hl] at h
    obtain rfl := Option.some.inj h
    exact Find_any A0 c0 l0 hl a1 w hr0
  · rw [if_neg hl] at h
    exact absurd h (by simp)
end

/-! ### api_Backend_60: function 60 -/
section
open Go.Shelf Go.Proofs.Ytklngklmeanhcaa.Hand
theorem infoBk_ : (Try.prog.info? 56).map (fun i => (i.zero, i.size, i.bytes)) = some (some (.agg #[(.int .i64 0), (.int .i64 0)]), 2, 16) := by kernel_rfl
def api_Backend_60.f (l0 : List S56) : Option (List S56) := if l0.length ≤ 8796093021952 then some l0 else none

set_option maxRecDepth 100000 in
set_option maxHeartbeats 4000000 in
theorem cloneBk_any (A : Option Addr) (c : Nat) (l : List S56) (hl : l.length ≤ 8796093021952) (w : World) (hC : Kd.C k56 w A l.length l) :
    Calls Try.prog 60 #[.slice A l.length c] w fun e w' => ∃ v : Value, e = .returned v ∧ Kd.R k56 56 w' w.heap.size (fun _ => True) v l ∧ Below w.heap.size w w' := by
  have he := fun (w : World) => Lib.run_eql_slice_nil (P := Try.prog) w 31 56 A l.length c 0 0 Try.underlying31
  cases A with
  | none =>
    have hn : l = [] := by
      cases l with
      | nil => rfl
      | cons x l => obtain ⟨ad, e, _⟩ := hC.2.2 (by simp); cases e
    subst hn
    clear he
    have he : ∀ w : World, (binOp .eql 31 (.slice none 0 c) (.slice none 0 0)).run Try.prog w = .ok (.bool true) w := fun w => Lib.run_eql_slice_nil (P := Try.prog) w 31 56 none 0 c 0 0 Try.underlying31
    go_enter Try.func60, Try.ntmps60
    go_wp2
    go_ret
    exact ⟨_, rfl, Kd.R_nil _ _ _ _ _, Below.refl _ _⟩
  | some a =>
    obtain ⟨z, hz⟩ : ∃ z, ([] : List S56) = z := ⟨_, rfl⟩
    have HZ := Lib.hid hz
    clear hz
    have HC := Lib.hid hC
    clear hC
    have HB := Aside0.mk (Below.refl w.heap.size w)
    go_enter Try.func60, Try.ntmps60
    go_wp2_with (first | ((with_reducible refine gate_dst (N := 5) rfl ?_); refine Kd.R_lit k56 _ 56 ?hg (N := 5) ?hd (xs := ([] : List S56)) (inner := []) (ok := fun _ => True) (okp := fun _ => True) ?hr ?hp (fun _ hk => hk) trivial (Below.refl _ _) (Nat.le_refl _) (by simp) ?_; (case hd => rfl); (case hg => rfl); (case hr => first | (go_simp; done) | (go_simp; rfl)); (case hp => exact (Reps.none _ _)); intro v160 w31 ho32 hb hg_ hnew_; clear hg_ hnew_; rw [HZ.out] at ho32; have HB1 := Aside0.mk hb; have HO1 := Aside0.mk ho32; clear hb ho32) | ((with_reducible refine gate_builtin (b := .append) (xs := #[.tmp 5, .tmp 6]) rfl ?_); at_builtin; refine Kd.R_append_rows k56 (w0 := w) w.heap.size rfl (.tmp 5) (.tmp 6) 31 56 (.agg #[(.int .i64 0), (.int .i64 0)]) 16 rfl Try.underlying31 infoBk_ rfl (by decide) (by omega) v160 z l _ _ _ (fun _ => True) (fun _ => False) rfl rfl ?aO ?aR (fun _ _ h => h) (fun _ h => h.elim) ?aF ?aB ?aS ?aL ?_; (case aR => exact Kd.C_below HC.out HB1.out); (case aB => exact HB1.out); (case aF => exact (fun _ _ => trivial)); (case aO => exact HO1.out); (case aS => exact HB1.out.size); (case aL => rw [← HZ.out]; simp; omega); intro v163 w33 ho hb hg hat; rw [← HZ.out, List.nil_append] at ho; have HB2 := Aside0.mk hb; have HO2 := Aside0.mk ho; clear ho hb hg hat))
    go_ret
    exact ⟨_, rfl, HO2.out, HB2.out⟩

theorem cloneBk_f (l0 : List S56) (h : l0.length ≤ 8796093021952) : api_Backend_60.f l0 = some l0 := if_pos h
theorem api_Backend_60.calls (A0 : Option Addr) (c0 : Nat) (l0 : List S56) (r : List S56) (w : World) (hr0 : Kd.C k56 w A0 l0.length l0) (hc0 : l0.length ≤ c0) (h : api_Backend_60.f l0 = some r) :
    Calls Try.prog 60 #[.slice A0 l0.length c0] w fun e w' => ∃ v0_ : Value, e = .returned (v0_) ∧ Kd.R k56 56 w' w.heap.size (fun _ => True) v0_ r ∧ Below w.heap.size w w' := by
  unfold api_Backend_60.f at h
  by_cases hl : l0.length ≤ 8796093021952
  · rw [if_pos hl] at h
    obtain rfl := Option.some.inj h
    exact cloneBk_any A0 c0 l0 hl w hr0
  · rw [if_neg hl] at h
    exact absurd h (by simp)
end

-- NOT PRINTED: function 148 (fnv_each_1)

-- NOT PRINTED: function 140 (fnv_each)

/-! ### fnv_Join: function 118 -/
def fnv_Join.f (a0 : Int) (a1 : ByteArray) : Option (Int) := if a1.size ≤ 140737488351232 then some (Go.Proofs.Ytklngklmeanhcaa.Hand.hjoin a0 a1.data.toList) else none
theorem fnv_Join.calls (a0 : Int) (a1 : ByteArray) (r : Int) (w : World) (h : fnv_Join.f a0 a1 = some r) :
    Calls Try.prog 118 #[.int .u64 a0, .string a1] w fun e w' => e = .returned (.int .u64 r) ∧ Below w.heap.size w w' := by
  unfold fnv_Join.f at h
  by_cases hs : a1.size ≤ 140737488351232
  · rw [if_pos hs] at h
    obtain rfl := Option.some.inj h
    exact Go.Proofs.Ytklngklmeanhcaa.Hand.Join_any a0 a1 hs w
  · rw [if_neg hs] at h
    exact absurd h (by simp)

/-! ### fnv_Sum: function 119 -/
def fnv_Sum.f (a0 : ByteArray) : Option (Int) := (fnv_Join.f 14695981039346656037 a0).bind fun t102 => (some t102)
set_option maxHeartbeats 8000000 in
set_option maxRecDepth 100000 in
theorem fnv_Sum.calls (a0 : ByteArray) (r : Int) (w : World) (h : fnv_Sum.f a0 = some r) :
    Calls Try.prog 119 #[.string a0] w fun e w' => e = .returned (.int .u64 r) ∧ Below w.heap.size w w' := by
  have HB := Aside0.mk (Below.refl w.heap.size w)
  have H : ((fnv_Join.f 14695981039346656037 a0).bind fun t102 => (some t102)) = some r := h
  clear h
  replace H := Option.bind_eq_some_iff.mp H
  obtain ⟨t102, A20, H⟩ := H
  replace H : (some t102) = some r := H
  have A2 := Aside0.mk A20
  clear A20
  obtain rfl := Option.some.inj H
  go_enter Try.func119, Try.ntmps119
  go_wp2_with (first | ((with_reducible refine gate_callee (f := 118) rfl ?_); refine goesL_ (some 4) rfl rfl Try.func118 (by kernel_rfl) rfl #[.int .u64 14695981039346656037, .string a0] rfl (by (try simp only [List.map_toArray, List.map_cons, List.map_nil]); first | done | rfl | (simp only [List.length_drop, List.length_take]; rfl)) ?_; (with_reducible refine (fnv_Join.calls 14695981039346656037 a0 t102 _ A2.out).mono ?_); (try clear A2); rintro e w3 ⟨rfl, hb⟩; refine ⟨_, rfl, ?_⟩; have n0_ := Aside0.mk (below_step (by repeat (first | (with_reducible first | exact HB.out | apply below_alloc | apply pw_below_drewN | apply below_drew1) | exact HB.out)) hb); clear HB; have HB := n0_; clear n0_; (try clear hb); (try clear hb2); (try clear hk); (try clear hi)))
  go_ret
  exact ⟨by first | rfl | (simp [errW_none, errW_some] <;> rfl) | (simp [*, errW_none, errW_some] <;> rfl), by repeat (first | (with_reducible first | exact HB.out | apply below_alloc | apply pw_below_drewN | apply below_drew1) | exact HB.out)⟩

-- NOT PRINTED: function 149 (octet_lanes_1)

/-! ### octet_lanes: function 141 -/
section
open Go.Shelf Go.Proofs.Ytklngklmeanhcaa.Hand
attribute [local go_sem] Oper.semAt_some
/-- How far byte i of n is shifted. -/
def shiftOf (n i : Nat) : Int := 8 * ((n : Int) - 1 - i)
/-- All cells but block b's stay. -/
def KpC (b : Nat) (W W' : World) : Prop := W.heap.size ≤ W'.heap.size ∧ ∀ k c u m, W.heap[k]? = some (.cells c u m) → k ≠ b → W'.heap[k]? = some (.cells c u m)
theorem KpC.refl (b : Nat) (W : World) : KpC b W W := ⟨Nat.le_refl _, fun _ _ _ _ h _ => h⟩
theorem KpC.trans {b : Nat} {A B C : World} (h : KpC b A B) (k : KpC b B C) : KpC b A C := ⟨Nat.le_trans h.1 k.1, fun i c u m hi hn => k.2 i c u m (h.2 i c u m hi hn) hn⟩
theorem KpC.blk {b : Nat} {W W' : World} {k : Nat} {t : TypeId} {cs : List Value} (h : KpC b W W') (hb : Blk W k t cs) (hn : k ≠ b) : Blk W' k t cs := h.2 k _ _ _ hb hn
theorem KpC.set (b i : Nat) (W : World) (v : Value) : KpC b W (W.setCell ⟨b, i, none⟩ v) := ⟨by simp, fun _ _ _ _ h hn => (Below.heap_setCell _ _ _ _ hn).trans h⟩
theorem KpC.putObj {b : Nat} (W : World) (l : Nat) (o o' : Obj) (h : W.heap[l]? = some o) (h1 : o.isCells = false) : KpC b W (W.putObj l o') := by
  refine ⟨by simp [World.putObj], fun k c u m hc _ => ?_⟩
  have hkl : k ≠ l := by
    rintro rfl
    rw [h] at hc
    injection hc with hc
    subst hc
    simp [Obj.isCells] at h1
  exact (World.putObj_heap_other hkl).trans hc
set_option maxRecDepth 100000 in
set_option maxHeartbeats 8000000 in
theorem lanes1_in (d : Nat) (hd : 1 ≤ d) (y Bt b n : Nat) (hn : n ≤ 8) (hbt : Bt ≠ b) (J Jx : List (Fin n) → World → Prop)
    (hY : ∀ pre x W, J pre W → pre.length < n → YieldAt Fence.wide (d - 1) Try.prog y #[.int .i64 (x.val : Int), .int .u64 (shiftOf n x.val)] W fun e W' =>
      (e = .returned (.bool true) ∧ J (pre ++ [x]) W' ∧ KpC b W W') ∨ (e = .returned (.bool false) ∧ Jx (pre ++ [x]) W'))
    (W : World) (ht : Blk W Bt 3 [.int .i64 (n : Int)]) (h0 : J [] W) :
    CallsIn Fence.wide d Try.prog 149 #[.func (.yield y) #[] #[], .pointer (some ⟨Bt, 0, none⟩)] W fun e W' => (∃ v, e = .returned v) ∧
      ((∃ ys : List (Fin n), ys.map Fin.val = List.range n ∧ J ys W') ∨ (∃ pre : List (Fin n), True ∧ Jx pre W')) := by
  have hro : Fence.wide.round = none := rfl
  refine callsIn_of_wp Try.func149 rfl trivial ?_ hro
  simp only [Try.ntmps149, List.size_toArray, List.length_cons, List.length_nil, Nat.reduceAdd, Nat.reduceSub, Array.replicate_succ, Array.replicate_zero, List.push_toArray, List.append_toArray, List.nil_append, List.cons_append]
  have z0 : W.cell? ⟨Bt, 0, none⟩ = some (.int .i64 (n : Int)) := ht.cell 0
  have HT := Lib.hid ht
  have HY := Lib.hid hY
  have H0 := Lib.hid h0
  have HN := Lib.hid hn
  have HD := Lib.hid hd
  clear ht hY h0 hn hd
  gi_wp2
  gi_loopw [5] (fun i wr => ∃ (k : Nat) (pre : List (Fin n)), k ≤ n ∧ i = .int .i64 k ∧ pre.map Fin.val = List.range k ∧ J pre wr ∧ Blk wr Bt 3 [.int .i64 (n : Int)]) (fun i _ => n - (intOf i).toNat)
  case atStart => exact ⟨0, [], Nat.zero_le _, rfl, rfl, H0.out, HT.out⟩
  case round =>
    obtain ⟨k, pre, hk, rfl, hpre, hJ, hb⟩ := hrel
    have HP := Lib.hid hpre
    clear hpre
    have HB := Lib.hid hb
    by_cases hlt : k < n
    · obtain ⟨fn, tmps, assign, body, hy, hYR⟩ := HY.out pre ⟨k, hlt⟩ _ hJ (by have h := congrArg List.length HP.out; rw [List.length_map, List.length_range] at h; omega)
      have z1 : wr.cell? ⟨Bt, 0, none⟩ = some (.int .i64 (n : Int)) := hb.cell 0
      have q1 : decide ((k : Int) < (n : Int)) = true := decide_eq_true (by omega)
      have w1 : wrap64 ((n : Int) - 1) = (n : Int) - 1 := by have := HN.out; unfold wrap64; omega
      have w2 : wrap64 ((n : Int) - 1 - (k : Int)) = (n : Int) - 1 - (k : Int) := by have := HN.out; unfold wrap64; omega
      have w3 : wrap64 (8 * ((n : Int) - 1 - (k : Int))) = 8 * ((n : Int) - 1 - (k : Int)) := by have := HN.out; unfold wrap64; omega
      have w4 : IntKind.u64.wrap (8 * ((n : Int) - 1 - (k : Int))) = 8 * ((n : Int) - 1 - (k : Int)) := by have := HN.out; simp [IntKind.wrap, IntKind.bits, IntKind.signed]; omega
      have hw : wrap64 ((k : Int) + 1) = ((k + 1 : Nat) : Int) := by have := HN.out; unfold wrap64; omega
      clear hb hJ
      dsimp only [shiftOf] at hy
      gi_wp2
      refine ⟨fun _ => (by have := HD.out; omega), hYR.mono ?_⟩
      rintro e W3 (⟨rfl, hJ3, hk3⟩ | ⟨rfl, hJx3⟩)
      · have HJ3 := Lib.hid hJ3
        have HB3 := Lib.hid (hk3.blk HB.out hbt)
        clear hJ3 hk3
        gi_wp2
        go_roundw
        case rel => exact ⟨k + 1, pre ++ [⟨k, hlt⟩], by omega, by rw [hw], by rw [List.map_append, HP.out, List.range_succ]; rfl, HJ3.out, HB3.out⟩
        case measure =>
          rw [hw]
          show n - (((k + 1 : Nat) : Int)).toNat < n - ((k : Int)).toNat
          rw [Int.toNat_natCast, Int.toNat_natCast]
          omega
      · have HJ3 := Lib.hid hJx3
        clear hJx3
        gi_wp2
        refine bodyPost_ret (results_none rfl _ _ _) rfl ?_
        exact ⟨⟨_, rfl⟩, .inr ⟨_, trivial, HJ3.out⟩⟩
    · obtain rfl : n = k := by omega
      have q1 : decide ((n : Int) < (n : Int)) = false := decide_eq_false (by omega)
      have HJ3 := Lib.hid hJ
      clear hJ hb
      gi_wp2
      go_end0
      exact ⟨⟨_, rfl⟩, .inl ⟨pre, HP.out, HJ3.out⟩⟩
set_option maxHeartbeats 1000000 in
theorem lanes_any (n : Int) (w : World) :
    Calls Try.prog 141 #[.int .i64 n] w fun e w' => e = .returned (.func (.func 149) #[] #[.pointer (some ⟨w.heap.size, 0, none⟩)]) ∧ w' = w.alloc (.cells #[.int .i64 n] 3) := by
  go_enter Try.func141, Try.ntmps141
  go_wp2
  go_ret
  exact ⟨rfl, rfl⟩
theorem lanes_stops (d : Nat) (hd : 1 ≤ d) (Bt b n : Nat) (hn : n ≤ 8) (hbt : Bt ≠ b) (W : World) (ht : Blk W Bt 3 [.int .i64 (n : Int)]) :
    SeqStopsK Fence.wide d Try.prog 149 #[.pointer (some ⟨Bt, 0, none⟩)] (fun x : Fin n => #[.int .i64 (x.val : Int), .int .u64 (shiftOf n x.val)]) (KpC b) (fun ys => ys.map Fin.val = List.range n) (fun _ => True) n W := fun y J Jx W' hW _ _ hY h0 =>
  lanes1_in d hd y Bt b n hn hbt J Jx hY W' (ht.below hW) h0
end

end Go.Proofs.Ytklngklmeanhcaa.P
