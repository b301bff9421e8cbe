/- Each Go function that the laws reach, as a plain function, with the proof that the machine's call comes to what it says; of a law: its row. Made by a program of this seat (wip/hp.py, over the print). -/
import Derived.Test.YthdkkmeiihbafaaPx0
import Derived.Test.YthdkkmeiihbafaaPx1
namespace Go.Proofs.Ythdkkmeiihbafaa.P
open Go.RowKit Go.Proofs.YthdkkmeiihbafaaW.PrintWords Go.Proofs.YthdkkmeiihbafaaW.PrintLast Go.Proofs.YthdkkmeiihbafaaW.PrintMore
attribute [local go_sem] max2_int min2_int max_two min_two max_three min_three max_four min_four   -- for this text's walks alone
set_option linter.unusedVariables false
set_option linter.unusedSimpArgs false

attribute [local go_sem high] eqA31
/-- What is known of a value of struct type 31 that came in. -/
def okS31 (x : S31) : Prop := (Lit.int .i64 x.f0).wf = true ∧ x.f1.size ≤ maxLen ∧ (Lit.int .i64 x.f2).wf = true ∧ (Lit.int .i64 x.f3).wf = true

-- NOT PRINTED: function 82 (fnv_each_1)

-- NOT PRINTED: function 78 (fnv_each)

/-! ### fnv_Join: function 63 -/
def fnv_Join.f (a0 : Int) (a1 : ByteArray) : Option (Int) := if a1.size ≤ 140737488351232 then some (Go.Proofs.Ythdkkmeiihbafaa.Hand.hjoin a0 a1.data.toList) else none
theorem fnv_Join.calls (a0 : Int) (a1 : ByteArray) (r : Int) (w : World) (h : fnv_Join.f a0 a1 = some r) :
    Calls Try.prog 63 #[.int .u64 a0, .string a1] w fun e w' => e = .returned (.int .u64 r) ∧ Below w.heap.size w w' := by
  unfold fnv_Join.f at h
  by_cases hs : a1.size ≤ 140737488351232
  · rw [if_pos hs] at h
    obtain rfl := Option.some.inj h
    exact Go.Proofs.Ythdkkmeiihbafaa.Hand.Join_any a0 a1 hs w
  · rw [if_neg hs] at h
    exact absurd h (by simp)

/-! ### fnv_Sum: function 34 -/
def fnv_Sum.f (a0 : ByteArray) : Option (Int) := (fnv_Join.f 14695981039346656037 a0).bind fun t101 => (some t101)
set_option maxHeartbeats 8000000 in
set_option maxRecDepth 100000 in
theorem fnv_Sum.calls (a0 : ByteArray) (r : Int) (w : World) (h : fnv_Sum.f a0 = some r) :
    Calls Try.prog 34 #[.string a0] w fun e w' => e = .returned (.int .u64 r) ∧ Below w.heap.size w w' := by
  have HB := Aside0.mk (Below.refl w.heap.size w)
  have H : ((fnv_Join.f 14695981039346656037 a0).bind fun t101 => (some t101)) = some r := h
  clear h
  replace H := Option.bind_eq_some_iff.mp H
  obtain ⟨t101, A20, H⟩ := H
  replace H : (some t101) = some r := H
  have A2 := Aside0.mk A20
  clear A20
  obtain rfl := Option.some.inj H
  go_enter Try.func34, Try.ntmps34
  go_wp2_with (first | ((with_reducible refine gate_callee (f := 63) rfl ?_); refine goesL_ (some 4) rfl rfl Try.func63 (by kernel_rfl) rfl #[.int .u64 14695981039346656037, .string a0] rfl (by (try simp only [List.map_toArray, List.map_cons, List.map_nil]); first | done | rfl | (simp only [List.length_drop, List.length_take]; rfl)) ?_; (with_reducible refine (fnv_Join.calls 14695981039346656037 a0 t101 _ A2.out).mono ?_); (try clear A2); rintro e w3 ⟨rfl, hb⟩; refine ⟨_, rfl, ?_⟩; have n0_ := Aside0.mk (below_step (by repeat (first | (with_reducible first | exact HB.out | apply below_alloc | apply pw_below_drewN | apply below_drew1) | exact HB.out)) hb); clear HB; have HB := n0_; clear n0_; (try clear hb); (try clear hb2); (try clear hk); (try clear hi)))
  go_ret
  exact ⟨by first | rfl | (simp [errW_none, errW_some] <;> rfl) | (simp [*, errW_none, errW_some] <;> rfl), by repeat (first | (with_reducible first | exact HB.out | apply below_alloc | apply pw_below_drewN | apply below_drew1) | exact HB.out)⟩

/-! ### probe_Home: function 29 -/
def probe_Home.f (a0 : ByteArray) (a1 : Int) : Option (Int) := if a1 < 1 then (some 0) else ((fnv_Sum.f a0).bind fun t102 => (if (IntKind.u64.wrap (a1)) = 0 then (none) else (some (wrap64 (Int.tmod t102 (IntKind.u64.wrap (a1)))))))
set_option maxHeartbeats 8000000 in
set_option maxRecDepth 100000 in
theorem probe_Home.calls (a0 : ByteArray) (a1 : Int) (r : Int) (w : World) (h : probe_Home.f a0 a1 = some r) :
    Calls Try.prog 29 #[.string a0, .int .i64 a1] w fun e w' => e = .returned (.int .i64 r) ∧ Below w.heap.size w w' := by
  have HB := Aside0.mk (Below.refl w.heap.size w)
  have H : (if a1 < 1 then (some 0) else ((fnv_Sum.f a0).bind fun t102 => (if (IntKind.u64.wrap (a1)) = 0 then (none) else (some (wrap64 (Int.tmod t102 (IntKind.u64.wrap (a1)))))))) = some r := h
  clear h
  by_cases c3 : a1 < 1
  · rw [if_pos c3] at H
    have c3b0 : decide (a1 < 1) = true := decide_eq_true c3
    clear c3
    obtain rfl := Option.some.inj H
    go_enter Try.func29, Try.ntmps29
    go_wp2
    go_ret
    exact ⟨by first | rfl | (simp [errW_none, errW_some] <;> rfl) | (simp [*, errW_none, errW_some] <;> rfl), by repeat (first | (with_reducible first | exact HB.out | apply below_alloc | apply pw_below_drewN | apply below_drew1) | exact HB.out)⟩
  · rw [if_neg c3] at H
    have c3b0 : decide (a1 < 1) = false := decide_eq_false c3
    clear c3
    replace H := Option.bind_eq_some_iff.mp H
    obtain ⟨t102, A40, H⟩ := H
    replace H : (if (IntKind.u64.wrap (a1)) = 0 then (none) else (some (wrap64 (Int.tmod t102 (IntKind.u64.wrap (a1)))))) = some r := H
    have A4 := Aside0.mk A40
    clear A40
    by_cases c5 : (IntKind.u64.wrap (a1)) = 0
    · rw [if_pos c5] at H
      exact absurd H (by simp)
    · rw [if_neg c5] at H
      have c5b0 : ((IntKind.u64.wrap (a1)) == 0) = false := beq_eq_false_iff_ne.mpr c5
      have c5b1 : ((IntKind.u64.wrap (a1)) != 0) = true := bne_iff_ne.mpr c5
      obtain rfl := Option.some.inj H
      go_enter Try.func29, Try.ntmps29
      go_wp2_with (first | ((with_reducible refine gate_callee (f := 34) rfl ?_); refine goesL_ (some 8) rfl rfl Try.func34 (by kernel_rfl) rfl #[.string a0] rfl (by (try simp only [List.map_toArray, List.map_cons, List.map_nil]); first | done | rfl | (simp only [List.length_drop, List.length_take]; rfl)) ?_; (with_reducible refine (fnv_Sum.calls a0 t102 _ A4.out).mono ?_); (try clear A4); rintro e w6 ⟨rfl, hb⟩; refine ⟨_, rfl, ?_⟩; have n0_ := Aside0.mk (below_step (by repeat (first | (with_reducible first | exact HB.out | apply below_alloc | apply pw_below_drewN | apply below_drew1) | exact HB.out)) hb); clear HB; have HB := n0_; clear n0_; (try clear hb); (try clear hb2); (try clear hk); (try clear hi)))
      go_ret
      exact ⟨by first | rfl | (simp [errW_none, errW_some] <;> rfl) | (simp [*, errW_none, errW_some] <;> rfl), by repeat (first | (with_reducible first | exact HB.out | apply below_alloc | apply pw_below_drewN | apply below_drew1) | exact HB.out)⟩

-- NOT PRINTED: function 75 (probe_way_1)

/-! ### probe_way: function 58 -/
section
open Go.Shelf Go.Proofs.Ythdkkmeiihbafaa.Hand
attribute [local go_sem] Oper.semAt_some
/-- An entry, as a value. -/
abbrev entV (x : S31) : Value := .agg #[.int .i64 x.f0, .string x.f1, .int .i64 x.f2, .int .i64 x.f3]
/-- Where a key's way comes to, step by step. -/
def wayAt (l : List S31) (hd : Int) (i : Nat) : Int × S31 := ((hd + i) % l.length, rd_T31 l ((hd + i) % l.length))
theorem home_range {key : ByteArray} {n hd : Int} (h : probe_Home.f key n = some hd) (hn : 1 ≤ n) (hn2 : n ≤ 9223372036854775807) : 0 ≤ hd ∧ hd < n := by
  unfold probe_Home.f at h
  rw [if_neg (by omega)] at h
  obtain ⟨t, ht, h⟩ := Option.bind_eq_some_iff.mp h
  split at h
  · simp at h
  · rename_i hz
    obtain rfl := Option.some.inj h
    have hw : IntKind.u64.wrap n = n := by simp [IntKind.wrap, IntKind.bits, IntKind.signed]; omega
    have ht0 : 0 ≤ t ∧ t < 18446744073709551616 := by
      unfold fnv_Sum.f fnv_Join.f at ht
      split at ht
      · obtain rfl := Option.some.inj ht
        exact hjoin_range _ _ (by decide) (by decide)
      · simp at ht
    rw [hw, Int.tmod_eq_emod_of_nonneg ht0.1]
    have a := Int.emod_nonneg t (b := n) (by omega)
    have b := Int.emod_lt_of_pos t (b := n) (by omega)
    unfold wrap64
    omega

set_option maxRecDepth 100000 in
set_option maxHeartbeats 4000000 in
theorem way1_in (n : Nat) (hn : 1 ≤ n) (y Bk Bt n₀ : Nat) (A : Option Addr) (c : Nat) (l : List S31) (key : ByteArray) (hl : l.length ≤ 1000000) (hd : Int) (hh : probe_Home.f key l.length = some hd)
    (w : World) (hw : w.heap.size = n₀) (hC : Kd.C k31 w A l.length l) (J Jx : List (Int × S31) → World → Prop) (B : Nat) (hJ : AbidesFrom B J)
    (hY : ∀ pre x W, J pre W → pre.length < l.length → YieldAt Fence.wide (n - 1) Try.prog y #[.int .i64 x.1, entV x.2] W fun e W' =>
      (e = .returned (.bool true) ∧ J (pre ++ [x]) W' ∧ KpB n₀ (fun a => a = ⟨Bk, 0, none⟩ ∨ a = ⟨Bt, 0, none⟩) W W') ∨ (e = .returned (.bool false) ∧ Jx (pre ++ [x]) W'))
    (W : World) (hB : Below n₀ w W) (hk : W.cell? ⟨Bk, 0, none⟩ = some (.string key)) (ht : W.cell? ⟨Bt, 0, none⟩ = some (.slice A l.length c)) (h0 : J [] W) :
    CallsIn Fence.wide n Try.prog 75 #[.func (.yield y) #[] #[], .pointer (some ⟨Bk, 0, none⟩), .pointer (some ⟨Bt, 0, none⟩)] W fun e W' => (∃ v, e = .returned v) ∧
      ((∃ ys, ys = upto (wayAt l hd) l.length ∧ J ys W') ∨ (∃ pre, (∃ k, k ≤ l.length ∧ pre = upto (wayAt l hd) k) ∧ Jx pre W')) := by
  have hro : Fence.wide.round = none := rfl
  refine callsIn_of_wp Try.func75 rfl trivial ?_ hro
  simp only [Try.ntmps75, List.size_toArray, List.length_cons, List.length_nil, Nat.reduceAdd, Nat.reduceSub, Array.replicate_succ, Array.replicate_zero, List.push_toArray, List.append_toArray, List.nil_append, List.cons_append]
  gi_wp2_with (refine ⟨trivial, ?_⟩; gi_at_call 29; refine (callsIn_wide.2 (probe_Home.calls key l.length hd _ hh)).mono ?_; rintro e w1 ⟨rfl, hb1⟩; have hk1 := cell_kept hk (below_grown hb1) (fun r e => by cases e); have ht1 := cell_kept ht (below_grown hb1) (fun r e => by cases e))
  have hK0 : KpB n₀ (fun a => a = ⟨Bk, 0, none⟩ ∨ a = ⟨Bt, 0, none⟩) w1 w1 := KpB.refl _ _ _
  have hJ1 : J [] w1 := hJ _ _ _ none h0 (below_grown hb1) (fun r e => by cases e)
  have hB1 : Below n₀ w w1 := hB.trans (hb1.mono (by have := hB.size; omega))
  gi_loopw [13] (fun i wr => ∃ k : Nat, k ≤ l.length ∧ i = .int .i64 k ∧ J (upto (wayAt l hd) k) wr ∧ KpB n₀ (fun a => a = ⟨Bk, 0, none⟩ ∨ a = ⟨Bt, 0, none⟩) w1 wr)
    (fun i _ => l.length - (intOf i).toNat)
  case atStart => exact ⟨0, Nat.zero_le _, rfl, hJ1, hK0⟩
  case round =>
    obtain ⟨k, hk', rfl, hJs, hnx⟩ := hrel
    have htr : wr.cell? ⟨Bt, 0, none⟩ = some (.slice A l.length c) := hnx.2 _ _ (.inr rfl) ht1
    have hBr : Below w.heap.size w wr := by rw [hw]; exact hB1.trans hnx.1
    have hCr := Kd.C_below hC hBr
    clear hk ht hk1 ht1 hB hB1 hK0 hJ1 hBr
    by_cases hlt : k < l.length
    · obtain ⟨hr0, hr1⟩ := home_range hh (by omega) (by omega)
      obtain ⟨m, rfl⟩ := Int.eq_ofNat_of_zero_le hr0
      obtain ⟨fn, tmps, assign, body, hy, hR⟩ := hY _ (wayAt l m k) wr hJs (by rw [upto_length]; exact hlt)
      have hne : ¬ (l = []) := fun e => by rw [e] at hlt; simp at hlt
      obtain ⟨j, hj⟩ : ∃ j : Int, ((m : Int) + k) % (l.length : Int) = j := ⟨_, rfl⟩
      have hj0 : 0 ≤ j := by rw [← hj]; exact Int.emod_nonneg _ (by omega)
      have hj1 : j < l.length := by rw [← hj]; exact Int.emod_lt_of_pos _ (by omega)
      dsimp only [wayAt] at hy
      rw [hj] at hy
      obtain ⟨ad, hA, c0, c1, c2, c3⟩ := at_T31 hCr j hj0 hj1
      subst hA
      gi_wp2
      refine hR.mono ?_
      rintro e W3 (⟨rfl, hJ3, hk3⟩ | ⟨rfl, hJx3⟩)
      · gi_wp2
        go_roundw
        case rel => exact ⟨k + 1, by omega, by simp, by rw [upto_succ]; exact hJ3, kp_t hnx hk3⟩
        case measure => simp [intOf]; omega
      · gi_wp2
        refine bodyPost_ret (results_none rfl _ _ _) rfl ?_
        exact ⟨⟨_, rfl⟩, .inr ⟨_, ⟨k + 1, by omega, (upto_succ _ _).symm⟩, hJx3⟩⟩
    · obtain rfl : k = l.length := by omega
      gi_wp2
      go_end0
      exact ⟨⟨_, rfl⟩, .inl ⟨_, rfl, hJs⟩⟩

set_option maxHeartbeats 1000000 in
theorem way_any (A : Option Addr) (n c : Nat) (key : ByteArray) (w : World) :
    Calls Try.prog 58 #[.slice A n c, .string key] w fun e w' => e = .returned (.func (.func 75) #[] #[.pointer (some ⟨w.heap.size + 1, 0, none⟩), .pointer (some ⟨w.heap.size, 0, none⟩)]) ∧ w' = (w.alloc (.cells #[.slice A n c] 22)).alloc (.cells #[.string key] 9) := by
  go_enter Try.func58, Try.ntmps58
  go_wp2
  go_ret
  exact ⟨rfl, rfl⟩

theorem way_stops (n : Nat) (hn : 1 ≤ n) (Bk Bt n₀ : Nat) (A : Option Addr) (c : Nat) (l : List S31) (key : ByteArray) (hl : l.length ≤ 1000000) (hd : Int) (hh : probe_Home.f key l.length = some hd)
    (w W : World) (hw : w.heap.size = n₀) (hC : Kd.C k31 w A l.length l) (hB : Below n₀ w W) (hBk : Bk < W.heap.size) (hBt : Bt < W.heap.size) (hk : W.cell? ⟨Bk, 0, none⟩ = some (.string key)) (ht : W.cell? ⟨Bt, 0, none⟩ = some (.slice A l.length c)) :
    SeqStopsK Fence.wide n Try.prog 75 #[.pointer (some ⟨Bk, 0, none⟩), .pointer (some ⟨Bt, 0, none⟩)] (fun x : Int × S31 => #[.int .i64 x.1, entV x.2]) (KpB n₀ (fun a => a = ⟨Bk, 0, none⟩ ∨ a = ⟨Bt, 0, none⟩)) (fun ys => ys = upto (wayAt l hd) l.length) (fun pre => ∃ k, k ≤ l.length ∧ pre = upto (wayAt l hd) k) l.length W := fun y J Jx W' hW hJ _ hY h0 =>
  way1_in n hn y Bk Bt n₀ A c l key hl hd hh w hw hC J Jx _ hJ hY W' (hB.trans (hW.mono (by have := hB.size; omega))) ((hW.cell (p := ⟨Bk, 0, none⟩) hBk).trans hk) ((hW.cell (p := ⟨Bt, 0, none⟩) hBt).trans ht) h0
end

/-! ### probe_Find: function 25 -/
section
open Go.Shelf Go.Proofs.Ythdkkmeiihbafaa.Hand
attribute [local go_sem] Oper.semAt_some
/-- Does a way go on at this entry? -/
def goesOn (key : ByteArray) (x : S31) : Prop := x.f0 ≠ 0 ∧ ¬ (x.f0 = 1 ∧ x.f1 = key)
def findIn (key : ByteArray) : List (Int × S31) → Int
  | [] => -1
  | (j, x) :: r => if x.f0 = 0 then -1 else if x.f0 = 1 ∧ x.f1 = key then j else findIn key r
theorem findIn_on {key : ByteArray} : ∀ (a b : List (Int × S31)), (∀ p ∈ a, goesOn key p.2) → findIn key (a ++ b) = findIn key b
  | [], _, _ => rfl
  | (j, x) :: a, b, h => by
    have hx := h (j, x) (by simp)
    simp only [List.cons_append, findIn]
    rw [if_neg hx.1, if_neg hx.2]
    exact findIn_on a b (fun p hp => h p (by simp [hp]))
def probe_Find.f (l0 : List S31) (a1 : ByteArray) : Option Int :=
  if l0.length ≤ 1000000 then (probe_Home.f a1 l0.length).bind fun hd => some (findIn a1 (upto (wayAt l0 hd) l0.length)) else none

set_option maxRecDepth 100000 in
set_option maxHeartbeats 8000000 in
theorem Find_any (A : Option Addr) (c : Nat) (l : List S31) (key : ByteArray) (hl : l.length ≤ 1000000) (hd : Int) (hh : probe_Home.f key l.length = some hd) (w : World) (hC : Kd.C k31 w A l.length l) :
    Calls Try.prog 25 #[.slice A l.length c, .string key] w fun e W' => e = .returned (.int .i64 (findIn key (upto (wayAt l hd) l.length))) ∧ Below w.heap.size w W' := by
  refine (callsIn_wide (n := 6)).1 ?_
  have hro : Fence.wide.round = none := rfl
  refine callsIn_of_wp_marks Try.func25 rfl trivial ?_ hro
  simp only [Try.ntmps25, List.size_toArray, List.length_cons, List.length_nil, Nat.reduceAdd, Nat.reduceSub, Array.replicate_succ, Array.replicate_zero, List.push_toArray, List.append_toArray, List.nil_append, List.cons_append]
  gi_wp2
  refine wpIn_scope_wide ?_
  gi_wp2
  refine wpIn_label ?_
  gi_wp2_with (refine ⟨trivial, ?_⟩; gi_at_call 58; refine (callsIn_wide.2 (way_any _ _ _ _ _)).mono ?_; rintro e w' ⟨rfl, rfl⟩)
  have b0 := Blk.new w 9 [.string key]
  have b1 := Blk.new (w.alloc (.cells #[.string key] 9)) 3 [.int .i64 (-1)]
  have b2 := Blk.new ((w.alloc (.cells #[.string key] 9)).alloc (.cells #[.int .i64 (-1)] 3)) 22 [.slice A l.length c]
  have b3 := Blk.new (((w.alloc (.cells #[.string key] 9)).alloc (.cells #[.int .i64 (-1)] 3)).alloc (.cells #[.slice A l.length c] 22)) 9 [.string key]
  have hB0 : Below w.heap.size w ((((w.alloc (.cells #[.string key] 9)).alloc (.cells #[.int .i64 (-1)] 3)).alloc (.cells #[.slice A l.length c] 22)).alloc (.cells #[.string key] 9)) := ((((Below.refl _ w).alloc (Nat.le_refl _) _).alloc (by simp) _).alloc (by simp; omega) _).alloc (by simp; omega) _
  replace b0 := ((b0.alloc (.cells #[.int .i64 (-1)] 3)).alloc (.cells #[.slice A l.length c] 22)).alloc (.cells #[.string key] 9)
  replace b1 := (b1.alloc (.cells #[.slice A l.length c] 22)).alloc (.cells #[.string key] 9)
  replace b2 := b2.alloc (.cells #[.string key] 9)
  have hsz : ((((w.alloc (.cells #[.string key] 9)).alloc (.cells #[.int .i64 (-1)] 3)).alloc (.cells #[.slice A l.length c] 22)).alloc (.cells #[.string key] 9)).heap.size = w.heap.size + 4 := by simp
  simp only [World.size_alloc] at b0 b1 b2 b3
  obtain ⟨W0, hW0⟩ : ∃ W0, ((((w.alloc (.cells #[.string key] 9)).alloc (.cells #[.int .i64 (-1)] 3)).alloc (.cells #[.slice A l.length c] 22)).alloc (.cells #[.string key] 9)) = W0 := ⟨_, rfl⟩
  rw [hW0] at hB0 hsz ⊢
  replace b0 : Blk W0 w.heap.size 9 [.string key] := by rw [← hW0]; exact b0
  replace b1 : Blk W0 (w.heap.size + 1) 3 [.int .i64 (-1)] := by rw [← hW0]; exact b1
  replace b2 : Blk W0 (w.heap.size + 1 + 1) 22 [.slice A l.length c] := by rw [← hW0]; exact b2
  replace b3 : Blk W0 (w.heap.size + 1 + 1 + 1) 9 [.string key] := by rw [← hW0]; exact b3
  clear hW0
  have HH := Lib.hid hsz
  clear hsz
  refine wpIn_rangeFunc_ownH hro (by omega) (gf := 75) (lb := #[.pointer (some ⟨w.heap.size + 1 + 1 + 1, 0, none⟩), .pointer (some ⟨w.heap.size + 1 + 1, 0, none⟩)]) rfl trivial (enters_of Try.func75 (by kernel_rfl) rfl)
    (way_stops (6 - 1) (by omega) (w.heap.size + 1 + 1 + 1) (w.heap.size + 1 + 1) w.heap.size A c l key hl hd hh w W0 rfl hC hB0 b3.lt b2.lt (by rw [b3.cell]; rfl) (by rw [b2.cell]; rfl)) kp_t (kp_b hB0.size) (Below.refl _ _) (fun _ => rfl)
    (fun pre W => (Blk W w.heap.size 9 [.string key] ∧ Blk W (w.heap.size + 1) 3 [.int .i64 (-1)]) ∧ Below w.heap.size w W ∧ ∀ p ∈ pre, goesOn key p.2)
    (fun c pre W => (c = .exit 0 ∧ ∃ (ini : List (Int × S31)) (last : Int × S31), pre = ini ++ [last] ∧ (∀ p ∈ ini, goesOn key p.2) ∧ ¬ goesOn key last.2 ∧ Blk W (w.heap.size + 1) 3 [.int .i64 (if last.2.f0 = 0 then -1 else last.1)]) ∧ Below w.heap.size w W)
    ((OwnFrom.and (blk_ownFrom _ _ _ _) (blk_ownFrom _ _ _ _)).and ((ownFrom_below (Nat.le_refl _) hB0.size).and (OwnFrom.pure _)))
    (fun c => OwnFrom.and (fun s W W' row ⟨h1, ini, last, h2, h3, h4, h5⟩ hg hr => ⟨h1, ini, last, h2, h3, h4, blk_ownFrom (β := Unit) W0.heap.size _ _ (fun _ => _) () W W' row h5 hg hr⟩) (ownFrom_below (Nat.le_refl _) hB0.size))
    ⟨⟨b0, b1⟩, hB0, by simp⟩
    (fun x a' W => ∃ Bx, w.heap.size + 1 < Bx ∧ Blk W Bx 31 [.int .i64 x.2.f0, .string x.2.f1, .int .i64 x.2.f2, .int .i64 x.2.f3] ∧ a' = { tmps := #[.slice A l.length c, .string key, undef, .pointer (some ⟨w.heap.size, 0, none⟩), .int .i64 0, .pointer (some ⟨w.heap.size + 1, 0, none⟩), .int .i64 x.1, .pointer (some ⟨Bx, 0, none⟩), .slice A l.length c, .string key, .func (.func 75) #[] #[.pointer (some ⟨w.heap.size + 1 + 1 + 1, 0, none⟩), .pointer (some ⟨w.heap.size + 1 + 1, 0, none⟩)], .int .i64 x.1, entV x.2, undef, undef, undef, undef, undef, undef, undef, undef, undef, undef, undef, undef, undef, undef, undef, undef], defers := [] })
    (fun x a' s W W' row ⟨Bx, h1, h2, h3⟩ hg hr => ⟨Bx, h1, blk_ownFrom (β := Unit) W0.heap.size _ _ (fun _ => _) () W W' row h2 hg hr, h3⟩) ?assign ?body ?done ?stop
  case assign =>
    rintro y pre x W K ⟨⟨c0, c1⟩, hB, hp⟩ hK
    gi_wp2
    exact hK _ _ ((KeepsOthers.alloc _ _).from _) ((KpB.refl _ _ _).alloc hB.size _) ⟨⟨c0.alloc _, c1.alloc _⟩, hB.alloc hB.size _, hp⟩ ⟨_, c1.lt, Blk.new W 31 [.int .i64 x.2.f0, .string x.2.f1, .int .i64 x.2.f2, .int .i64 x.2.f3], rfl⟩
  case body =>
    rintro y pre x a' W hy ⟨r, hr⟩ ⟨⟨c0, c1⟩, hB, hp⟩ ⟨Bx, hBx, cx, rfl⟩ hlt
    have d0 : W.cell? ⟨w.heap.size, 0, none⟩ = some (.string key) := c0.cell 0
    have e0 : W.cell? ⟨Bx, 0, none⟩ = some (.int .i64 x.2.f0) := cx.cell 0
    have e1 : W.cell? ⟨Bx, 1, none⟩ = some (.string x.2.f1) := cx.cell 1
    by_cases h0 : x.2.f0 = 0
    · have q0 : (x.2.f0 == 0) = true := by simpa using h0
      have hx : ¬ goesOn key x.2 := fun h => h.1 h0
      have hz : (if x.2.f0 = 0 then (-1 : Int) else x.1) = -1 := if_pos h0
      have H0 := Lib.hid h0
      have HZ := Lib.hid hz
      clear h0 hz
      gi_wp2
      refine ⟨KeepsFrom.refl _ _, ⟨rfl, pre, x, rfl, hp, hx, ?_⟩, hB⟩
      rw [HZ.out]; exact c1
    · have q0 : (x.2.f0 == 0) = false := by simpa using h0
      have hz : (if x.2.f0 = 0 then (-1 : Int) else x.1) = x.1 := if_neg h0
      have HZ := Lib.hid hz
      have H0 := Lib.hid h0
      clear h0 hz
      by_cases h1 : x.2.f0 = 1
      · have q1 : (x.2.f0 == 1) = true := by simpa using h1
        have H1 := Lib.hid h1
        clear h1
        by_cases hk : x.2.f1 = key
        · have hx : ¬ goesOn key x.2 := fun h => h.2 ⟨H1.out, hk⟩
          have q2 : (x.2.f1.toList == key.toList) = true := by rw [hk]; simp
          have f1 := c1.frozen 0
          have g1 := c1.cell 0
          have HK := Lib.hid hk
          clear hk
          gi_wp2
          refine ⟨(KeepsOthers.setCell _ _ _).from _, ⟨rfl, pre, x, rfl, hp, hx, ?_⟩, hB.setCell (p := ⟨w.heap.size + 1, 0, none⟩) (by simp) _⟩
          rw [HZ.out]; exact c1.set1 _
        · have hx : goesOn key x.2 := ⟨H0.out, fun h => hk h.2⟩
          have q2 : (x.2.f1.toList == key.toList) = false := by
            rw [beq_eq_false_iff_ne]; intro e; exact hk (bytes_eq e)
          have HK := Lib.hid hk
          clear hk
          gi_wp2
          exact ⟨KeepsFrom.refl _ _, KpB.refl _ _ _, ⟨c0, c1⟩, hB, fun p hp' => (List.mem_append.1 hp').elim (hp p) (fun e => by simp at e; subst e; exact hx)⟩
      · have q1 : (x.2.f0 == 1) = false := by simpa using h1
        have hx : goesOn key x.2 := ⟨H0.out, fun h => h1 h.1⟩
        clear h1
        gi_wp2
        exact ⟨KeepsFrom.refl _ _, KpB.refl _ _ _, ⟨c0, c1⟩, hB, fun p hp' => (List.mem_append.1 hp').elim (hp p) (fun e => by simp at e; subst e; exact hx)⟩
  case done =>
    rintro D ys W hD rfl ⟨⟨c0, c1⟩, hB, hp⟩ hK
    have g1 : W.cell? ⟨w.heap.size + 1, 0, none⟩ = some (.int .i64 (-1)) := c1.cell 0
    gi_wp2
    refine ⟨by simp, .inl ⟨_, _, rfl, run_takeDeferred hK, ?_⟩⟩
    refine ⟨_, results_tmp rfl _ _ _, ?_, hB.trans (belowK_b (w := w) (Nat.le_refl _) W D _ _ (Nat.le_trans hB0.size hD) hK rfl rfl)⟩
    have e := findIn_on (upto (wayAt l hd) l.length) [] hp
    rw [List.append_nil] at e
    rw [e]; rfl
  case stop =>
    rintro D cc pre W hD ⟨k, hk, rfl⟩ ⟨⟨rfl, ini, last, e1, e2, e3, c1⟩, hB⟩ hK
    have hf : (if last.2.f0 = 0 then (-1 : Int) else last.1) = findIn key (upto (wayAt l hd) l.length) := by
      obtain ⟨rest, hr⟩ := upto_split (wayAt l hd) hk
      rw [hr, e1, List.append_assoc, findIn_on _ _ e2]
      simp only [List.cons_append, findIn]
      by_cases h0 : last.2.f0 = 0
      · rw [if_pos h0, if_pos h0]
      · rw [if_neg h0, if_neg h0]
        have : last.2.f0 = 1 ∧ last.2.f1 = key := Classical.byContradiction fun h => e3 ⟨h0, h⟩
        rw [if_pos this]
    rw [hf] at c1
    have g1 : W.cell? ⟨w.heap.size + 1, 0, none⟩ = some (.int .i64 (findIn key (upto (wayAt l hd) l.length))) := c1.cell 0
    gi_wp2
    refine ⟨by simp, .inl ⟨_, _, rfl, run_takeDeferred hK, ?_⟩⟩
    exact ⟨_, results_tmp rfl _ _ _, rfl, hB.trans (belowK_b (w := w) (Nat.le_refl _) W D _ _ (Nat.le_trans hB0.size hD) hK rfl rfl)⟩

theorem probe_Find.calls (A0 : Option Addr) (c0 : Nat) (l0 : List S31) (a1 : ByteArray) (r : Int) (w : World) (hr0 : Kd.C k31 w A0 l0.length l0) (hc0 : l0.length ≤ c0) (h : probe_Find.f l0 a1 = some r) :
    Calls Try.prog 25 #[.slice A0 l0.length c0, .string a1] w fun e w' => e = .returned (.int .i64 r) ∧ Below w.heap.size w w' := by
  unfold probe_Find.f at h
  by_cases hl : l0.length ≤ 1000000
  · rw [if_pos hl] at h
    obtain ⟨hd, hh, h⟩ := Option.bind_eq_some_iff.mp h
    obtain rfl := Option.some.inj h
    exact Find_any A0 c0 l0 a1 hl hd hh w hr0
  · rw [if_neg hl] at h
    exact absurd h (by simp)
end

-- NOT PRINTED: function 79 (flows_table_live_1)

/-! ### flows_table_live: function 71 -/
section
open Go.Shelf Go.Proofs.Ythdkkmeiihbafaa.Hand
attribute [local go_sem] Oper.semAt_some
/-- The first k places of a table that hold a flow, with what stands there; of all places. -/
def liveUpto (l : List S31) (k : Nat) : List (Int × S31) := (upto (fun i => ((i : Int), rd_T31 l i)) k).filter fun p => p.2.f0 == 1
def liveL (l : List S31) : List (Int × S31) := liveUpto l l.length
abbrev LiveP (l : List S31) : Type := { p : Int × S31 // p ∈ liveL l }
theorem liveUpto_succ (l : List S31) (k : Nat) : liveUpto l (k + 1) = liveUpto l k ++ (if ((rd_T31 l k).f0 == 1) = true then [((k : Int), rd_T31 l k)] else []) := by
  unfold liveUpto
  rw [upto_succ, List.filter_append]
  congr 1
  simp only [List.filter_cons, List.filter_nil]
theorem liveUpto_le (l : List S31) (k : Nat) : (liveUpto l k).length ≤ k := by
  have := List.length_filter_le (fun p : Int × S31 => p.2.f0 == 1) (upto (fun i => ((i : Int), rd_T31 l i)) k)
  rw [upto_length] at this
  exact this
theorem liveUpto_prefix (l : List S31) {k n : Nat} (h : k ≤ n) : liveUpto l k <+: liveUpto l n := by
  obtain ⟨rest, hr⟩ := upto_split (fun i => ((i : Int), rd_T31 l i)) h
  unfold liveUpto
  rw [hr, List.filter_append]
  exact List.prefix_append _ _
theorem live_mem (l : List S31) {k : Nat} (h : k < l.length) (hv : ((rd_T31 l k).f0 == 1) = true) : ((k : Int), rd_T31 l k) ∈ liveL l :=
  List.mem_filter.2 ⟨mem_upto.2 ⟨k, h, rfl⟩, hv⟩

set_option maxRecDepth 100000 in
set_option maxHeartbeats 4000000 in
theorem live1_in (n : Nat) (hn : 1 ≤ n) (y Bt n₀ : Nat) (A : Option Addr) (c : Nat) (l : List S31) (hl : l.length ≤ 1000000)
    (w : World) (hw : w.heap.size = n₀) (hC : Kd.C k31 w A l.length l) (J Jx : List (LiveP l) → World → Prop) (B : Nat) (hJ : AbidesFrom B J)
    (hY : ∀ pre x W, J pre W → pre.length < l.length → YieldAt Fence.wide (n - 1) Try.prog y #[.int .i64 x.1.1, entV x.1.2] W fun e W' =>
      (e = .returned (.bool true) ∧ J (pre ++ [x]) W' ∧ Below n₀ W W') ∨ (e = .returned (.bool false) ∧ Jx (pre ++ [x]) W'))
    (W : World) (hB : Below n₀ w W) (ht : W.cell? ⟨Bt, 0, none⟩ = some (.slice A l.length c)) (h0 : J [] W) :
    CallsIn Fence.wide n Try.prog 79 #[.func (.yield y) #[] #[], .pointer (some ⟨Bt, 0, none⟩)] W fun e W' => (∃ v, e = .returned v) ∧
      ((∃ ys : List (LiveP l), ys.map Subtype.val = liveL l ∧ J ys W') ∨ (∃ pre : List (LiveP l), (pre.map Subtype.val <+: liveL l) ∧ Jx pre W')) := by
  have hro : Fence.wide.round = none := rfl
  refine callsIn_of_wp Try.func79 rfl trivial ?_ hro
  simp only [Try.ntmps79, List.size_toArray, List.length_cons, List.length_nil, Nat.reduceAdd, Nat.reduceSub, Array.replicate_succ, Array.replicate_zero, List.push_toArray, List.append_toArray, List.nil_append, List.cons_append]
  gi_wp2
  gi_loopw [7] (fun i wr => ∃ (k : Nat) (pre : List (LiveP l)), k ≤ l.length ∧ i = .int .i64 k ∧ pre.map Subtype.val = liveUpto l k ∧ J pre wr ∧ Below n₀ W wr)
    (fun i _ => l.length - (intOf i).toNat)
  case atStart => exact ⟨0, [], Nat.zero_le _, rfl, rfl, h0, Below.refl _ _⟩
  case round =>
    obtain ⟨k, pre, hk', rfl, hpre, hJs, hnx⟩ := hrel
    have hBr : Below w.heap.size w wr := by rw [hw]; exact hB.trans hnx
    have hCr := Kd.C_below hC hBr
    have hle := liveUpto_le l k
    have hlen : pre.length = (liveUpto l k).length := by rw [← hpre]; simp
    have HP := Lib.hid hpre
    have HL := Lib.hid hlen
    have hn0 : n₀ ≤ wr.heap.size := by have := hBr.size; omega
    clear hpre hlen hB hBr ht
    by_cases hlt : k < l.length
    · obtain ⟨ad, hA, c0, c1, c2, c3⟩ := at_T31 hCr k (by omega) (by omega)
      subst hA
      have hsucc := liveUpto_succ l k
      have hmem := live_mem l hlt
      obtain ⟨x, hx⟩ : ∃ x, rd_T31 l k = x := ⟨_, rfl⟩
      rw [hx] at c0 c1 c2 c3 hsucc hmem
      simp only [Int.toNat_natCast] at c0 c1 c2 c3
      have HS := Lib.hid hsucc
      have HM := Lib.hid hmem
      have hJ2 : J pre (wr.alloc (.cells #[.int .i64 x.f0, .string x.f1, .int .i64 x.f2, .int .i64 x.f3] 31)) := hJ _ _ _ none hJs (World.grownBy_alloc wr _ none) (fun r e => by cases e)
      have hB2 : Below n₀ W (wr.alloc (.cells #[.int .i64 x.f0, .string x.f1, .int .i64 x.f2, .int .i64 x.f3] 31)) := hnx.alloc hn0 _
      have HB2 := Lib.hid hB2
      have HC := Lib.hid hC
      clear hx hCr hsucc hmem hC hnx hB2 hJs
      cases hv : x.f0 == 1
      · rw [hv] at HS
        have q : (x.f0 == 1) = false := hv
        have HV := Lib.hid hv
        clear hv
        gi_wp2
        refine ⟨fun _ h => (by cases h), ?_⟩
        gi_wp2
        go_roundw
        case rel => exact ⟨k + 1, pre, by omega, by simp, by rw [HP.out, HS.out]; simp, hJ2, HB2.out⟩
        case measure => simp [intOf]; omega
      · rw [hv] at HS HM
        obtain ⟨x2, hx2⟩ : ∃ x2 : LiveP l, x2.1 = ((k : Int), x) := ⟨⟨_, HM.out rfl⟩, rfl⟩
        obtain ⟨fn, tmps, assign, body, hy, hR⟩ := hY pre x2 _ hJ2 (by have := HL.out; omega)
        rw [hx2] at hy
        dsimp only at hy
        have q : (x.f0 == 1) = true := hv
        have HX := Lib.hid hx2
        clear hv hx2 hJ2
        gi_wp2
        refine hR.mono ?_
        rintro e W3 (⟨rfl, hJ3, hk3⟩ | ⟨rfl, hJx3⟩)
        · gi_wp2
          go_roundw
          case rel => exact ⟨k + 1, pre ++ [x2], by omega, by simp, by rw [List.map_append, HP.out, HS.out]; simp [HX.out], hJ3, HB2.out.trans hk3⟩
          case measure => simp [intOf]; omega
        · gi_wp2
          refine bodyPost_ret (results_none rfl _ _ _) rfl ?_
          refine ⟨⟨_, rfl⟩, .inr ⟨pre ++ [x2], ?_, hJx3⟩⟩
          have e : (pre ++ [x2]).map Subtype.val = liveUpto l (k + 1) := by rw [List.map_append, HP.out, HS.out]; simp [HX.out]
          rw [e]
          exact liveUpto_prefix l hlt
    · obtain rfl : k = l.length := by omega
      gi_wp2
      go_end0
      exact ⟨⟨_, rfl⟩, .inl ⟨pre, HP.out, hJs⟩⟩

set_option maxHeartbeats 1000000 in
theorem live_any (A : Option Addr) (n c : Nat) (w : World) :
    Calls Try.prog 71 #[.slice A n c] w fun e w' => e = .returned (.func (.func 79) #[] #[.pointer (some ⟨w.heap.size, 0, none⟩)]) ∧ w' = w.alloc (.cells #[.slice A n c] 69) := by
  go_enter Try.func71, Try.ntmps71
  go_wp2
  go_ret
  exact ⟨rfl, rfl⟩

theorem live_stops (n : Nat) (hn : 1 ≤ n) (Bt n₀ : Nat) (A : Option Addr) (c : Nat) (l : List S31) (hl : l.length ≤ 1000000)
    (w W : World) (hw : w.heap.size = n₀) (hC : Kd.C k31 w A l.length l) (hB : Below n₀ w W) (hBt : Bt < W.heap.size) (ht : W.cell? ⟨Bt, 0, none⟩ = some (.slice A l.length c)) :
    SeqStopsK Fence.wide n Try.prog 79 #[.pointer (some ⟨Bt, 0, none⟩)] (fun x : LiveP l => #[.int .i64 x.1.1, entV x.1.2]) (Below n₀) (fun ys => ys.map Subtype.val = liveL l) (fun pre => pre.map Subtype.val <+: liveL l) l.length W := fun y J Jx W' hW hJ _ hY h0 =>
  live1_in n hn y Bt n₀ A c l hl w hw hC J Jx _ hJ hY W' (hB.trans (hW.mono (by have := hB.size; omega))) ((hW.cell (p := ⟨Bt, 0, none⟩) hBt).trans ht) h0
end

/-! ### flows_Right: function 49 -/
section
open Go.Shelf Go.Proofs.Ythdkkmeiihbafaa.Hand
attribute [local go_sem] Oper.semAt_some
def flows_Right.f (l0 : List S31) : Option Bool :=
  if l0.length ≤ 1000000 then (if ((liveL l0).all fun p => (probe_Find.f l0 p.2.f1).isSome) = true then some ((liveL l0).all fun p => probe_Find.f l0 p.2.f1 == some p.1) else none) else none

set_option maxRecDepth 100000 in
set_option maxHeartbeats 8000000 in
theorem Right_any (A : Option Addr) (c : Nat) (l : List S31) (hcap : l.length ≤ c) (hl : l.length ≤ 1000000) (hf : ∀ p ∈ liveL l, ∃ j, probe_Find.f l p.2.f1 = some j) (w : World) (hC : Kd.C k31 w A l.length l) :
    Calls Try.prog 49 #[.slice A l.length c] w fun e W' => e = .returned (.bool ((liveL l).all fun p => probe_Find.f l p.2.f1 == some p.1)) ∧ Below w.heap.size w W' := by
  refine (callsIn_wide (n := 6)).1 ?_
  have hro : Fence.wide.round = none := rfl
  refine callsIn_of_wp_marks Try.func49 rfl trivial ?_ hro
  simp only [Try.ntmps49, List.size_toArray, List.length_cons, List.length_nil, Nat.reduceAdd, Nat.reduceSub, Array.replicate_succ, Array.replicate_zero, List.push_toArray, List.append_toArray, List.nil_append, List.cons_append]
  have HF := Lib.hid hf
  clear hf
  have b0 := Blk.new w 22 [.slice A l.length c]
  have b1 := Blk.new (w.alloc (.cells #[.slice A l.length c] 22)) 4 [.bool false]
  replace b0 := b0.alloc (.cells #[.bool false] 4)
  have g0 := b0.cell 0
  gi_wp2_with (refine ⟨trivial, ?_⟩; gi_at_call 71; refine (callsIn_wide.2 (live_any _ _ _ _)).mono ?_; rintro e w' ⟨rfl, rfl⟩)
  have b2 := Blk.new ((w.alloc (.cells #[.slice A l.length c] 22)).alloc (.cells #[.bool false] 4)) 69 [.slice A l.length c]
  have hB0 : Below w.heap.size w (((w.alloc (.cells #[.slice A l.length c] 22)).alloc (.cells #[.bool false] 4)).alloc (.cells #[.slice A l.length c] 69)) := (((Below.refl _ w).alloc (Nat.le_refl _) _).alloc (by simp) _).alloc (by simp; omega) _
  replace b0 := b0.alloc (.cells #[.slice A l.length c] 69)
  replace b1 := b1.alloc (.cells #[.slice A l.length c] 69)
  simp only [World.size_alloc] at b0 b1 b2
  clear g0
  obtain ⟨W0, hW0⟩ : ∃ W0, (((w.alloc (.cells #[.slice A l.length c] 22)).alloc (.cells #[.bool false] 4)).alloc (.cells #[.slice A l.length c] 69)) = W0 := ⟨_, rfl⟩
  rw [hW0] at hB0 ⊢
  replace b0 : Blk W0 w.heap.size 22 [.slice A l.length c] := by rw [← hW0]; exact b0
  replace b1 : Blk W0 (w.heap.size + 1) 4 [.bool false] := by rw [← hW0]; exact b1
  replace b2 : Blk W0 (w.heap.size + 1 + 1) 69 [.slice A l.length c] := by rw [← hW0]; exact b2
  clear hW0
  refine wpIn_rangeFunc_ownH hro (by omega) (gf := 79) (lb := #[.pointer (some ⟨w.heap.size + 1 + 1, 0, none⟩)]) rfl trivial (enters_of Try.func79 (by kernel_rfl) rfl)
    (live_stops (6 - 1) (by omega) (w.heap.size + 1 + 1) w.heap.size A c l hl w W0 rfl hC hB0 b2.lt (by rw [b2.cell]; rfl)) (fun h k => h.trans k) (fun W L o o' hL h1 h2 h3 => belowK_b (w := W0) hB0.size W L o o' hL h1 h2 h3) (Below.refl _ _) (fun _ => rfl)
    (fun pre W => (Blk W w.heap.size 22 [.slice A l.length c] ∧ Blk W (w.heap.size + 1) 4 [.bool false]) ∧ Below w.heap.size w W ∧ ∀ p ∈ pre, probe_Find.f l p.1.2.f1 = some p.1.1)
    (fun c pre W => (c = .ret ∧ ∃ (ini : List (LiveP l)) (last : LiveP l), pre = ini ++ [last] ∧ ¬ probe_Find.f l last.1.2.f1 = some last.1.1 ∧ Blk W (w.heap.size + 1) 4 [.bool false]) ∧ Below w.heap.size w W)
    ((OwnFrom.and (blk_ownFrom _ _ _ _) (blk_ownFrom _ _ _ _)).and ((ownFrom_below (Nat.le_refl _) hB0.size).and (OwnFrom.pure _)))
    (fun c => OwnFrom.and (fun s W W' row ⟨h1, ini, last, h2, h4, h5⟩ hg hr => ⟨h1, ini, last, h2, h4, blk_ownFrom (β := Unit) W0.heap.size _ _ (fun _ => _) () W W' row h5 hg hr⟩) (ownFrom_below (Nat.le_refl _) hB0.size))
    ⟨⟨b0, b1⟩, hB0, by simp⟩
    (fun x a' W => ∃ Bx, w.heap.size + 1 < Bx ∧ Blk W Bx 31 [.int .i64 x.1.2.f0, .string x.1.2.f1, .int .i64 x.1.2.f2, .int .i64 x.1.2.f3] ∧ a' = { tmps := #[.slice A l.length c, .pointer (some ⟨w.heap.size, 0, none⟩), .pointer (some ⟨w.heap.size + 1, 0, none⟩), .int .i64 x.1.1, .pointer (some ⟨Bx, 0, none⟩), .slice A l.length c, .func (.func 79) #[] #[.pointer (some ⟨w.heap.size + 1 + 1, 0, none⟩)], .int .i64 x.1.1, entV x.1.2, undef, undef, undef, undef, undef, undef], defers := [] })
    (fun x a' s W W' row ⟨Bx, h1, h2, h3⟩ hg hr => ⟨Bx, h1, blk_ownFrom (β := Unit) W0.heap.size _ _ (fun _ => _) () W W' row h2 hg hr, h3⟩) ?assign ?body ?done ?stop
  case assign =>
    rintro y pre x W K ⟨⟨c0, c1⟩, hB, hp⟩ hK
    gi_wp2
    exact hK _ _ ((KeepsOthers.alloc _ _).from _) ((Below.refl _ _).alloc hB.size _) ⟨⟨c0.alloc _, c1.alloc _⟩, hB.alloc hB.size _, hp⟩ ⟨_, c1.lt, Blk.new W 31 [.int .i64 x.1.2.f0, .string x.1.2.f1, .int .i64 x.1.2.f2, .int .i64 x.1.2.f3], rfl⟩
  case body =>
    rintro y pre x a' W hy ⟨r, hr⟩ ⟨⟨c0, c1⟩, hB, hp⟩ ⟨Bx, hBx, cx, rfl⟩ hlt
    obtain ⟨j, hj⟩ := HF.out x.1 x.2
    have d0 : W.cell? ⟨w.heap.size, 0, none⟩ = some (.slice A l.length c) := c0.cell 0
    have e1 : W.cell? ⟨Bx, 1, none⟩ = some (.string x.1.2.f1) := cx.cell 1
    have hCW := Kd.C_below hC hB
    have HJ := Lib.hid hj
    clear hj
    by_cases h0 : j = x.1.1
    · have q0 : (j != x.1.1) = false := by simpa using h0
      have H0 := Lib.hid h0
      clear h0
      gi_wp2_with (refine ⟨trivial, ?_⟩; gi_at_call 25; refine (CallsIn.inRound y (callsIn_wide.2 (probe_Find.calls _ _ _ _ _ _ hCW hcap HJ.out))).mono ?_; rintro e w1 ⟨rfl, hb1⟩)
      have hbb : Below w.heap.size W w1 := hb1.mono hB.size
      exact ⟨KeepsFrom.of_grownBy (below_grown hb1) (fun j e => by cases e), hbb, ⟨c0.below hb1, c1.below hb1⟩, hB.trans hbb, fun p hp' => (List.mem_append.1 hp').elim (hp p) (fun e => by simp at e; subst e; rw [HJ.out, H0.out])⟩
    · have q0 : (j != x.1.1) = true := by simpa using h0
      have H0 := Lib.hid h0
      clear h0
      gi_wp2_with (first | (refine ⟨trivial, ?_⟩; gi_at_call 25; refine (CallsIn.inRound y (callsIn_wide.2 (probe_Find.calls _ _ _ _ _ _ hCW hcap HJ.out))).mono ?_; rintro e w1 ⟨rfl, hb1⟩; have c2 := c1.below hb1; have f1 := c2.frozen 0; have g1 := c2.cell 0))
      have hbb : Below w.heap.size W w1 := hb1.mono hB.size
      exact ⟨(KeepsFrom.of_grownBy (below_grown hb1) (fun j e => by cases e)).trans ((KeepsOthers.setCell _ _ _).from _), ⟨rfl, pre, x, rfl, fun e => H0.out (Option.some.inj (HJ.out.symm.trans e)), c2.set1 _⟩, (hB.trans hbb).setCell (p := ⟨w.heap.size + 1, 0, none⟩) (by simp) _⟩
  case done =>
    rintro D ys W hD hys ⟨⟨c0, c1⟩, hB, hp⟩ hK
    have HY := Lib.hid hys
    clear hys
    have f1 := c1.frozen 0
    have g1 := c1.cell 0
    gi_wp2
    have hK' := (KeepsOthers.setCell W ⟨w.heap.size + 1, 0, none⟩ (.bool true)).same D _ hK rfl
    refine ⟨by simp, .inl ⟨_, _, rfl, run_takeDeferred hK', ?_⟩⟩
    have g2 := cell_kept ((c1.set1 (.bool true)).cell 0) (grownBy_putObj' _ D (.deferred none)) (fun r e => by cases e; exact ⟨_, hK', rfl⟩)
    have e : ((liveL l).all fun p => probe_Find.f l p.2.f1 == some p.1) = true := by
      rw [← HY.out, List.all_eq_true]
      intro p hpm
      obtain ⟨q, hq, rfl⟩ := List.mem_map.1 hpm
      rw [hp q hq]; simp
    rw [e]
    refine ⟨.bool true, ?_, rfl, (hB.setCell (p := ⟨w.heap.size + 1, 0, none⟩) (by simp) _).trans (belowK_b (w := w) (Nat.le_refl _) _ D _ _ (Nat.le_trans hB0.size hD) hK' rfl rfl)⟩
    simp [results, Try.f49, go_sem, g2]
  case stop =>
    rintro D cc pre W hD ⟨rest, hpre⟩ ⟨⟨rfl, ini, last, e1, e3, c1⟩, hB⟩ hK
    have e : ((liveL l).all fun p => probe_Find.f l p.2.f1 == some p.1) = false := by
      rw [List.all_eq_false]
      exact ⟨last.1, last.2, by simpa using e3⟩
    clear hpre
    have E := Lib.hid e
    clear e
    gi_wp2
    refine ⟨by simp, .inl ⟨_, _, rfl, run_takeDeferred hK, ?_⟩⟩
    rw [E.out]
    have g2 := cell_kept (c1.cell 0) (grownBy_putObj' _ D (.deferred none)) (fun r e => by cases e; exact ⟨_, hK, rfl⟩)
    refine ⟨_, ?_, rfl, hB.trans (belowK_b (w := w) (Nat.le_refl _) W D _ _ (Nat.le_trans hB0.size hD) hK rfl rfl)⟩
    simp [results, Try.f49, go_sem, g2]

theorem flows_Right.calls (A0 : Option Addr) (c0 : Nat) (l0 : List S31) (r : Bool) (w : World) (hr0 : Kd.C k31 w A0 l0.length l0) (hc0 : l0.length ≤ c0) (h : flows_Right.f l0 = some r) :
    Calls Try.prog 49 #[.slice A0 l0.length c0] w fun e w' => e = .returned (.bool r) ∧ Below w.heap.size w w' := by
  unfold flows_Right.f at h
  by_cases hl : l0.length ≤ 1000000
  · rw [if_pos hl] at h
    by_cases hs : ((liveL l0).all fun p => (probe_Find.f l0 p.2.f1).isSome) = true
    · rw [if_pos hs] at h
      obtain rfl := Option.some.inj h
      exact Right_any A0 c0 l0 hc0 hl (fun p hp => Option.isSome_iff_exists.1 (List.all_eq_true.1 hs p hp)) w hr0
    · rw [if_neg hs] at h
      exact absurd h (by simp)
  · rw [if_neg hl] at h
    exact absurd h (by simp)
end

-- NOT PRINTED: function 60 (api_Entry_60)

-- NOT PRINTED: function 61 (probe_Count_1)

/-! ### probe_Count: function 31 -/
section
open Go.Shelf Go.Proofs.Ythdkkmeiihbafaa.Hand
def countIn (st : Int) (l : List S31) : Nat := (l.filter fun x => x.f0 == st).length
theorem countIn_snoc (st : Int) (l : List S31) (x : S31) : countIn st (l ++ [x]) = countIn st l + if (x.f0 == st) = true then 1 else 0 := by
  unfold countIn
  rw [List.filter_append]
  by_cases h : (x.f0 == st) = true <;> simp [h]
theorem countIn_le (st : Int) (l : List S31) : countIn st l ≤ l.length := List.length_filter_le _ _
def probe_Count.f (l0 : List S31) (a1 : Int) : Option Int := if l0.length ≤ 1000000 then some (countIn a1 l0 : Int) else none

set_option maxHeartbeats 1000000 in
theorem Count1_any (x : S31) (st : Int) (Bs : Nat) (w : World) (hb : Blk w Bs 3 [.int .i64 st]) :
    Calls Try.prog 61 #[.agg #[.int .i64 x.f0, .string x.f1, .int .i64 x.f2, .int .i64 x.f3], .pointer (some ⟨Bs, 0, none⟩)] w fun e w' => e = .returned (.bool (x.f0 == st)) ∧ w' = w.alloc (.cells #[.int .i64 x.f0, .string x.f1, .int .i64 x.f2, .int .i64 x.f3] 31) := by
  have b0 : (w.alloc (.cells #[.int .i64 x.f0, .string x.f1, .int .i64 x.f2, .int .i64 x.f3] 31)).cell? ⟨Bs, 0, none⟩ = some (.int .i64 st) := (hb.alloc _).cell 0
  clear hb
  go_enter Try.func61, Try.ntmps61
  go_wp2
  go_ret
  exact ⟨rfl, rfl⟩

set_option maxRecDepth 100000 in
set_option maxHeartbeats 4000000 in
theorem count_any (A : Option Addr) (c : Nat) (l : List S31) (hl : l.length ≤ 1000000) (st : Int) (Bs : Nat) (w : World) (hC : Kd.C k31 w A l.length l) (hb : Blk w Bs 3 [.int .i64 st]) :
    Calls Try.prog 60 #[.slice A l.length c, .func (.func 61) #[] #[.pointer (some ⟨Bs, 0, none⟩)]] w fun e w' => e = .returned (.int .i64 (countIn st l : Int)) ∧ Below w.heap.size w w' := by
  go_enter Try.func60, Try.ntmps60
  go_wp2
  go_loopw [5, 10] (fun n i wr => ∃ k : Nat, k ≤ l.length ∧ i = .int .i64 k ∧ n = .int .i64 (countIn st (l.take k) : Int) ∧ Below w.heap.size w wr) (fun _ i _ => l.length - (intOf i).toNat)
  case atStart => exact ⟨0, Nat.zero_le _, rfl, by simp [countIn], Below.refl _ _⟩
  case round =>
    obtain ⟨k, hk, rfl, rfl, hB⟩ := hrel
    by_cases hlt : k < l.length
    · have hCr := Kd.C_below hC hB
      obtain ⟨ad, hA, c0, c1, c2, c3⟩ := at_T31 hCr k (by omega) (by omega)
      subst hA
      obtain ⟨x, hx⟩ : ∃ x, rd_T31 l k = x := ⟨_, rfl⟩
      rw [hx] at c0 c1 c2 c3
      simp only [Int.toNat_natCast] at c0 c1 c2 c3
      have hsn := countIn_snoc st (l.take k) x
      have htk : l.take (k + 1) = l.take k ++ [x] := by
        rw [List.take_succ_eq_append_getElem hlt, ← hx]
        simp [rd_T31, hlt]
      have hle := countIn_le st (l.take k)
      have hle2 : (l.take k).length ≤ k := List.length_take_le _ _
      have HT : Hid (countIn st (l.take (k + 1)) = countIn st (l.take k) + if (x.f0 == st) = true then 1 else 0) := by rw [htk]; exact hsn
      have hbr := (hb.below hB).alloc (.cells #[.int .i64 x.f0, .string x.f1, .int .i64 x.f2, .int .i64 x.f3] 31)
      have HB := Lib.hid hB
      have HC := Lib.hid hb
      clear hsn htk hx hCr hC hb hB
      cases hq : x.f0 == st
      all_goals
        rw [hq] at HT
        go_wp2_with (go_at_call 61; refine (Count1_any x st Bs _ hbr).mono ?_; rw [hq]; rintro e w' ⟨rfl, rfl⟩)
        go_roundw
        case rel => exact ⟨k + 1, by omega, by go_num, by rw [HT.out]; first | (simp; done) | go_num, (HB.out.alloc HB.out.size _).alloc (by have := HB.out.size; simp; omega) _⟩
        case measure => simp [intOf]; omega
    · obtain rfl : k = l.length := by omega
      go_wp2
      go_ret
      exact ⟨by rw [List.take_length]; rfl, hB⟩

set_option maxHeartbeats 1000000 in
theorem probe_Count.calls (A0 : Option Addr) (c0 : Nat) (l0 : List S31) (a1 : Int) (r : Int) (w : World) (hr0 : Kd.C k31 w A0 l0.length l0) (hc0 : l0.length ≤ c0) (h : probe_Count.f l0 a1 = some r) :
    Calls Try.prog 31 #[.slice A0 l0.length c0, .int .i64 a1] w fun e w' => e = .returned (.int .i64 r) ∧ Below w.heap.size w w' := by
  unfold probe_Count.f at h
  by_cases hl : l0.length ≤ 1000000
  · rw [if_pos hl] at h
    obtain rfl := Option.some.inj h
    have b0 := Blk.new w 3 [.int .i64 a1]
    go_enter Try.func31, Try.ntmps31
    go_wp2_with (go_at_call 60; refine (count_any A0 c0 l0 hl a1 _ _ (Kd.C_alloc hr0 _) b0).mono ?_; rintro e w' ⟨rfl, hb⟩)
    go_ret
    exact ⟨rfl, ((Below.refl _ w).alloc (Nat.le_refl _) _).trans (hb.mono (by simp))⟩
  · rw [if_neg hl] at h
    exact absurd h (by simp)
end

/-! ### api_Entry_62: function 62 -/
def api_Entry_62.l0 : Nat → List (S31) → List (S31) → Int → Int → Option (Bool)
  | 0, _, _, _, _ => none
  | k + 1, x0, x1, x12, x13 => if x13 < x12 then (if 0 ≤ x13 then (if x13 < (x0.length : Int) then (if x13 < (x1.length : Int) then (if (!(((rd_T31 x0 x13).f0) == ((rd_T31 x1 x13).f0)) || (!((((rd_T31 x0 x13).f1).toList) == (((rd_T31 x1 x13).f1).toList)) || (!(((rd_T31 x0 x13).f2) == ((rd_T31 x1 x13).f2)) || (!(((rd_T31 x0 x13).f3) == ((rd_T31 x1 x13).f3)))))) = true then (some false) else (api_Entry_62.l0 k x0 x1 x12 (wrap64 (x13 + 1)))) else (none)) else (none)) else (none)) else (some true)
def api_Entry_62.f (k : Nat) (l0 : List (S31)) (l1 : List (S31)) : Option (Bool) := if (l0.length : Int) = (l1.length : Int) then (api_Entry_62.l0 k l0 l1 (l0.length : Int) 0) else (some false)
theorem api_Entry_62.mono_l : ∀ k, (∀ y0 y1 y2 y3, LeO (api_Entry_62.l0 k y0 y1 y2 y3) (api_Entry_62.l0 (k + 1) y0 y1 y2 y3))
  | 0 => fun _ _ _ _ r h => by simp [api_Entry_62.l0] at h
  | k + 1 => by
    have ih0 := api_Entry_62.mono_l k
    · intro y0 y1 y2 y3
      unfold api_Entry_62.l0
      repeat' first
      | (with_reducible exact ih0 _ _ _ _)
      | (with_reducible exact LeO.refl _)
      | (with_reducible exact LeO.none _)
      | (with_reducible refine LeO.ite ?_ ?_)
      | (with_reducible refine LeO.bind ?_ (fun _ => ?_))
      | exact ih0 _ _ _ _
      | exact LeO.none _
      | refine LeO.ite ?_ ?_
      | refine LeO.bind ?_ (fun _ => ?_)
theorem api_Entry_62.mono : ∀ a0 a1 k, LeO (api_Entry_62.f k a0 a1) (api_Entry_62.f (k + 1) a0 a1) := by
  intro a0 a1 k
  have ih0 := api_Entry_62.mono_l k
  unfold api_Entry_62.f
  repeat' first
      | (with_reducible exact ih0 _ _ _ _)
      | (with_reducible exact LeO.refl _)
      | (with_reducible exact LeO.none _)
      | (with_reducible refine LeO.ite ?_ ?_)
      | (with_reducible refine LeO.bind ?_ (fun _ => ?_))
      | exact ih0 _ _ _ _
      | exact LeO.none _
      | refine LeO.ite ?_ ?_
      | refine LeO.bind ?_ (fun _ => ?_)
set_option maxHeartbeats 8000000 in
set_option maxRecDepth 100000 in
theorem api_Entry_62.calls (k : Nat) (A0 : Option Addr) (c0 : Nat) (l0 : List (S31)) (A1 : Option Addr) (c1 : Nat) (l1 : List (S31)) (r : Bool) (w : World) (hr0 : Kd.C k31 w A0 l0.length l0) (hc0 : l0.length ≤ c0) (hr1 : Kd.C k31 w A1 l1.length l1) (hc1 : l1.length ≤ c1) (h : api_Entry_62.f k l0 l1 = some r) :
    Calls Try.prog 62 #[.slice A0 l0.length c0, .slice A1 l1.length c1] w fun e w' => e = .returned (.bool r) ∧ Drawn0 w w' := by
  have hu31 := Try.underlying31
  have HR0 := Aside0.mk hr0
  have HC0 := Aside0.mk hc0
  clear hr0 hc0
  have HR1 := Aside0.mk hr1
  have HC1 := Aside0.mk hc1
  clear hr1 hc1
  have H : (if (l0.length : Int) = (l1.length : Int) then (api_Entry_62.l0 k l0 l1 (l0.length : Int) 0) else (some false)) = some r := h
  clear h
  by_cases c3 : (l0.length : Int) = (l1.length : Int)
  · rw [if_pos c3] at H
    have c3b0 : ((l0.length : Int) == (l1.length : Int)) = true := beq_iff_eq.mpr c3
    have c3b1 : ((l0.length : Int) != (l1.length : Int)) = false := bne_eq_false_iff_eq.mpr c3
    have c3b2 : (l0.length == l1.length) = true := by first | simpa using c3 | (simp at c3 ⊢; omega)
    clear c3
    have H' := Aside0.mk H
    clear H
    go_enter Try.func62, Try.ntmps62
    go_wp2
    repeat (go_quiet (fail); try go_wp2)
    go_loopg [13] k (fun kq v13 w' => ∃ (x13_1 : Int), v13 = .int .i64 x13_1 ∧ Aside0 (api_Entry_62.l0 kq l0 l1 (l0.length : Int) x13_1 = some r) ∧ Aside0 (kq ≤ k) ∧ Drawn0 w w')
    case atStart => exact ⟨(0), (by first | rfl | (simp; done) | (simp [*]; done)), H', ⟨Nat.le_refl _⟩, by repeat (first | exact Drawn0.refl _ | apply Drawn0.step)⟩
    case round =>
      clear H'
      try clear c1
      try clear p2
      try clear c3
      try clear c3b0
      try clear c3b1
      try clear c3b2
      obtain ⟨x13_1, rfl, HA, HK1, ⟨m1, rfl⟩⟩ := hrel
      cases gk with
      | zero => exact absurd HA.out (by simp [api_Entry_62.l0])
      | succ k1 =>
        have H := HA.out
        clear HA
        simp only [api_Entry_62.l0] at H
        by_cases c4 : x13_1 < (l0.length : Int)
        · rw [if_pos c4] at H
          have c4b0 : decide (x13_1 < (l0.length : Int)) = true := decide_eq_true c4
          clear c4
          by_cases c5 : 0 ≤ x13_1
          · rw [if_pos c5] at H
            have c5b0 : decide (0 ≤ x13_1) = true := decide_eq_true c5
            clear c5
            by_cases c6 : x13_1 < (l0.length : Int)
            · rw [if_pos c6] at H
              have c6b0 : decide (x13_1 < (l0.length : Int)) = true := decide_eq_true c6
              clear c6
              by_cases c7 : x13_1 < (l1.length : Int)
              · rw [if_pos c7] at H
                have c7b0 : decide (x13_1 < (l1.length : Int)) = true := decide_eq_true c7
                clear c7
                by_cases c8 : (!(((rd_T31 l0 x13_1).f0) == ((rd_T31 l1 x13_1).f0)) || (!((((rd_T31 l0 x13_1).f1).toList) == (((rd_T31 l1 x13_1).f1).toList)) || (!(((rd_T31 l0 x13_1).f2) == ((rd_T31 l1 x13_1).f2)) || (!(((rd_T31 l0 x13_1).f3) == ((rd_T31 l1 x13_1).f3)))))) = true
                · rw [if_pos c8] at H
                  have c8b0 : (!(((rd_T31 l0 x13_1).f0) == ((rd_T31 l1 x13_1).f0)) || (!((((rd_T31 l0 x13_1).f1).toList) == (((rd_T31 l1 x13_1).f1).toList)) || (!(((rd_T31 l0 x13_1).f2) == ((rd_T31 l1 x13_1).f2)) || (!(((rd_T31 l0 x13_1).f3) == ((rd_T31 l1 x13_1).f3)))))) = true := c8
                  clear c8
                  obtain rfl := Option.some.inj H
                  have p103 : 0 ≤ (x13_1 : Int) := of_decide_eq_true (by first | (with_reducible assumption) | assumption)
                  have q103 : x13_1 < (l0.length : Int) := of_decide_eq_true (by first | (with_reducible assumption) | assumption)
                  obtain ⟨ad103, e103, hx103_0, hx103_1, hx103_2, hx103_3⟩ := at_T31 HR0.out x13_1 p103 q103
                  cases e103
                  replace p103 := eq_true p103
                  replace q103 := eq_true q103
                  have p104 : 0 ≤ (x13_1 : Int) := of_decide_eq_true (by first | (with_reducible assumption) | assumption)
                  have q104 : x13_1 < (l1.length : Int) := of_decide_eq_true (by first | (with_reducible assumption) | assumption)
                  obtain ⟨ad104, e104, hx104_0, hx104_1, hx104_2, hx104_3⟩ := at_T31 HR1.out x13_1 p104 q104
                  cases e104
                  replace p104 := eq_true p104
                  replace q104 := eq_true q104
                  go_wp2
                  repeat (go_quiet (fail); try go_wp2)
                  go_ret
                  exact ⟨by first | rfl | (simp; done) | (simp [*]; done), by repeat (first | exact Drawn0.refl _ | apply Drawn0.step)⟩
                · rw [if_neg c8] at H
                  have c8b0 : (!(((rd_T31 l0 x13_1).f0) == ((rd_T31 l1 x13_1).f0)) || (!((((rd_T31 l0 x13_1).f1).toList) == (((rd_T31 l1 x13_1).f1).toList)) || (!(((rd_T31 l0 x13_1).f2) == ((rd_T31 l1 x13_1).f2)) || (!(((rd_T31 l0 x13_1).f3) == ((rd_T31 l1 x13_1).f3)))))) = false := by simpa using c8
                  clear c8
                  have H' := Aside0.mk H
                  clear H
                  have p103 : 0 ≤ (x13_1 : Int) := of_decide_eq_true (by first | (with_reducible assumption) | assumption)
                  have q103 : x13_1 < (l0.length : Int) := of_decide_eq_true (by first | (with_reducible assumption) | assumption)
                  obtain ⟨ad103, e103, hx103_0, hx103_1, hx103_2, hx103_3⟩ := at_T31 HR0.out x13_1 p103 q103
                  cases e103
                  replace p103 := eq_true p103
                  replace q103 := eq_true q103
                  have p104 : 0 ≤ (x13_1 : Int) := of_decide_eq_true (by first | (with_reducible assumption) | assumption)
                  have q104 : x13_1 < (l1.length : Int) := of_decide_eq_true (by first | (with_reducible assumption) | assumption)
                  obtain ⟨ad104, e104, hx104_0, hx104_1, hx104_2, hx104_3⟩ := at_T31 HR1.out x13_1 p104 q104
                  cases e104
                  replace p104 := eq_true p104
                  replace q104 := eq_true q104
                  go_wp2
                  repeat (go_quiet (fail); try go_wp2)
                  go_roundg k1
                  case measure => have := HK1.out; omega
                  case rel => exact ⟨(wrap64 (x13_1 + 1)), (by first | rfl | (simp; done) | (simp [*]; done)), H', ⟨by have := HK1.out; omega⟩, by repeat (first | exact Drawn0.refl _ | apply Drawn0.step)⟩
              · rw [if_neg c7] at H
                exact absurd H (by simp)
            · rw [if_neg c6] at H
              exact absurd H (by simp)
          · rw [if_neg c5] at H
            exact absurd H (by simp)
        · rw [if_neg c4] at H
          have c4b0 : decide (x13_1 < (l0.length : Int)) = false := decide_eq_false c4
          clear c4
          obtain rfl := Option.some.inj H
          go_wp2
          repeat (go_quiet (fail); try go_wp2)
          go_ret
          exact ⟨by first | rfl | (simp; done) | (simp [*]; done), by repeat (first | exact Drawn0.refl _ | apply Drawn0.step)⟩
  · rw [if_neg c3] at H
    have c3b0 : ((l0.length : Int) == (l1.length : Int)) = false := beq_eq_false_iff_ne.mpr c3
    have c3b1 : ((l0.length : Int) != (l1.length : Int)) = true := bne_iff_ne.mpr c3
    have c3b2 : (l0.length == l1.length) = false := by first | simpa using c3 | (simp at c3 ⊢; omega)
    obtain rfl := Option.some.inj H
    go_enter Try.func62, Try.ntmps62
    go_wp2
    repeat (go_quiet (fail); try go_wp2)
    go_ret
    exact ⟨by first | rfl | (simp; done) | (simp [*]; done), by repeat (first | exact Drawn0.refl _ | apply Drawn0.step)⟩

/-! ### probe_Same: function 33 -/
def probe_Same.f (k : Nat) (l0 : List (S31)) (l1 : List (S31)) : Option (Bool) := (api_Entry_62.f k l0 l1).bind fun t105 => (some t105)
theorem probe_Same.mono : ∀ a0 a1 k, LeO (probe_Same.f k a0 a1) (probe_Same.f (k + 1) a0 a1) := by
  intro a0 a1 k
  unfold probe_Same.f
  repeat' first
      | (with_reducible exact api_Entry_62.mono _ _ _)
      | (with_reducible exact LeO.refl _)
      | (with_reducible exact LeO.none _)
      | (with_reducible refine LeO.ite ?_ ?_)
      | (with_reducible refine LeO.bind ?_ (fun _ => ?_))
      | exact api_Entry_62.mono _ _ _
      | exact LeO.none _
      | refine LeO.ite ?_ ?_
      | refine LeO.bind ?_ (fun _ => ?_)
set_option maxHeartbeats 8000000 in
set_option maxRecDepth 100000 in
theorem probe_Same.calls (k : Nat) (A0 : Option Addr) (c0 : Nat) (l0 : List (S31)) (A1 : Option Addr) (c1 : Nat) (l1 : List (S31)) (r : Bool) (w : World) (hr0 : Kd.C k31 w A0 l0.length l0) (hc0 : l0.length ≤ c0) (hr1 : Kd.C k31 w A1 l1.length l1) (hc1 : l1.length ≤ c1) (h : probe_Same.f k l0 l1 = some r) :
    Calls Try.prog 33 #[.slice A0 l0.length c0, .slice A1 l1.length c1] w fun e w' => e = .returned (.bool r) ∧ Drawn0 w w' := by
  have HR0 := Aside0.mk hr0
  have HC0 := Aside0.mk hc0
  clear hr0 hc0
  have HR1 := Aside0.mk hr1
  have HC1 := Aside0.mk hc1
  clear hr1 hc1
  have H : ((api_Entry_62.f k l0 l1).bind fun t105 => (some t105)) = some r := h
  clear h
  replace H := Option.bind_eq_some_iff.mp H
  obtain ⟨t105, A30, H⟩ := H
  replace H : (some t105) = some r := H
  have A3 := Aside0.mk A30
  clear A30
  obtain rfl := Option.some.inj H
  go_enter Try.func33, Try.ntmps33
  go_wp2_with (first | ((with_reducible refine gate_callee (f := 62) rfl ?_); refine goesL_ (some 7) rfl rfl Try.func62 (by kernel_rfl) rfl #[.slice A0 l0.length c0, .slice A1 l1.length c1] rfl (by (try simp only [List.map_toArray, List.map_cons, List.map_nil]); first | done | rfl | (simp only [List.length_drop, List.length_take]; rfl)) ?_; (with_reducible refine (api_Entry_62.calls k _ _ l0 _ _ l1 t105 _ ?side1 ?side2 ?side3 ?side4 A3.out).mono ?_); (case side1 => repeat (first | exact HR0.out | (with_reducible refine Kd.C_alloc ?_ _) | (with_reducible refine Kd.C_drewN ?_ _) | (with_reducible refine Kd.C_drew ?_))); (case side2 => exact HC0.out); (case side3 => repeat (first | exact HR1.out | (with_reducible refine Kd.C_alloc ?_ _) | (with_reducible refine Kd.C_drewN ?_ _) | (with_reducible refine Kd.C_drew ?_))); (case side4 => exact HC1.out); (try clear A3); rintro e w' ⟨rfl, ⟨nd, rfl⟩⟩; refine ⟨_, rfl, ?_⟩))
  go_ret
  exact ⟨by first | rfl | (simp; done) | (simp [*]; done), by repeat (first | exact Drawn0.refl _ | apply Drawn0.step)⟩

/-! ### api_Entry_73: function 73 -/
section
open Go.Shelf Go.Proofs.Ythdkkmeiihbafaa.Hand
theorem infoE_ : (Try.prog.info? 31).map (fun i => (i.zero, i.size, i.bytes)) = some (some (.agg #[(.int .i64 0), (.string ⟨#[]⟩), (.int .i64 0), (.int .i64 0)]), 4, 40) := by kernel_rfl
def api_Entry_73.f (l0 : List S31) : Option (List S31) := if l0.length ≤ 1000000 then some l0 else none

set_option maxRecDepth 100000 in
set_option maxHeartbeats 4000000 in
theorem api_Entry_73.any (A : Option Addr) (c : Nat) (l : List S31) (hl : l.length ≤ 1000000) (w : World) (hC : Kd.C k31 w A l.length l) :
    Calls Try.prog 73 #[.slice A l.length c] w fun e w' => ∃ v : Value, e = .returned v ∧ Kd.R k31 31 w' w.heap.size (fun _ => True) v l ∧ Below w.heap.size w w' := by
  have he := fun (w : World) => Lib.run_eql_slice_nil (P := Try.prog) w 22 31 A l.length c 0 0 Try.underlying22
  cases A with
  | none =>
    have hn : l = [] := by
      cases l with
      | nil => rfl
      | cons x l => obtain ⟨ad, e, _⟩ := hC.2.2 (by simp); cases e
    subst hn
    clear he
    have he : ∀ w : World, (binOp .eql 22 (.slice none 0 c) (.slice none 0 0)).run Try.prog w = .ok (.bool true) w := fun w => Lib.run_eql_slice_nil (P := Try.prog) w 22 31 none 0 c 0 0 Try.underlying22
    go_enter Try.func73, Try.ntmps73
    go_wp2
    go_ret
    exact ⟨_, rfl, Kd.R_nil _ _ _ _ _, Below.refl _ _⟩
  | some a =>
    obtain ⟨z, hz⟩ : ∃ z, ([] : List S31) = z := ⟨_, rfl⟩
    have HZ := Lib.hid hz
    clear hz
    have HC := Lib.hid hC
    clear hC
    have HB := Aside0.mk (Below.refl w.heap.size w)
    go_enter Try.func73, Try.ntmps73
    go_wp2_with (first | ((with_reducible refine gate_dst (N := 5) rfl ?_); refine Kd.R_lit k31 _ 31 ?hg (N := 5) ?hd (xs := ([] : List S31)) (inner := []) (ok := fun _ => True) (okp := fun _ => True) ?hr ?hp (fun _ hk => hk) trivial (Below.refl _ _) (Nat.le_refl _) (by simp) ?_; (case hd => rfl); (case hg => rfl); (case hr => first | (go_simp; done) | (go_simp; rfl)); (case hp => exact (Reps.none _ _)); intro v160 w31 ho32 hb hg_ hnew_; clear hg_ hnew_; rw [HZ.out] at ho32; have HB1 := Aside0.mk hb; have HO1 := Aside0.mk ho32; clear hb ho32) | ((with_reducible refine gate_builtin (b := .append) (xs := #[.tmp 5, .tmp 6]) rfl ?_); at_builtin; refine Kd.R_append_rows k31 (w0 := w) w.heap.size rfl (.tmp 5) (.tmp 6) 22 31 (.agg #[(.int .i64 0), (.string ⟨#[]⟩), (.int .i64 0), (.int .i64 0)]) 40 rfl Try.underlying22 infoE_ rfl (by decide) (by omega) v160 z l _ _ _ (fun _ => True) (fun _ => False) rfl rfl ?aO ?aR (fun _ _ h => h) (fun _ h => h.elim) ?aF ?aB ?aS ?aL ?_; (case aR => exact Kd.C_below HC.out HB1.out); (case aB => exact HB1.out); (case aF => exact (fun _ _ => trivial)); (case aO => exact HO1.out); (case aS => exact HB1.out.size); (case aL => rw [← HZ.out]; simp; omega); intro v163 w33 ho hb hg hat; rw [← HZ.out, List.nil_append] at ho; have HB2 := Aside0.mk hb; have HO2 := Aside0.mk ho; clear ho hb hg hat))
    go_ret
    exact ⟨_, rfl, HO2.out, HB2.out⟩

theorem api_Entry_73.calls (A0 : Option Addr) (c0 : Nat) (l0 : List S31) (r : List S31) (w : World) (hr0 : Kd.C k31 w A0 l0.length l0) (hc0 : l0.length ≤ c0) (h : api_Entry_73.f l0 = some r) :
    Calls Try.prog 73 #[.slice A0 l0.length c0] w fun e w' => ∃ v0_ : Value, e = .returned (v0_) ∧ Kd.R k31 31 w' w.heap.size (fun _ => True) v0_ r ∧ Below w.heap.size w w' := by
  unfold api_Entry_73.f at h
  by_cases hl : l0.length ≤ 1000000
  · rw [if_pos hl] at h
    obtain rfl := Option.some.inj h
    exact api_Entry_73.any A0 c0 l0 hl w hr0
  · rw [if_neg hl] at h
    exact absurd h (by simp)
end

/-! ### flows_changed: function 64 -/
section
open Go.Shelf Go.Proofs.Ythdkkmeiihbafaa.Hand
set_option maxRecDepth 100000 in
set_option maxHeartbeats 4000000 in
/-- A copy, changed by a function that is handed on; or the table itself. -/
theorem changed_any (g : Nat) (eg : ∀ args w, (callFunc g args).run Try.prog w = .ok (.enter g args) w) (cap : Value) (b : Bool) (A : Option Addr) (c : Nat) (l l2 : List S31) (hl : l.length ≤ 1000000) (hcap : l.length ≤ c) (w : World) (hC : Kd.C k31 w A l.length l)
    (hf : ∀ (v : Value) (W : World), Below w.heap.size w W → Kd.R k31 31 W w.heap.size (fun _ => True) v l → Calls Try.prog g #[v, cap] W fun e W' => e = .returned (.bool b) ∧ Kd.R k31 31 W' w.heap.size (fun _ => True) v l2 ∧ Below w.heap.size w W') :
    Calls Try.prog 64 #[.slice A l.length c, .func (.func g) #[] #[cap]] w fun e w' => ∃ v : Value, e = .returned (.tuple #[v, .bool b]) ∧ (b = true → Kd.R k31 31 w' w.heap.size (fun _ => True) v l2) ∧ (b = false → v = .slice A l.length c) ∧ Below w.heap.size w w' := by
  have HF := Lib.hid hf
  clear hf
  cases b
  all_goals
    go_enter Try.func64, Try.ntmps64
    go_wp2_with (first | (go_at_call 73; refine (api_Entry_73.any A c l hl _ hC).mono ?_; rintro e w1 ⟨v, rfl, hr, hb⟩; have HR := Lib.hid hr; have HB := Lib.hid hb; clear hr hb))
    refine (HF.out v w1 HB.out HR.out).mono ?_
    rintro e w2 ⟨rfl, hr2, hb2⟩
    have HR2 := Lib.hid hr2
    have HB2 := Lib.hid hb2
    clear hr2 hb2
    go_wp2
    go_ret2
    first
    | exact ⟨_, rfl, fun h => absurd h (by decide), fun _ => rfl, HB2.out⟩
    | exact ⟨_, rfl, fun _ => HR2.out, fun h => absurd h (by decide), HB2.out⟩
end

end Go.Proofs.Ythdkkmeiihbafaa.P
