/- Each Go function that the laws reach, as a plain function, with the proof that the machine's call comes to what it says; of a law: its row. Made by a program of this seat (wip/hp.py, over the print). -/
import Derived.Test.YtcekkbimdogboaaPx0
import Derived.Test.YtcekkbimdogboaaPx2
import Derived.Test.YtcekkbimdogboaaPx3
import Derived.Test.YtcekkbimdogboaaPx4
import Derived.Test.YtcekkbimdogboaaPx5
namespace Go.Proofs.Ytcekkbimdogboaa.P
open Go.RowKit Go.Proofs.YtcekkbimdogboaaW.PrintWords Go.Proofs.YtcekkbimdogboaaW.PrintLast Go.Proofs.YtcekkbimdogboaaW.PrintMore
attribute [local go_sem] max2_int min2_int max_two min_two max_three min_three max_four min_four   -- for this text's walks alone
set_option linter.unusedVariables false
set_option linter.unusedSimpArgs false

-- NOT PRINTED: function 88 (api_Backend_88)

-- NOT PRINTED: function 76 (api_Backend_76)

-- NOT PRINTED: function 100 (api_Backend_100)

-- NOT PRINTED: function 109 (api_Backend_109)

-- NOT PRINTED: function 107 (api_Backend_107)

-- NOT PRINTED: function 101 (api_Backend_101)

-- NOT PRINTED: function 89 (api_Backend_89)

-- NOT PRINTED: function 77 (api_Backend_77)

-- NOT PRINTED: function 56 (api_Backend_56)

-- NOT PRINTED: function 78 (api_Backend_1)

/-! ### api_Backend_57: function 57 -/
section
open Go.Shelf Go.Proofs.Ytcekkbimdogboaa.Hand
attribute [local go_sem] Oper.semAt_some
theorem val_nums (n k : Nat) (hl : n ≤ 1000000) (h : k < n) : decide ((k : Int) < (n : Int)) = true ∧ (0 : Int) ≤ (k : Int) ∧ (k : Int) < (n : Int) ∧ wrap64 ((k : Int) + 1) = ((k + 1 : Nat) : Int) :=
  ⟨decide_eq_true (by omega), by omega, by omega, by unfold wrap64; omega⟩
theorem val_meas (n k : Nat) (h : k < n) : n - (((k + 1 : Nat) : Int)).toNat < n - ((k : Int)).toNat := by
  rw [Int.toNat_natCast, Int.toNat_natCast]; omega
theorem bk_next (l : List S39) (j : Nat) (h : j < l.length) : l.take (j + 1) = l.take j ++ [l.getD j z39] := by
  rw [List.take_succ_eq_append_getElem h]; simp [h]
set_option maxRecDepth 100000 in
set_option maxHeartbeats 8000000 in
theorem values1_in (n : Nat) (hn : 2 ≤ n) (y Bt n₀ : Nat) (A : Option Addr) (c : Nat) (ps : List S39) (hps : ps.length ≤ 1000000)
    (w : World) (hw : w.heap.size = n₀) (hC : Kd.C k39 w A ps.length ps) (J Jx : List S39 → World → Prop) (B : Nat) (hJ : AbidesFrom B J)
    (hY : ∀ pre x W, J pre W → pre.length < ps.length → YieldAt Fence.wide (n - 1) Try.prog y #[.agg #[.int .i64 x.f0, .int .i64 x.f1]] W fun e W' =>
      (e = .returned (.bool true) ∧ J (pre ++ [x]) W' ∧ Below n₀ W W') ∨ (e = .returned (.bool false) ∧ Jx (pre ++ [x]) W'))
    (W : World) (hB : Below n₀ w W) (ht : Blk W Bt 22 [.slice A ps.length c]) (h0 : J [] W) (hBB : B ≤ W.heap.size) :
    CallsIn Fence.wide n Try.prog 78 #[.func (.yield y) #[] #[], .pointer (some ⟨Bt, 0, none⟩)] W fun e W' => (∃ v, e = .returned v) ∧
      ((∃ ys, ys = ps ∧ J ys W') ∨ (∃ pre, (pre <+: ps) ∧ Jx pre W')) := by
  have hro : Fence.wide.round = none := rfl
  refine callsIn_of_wp Try.func78 rfl trivial ?_ hro
  simp only [Try.ntmps78, List.size_toArray, List.length_cons, List.length_nil, Nat.reduceAdd, Nat.reduceSub, Array.replicate_succ, Array.replicate_zero, List.push_toArray, List.append_toArray, List.nil_append, List.cons_append]
  have z0 : W.cell? ⟨Bt, 0, none⟩ = some (.slice A ps.length c) := ht.cell 0
  have HPS := Lib.hid hps
  have HC := Lib.hid hC
  have HB := Lib.hid hB
  have HW0 := Lib.hid hw
  have HY := Lib.hid hY
  have HJ := Lib.hid hJ
  have H0 := Lib.hid h0
  have HBB := Lib.hid hBB
  have HN := Lib.hid hn
  clear hps hC hB hw ht hY hJ h0 hn hBB
  gi_wp2
  gi_loopw [7] (fun i wr => ∃ (k : Nat), k ≤ ps.length ∧ i = .int .i64 k ∧ J (ps.take k) wr ∧ Below n₀ w wr ∧ W.heap.size ≤ wr.heap.size)
    (fun i _ => ps.length - (intOf i).toNat)
  case atStart => exact ⟨0, Nat.zero_le _, rfl, by simpa using H0.out, HB.out, Nat.le_refl _⟩
  case round =>
    obtain ⟨k, hk', rfl, hJs, hnx, hsz⟩ := hrel
    by_cases hlt : k < ps.length
    · have hBr : Below w.heap.size w wr := by rw [HW0.out]; exact hnx
      obtain ⟨ad, hA, c0, c1⟩ := at_T39 (Kd.C_below HC.out hBr) (k : Int) (by omega) (by omega)
      subst hA
      have htk := bk_next ps k hlt
      rw [show rd_T39 ps (k : Int) = ps.getD k z39 from rfl] at c0 c1
      obtain ⟨b, hb⟩ : ∃ b, ps.getD k z39 = b := ⟨_, rfl⟩
      rw [hb] at c0 c1 htk
      rw [Int.toNat_natCast] at c0 c1
      have hpx : ps.take (k + 1) <+: ps := List.take_prefix _ _
      have hln : (ps.take k).length < ps.length := by rw [List.length_take]; exact Nat.lt_of_le_of_lt (Nat.min_le_left _ _) hlt
      obtain ⟨q1, q2, q3, hwk⟩ := val_nums ps.length k HPS.out hlt
      have hbx := Blk.new wr 39 [.int .i64 b.f0, .int .i64 b.f1]
      have hj1 := HJ.out _ _ _ none hJs (grown_of_below (below_alloc (Below.refl _ wr) (.cells #[.int .i64 b.f0, .int .i64 b.f1] 39)) none) (fun r e => by cases e)
      obtain ⟨fn, tmps, assign, body, hy, hYR⟩ := HY.out _ b _ hj1 hln
      have HB1 := Lib.hid (show Below n₀ w (wr.alloc (.cells #[.int .i64 b.f0, .int .i64 b.f1] 39)) from by rw [← HW0.out] at hnx ⊢; exact below_alloc hnx _)
      have HSZ := Lib.hid (show W.heap.size ≤ (wr.alloc (.cells #[.int .i64 b.f0, .int .i64 b.f1] 39)).heap.size from Nat.le_trans hsz (by simp))
      have HTK := Lib.hid htk
      have HPX := Lib.hid hpx
      have HYR := Lib.hid hYR
      clear hBr htk hb hpx hln hj1 hYR hnx hsz hJs hbx
      gi_wp2
      refine ⟨fun _ => (by have := HN.out; omega), HYR.out.mono ?_⟩
      rintro e W3 (⟨rfl, hJ3, hk3⟩ | ⟨rfl, hJx3⟩)
      · have HJ3 := Lib.hid hJ3
        have HK3 := Lib.hid hk3
        clear hJ3 hk3
        gi_wp2
        go_roundw
        case rel => exact ⟨k + 1, Nat.succ_le_of_lt hlt, by rw [hwk], by rw [HTK.out]; exact HJ3.out, HB1.out.trans HK3.out, Nat.le_trans HSZ.out HK3.out.size⟩
        case measure =>
          rw [hwk]
          exact val_meas _ _ hlt
      · have HJ3 := Lib.hid hJx3
        clear hJx3
        gi_wp2
        refine bodyPost_ret (results_none rfl _ _ _) rfl ?_
        exact ⟨⟨_, rfl⟩, .inr ⟨ps.take k ++ [b], by rw [← HTK.out]; exact HPX.out, HJ3.out⟩⟩
    · obtain rfl : k = ps.length := Nat.le_antisymm hk' (Nat.le_of_not_lt hlt)
      have q1 : decide ((ps.length : Int) < (ps.length : Int)) = false := decide_eq_false (by omega)
      have HJ3 := Lib.hid hJs
      clear hJs hnx hsz
      gi_wp2
      go_end0
      exact ⟨⟨_, rfl⟩, .inl ⟨_, by rw [List.take_length], HJ3.out⟩⟩
theorem values_stops (d : Nat) (hd : 2 ≤ d) (Bt n₀ : Nat) (A : Option Addr) (c : Nat) (ps : List S39) (hps : ps.length ≤ 1000000)
    (w W : World) (hw : w.heap.size = n₀) (hC : Kd.C k39 w A ps.length ps) (hB : Below n₀ w W) (hn : n₀ ≤ W.heap.size) (ht : Blk W Bt 22 [.slice A ps.length c]) :
    SeqStopsK Fence.wide d Try.prog 78 #[.pointer (some ⟨Bt, 0, none⟩)] (fun x : S39 => #[.agg #[.int .i64 x.f0, .int .i64 x.f1]]) (Below n₀) (fun ys => ys = ps) (fun pre => pre <+: ps) ps.length W := fun y J Jx W' hW hJ _ hY h0 =>
  values1_in d hd y Bt n₀ A c ps hps w hw hC J Jx _ hJ hY W' (hB.trans (hW.mono hn)) (ht.below hW) h0 (Nat.le_refl _)
set_option maxHeartbeats 1000000 in
theorem values_any (A : Option Addr) (n c : Nat) (w : World) :
    Calls Try.prog 57 #[.slice A n c] w fun e w' => e = .returned (.func (.func 78) #[] #[.pointer (some ⟨w.heap.size, 0, none⟩)]) ∧ w' = w.alloc (.cells #[.slice A n c] 22) := by
  go_enter Try.func57, Try.ntmps57
  go_wp2
  go_ret
  exact ⟨rfl, rfl⟩
theorem infoBk2 : (Try.prog.info? 39).map (fun i => (i.zero, i.size, i.bytes)) = some (some (.agg #[.int .i64 0, .int .i64 0]), 2, 16) := by kernel_rfl
def bkVs (l : List S39) : List Value := l.flatMap encBk
theorem bkVs_len (l : List S39) : (bkVs l).length = l.length * 2 := by
  induction l with
  | nil => rfl
  | cons x l ih => rw [bkVs, List.flatMap_cons, List.length_append, ← bkVs, ih, List.length_cons]; simp [encBk]; omega
set_option maxRecDepth 100000 in
set_option maxHeartbeats 8000000 in
theorem AppendSeq_bk (n : Nat) (hn : 4 ≤ n) (Bt : Nat) (A : Option Addr) (c : Nat) (ps : List S39) (hps : ps.length ≤ 1000000) (w : World) (hC : Kd.C k39 w A ps.length ps) (ht : Blk w Bt 22 [.slice A ps.length c]) :
    CallsIn Fence.wide n Try.prog 88 #[.slice none 0 0, .func (.func 78) #[] #[.pointer (some ⟨Bt, 0, none⟩)]] w fun e W' => ∃ v, e = .returned v ∧ Kd.R k39 39 W' w.heap.size (fun _ => True) v ps ∧ Below w.heap.size w W' := by
  have hro : Fence.wide.round = none := rfl
  obtain ⟨i0, hi, hz0, hz1, hz2⟩ := info_parts infoBk2
  refine callsIn_of_wp_marks Try.func88 rfl trivial ?_ hro
  simp only [Try.ntmps88, List.size_toArray, List.length_cons, List.length_nil, Nat.reduceAdd, Nat.reduceSub, Array.replicate_succ, Array.replicate_zero, List.push_toArray, List.append_toArray, List.nil_append, List.cons_append]
  gi_wp2
  have b0 := Boxed.new w 22 (.slice none 0 0)
  have hB0 : Below w.heap.size w (w.alloc (.cells #[.slice none 0 0] 22)) := (Below.refl _ w).alloc (Nat.le_refl _) _
  replace ht := ht.alloc (.cells #[.slice none 0 0] 22)
  obtain ⟨W0, hW0⟩ : ∃ W0, (w.alloc (.cells #[.slice none 0 0] 22)) = W0 := ⟨_, rfl⟩
  rw [hW0] at hB0 b0 ht ⊢
  clear hW0
  refine wpIn_rangeFunc_ownH hro (by omega) (gf := 78) (lb := #[.pointer (some ⟨Bt, 0, none⟩)]) rfl trivial (enters_of Try.func78 (by kernel_rfl) rfl)
    (values_stops (n - 1) (by omega) Bt w.heap.size A c ps hps w W0 rfl hC hB0 hB0.size ht) (fun h k => h.trans k) (fun W L o o' hL h1 h2 h3 => belowK_b (w := W0) hB0.size W L o o' hL h1 h2 h3) (Below.refl _ _) (fun _ => rfl)
    (fun pre W => (∃ v, Boxed W w.heap.size 22 v ∧ W.ownsRow w.heap.size 39 2 v pre.length (bkVs pre) ∧ True) ∧ Below w.heap.size w W)
    (fun _ _ _ => False)
    (OwnFrom.and (Own.from (holdsRow_own w.heap.size w.heap.size 22 39 2 (fun pre => pre.length) (fun pre => bkVs pre) (fun pre v => True)) _) (ownFrom_below (Nat.le_refl _) hB0.size))
    (fun _ _ _ _ _ hs _ _ => hs)
    ⟨⟨_, b0, World.ownsRow_nil _ _ _ _, trivial⟩, hB0⟩
    (fun x a' W => ∃ q, w.heap.size ≤ q ∧ Blk W q 39 [.int .i64 x.f0, .int .i64 x.f1] ∧ a' = { tmps := #[.slice none 0 0, .func (.func 78) #[] #[.pointer (some ⟨Bt, 0, none⟩)], .pointer (some ⟨w.heap.size, 0, none⟩), undef, .slice none 0 0, .pointer (some ⟨q, 0, none⟩), .func (.func 78) #[] #[.pointer (some ⟨Bt, 0, none⟩)], .agg #[.int .i64 x.f0, .int .i64 x.f1], undef, undef, undef, undef, undef], defers := [] })
    (fun x a' => OwnFrom.ex fun q => OwnFrom.and (OwnFrom.pure fun _ => w.heap.size ≤ q) (OwnFrom.and (blk_ownFrom _ q 39 (fun _ => [.int .i64 x.f0, .int .i64 x.f1])) (OwnFrom.pure fun _ => _))) ?assign ?body ?done ?stop
  case assign =>
    rintro y pre x W K ⟨⟨v, hv, hrow, _⟩, hB⟩ hK
    gi_wp2
    have hbn := Blk.new W 39 [.int .i64 x.f0, .int .i64 x.f1]
    exact hK _ _ ((KeepsOthers.alloc _ _).from _) ((Below.refl _ W).alloc hB.size _) ⟨⟨v, hv.alloc _, hrow.alloc _, trivial⟩, hB.trans ((Below.refl _ _).alloc hB.size _)⟩ ⟨_, hB.size, hbn, rfl⟩
  case body =>
    rintro y pre x a' W hy ⟨r, hr⟩ ⟨⟨v, hv, hrow, _⟩, hB⟩ ⟨q, hq, hbq, rfl⟩ hlt
    have hc := hv.cell
    have c0 := hbq.cell 0
    have c1 := hbq.cell 1
    have hmx : (100000000 : Nat) < maxLen := by decide
    have HPL := Lib.hid (show pre.length + 1 ≤ 1000000 by omega)
    have hbn := Blk.new W 39 [.int .i64 x.f0, .int .i64 x.f1]
    gi_wp2_with (gi_at_builtin; refine wpListIn_append_own_at _ rfl _ _ 22 rfl w.heap.size 39 i0 (.agg #[.int .i64 0, .int .i64 0]) 2 16 Try.underlying22 hi hz0 hz1 hz2 rfl (by decide) _ _ _ rfl (hrow.alloc _) ⟨W.heap.size, 0, none⟩ 1 1 [.int .i64 x.f0, .int .i64 x.f1] rfl rfl (fun j u hj => by rw [add_plain]; exact (hbn.cell j).trans hj) (by simp [Value.oneCell']) (by have := HPL.out; omega) (by have := HPL.out; omega) (by have := hB.size; simp; omega) ?_; intro v' w1 hown' hgrow _ hat; obtain ⟨g', cap', rfl⟩ := ownsRow_succ hown'; obtain ⟨hv1, hv2, hr2, hk2, hb2⟩ := hv.appended (by decide) hrow hB.size (Nat.le_refl _) hown' hgrow; have hc1 := hv1.cell; have hf1 := hv1.frozen)
    have ek : bkVs (pre ++ [x]) = bkVs pre ++ [.int .i64 x.f0, .int .i64 x.f1] := by simp [bkVs, encBk]
    exact ⟨hk2.from _, hb2, ⟨_, hv2, by rw [ek]; simpa using hr2, trivial⟩, hB.trans hb2⟩
  case done =>
    rintro D ys W hD hys ⟨⟨v, hv, hrow, _⟩, hB⟩ hK
    subst hys
    have hc := hv.cell
    gi_wp2
    refine ⟨by simp, .inl ⟨_, _, rfl, run_takeDeferred hK, ?_⟩⟩
    have hr2 := ownsRow_putObj hrow (.deferred none) hK rfl
    refine ⟨_, results_tmp rfl _ _ _, v, rfl, R_bk hr2, hB.trans (belowK_b (w := w) (Nat.le_refl _) W D _ _ (Nat.le_trans hB0.size hD) hK rfl rfl)⟩
  case stop =>
    rintro D c pre W _ _ h _
    exact h.elim
set_option maxHeartbeats 1000000 in
theorem Collect_bk (Bt : Nat) (A : Option Addr) (c : Nat) (ps : List S39) (hps : ps.length ≤ 1000000) (w : World) (hC : Kd.C k39 w A ps.length ps) (ht : Blk w Bt 22 [.slice A ps.length c]) :
    Calls Try.prog 76 #[.func (.func 78) #[] #[.pointer (some ⟨Bt, 0, none⟩)]] w fun e W' => ∃ v, e = .returned v ∧ Kd.R k39 39 W' w.heap.size (fun _ => True) v ps ∧ Below w.heap.size w W' := by
  have hA := Lib.hid ((callsIn_wide (n := 6)).1 (AppendSeq_bk 6 (by omega) Bt A c ps hps w hC ht))
  clear hC ht hps
  go_enter Try.func76, Try.ntmps76
  go_wp2_with (go_at_call 88; refine hA.out.mono ?_; rintro e w1 ⟨v, rfl, hr, hb⟩; have HR := Lib.hid hr; have HB := Lib.hid hb; clear hr hb)
  go_ret
  exact ⟨v, rfl, HR.out, HB.out⟩
end

-- NOT PRINTED: function 58 (pool_Sorted_1)

/-! ### pool_Sorted: function 38 -/
section
open Go.Sort (grow grow_empty grow_grow alloc_eq_grow)
open Go.Shelf Go.Proofs.Ytcekkbimdogboaa.Hand
def cmpB (x y : S39) : Int := if x.f0 < y.f0 then -1 else if y.f0 < x.f0 then 1 else 0
theorem cmpB_eq (x y : S39) : cmp_Compare_int.f x.f0 y.f0 = some (cmpB x y) := by
  unfold cmp_Compare_int.f cmp_isNaN_int.f cmpB
  by_cases h1 : x.f0 < y.f0
  · simp [h1]
  · by_cases h2 : y.f0 < x.f0 <;> simp [h1, h2]
theorem encBk_len (x : S39) : (encBk x).length = 2 := rfl
theorem encBk_one (x : S39) : ∀ v ∈ encBk x, v.oneCell' = true := fun v hv => by simp [encBk] at hv; rcases hv with rfl | rfl <;> rfl
instance inhBk : Inhabited S39 := ⟨z39⟩
theorem sorted1_any (x y : S39) (W : World) : Calls Try.prog 58 #[.agg #[.int .i64 x.f0, .int .i64 x.f1], .agg #[.int .i64 y.f0, .int .i64 y.f1]] W fun e w' => e = .returned (.int .i64 (cmpB x y)) ∧ ∃ q os', w' = grow (W.drewN q) os' := by
  have hA := fun w => cmp_Compare_int.calls x.f0 y.f0 _ w (cmpB_eq x y)
  generalize cmpB x y = p at hA ⊢
  have HA := Lib.hid hA
  clear hA
  go_enter Try.func58, Try.ntmps58
  go_wp2_with (go_at_call 59; refine (HA.out _).mono ?_; rintro e w1 ⟨rfl, n1, rfl⟩)
  go_ret
  refine ⟨rfl, n1, #[.cells #[.int .i64 x.f0, .int .i64 x.f1] 39, .cells #[.int .i64 y.f0, .int .i64 y.f1] 39], ?_⟩
  rw [alloc_eq_grow, alloc_eq_grow, grow_grow]
  rfl
theorem cmpB_neg (x y : S39) : cmpB x y < 0 ↔ x.f0 < y.f0 := by
  unfold cmpB; split <;> (repeat' split) <;> omega
theorem ltB (x y : S39) : ltOf cmpB x y = decide (x.f0 < y.f0) := by
  unfold ltOf; exact decide_eq_decide.2 (cmpB_neg x y)
theorem swoB : Go.Sort.SWO (ltOf cmpB) where
  irrefl x := by rw [ltB]; simp
  trans x y z h1 h2 := by rw [ltB] at *; simp at *; omega
  ntrans x y z h1 h2 := by rw [ltB] at *; simp at *; omega
/-- A pool in order, as an insertion sort lays it. -/
def insL (l : List S39) : List S39 := (Go.Sort.insertionSort (ltOf cmpB) l.toArray 0 l.length).toList
theorem insL_perm (l : List S39) : (insL l).Perm l := by
  have h := (Go.Sort.insertionSort_holds swoB l.toArray 0 l.length (Nat.zero_le _) (by simp)).1
  obtain ⟨hs, _, hp⟩ := h
  have e1 : (Go.Sort.insertionSort (ltOf cmpB) l.toArray 0 l.length).extract 0 l.length = Go.Sort.insertionSort (ltOf cmpB) l.toArray 0 l.length := by
    have : l.length = (Go.Sort.insertionSort (ltOf cmpB) l.toArray 0 l.length).size := by rw [hs]; simp
    conv => lhs; arg 3; rw [this]
    exact Array.extract_size
  have e2 : l.toArray.extract 0 l.length = l.toArray := by
    have : l.length = l.toArray.size := by simp
    conv => lhs; arg 3; rw [this]
    exact Array.extract_size
  rw [e1, e2] at hp
  exact hp
theorem insL_len (l : List S39) : (insL l).length = l.length := (insL_perm l).length_eq
set_option maxRecDepth 100000 in
set_option maxHeartbeats 4000000 in
theorem stable_small (n cap : Nat) (p : Option Addr) (hn : n < 20) (W : World) (R : World → Prop) (hI : Calls Try.prog 100 #[.slice p n cap, .int .i64 0, .int .i64 (n : Int), .func (.func 58) #[] #[]] W fun e w' => e = .returned (.tuple #[]) ∧ R w') :
    Calls Try.prog 89 #[.slice p n cap, .int .i64 (n : Int), .func (.func 58) #[] #[]] W fun e w' => e = .returned (.tuple #[]) ∧ R w' := by
  have q1 : decide ((20 : Int) ≤ (n : Int)) = false := decide_eq_false (by omega)
  have q2 : decide ((20 : Int) < (n : Int)) = false := decide_eq_false (by omega)
  have HI := Lib.hid hI
  clear hI hn
  go_enter Try.func89, Try.ntmps89
  go_wp2
  refine wp_loop_rounds 1 ?_
  rw [rounds_succ]
  go_wp2_with (go_at_call 100; refine HI.out.mono ?_; rintro e w1 ⟨rfl, hr⟩; have HR := Lib.hid hr; clear hr)
  refine wp_loop_rounds 1 ?_
  rw [rounds_succ]
  go_wp2
  go_end0
  exact ⟨rfl, HR.out⟩
theorem insert_bk (v : Value) (xs : List S39) (hl : xs.length < 20) (n₀ : Nat) (W : World) (hn : n₀ ≤ W.heap.size) (hR : Kd.R k39 39 W n₀ (fun _ => True) v xs) :
    Calls Try.prog 100 #[v, .int .i64 0, .int .i64 (xs.length : Int), .func (.func 58) #[] #[]] W fun e w' => e = .returned (.tuple #[]) ∧ (Kd.R k39 39 w' n₀ (fun _ => True) v (insL xs) ∧ Below n₀ W w') := by
  cases hx : xs with
  | nil =>
    subst hx
    obtain ⟨A, c, rfl⟩ := Kd.R_slice hR
    have hcon := AnyF.insertionSortCmpFunc_none Try.insBk A c (.func (.func 58) #[] #[]) W
    change Calls Try.prog 100 _ _ _ at hcon
    refine hcon.mono ?_
    rintro e w' ⟨rfl, rfl⟩
    have he : insL [] = [] := List.eq_nil_of_length_eq_zero (insL_len [])
    rw [he]
    exact ⟨rfl, hR, Below.refl _ _⟩
  | cons x0 l0 =>
    have hpos : 0 < xs.length := by rw [hx]; simp
    rw [← hx]
    obtain ⟨g, cap, rfl, hg1, hg2, _⟩ := Kd.R_form hR hpos
    obtain ⟨ho', _, _⟩ := own_bk hR
    obtain ⟨hH, _⟩ := holdsK_own encBk_len ho'
    have eg : ∀ args w, (callFunc 58 args).run Try.prog w = .ok (.enter 58 args) w := enters_of Try.func58 (by kernel_rfl) rfl
    have hcon := AnyQ.insertionSortCmpFunc Try.insBk 2 Try.isAgg39 Try.sizeOf39 encBk encBk_len encBk_one cmpB 58 #[] g 0 cap 0 xs.length xs.toArray W eg (fun _ _ _ _ x y => sorted1_any x y _) hH hg2 (Nat.zero_le _) (by simp) (by simp; omega)
    change Calls Try.prog 100 _ _ _ at hcon
    rw [show xs.toArray.size = xs.length from rfl] at hcon
    refine hcon.mono ?_
    rintro e w' ⟨rfl, n, os, rfl⟩
    have h2 := own_sorted encBk_len ho' (insL_len xs) n os
    rw [insL_len] at h2
    have e3 : (insL xs).toArray = Go.Sort.insertionSort (ltOf cmpB) xs.toArray 0 xs.length := by unfold insL; simp
    rw [e3] at h2
    exact ⟨rfl, R_bk (by rw [insL_len]; exact h2), sorted_below _ _ _ _ _ _ _ _ hg1 hn⟩
set_option maxHeartbeats 1000000 in
theorem SortStable_bk (v : Value) (xs : List S39) (hl : xs.length < 20) (n₀ : Nat) (W : World) (hn : n₀ ≤ W.heap.size) (hR : Kd.R k39 39 W n₀ (fun _ => True) v xs) :
    Calls Try.prog 77 #[v, .func (.func 58) #[] #[]] W fun e w' => e = .returned (.tuple #[]) ∧ (Kd.R k39 39 w' n₀ (fun _ => True) v (insL xs) ∧ Below n₀ W w') := by
  obtain ⟨A, c, rfl⟩ := Kd.R_slice hR
  have HI := Lib.hid (stable_small xs.length c A hl W _ (insert_bk _ xs hl n₀ W hn hR))
  clear hR hl hn
  go_enter Try.func77, Try.ntmps77
  go_wp2_with (go_at_call 89; refine HI.out.mono ?_; rintro e w1 ⟨rfl, hr⟩; have HR := Lib.hid hr; clear hr)
  go_end0
  exact ⟨rfl, HR.out⟩
set_option maxHeartbeats 1000000 in
theorem SortedStable_bk (Bt : Nat) (A : Option Addr) (c : Nat) (ps : List S39) (hps : ps.length < 20) (w : World) (hC : Kd.C k39 w A ps.length ps) (ht : Blk w Bt 22 [.slice A ps.length c]) :
    Calls Try.prog 56 #[.func (.func 78) #[] #[.pointer (some ⟨Bt, 0, none⟩)], .func (.func 58) #[] #[]] w fun e W' => ∃ v, e = .returned v ∧ Kd.R k39 39 W' w.heap.size (fun _ => True) v (insL ps) ∧ Below w.heap.size w W' := by
  have hA := Lib.hid (Collect_bk Bt A c ps (by omega) w hC ht)
  have HL := Lib.hid hps
  clear hC ht hps
  go_enter Try.func56, Try.ntmps56
  go_wp2_with (first
    | (go_at_call 76; refine hA.out.mono ?_; rintro e w1 ⟨v, rfl, hr, hb⟩; have HR := Lib.hid hr; have HB := Lib.hid hb; clear hr hb)
    | (go_at_call 77; refine (SortStable_bk v ps HL.out w.heap.size _ HB.out.size HR.out).mono ?_; rintro e w2 ⟨rfl, hr, hb⟩; have HR2 := Lib.hid hr; have HB2 := Lib.hid hb; clear hr hb))
  go_ret
  exact ⟨v, rfl, HR2.out, HB.out.trans HB2.out⟩
set_option maxHeartbeats 1000000 in
theorem Sorted_any (A : Option Addr) (c : Nat) (l : List S39) (hl : l.length < 20) (w : World) (hC : Kd.C k39 w A l.length l) :
    Calls Try.prog 38 #[.slice A l.length c] w fun e w' => ∃ v : Value, e = .returned v ∧ Kd.R k39 39 w' w.heap.size (fun _ => True) v (insL l) ∧ Below w.heap.size w w' := by
  have HS := Lib.hid (SortedStable_bk w.heap.size A c l hl (w.alloc (.cells #[.slice A l.length c] 22)) (Kd.C_alloc hC _) (Blk.new w 22 [.slice A l.length c]))
  have HB0 := Lib.hid (below_alloc (Below.refl w.heap.size w) (.cells #[.slice A l.length c] 22))
  clear hC hl
  go_enter Try.func38, Try.ntmps38
  go_wp2_with (first
    | (go_at_call 57; refine (values_any _ _ _ _).mono ?_; rintro e w1 ⟨rfl, rfl⟩)
    | (go_at_call 56; refine HS.out.mono ?_; rintro e w2 ⟨v, rfl, hr, hb⟩; have HR := Lib.hid (Kd.R_lower hr HB0.out.size); have HB := Lib.hid (HB0.out.trans (hb.mono HB0.out.size)); clear hr hb))
  go_ret
  exact ⟨v, rfl, HR.out, HB.out⟩
def pool_Sorted.f (l0 : List S39) : Option (List S39) := if l0.length < 20 then some (insL l0) else none
theorem pool_Sorted.calls (A0 : Option Addr) (c0 : Nat) (l0 : List S39) (r : List S39) (w : World) (hr0 : Kd.C k39 w A0 l0.length l0) (hc0 : l0.length ≤ c0) (h : pool_Sorted.f l0 = some r) :
    Calls Try.prog 38 #[.slice A0 l0.length c0] w fun e w' => ∃ v0_ : Value, e = .returned v0_ ∧ Kd.R k39 39 w' w.heap.size (fun _ => True) v0_ r ∧ Below w.heap.size w w' := by
  unfold pool_Sorted.f at h
  by_cases hl : l0.length < 20
  · rw [if_pos hl] at h
    obtain rfl := Option.some.inj h
    exact Sorted_any A0 c0 l0 hl w hr0
  · rw [if_neg hl] at h
    exact absurd h (by simp)
end

/-! ### gangplanklaw09_PointsSorted: function 14 -/
mutual
def gangplanklaw09_PointsSorted.l0 : Nat → List (S39) → Bool → List (S30) → Int → Int → Option (Bool)
  | 0, _, _, _, _, _ => none
  | k + 1, x0, x3, x4, x5, x6 => if x6 < (x0.length : Int) then (if 0 ≤ x6 then (gangplanklaw09_PointsSorted.l0 k x0 x3 x4 (wrap64 (x5 + (8 * (mx 0 (mn ((rd_T39 x0 x6).f1) 16))))) (wrap64 (x6 + 1))) else (none)) else (gangplanklaw09_PointsSorted.l1 k x0 x3 x4 x5 1)
def gangplanklaw09_PointsSorted.l1 : Nat → List (S39) → Bool → List (S30) → Int → Int → Option (Bool)
  | 0, _, _, _, _, _ => none
  | k + 1, x0, x3, x4, x5, x7 => if x7 < (x4.length : Int) then (if 0 ≤ x7 then (if 0 ≤ (wrap64 (x7 - 1)) then (if (wrap64 (x7 - 1)) < (x4.length : Int) then ((points_Less.f k ((rd_T30 x4 x7).f0) ((rd_T30 x4 x7).f1) ((rd_T30 x4 (wrap64 (x7 - 1))).f0) ((rd_T30 x4 (wrap64 (x7 - 1))).f1)).bind fun t150 => (if t150 = true then (some false) else (gangplanklaw09_PointsSorted.l1 k x0 x3 x4 x5 (wrap64 (x7 + 1))))) else (none)) else (none)) else (none)) else (if x3 = true then (if (x4.length : Int) = x5 then ((pool_Sorted.f x0).bind fun t151 => ((points_Of.f t151).bind fun t154 => ((points_Same.f k t154 x4).bind fun t157 => (some t157)))) else (some false)) else (some false))
end
def gangplanklaw09_PointsSorted.f (k : Nat) (l0 : List (S39)) : Option (Bool) := (gangplanklaw09_works.f k).bind fun t143 => (if t143 = true then (if (l0.length : Int) > 8 then (some t143) else ((points_Of.f l0).bind fun t144 => (gangplanklaw09_PointsSorted.l0 k l0 t143 t144 0 0))) else (some false))
theorem gangplanklaw09_PointsSorted.mono_l : ∀ k, (∀ y0 y1 y2 y3 y4, LeO (gangplanklaw09_PointsSorted.l0 k y0 y1 y2 y3 y4) (gangplanklaw09_PointsSorted.l0 (k + 1) y0 y1 y2 y3 y4)) ∧ (∀ y0 y1 y2 y3 y4, LeO (gangplanklaw09_PointsSorted.l1 k y0 y1 y2 y3 y4) (gangplanklaw09_PointsSorted.l1 (k + 1) y0 y1 y2 y3 y4))
  | 0 => ⟨fun _ _ _ _ _ r h => by simp [gangplanklaw09_PointsSorted.l0] at h, fun _ _ _ _ _ r h => by simp [gangplanklaw09_PointsSorted.l1] at h⟩
  | k + 1 => by
    obtain ⟨ih0, ih1⟩ := gangplanklaw09_PointsSorted.mono_l k
    refine ⟨?_, ?_⟩
    · intro y0 y1 y2 y3 y4
      unfold gangplanklaw09_PointsSorted.l0
      repeat' first
      | (with_reducible exact ih0 _ _ _ _ _)
      | (with_reducible exact ih1 _ _ _ _ _)
      | (with_reducible exact gangplanklaw09_works.mono _)
      | (with_reducible exact points_Less.mono _ _ _ _ _)
      | (with_reducible exact points_Same.mono _ _ _)
      | (with_reducible exact LeO.refl _)
      | (with_reducible exact LeO.none _)
      | (with_reducible refine LeO.ite ?_ ?_)
      | (with_reducible refine LeO.bind ?_ (fun _ => ?_))
      | exact ih0 _ _ _ _ _
      | exact ih1 _ _ _ _ _
      | exact gangplanklaw09_works.mono _
      | exact points_Less.mono _ _ _ _ _
      | exact points_Same.mono _ _ _
      | exact LeO.none _
      | refine LeO.ite ?_ ?_
      | refine LeO.bind ?_ (fun _ => ?_)
    · intro y0 y1 y2 y3 y4
      unfold gangplanklaw09_PointsSorted.l1
      repeat' first
      | (with_reducible exact ih0 _ _ _ _ _)
      | (with_reducible exact ih1 _ _ _ _ _)
      | (with_reducible exact gangplanklaw09_works.mono _)
      | (with_reducible exact points_Less.mono _ _ _ _ _)
      | (with_reducible exact points_Same.mono _ _ _)
      | (with_reducible exact LeO.refl _)
      | (with_reducible exact LeO.none _)
      | (with_reducible refine LeO.ite ?_ ?_)
      | (with_reducible refine LeO.bind ?_ (fun _ => ?_))
      | exact ih0 _ _ _ _ _
      | exact ih1 _ _ _ _ _
      | exact gangplanklaw09_works.mono _
      | exact points_Less.mono _ _ _ _ _
      | exact points_Same.mono _ _ _
      | exact LeO.none _
      | refine LeO.ite ?_ ?_
      | refine LeO.bind ?_ (fun _ => ?_)
theorem gangplanklaw09_PointsSorted.mono : ∀ a0 k, LeO (gangplanklaw09_PointsSorted.f k a0) (gangplanklaw09_PointsSorted.f (k + 1) a0) := by
  intro a0 k
  obtain ⟨ih0, ih1⟩ := gangplanklaw09_PointsSorted.mono_l k
  unfold gangplanklaw09_PointsSorted.f
  repeat' first
      | (with_reducible exact ih0 _ _ _ _ _)
      | (with_reducible exact ih1 _ _ _ _ _)
      | (with_reducible exact gangplanklaw09_works.mono _)
      | (with_reducible exact points_Less.mono _ _ _ _ _)
      | (with_reducible exact points_Same.mono _ _ _)
      | (with_reducible exact LeO.refl _)
      | (with_reducible exact LeO.none _)
      | (with_reducible refine LeO.ite ?_ ?_)
      | (with_reducible refine LeO.bind ?_ (fun _ => ?_))
      | exact ih0 _ _ _ _ _
      | exact ih1 _ _ _ _ _
      | exact gangplanklaw09_works.mono _
      | exact points_Less.mono _ _ _ _ _
      | exact points_Same.mono _ _ _
      | exact LeO.none _
      | refine LeO.ite ?_ ?_
      | refine LeO.bind ?_ (fun _ => ?_)
def gangplanklaw09_PointsSorted.T15 : Bool × List (List Nat × List Nat) := (true, [([], []), ([], []), ([0, 1], [0, 1]), ([2], [2]), ([], []), ([], []), ([5], [5]), ([4, 6], [4, 6]), ([7], [7]), ([3, 8], [3, 8])])
def gangplanklaw09_PointsSorted.B15 : List Nat := [0, 0, 3, 7, 0, 0, 32, 112, 240, 511]
theorem gangplanklaw09_PointsSorted.tab15 : rtab .any (opsOf Try.f14 15) = gangplanklaw09_PointsSorted.T15 := by kernel_rfl
theorem gangplanklaw09_PointsSorted.bits15 : waitsOk gangplanklaw09_PointsSorted.T15.2 gangplanklaw09_PointsSorted.B15 = true := by kernel_rfl
set_option maxHeartbeats 8000000 in
set_option maxRecDepth 100000 in
theorem gangplanklaw09_PointsSorted.calls (k : Nat) (A0 : Option Addr) (c0 : Nat) (l0 : List (S39)) (r : Bool) (w : World) (hr0 : Kd.C k39 w A0 l0.length l0) (hc0 : l0.length ≤ c0) (h : gangplanklaw09_PointsSorted.f k l0 = some r) :
    Calls Try.prog 14 #[.slice A0 l0.length c0] w fun e w' => e = .returned (.bool r) ∧ Below w.heap.size w w' := by
  have hu30 := Try.underlying30
  have HR0 := Aside0.mk hr0
  have HC0 := Aside0.mk hc0
  clear hr0 hc0
  have HB := Aside0.mk (Below.refl w.heap.size w)
  have H : ((gangplanklaw09_works.f k).bind fun t143 => (if t143 = true then (if (l0.length : Int) > 8 then (some t143) else ((points_Of.f l0).bind fun t144 => (gangplanklaw09_PointsSorted.l0 k l0 t143 t144 0 0))) else (some false))) = some r := h
  clear h
  replace H := Option.bind_eq_some_iff.mp H
  obtain ⟨t143, A20, H⟩ := H
  replace H : (if t143 = true then (if (l0.length : Int) > 8 then (some t143) else ((points_Of.f l0).bind fun t144 => (gangplanklaw09_PointsSorted.l0 k l0 t143 t144 0 0))) else (some false)) = some r := H
  have A2 := Aside0.mk A20
  clear A20
  by_cases c3 : t143 = true
  · subst c3
    have H1 : (if (l0.length : Int) > 8 then (some true) else ((points_Of.f l0).bind fun t144 => (gangplanklaw09_PointsSorted.l0 k l0 true t144 0 0))) = some r := by first | (rw [if_pos rfl] at H; exact H) | (rw [if_pos trivial] at H; exact H)
    clear H
    have H := H1
    clear H1
    by_cases c4 : (l0.length : Int) > 8
    · rw [if_pos c4] at H
      have c4b0 : decide (8 < (l0.length : Int)) = true := decide_eq_true c4
      have c4b1 : decide (8 < l0.length) = true := decide_eq_true (by omega)
      clear c4
      obtain rfl := Option.some.inj H
      go_enter Try.func14, Try.ntmps14
      go_wp2_with (first | ((with_reducible refine gate_callee (f := 16) rfl ?_); refine goesL_ (some 8) rfl rfl Try.func16 (by kernel_rfl) rfl #[] rfl (by (try simp only [List.map_toArray, List.map_cons, List.map_nil]); first | done | rfl | (simp only [List.length_drop, List.length_take]; rfl)) ?_; (with_reducible refine (gangplanklaw09_works.calls k  true _ A2.out).mono ?_); (try clear A2); rintro e w5 ⟨rfl, hb⟩; refine ⟨_, rfl, ?_⟩; have n0_ := Aside0.mk (below_step (by repeat (first | (with_reducible first | exact HB.out | apply below_alloc | apply pw_below_drewN | apply below_drew1) | exact HB.out)) hb); clear HB; have HB := n0_; clear n0_; (try clear hb); (try clear hb2); (try clear hk); (try clear hi)))
      go_ret
      exact ⟨by first | rfl | (simp [errW_none, errW_some] <;> rfl) | (simp [*, errW_none, errW_some] <;> rfl), by repeat (first | (with_reducible first | exact HB.out | apply below_alloc | apply pw_below_drewN | apply below_drew1) | exact HB.out)⟩
    · rw [if_neg c4] at H
      have c4b0 : decide (8 < (l0.length : Int)) = false := decide_eq_false c4
      have c4b1 : decide (8 < l0.length) = false := decide_eq_false (by omega)
      clear c4
      replace H := Option.bind_eq_some_iff.mp H
      obtain ⟨t144, A60, H⟩ := H
      replace H : (gangplanklaw09_PointsSorted.l0 k l0 true t144 0 0) = some r := H
      have A6 := Aside0.mk A60
      clear A60
      have H' := Aside0.mk H
      clear H
      go_enter Try.func14, Try.ntmps14
      go_wp2_with (first | ((with_reducible refine gate_callee (f := 16) rfl ?_); refine goesL_ (some 8) rfl rfl Try.func16 (by kernel_rfl) rfl #[] rfl (by (try simp only [List.map_toArray, List.map_cons, List.map_nil]); first | done | rfl | (simp only [List.length_drop, List.length_take]; rfl)) ?_; (with_reducible refine (gangplanklaw09_works.calls k  true _ A2.out).mono ?_); (try clear A2); rintro e w7 ⟨rfl, hb⟩; refine ⟨_, rfl, ?_⟩; have n0_ := Aside0.mk (below_step (by repeat (first | (with_reducible first | exact HB.out | apply below_alloc | apply pw_below_drewN | apply below_drew1) | exact HB.out)) hb); clear HB; have HB := n0_; clear n0_; (try clear hb); (try clear hb2); (try clear hk); (try clear hi)) | ((with_reducible refine gate_callee (f := 17) rfl ?_); refine goesL_ (some 16) rfl rfl Try.func17 (by kernel_rfl) rfl #[.slice A0 l0.length c0] rfl (by (try simp only [List.map_toArray, List.map_cons, List.map_nil]); first | done | rfl | (simp only [List.length_drop, List.length_take]; rfl)) ?_; (with_reducible refine (points_Of.calls _ _ l0 t144 _ ?side1 ?side2 A6.out).mono ?_); (case side1 => repeat (first | exact (Kd.C_below HR0.out HB.out) | (with_reducible refine Kd.C_alloc ?_ _) | (with_reducible refine Kd.C_drewN ?_ _) | (with_reducible refine Kd.C_drew ?_))); (case side2 => exact HC0.out); (try clear A6); rintro e w8 ⟨v145, rfl, ho0, hb⟩; refine ⟨_, rfl, ?_⟩; have n0_ := Aside0.mk (Kd.R_lower ho0 (below_size (by repeat (first | (with_reducible first | exact HB.out | apply below_alloc | apply pw_below_drewN | apply below_drew1) | exact HB.out)))); have n1_ := Aside0.mk (below_step (by repeat (first | (with_reducible first | exact HB.out | apply below_alloc | apply pw_below_drewN | apply below_drew1) | exact HB.out)) hb); clear HB; have HO146 := n0_; have HB := n1_; clear n0_ n1_; (try clear hb); (try clear hb2); (try clear hk); (try clear hi); (try clear ho0)))
      go_loopg [5, 6] k (fun kq v5 v6 w' => ∃ (x5_1 : Int) (x6_1 : Int), v5 = .int .i64 x5_1 ∧ v6 = .int .i64 x6_1 ∧ Aside0 (gangplanklaw09_PointsSorted.l0 kq l0 true t144 x5_1 x6_1 = some r) ∧ Aside0 (kq ≤ k) ∧ Aside0 (Kd.R k30 30 w' w.heap.size (fun _ => True) v145 t144) ∧ Aside0 (Below w.heap.size w w'))
      case atStart => exact ⟨(0), (0), (by first | rfl | (simp; done) | (simp [*]; done)), (by first | rfl | (simp; done) | (simp [*]; done)), H', ⟨Nat.le_refl _⟩, ⟨by (with_reducible repeat (first | apply Kd.R_alloc | apply Kd.R_drewN | apply Kd.R_drew)); exact HO146.out⟩, ⟨by repeat (first | (with_reducible first | exact HB.out | apply below_alloc | apply pw_below_drewN | apply below_drew1) | exact HB.out)⟩⟩
      case round =>
        clear H'
        try clear c1
        try clear p2
        try clear c3
        try clear c4
        try clear c4b0
        try clear c4b1
        obtain ⟨x5_1, x6_1, rfl, rfl, HA, HK1, HO_4, HB⟩ := hrel
        cases gk with
        | zero => exact absurd HA.out (by simp [gangplanklaw09_PointsSorted.l0])
        | succ k1 =>
          have H := HA.out
          clear HA
          simp only [gangplanklaw09_PointsSorted.l0] at H
          by_cases c9 : x6_1 < (l0.length : Int)
          · rw [if_pos c9] at H
            have c9b0 : decide (x6_1 < (l0.length : Int)) = true := decide_eq_true c9
            clear c9
            by_cases c10 : 0 ≤ x6_1
            · rw [if_pos c10] at H
              have c10b0 : decide (0 ≤ x6_1) = true := decide_eq_true c10
              clear c10
              obtain ⟨ji11, hji11⟩ : ∃ j_ : Int, (mn ((rd_T39 l0 x6_1).f1) 16) = j_ := ⟨_, rfl⟩
              replace H : (gangplanklaw09_PointsSorted.l0 k1 l0 true t144 (wrap64 (x5_1 + (8 * (mx 0 (ji11))))) (wrap64 (x6_1 + 1))) = some r := by first | (rw [hji11] at H; exact H) | (simp only [hji11] at H ⊢; exact H)
              have hji11_ : (if 16 < ((rd_T39 l0 x6_1).f1) then 16 else ((rd_T39 l0 x6_1).f1)) = ji11 := hji11
              obtain ⟨ji12, hji12⟩ : ∃ j_ : Int, (mx 0 (ji11)) = j_ := ⟨_, rfl⟩
              replace H : (gangplanklaw09_PointsSorted.l0 k1 l0 true t144 (wrap64 (x5_1 + (8 * (ji12)))) (wrap64 (x6_1 + 1))) = some r := by first | (rw [hji12] at H; exact H) | (simp only [hji12] at H ⊢; exact H)
              have hji12_ : (if 0 < (ji11) then (ji11) else 0) = ji12 := hji12
              have H' := Aside0.mk H
              clear H
              have p147 : 0 ≤ (x6_1 : Int) := of_decide_eq_true (by first | (with_reducible assumption) | assumption)
              have q147 : x6_1 < (l0.length : Int) := of_decide_eq_true (by first | (with_reducible assumption) | assumption)
              obtain ⟨ad147, e147, hx147_0, hx147_1⟩ := at_T39 HR0.out x6_1 p147 q147
              cases e147
              replace hx147_0 := (HB.out.cell (World.block_lt_of_cell? w _ hx147_0)).trans hx147_0
              replace hx147_1 := (HB.out.cell (World.block_lt_of_cell? w _ hx147_1)).trans hx147_1
              replace p147 := eq_true p147
              replace q147 := eq_true q147
              go_wp2
              go_roundg k1
              case measure => have := HK1.out; omega
              case rel => exact ⟨(wrap64 (x5_1 + (8 * (ji12)))), (wrap64 (x6_1 + 1)), (by first | rfl | (simp; done) | (simp only [← hji12] <;> (first | rfl | simp)) | (simp [*]; done)), (by first | rfl | (simp; done) | (simp [*]; done)), H', ⟨by have := HK1.out; omega⟩, ⟨by (with_reducible repeat (first | apply Kd.R_alloc | apply Kd.R_drewN | apply Kd.R_drew)); exact HO_4.out⟩, ⟨by repeat (first | (with_reducible first | exact HB.out | apply below_alloc | apply pw_below_drewN | apply below_drew1) | exact HB.out)⟩⟩
            · rw [if_neg c10] at H
              exact absurd H (by simp)
          · rw [if_neg c9] at H
            have c9b0 : decide (x6_1 < (l0.length : Int)) = false := decide_eq_false c9
            clear c9
            have H' := Aside0.mk H
            clear H
            go_wp2
            go_loopg [7] k1 (fun kq v7 w' => ∃ (x7_2 : Int), v7 = .int .i64 x7_2 ∧ Aside0 (gangplanklaw09_PointsSorted.l1 kq l0 true t144 x5_1 x7_2 = some r) ∧ Aside0 (kq ≤ k1) ∧ Aside0 (Kd.R k30 30 w' w.heap.size (fun _ => True) v145 t144) ∧ Aside0 (Below w.heap.size w w'))
            case atStart => exact ⟨(1), (by first | rfl | (simp; done) | (simp [*]; done)), H', ⟨Nat.le_refl _⟩, ⟨by (with_reducible repeat (first | apply Kd.R_alloc | apply Kd.R_drewN | apply Kd.R_drew)); exact HO_4.out⟩, ⟨by repeat (first | (with_reducible first | exact HB.out | apply below_alloc | apply pw_below_drewN | apply below_drew1) | exact HB.out)⟩⟩
            case round =>
              clear H'
              try clear c1
              try clear p1
              try clear q1
              try clear hx1
              try clear p2
              try clear c3
              try clear c4
              try clear c4b0
              try clear c4b1
              try clear p6
              try clear c9
              try clear c9b0
              try clear c10
              try clear c10b0
              try clear hx147_0
              try clear hx147_1
              try clear p147
              try clear p2
              try clear q147
              obtain ⟨x7_2, rfl, HA, HK2, HO_4, HB⟩ := hrel
              cases gk with
              | zero => exact absurd HA.out (by simp [gangplanklaw09_PointsSorted.l1])
              | succ k2 =>
                have H := HA.out
                clear HA
                simp only [gangplanklaw09_PointsSorted.l1] at H
                by_cases c13 : x7_2 < (t144.length : Int)
                · rw [if_pos c13] at H
                  have c13b0 : decide (x7_2 < (t144.length : Int)) = true := decide_eq_true c13
                  clear c13
                  by_cases c14 : 0 ≤ x7_2
                  · rw [if_pos c14] at H
                    have c14b0 : decide (0 ≤ x7_2) = true := decide_eq_true c14
                    clear c14
                    obtain ⟨ji15, hji15⟩ : ∃ j_ : Int, (wrap64 (x7_2 - 1)) = j_ := ⟨_, rfl⟩
                    replace H : (if 0 ≤ (ji15) then (if (ji15) < (t144.length : Int) then ((points_Less.f k2 ((rd_T30 t144 x7_2).f0) ((rd_T30 t144 x7_2).f1) ((rd_T30 t144 (ji15)).f0) ((rd_T30 t144 (ji15)).f1)).bind fun t150 => (if t150 = true then (some false) else (gangplanklaw09_PointsSorted.l1 k2 l0 true t144 x5_1 (wrap64 (x7_2 + 1))))) else (none)) else (none)) = some r := by first | (rw [hji15] at H; exact H) | (simp only [hji15] at H ⊢; exact H)
                    have hji15w : (IntKind.i64.wrap (x7_2 - 1)) = ji15 := (i64_w _).trans hji15
                    by_cases c16 : 0 ≤ (ji15)
                    · rw [if_pos c16] at H
                      have c16b0 : decide (0 ≤ (ji15)) = true := decide_eq_true c16
                      clear c16
                      by_cases c17 : (ji15) < (t144.length : Int)
                      · rw [if_pos c17] at H
                        have c17b0 : decide ((ji15) < (t144.length : Int)) = true := decide_eq_true c17
                        clear c17
                        replace H := Option.bind_eq_some_iff.mp H
                        obtain ⟨t150, A180, H⟩ := H
                        replace H : (if t150 = true then (some false) else (gangplanklaw09_PointsSorted.l1 k2 l0 true t144 x5_1 (wrap64 (x7_2 + 1)))) = some r := H
                        have A18 := Aside0.mk A180
                        clear A180
                        by_cases c19 : t150 = true
                        · subst c19
                          have H1 : (some false) = some r := by first | (rw [if_pos rfl] at H; exact H) | (rw [if_pos trivial] at H; exact H)
                          clear H
                          have H := H1
                          clear H1
                          obtain rfl := Option.some.inj H
                          obtain ⟨Ao20, co20, eo20⟩ := Kd.R_slice HO_4.out
                          subst eo20
                          try go_wp2
                          have n0_ := Aside0.mk (Kd.R_drew HO_4.out)
                          have n1_ := Aside0.mk (below_drew1 HB.out)
                          clear HO_4
                          clear HB
                          have HO_4 := n0_
                          have HB := n1_
                          clear n0_ n1_
                          have p148 : 0 ≤ (x7_2 : Int) := of_decide_eq_true (by first | (with_reducible assumption) | assumption)
                          have q148 : x7_2 < (t144.length : Int) := of_decide_eq_true (by first | (with_reducible assumption) | assumption)
                          obtain ⟨ad148, e148, hx148_0, hx148_1⟩ := at_T30 (Kd.R_reads' HO_4.out).2.2 x7_2 p148 q148
                          cases e148
                          replace p148 := eq_true p148
                          replace q148 := eq_true q148
                          have p149 : 0 ≤ ((ji15) : Int) := of_decide_eq_true (by first | (with_reducible assumption) | assumption)
                          have q149 : (ji15) < (t144.length : Int) := of_decide_eq_true (by first | (with_reducible assumption) | assumption)
                          obtain ⟨ad149, e149, hx149_0, hx149_1⟩ := at_T30 (Kd.R_reads' HO_4.out).2.2 (ji15) p149 q149
                          obtain rfl : ad148 = ad149 := (by injection e149)
                          replace p149 := eq_true p149
                          replace q149 := eq_true q149
                          refine start_ (n := 10) (S := fun w' => w'.cell? (ad148.add ((x7_2).toNat * 2)) = some (.int .u64 ((rd_T30 t144 x7_2).f0)) ∧ w'.cell? ⟨(ad148.add ((x7_2).toNat * 2)).block, (ad148.add ((x7_2).toNat * 2)).off + 1, none⟩ = some (.int .i64 ((rd_T30 t144 x7_2).f1)) ∧ w'.cell? (ad148.add (((ji15)).toNat * 2)) = some (.int .u64 ((rd_T30 t144 (ji15)).f0)) ∧ w'.cell? ⟨(ad148.add (((ji15)).toNat * 2)).block, (ad148.add (((ji15)).toNat * 2)).off + 1, none⟩ = some (.int .i64 ((rd_T30 t144 (ji15)).f1))) (ds := []) #[false, false, false, false, false, false, false, false, false, false] (by kernel_rfl) rfl rfl ⟨hx148_0, hx148_1, hx149_0, hx149_1⟩ (fun hHeld => ?_); refine with_tabW gangplanklaw09_PointsSorted.tab15 gangplanklaw09_PointsSorted.bits15 (fun HT_ HW_ => ?_)
                          generalize wr.drew = w21 at HO_4 HB hx148_0 hx148_1 hx149_0 hx149_1 hHeld ⊢
                          refine pure_ (i := 0) (N := some 39) (v := ?_) (a' := ?_) #[true, false, false, false, false, false, false, false, false, false] rfl rfl (any_of HT_.out (by kernel_rfl)) (fun _ _ _ h => h) (Or.inl ⟨by rfl, ?_⟩) ?_ ?_
                          rotate_left
                          · intro w'
                            go_simp
                            with_reducible rfl
                          rotate_left
                          · simp only [Act.put, List.setIfInBounds_toArray, List.set_cons_zero, List.set_cons_succ, i64_w, i32_w]
                            rfl
                          refine pure_ (i := 1) (N := some 40) (v := ?_) (a' := ?_) #[true, true, false, false, false, false, false, false, false, false] rfl rfl (any_of HT_.out (by kernel_rfl)) (fun _ _ _ h => h) (Or.inl ⟨by rfl, ?_⟩) ?_ ?_
                          rotate_left
                          · intro w'
                            go_simp
                            with_reducible rfl
                          rotate_left
                          · simp only [Act.put, List.setIfInBounds_toArray, List.set_cons_zero, List.set_cons_succ, i64_w, i32_w]
                            rfl
                          refine pure_ (i := 2) (N := some 41) (v := ?_) (a' := ?_) #[true, true, true, false, false, false, false, false, false, false] rfl rfl (any_of HT_.out (by kernel_rfl)) (fun _ _ _ h => h) (Or.inl ⟨by rfl, ?_⟩) ?_ ?_
                          rotate_left
                          · intro w'
                            go_simp
                            with_reducible rfl
                          rotate_left
                          · simp only [Act.put, List.setIfInBounds_toArray, List.set_cons_zero, List.set_cons_succ, i64_w, i32_w]
                            rfl
                          refine pure_ (i := 4) (N := some 43) (v := ?_) (a' := ?_) #[true, true, true, false, true, false, false, false, false, false] rfl rfl (any_of HT_.out (by kernel_rfl)) (fun _ _ _ h => h) (Or.inl ⟨by rfl, ?_⟩) ?_ ?_
                          rotate_left
                          · intro w'
                            go_simp
                            with_reducible rfl
                          rotate_left
                          · simp only [Act.put, List.setIfInBounds_toArray, List.set_cons_zero, List.set_cons_succ, i64_w, i32_w]
                            rfl
                          refine pure_ (i := 5) (N := some 44) (v := ?_) (a' := ?_) #[true, true, true, false, true, true, false, false, false, false] rfl rfl (any_of HT_.out (by kernel_rfl)) (fun _ _ _ h => h) (Or.inl ⟨by rfl, ?_⟩) ?_ ?_
                          rotate_left
                          · intro w'
                            go_simp
                            with_reducible rfl
                          rotate_left
                          · simp only [Act.put, List.setIfInBounds_toArray, List.set_cons_zero, List.set_cons_succ, i64_w, i32_w]
                            rfl
                          refine pure_ (i := 6) (N := some 45) (v := ?_) (a' := ?_) #[true, true, true, false, true, true, true, false, false, false] rfl rfl (any_of HT_.out (by kernel_rfl)) (fun _ _ _ h => h) (Or.inl ⟨by rfl, ?_⟩) ?_ ?_
                          rotate_left
                          · intro w'
                            go_simp
                            with_reducible rfl
                          rotate_left
                          · simp only [Act.put, List.setIfInBounds_toArray, List.set_cons_zero, List.set_cons_succ, i64_w, i32_w]
                            rfl
                          refine pure_ (i := 7) (N := some 46) (v := ?_) (a' := ?_) #[true, true, true, false, true, true, true, true, false, false] rfl rfl (any_of HT_.out (by kernel_rfl)) (fun _ _ _ h => h) (Or.inl ⟨by rfl, ?_⟩) ?_ ?_
                          rotate_left
                          · intro w'
                            go_simp
                            with_reducible rfl
                          rotate_left
                          · simp only [Act.put, List.setIfInBounds_toArray, List.set_cons_zero, List.set_cons_succ, i64_w, i32_w]
                            rfl
                          refine take_ (i := 3) (N := some 42) (v := ?_) (a' := ?_) #[true, true, true, true, true, true, true, true, false, false] rfl rfl (take_ofW HT_.out HW_.out (by kernel_rfl)) (fun _ _ _ h => h) (Or.inl ⟨by rfl, ?_⟩) hHeld ?_ ?_
                          rotate_left
                          · rintro w' ⟨s0, s1, s2, s3⟩
                            go_simp
                            with_reducible rfl
                          rotate_left
                          · simp only [Act.put, List.setIfInBounds_toArray, List.set_cons_zero, List.set_cons_succ, i64_w, i32_w]
                            rfl
                          refine take_ (i := 8) (N := some 47) (v := ?_) (a' := ?_) #[true, true, true, true, true, true, true, true, true, false] rfl rfl (take_ofW HT_.out HW_.out (by kernel_rfl)) (fun _ _ _ h => h) (Or.inl ⟨by rfl, ?_⟩) hHeld ?_ ?_
                          rotate_left
                          · rintro w' ⟨s0, s1, s2, s3⟩
                            go_simp
                            with_reducible rfl
                          rotate_left
                          · simp only [Act.put, List.setIfInBounds_toArray, List.set_cons_zero, List.set_cons_succ, i64_w, i32_w]
                            rfl
                          refine one_ (i := 9) (N := some 48) #[true, true, true, true, true, true, true, true, true, true] rfl rfl (one_of HT_.out (by kernel_rfl)) (by decide) (fun K hK => ?_)
                          refine goes_ Try.func22 (by kernel_rfl) rfl #[.agg #[.int .u64 ((rd_T30 t144 x7_2).f0), .int .i64 ((rd_T30 t144 x7_2).f1)], .agg #[.int .u64 ((rd_T30 t144 (ji15)).f0), .int .i64 ((rd_T30 t144 (ji15)).f1)]] (by rfl) rfl rfl (by (try simp only [List.map_toArray, List.map_cons, List.map_nil]); first | done | (simp only [hji15]; rfl) | rfl | (simp only [List.length_drop, List.length_take]; rfl)) ?_
                          with_reducible refine (points_Less.calls k2 ((rd_T30 t144 x7_2).f0) ((rd_T30 t144 x7_2).f1) ((rd_T30 t144 (ji15)).f0) ((rd_T30 t144 (ji15)).f1) true _ A18.out).mono ?_
                          rintro e w22 ⟨rfl, hb⟩
                          have HS0_ := (hb.cell (World.block_lt_of_cell? _ _ (hHeld.1))).trans (hHeld.1)
                          have HS1_ := (hb.cell (World.block_lt_of_cell? _ _ (hHeld.2.1))).trans (hHeld.2.1)
                          have HS2_ := (hb.cell (World.block_lt_of_cell? _ _ (hHeld.2.2.1))).trans (hHeld.2.2.1)
                          have HS3_ := (hb.cell (World.block_lt_of_cell? _ _ (hHeld.2.2.2))).trans (hHeld.2.2.2)
                          refine ⟨_, rfl, ?_⟩
                          have n0_ := Aside0.mk (Kd.R_below (by (with_reducible repeat (first | apply Kd.R_alloc | apply Kd.R_drewN | apply Kd.R_drew)); exact HO_4.out) hb)
                          have n1_ := Aside0.mk (below_step (by repeat (first | (with_reducible first | exact HB.out | apply below_alloc | apply pw_below_drewN | apply below_drew1) | exact HB.out)) hb)
                          clear HO_4
                          clear HB
                          have HO_4 := n0_
                          have HB := n1_
                          clear n0_ n1_
                          (try clear hb)
                          (try clear hb2)
                          (try clear hk)
                          (try clear hi)
                          refine hK.out _ _ ⟨HS0_, HS1_, HS2_, HS3_⟩ (fun hHeld => ?_)
                          clear hK K
                          refine norm_ (a' := ?_) ?_ ?_
                          rotate_left
                          · show Act.put _ (some 48) _ = _
                            simp only [Act.put, List.setIfInBounds_toArray, List.set_cons_zero, List.set_cons_succ, i64_w, i32_w]
                            rfl
                          refine done_ (done_of HT_.out (by kernel_rfl)) ?_
                          try go_wp2
                          go_ret
                          exact ⟨by first | rfl | (simp [errW_none, errW_some] <;> rfl) | (simp only [← hji15]; first | rfl | (simp [errW_none, errW_some] <;> rfl)) | (simp [*, errW_none, errW_some] <;> rfl), by repeat (first | (with_reducible first | exact HB.out | apply below_alloc | apply pw_below_drewN | apply below_drew1) | exact HB.out)⟩
                        · replace c19 := Bool.eq_false_iff.mpr c19
                          subst c19
                          have H1 : (gangplanklaw09_PointsSorted.l1 k2 l0 true t144 x5_1 (wrap64 (x7_2 + 1))) = some r := by rw [if_neg (show ¬ (false = true) by decide)] at H; exact H
                          clear H
                          have H := H1
                          clear H1
                          have H' := Aside0.mk H
                          clear H
                          obtain ⟨Ao23, co23, eo23⟩ := Kd.R_slice HO_4.out
                          subst eo23
                          try go_wp2
                          have n0_ := Aside0.mk (Kd.R_drew HO_4.out)
                          have n1_ := Aside0.mk (below_drew1 HB.out)
                          clear HO_4
                          clear HB
                          have HO_4 := n0_
                          have HB := n1_
                          clear n0_ n1_
                          have p148 : 0 ≤ (x7_2 : Int) := of_decide_eq_true (by first | (with_reducible assumption) | assumption)
                          have q148 : x7_2 < (t144.length : Int) := of_decide_eq_true (by first | (with_reducible assumption) | assumption)
                          obtain ⟨ad148, e148, hx148_0, hx148_1⟩ := at_T30 (Kd.R_reads' HO_4.out).2.2 x7_2 p148 q148
                          cases e148
                          replace p148 := eq_true p148
                          replace q148 := eq_true q148
                          have p149 : 0 ≤ ((ji15) : Int) := of_decide_eq_true (by first | (with_reducible assumption) | assumption)
                          have q149 : (ji15) < (t144.length : Int) := of_decide_eq_true (by first | (with_reducible assumption) | assumption)
                          obtain ⟨ad149, e149, hx149_0, hx149_1⟩ := at_T30 (Kd.R_reads' HO_4.out).2.2 (ji15) p149 q149
                          obtain rfl : ad148 = ad149 := (by injection e149)
                          replace p149 := eq_true p149
                          replace q149 := eq_true q149
                          refine start_ (n := 10) (S := fun w' => w'.cell? (ad148.add ((x7_2).toNat * 2)) = some (.int .u64 ((rd_T30 t144 x7_2).f0)) ∧ w'.cell? ⟨(ad148.add ((x7_2).toNat * 2)).block, (ad148.add ((x7_2).toNat * 2)).off + 1, none⟩ = some (.int .i64 ((rd_T30 t144 x7_2).f1)) ∧ w'.cell? (ad148.add (((ji15)).toNat * 2)) = some (.int .u64 ((rd_T30 t144 (ji15)).f0)) ∧ w'.cell? ⟨(ad148.add (((ji15)).toNat * 2)).block, (ad148.add (((ji15)).toNat * 2)).off + 1, none⟩ = some (.int .i64 ((rd_T30 t144 (ji15)).f1))) (ds := []) #[false, false, false, false, false, false, false, false, false, false] (by kernel_rfl) rfl rfl ⟨hx148_0, hx148_1, hx149_0, hx149_1⟩ (fun hHeld => ?_); refine with_tabW gangplanklaw09_PointsSorted.tab15 gangplanklaw09_PointsSorted.bits15 (fun HT_ HW_ => ?_)
                          generalize wr.drew = w24 at HO_4 HB hx148_0 hx148_1 hx149_0 hx149_1 hHeld ⊢
                          refine pure_ (i := 0) (N := some 39) (v := ?_) (a' := ?_) #[true, false, false, false, false, false, false, false, false, false] rfl rfl (any_of HT_.out (by kernel_rfl)) (fun _ _ _ h => h) (Or.inl ⟨by rfl, ?_⟩) ?_ ?_
                          rotate_left
                          · intro w'
                            go_simp
                            with_reducible rfl
                          rotate_left
                          · simp only [Act.put, List.setIfInBounds_toArray, List.set_cons_zero, List.set_cons_succ, i64_w, i32_w]
                            rfl
                          refine pure_ (i := 1) (N := some 40) (v := ?_) (a' := ?_) #[true, true, false, false, false, false, false, false, false, false] rfl rfl (any_of HT_.out (by kernel_rfl)) (fun _ _ _ h => h) (Or.inl ⟨by rfl, ?_⟩) ?_ ?_
                          rotate_left
                          · intro w'
                            go_simp
                            with_reducible rfl
                          rotate_left
                          · simp only [Act.put, List.setIfInBounds_toArray, List.set_cons_zero, List.set_cons_succ, i64_w, i32_w]
                            rfl
                          refine pure_ (i := 2) (N := some 41) (v := ?_) (a' := ?_) #[true, true, true, false, false, false, false, false, false, false] rfl rfl (any_of HT_.out (by kernel_rfl)) (fun _ _ _ h => h) (Or.inl ⟨by rfl, ?_⟩) ?_ ?_
                          rotate_left
                          · intro w'
                            go_simp
                            with_reducible rfl
                          rotate_left
                          · simp only [Act.put, List.setIfInBounds_toArray, List.set_cons_zero, List.set_cons_succ, i64_w, i32_w]
                            rfl
                          refine pure_ (i := 4) (N := some 43) (v := ?_) (a' := ?_) #[true, true, true, false, true, false, false, false, false, false] rfl rfl (any_of HT_.out (by kernel_rfl)) (fun _ _ _ h => h) (Or.inl ⟨by rfl, ?_⟩) ?_ ?_
                          rotate_left
                          · intro w'
                            go_simp
                            with_reducible rfl
                          rotate_left
                          · simp only [Act.put, List.setIfInBounds_toArray, List.set_cons_zero, List.set_cons_succ, i64_w, i32_w]
                            rfl
                          refine pure_ (i := 5) (N := some 44) (v := ?_) (a' := ?_) #[true, true, true, false, true, true, false, false, false, false] rfl rfl (any_of HT_.out (by kernel_rfl)) (fun _ _ _ h => h) (Or.inl ⟨by rfl, ?_⟩) ?_ ?_
                          rotate_left
                          · intro w'
                            go_simp
                            with_reducible rfl
                          rotate_left
                          · simp only [Act.put, List.setIfInBounds_toArray, List.set_cons_zero, List.set_cons_succ, i64_w, i32_w]
                            rfl
                          refine pure_ (i := 6) (N := some 45) (v := ?_) (a' := ?_) #[true, true, true, false, true, true, true, false, false, false] rfl rfl (any_of HT_.out (by kernel_rfl)) (fun _ _ _ h => h) (Or.inl ⟨by rfl, ?_⟩) ?_ ?_
                          rotate_left
                          · intro w'
                            go_simp
                            with_reducible rfl
                          rotate_left
                          · simp only [Act.put, List.setIfInBounds_toArray, List.set_cons_zero, List.set_cons_succ, i64_w, i32_w]
                            rfl
                          refine pure_ (i := 7) (N := some 46) (v := ?_) (a' := ?_) #[true, true, true, false, true, true, true, true, false, false] rfl rfl (any_of HT_.out (by kernel_rfl)) (fun _ _ _ h => h) (Or.inl ⟨by rfl, ?_⟩) ?_ ?_
                          rotate_left
                          · intro w'
                            go_simp
                            with_reducible rfl
                          rotate_left
                          · simp only [Act.put, List.setIfInBounds_toArray, List.set_cons_zero, List.set_cons_succ, i64_w, i32_w]
                            rfl
                          refine take_ (i := 3) (N := some 42) (v := ?_) (a' := ?_) #[true, true, true, true, true, true, true, true, false, false] rfl rfl (take_ofW HT_.out HW_.out (by kernel_rfl)) (fun _ _ _ h => h) (Or.inl ⟨by rfl, ?_⟩) hHeld ?_ ?_
                          rotate_left
                          · rintro w' ⟨s0, s1, s2, s3⟩
                            go_simp
                            with_reducible rfl
                          rotate_left
                          · simp only [Act.put, List.setIfInBounds_toArray, List.set_cons_zero, List.set_cons_succ, i64_w, i32_w]
                            rfl
                          refine take_ (i := 8) (N := some 47) (v := ?_) (a' := ?_) #[true, true, true, true, true, true, true, true, true, false] rfl rfl (take_ofW HT_.out HW_.out (by kernel_rfl)) (fun _ _ _ h => h) (Or.inl ⟨by rfl, ?_⟩) hHeld ?_ ?_
                          rotate_left
                          · rintro w' ⟨s0, s1, s2, s3⟩
                            go_simp
                            with_reducible rfl
                          rotate_left
                          · simp only [Act.put, List.setIfInBounds_toArray, List.set_cons_zero, List.set_cons_succ, i64_w, i32_w]
                            rfl
                          refine one_ (i := 9) (N := some 48) #[true, true, true, true, true, true, true, true, true, true] rfl rfl (one_of HT_.out (by kernel_rfl)) (by decide) (fun K hK => ?_)
                          refine goes_ Try.func22 (by kernel_rfl) rfl #[.agg #[.int .u64 ((rd_T30 t144 x7_2).f0), .int .i64 ((rd_T30 t144 x7_2).f1)], .agg #[.int .u64 ((rd_T30 t144 (ji15)).f0), .int .i64 ((rd_T30 t144 (ji15)).f1)]] (by rfl) rfl rfl (by (try simp only [List.map_toArray, List.map_cons, List.map_nil]); first | done | (simp only [hji15]; rfl) | rfl | (simp only [List.length_drop, List.length_take]; rfl)) ?_
                          with_reducible refine (points_Less.calls k2 ((rd_T30 t144 x7_2).f0) ((rd_T30 t144 x7_2).f1) ((rd_T30 t144 (ji15)).f0) ((rd_T30 t144 (ji15)).f1) false _ A18.out).mono ?_
                          rintro e w25 ⟨rfl, hb⟩
                          have HS0_ := (hb.cell (World.block_lt_of_cell? _ _ (hHeld.1))).trans (hHeld.1)
                          have HS1_ := (hb.cell (World.block_lt_of_cell? _ _ (hHeld.2.1))).trans (hHeld.2.1)
                          have HS2_ := (hb.cell (World.block_lt_of_cell? _ _ (hHeld.2.2.1))).trans (hHeld.2.2.1)
                          have HS3_ := (hb.cell (World.block_lt_of_cell? _ _ (hHeld.2.2.2))).trans (hHeld.2.2.2)
                          refine ⟨_, rfl, ?_⟩
                          have n0_ := Aside0.mk (Kd.R_below (by (with_reducible repeat (first | apply Kd.R_alloc | apply Kd.R_drewN | apply Kd.R_drew)); exact HO_4.out) hb)
                          have n1_ := Aside0.mk (below_step (by repeat (first | (with_reducible first | exact HB.out | apply below_alloc | apply pw_below_drewN | apply below_drew1) | exact HB.out)) hb)
                          clear HO_4
                          clear HB
                          have HO_4 := n0_
                          have HB := n1_
                          clear n0_ n1_
                          (try clear hb)
                          (try clear hb2)
                          (try clear hk)
                          (try clear hi)
                          refine hK.out _ _ ⟨HS0_, HS1_, HS2_, HS3_⟩ (fun hHeld => ?_)
                          clear hK K
                          refine norm_ (a' := ?_) ?_ ?_
                          rotate_left
                          · show Act.put _ (some 48) _ = _
                            simp only [Act.put, List.setIfInBounds_toArray, List.set_cons_zero, List.set_cons_succ, i64_w, i32_w]
                            rfl
                          refine done_ (done_of HT_.out (by kernel_rfl)) ?_
                          try go_wp2
                          go_roundg k2
                          case measure => have := HK1.out; have := HK2.out; omega
                          case rel => exact ⟨(wrap64 (x7_2 + 1)), (by first | rfl | (simp; done) | (simp [*]; done)), H', ⟨by have := HK1.out; have := HK2.out; omega⟩, ⟨by (with_reducible repeat (first | apply Kd.R_alloc | apply Kd.R_drewN | apply Kd.R_drew)); exact HO_4.out⟩, ⟨by repeat (first | (with_reducible first | exact HB.out | apply below_alloc | apply pw_below_drewN | apply below_drew1) | exact HB.out)⟩⟩
                      · rw [if_neg c17] at H
                        exact absurd H (by simp)
                    · rw [if_neg c16] at H
                      exact absurd H (by simp)
                  · rw [if_neg c14] at H
                    exact absurd H (by simp)
                · rw [if_neg c13] at H
                  have c13b0 : decide (x7_2 < (t144.length : Int)) = false := decide_eq_false c13
                  clear c13
                  by_cases c26 : true = true
                  · skip
                    have H1 : (if (t144.length : Int) = x5_1 then ((pool_Sorted.f l0).bind fun t151 => ((points_Of.f t151).bind fun t154 => ((points_Same.f k2 t154 t144).bind fun t157 => (some t157)))) else (some false)) = some r := by first | (rw [if_pos rfl] at H; exact H) | (rw [if_pos trivial] at H; exact H)
                    clear H
                    have H := H1
                    clear H1
                    by_cases c27 : (t144.length : Int) = x5_1
                    · rw [if_pos c27] at H
                      have c27b0 : ((t144.length : Int) == x5_1) = true := beq_iff_eq.mpr c27
                      have c27b1 : ((t144.length : Int) != x5_1) = false := bne_eq_false_iff_eq.mpr c27
                      clear c27
                      replace H := Option.bind_eq_some_iff.mp H
                      obtain ⟨t151, A280, H⟩ := H
                      replace H : ((points_Of.f t151).bind fun t154 => ((points_Same.f k2 t154 t144).bind fun t157 => (some t157))) = some r := H
                      have A28 := Aside0.mk A280
                      clear A280
                      replace H := Option.bind_eq_some_iff.mp H
                      obtain ⟨t154, A290, H⟩ := H
                      replace H : ((points_Same.f k2 t154 t144).bind fun t157 => (some t157)) = some r := H
                      have A29 := Aside0.mk A290
                      clear A290
                      replace H := Option.bind_eq_some_iff.mp H
                      obtain ⟨t157, A300, H⟩ := H
                      replace H : (some t157) = some r := H
                      have A30 := Aside0.mk A300
                      clear A300
                      obtain rfl := Option.some.inj H
                      obtain ⟨Ao31, co31, eo31⟩ := Kd.R_slice HO_4.out
                      subst eo31
                      go_wp2_with (first | (go_at_call 38; (with_reducible refine (pool_Sorted.calls _ _ l0 t151 _ ?side1 ?side2 A28.out).mono ?_); (case side1 => repeat (first | exact (Kd.C_below HR0.out HB.out) | (with_reducible refine Kd.C_alloc ?_ _) | (with_reducible refine Kd.C_drewN ?_ _) | (with_reducible refine Kd.C_drew ?_))); (case side2 => exact HC0.out); (try clear A28); rintro e w32 ⟨v152, rfl, ho0, hb⟩; have n0_ := Aside0.mk (Kd.R_below (by (with_reducible repeat (first | apply Kd.R_alloc | apply Kd.R_drewN | apply Kd.R_drew)); exact HO_4.out) hb); have n1_ := Aside0.mk (Kd.R_lower ho0 (below_size (by repeat (first | (with_reducible first | exact HB.out | apply below_alloc | apply pw_below_drewN | apply below_drew1) | exact HB.out)))); have n2_ := Aside0.mk (below_step (by repeat (first | (with_reducible first | exact HB.out | apply below_alloc | apply pw_below_drewN | apply below_drew1) | exact HB.out)) hb); clear HO_4; clear HB; have HO_4 := n0_; have HO153 := n1_; have HB := n2_; clear n0_ n1_ n2_; (try clear hb); (try clear hb2); (try clear hk); (try clear hi); (try clear ho0); obtain ⟨Ao33, co33, eo33⟩ := Kd.R_slice HO153.out; subst eo33) | (go_at_call 17; (with_reducible refine (points_Of.calls _ _ t151 t154 _ ?side1 ?side2 A29.out).mono ?_); (case side1 => repeat (first | exact (Kd.R_reads' HO153.out).2.2 | (with_reducible refine Kd.C_alloc ?_ _) | (with_reducible refine Kd.C_drewN ?_ _) | (with_reducible refine Kd.C_drew ?_))); (case side2 => exact (Kd.R_reads' HO153.out).2.1); (try clear A29); rintro e w34 ⟨v155, rfl, ho0, hb⟩; have n0_ := Aside0.mk (Kd.R_elder' (by (with_reducible repeat (first | apply Kd.R_alloc | apply Kd.R_drewN | apply Kd.R_drew)); exact HO_4.out) (Kd.R_base ho0) hb); have n1_ := Aside0.mk (Kd.R_below (by (with_reducible repeat (first | apply Kd.R_alloc | apply Kd.R_drewN | apply Kd.R_drew)); exact HO153.out) hb); have n2_ := Aside0.mk (Kd.R_lower (Kd.R_new' ho0 (Kd.R_lt (by (with_reducible repeat (first | apply Kd.R_alloc | apply Kd.R_drewN | apply Kd.R_drew)); exact HO_4.out))) (below_size (by repeat (first | (with_reducible first | exact HB.out | apply below_alloc | apply pw_below_drewN | apply below_drew1) | exact HB.out)))); have n3_ := Aside0.mk (below_step (by repeat (first | (with_reducible first | exact HB.out | apply below_alloc | apply pw_below_drewN | apply below_drew1) | exact HB.out)) hb); clear HO_4; clear HO153; clear HB; have HO_4 := n0_; have HO153 := n1_; have HO156 := n2_; have HB := n3_; clear n0_ n1_ n2_ n3_; (try clear hb); (try clear hb2); (try clear hk); (try clear hi); (try clear ho0); obtain ⟨Ao35, co35, eo35⟩ := Kd.R_slice HO156.out; subst eo35) | (go_at_call 24; (with_reducible refine (points_Same.calls k2 _ _ t154 _ _ t144 t157 _ ?side1 ?side2 ?side3 ?side4 A30.out).mono ?_); (case side1 => repeat (first | exact (Kd.R_reads' HO156.out).2.2 | (with_reducible refine Kd.C_alloc ?_ _) | (with_reducible refine Kd.C_drewN ?_ _) | (with_reducible refine Kd.C_drew ?_))); (case side2 => exact (Kd.R_reads' HO156.out).2.1); (case side3 => repeat (first | exact (Kd.R_reads' HO_4.out).2.2 | (with_reducible refine Kd.C_alloc ?_ _) | (with_reducible refine Kd.C_drewN ?_ _) | (with_reducible refine Kd.C_drew ?_))); (case side4 => exact (Kd.R_reads' HO_4.out).2.1); (try clear A30); rintro e w' ⟨rfl, ⟨nd, rfl⟩⟩))
                      go_ret
                      exact ⟨by first | rfl | (simp [errW_none, errW_some] <;> rfl) | (simp [*, errW_none, errW_some] <;> rfl), by repeat (first | (with_reducible first | exact HB.out | apply below_alloc | apply pw_below_drewN | apply below_drew1) | exact HB.out)⟩
                    · rw [if_neg c27] at H
                      have c27b0 : ((t144.length : Int) == x5_1) = false := beq_eq_false_iff_ne.mpr c27
                      have c27b1 : ((t144.length : Int) != x5_1) = true := bne_iff_ne.mpr c27
                      obtain rfl := Option.some.inj H
                      obtain ⟨Ao36, co36, eo36⟩ := Kd.R_slice HO_4.out
                      subst eo36
                      go_wp2
                      go_ret
                      exact ⟨by first | rfl | (simp [errW_none, errW_some] <;> rfl) | (simp [*, errW_none, errW_some] <;> rfl), by repeat (first | (with_reducible first | exact HB.out | apply below_alloc | apply pw_below_drewN | apply below_drew1) | exact HB.out)⟩
                  · exact absurd rfl c26
  · replace c3 := Bool.eq_false_iff.mpr c3
    subst c3
    have H1 : (some false) = some r := by rw [if_neg (show ¬ (false = true) by decide)] at H; exact H
    clear H
    have H := H1
    clear H1
    obtain rfl := Option.some.inj H
    go_enter Try.func14, Try.ntmps14
    go_wp2_with (first | ((with_reducible refine gate_callee (f := 16) rfl ?_); refine goesL_ (some 8) rfl rfl Try.func16 (by kernel_rfl) rfl #[] rfl (by (try simp only [List.map_toArray, List.map_cons, List.map_nil]); first | done | rfl | (simp only [List.length_drop, List.length_take]; rfl)) ?_; (with_reducible refine (gangplanklaw09_works.calls k  false _ A2.out).mono ?_); (try clear A2); rintro e w38 ⟨rfl, hb⟩; refine ⟨_, rfl, ?_⟩; have n0_ := Aside0.mk (below_step (by repeat (first | (with_reducible first | exact HB.out | apply below_alloc | apply pw_below_drewN | apply below_drew1) | exact HB.out)) hb); clear HB; have HB := n0_; clear n0_; (try clear hb); (try clear hb2); (try clear hk); (try clear hi)))
    go_ret
    exact ⟨by first | rfl | (simp [errW_none, errW_some] <;> rfl) | (simp [*, errW_none, errW_some] <;> rfl), by repeat (first | (with_reducible first | exact HB.out | apply below_alloc | apply pw_below_drewN | apply below_drew1) | exact HB.out)⟩

/-- THE PURE STATEMENT of gangplanklaw09_PointsSorted. -/
def gangplanklaw09_PointsSorted.Pure : Prop := ∀ (l0 : List (S39)), (l0.length ≤ maxLen) → ((∀ x ∈ l0, okS39 x)) → ∃ k, gangplanklaw09_PointsSorted.f k l0 = some true

end Go.Proofs.Ytcekkbimdogboaa.P
