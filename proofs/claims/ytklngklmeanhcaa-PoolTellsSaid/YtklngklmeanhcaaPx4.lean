/- Each Go function that the laws reach, as a plain function, with the proof that the machine's call comes to what it says; of a law: its row. Made by a program of this seat (wip/hp.py, over the print). -/
import Derived.Test.YtklngklmeanhcaaPx0
import Derived.Test.YtklngklmeanhcaaPx2
import Derived.Test.YtklngklmeanhcaaPx3
namespace Go.Proofs.Ytklngklmeanhcaa.P
open Go.RowKit Go.Proofs.YtklngklmeanhcaaW.PrintWords Go.Proofs.YtklngklmeanhcaaW.PrintLast Go.Proofs.YtklngklmeanhcaaW.PrintMore
attribute [local go_sem] max2_int min2_int max_two min_two max_three min_three max_four min_four   -- for this text's walks alone
set_option linter.unusedVariables false
set_option linter.unusedSimpArgs false

-- NOT PRINTED: function 84 (api_Backend_84)

-- NOT PRINTED: function 64 (api_Backend_64)

-- NOT PRINTED: function 85 (api_Backend_1)

/-! ### bk -/
section
open Go.Shelf Go.Proofs.Ytklngklmeanhcaa.Hand
def encBk (x : S56) : List Value := [.int .i64 x.f0, .int .i64 x.f1]
theorem reps_flat2 {R : S56 → List Value → Prop} (hR : ∀ p c, R p c → c = encBk p) : ∀ (xs : List S56) (cs : List Value), Reps R 2 xs cs → cs = xs.flatMap encBk
  | [], cs, h => by have := h.1; simp at this; simp [this]
  | x :: l, cs, h => by
    have h0 := hR _ _ (h.2 0 x rfl)
    have hl := h.1
    rw [Nat.zero_mul, List.drop_zero] at h0
    have ht : Reps R 2 l (cs.drop 2) := ⟨by rw [List.length_drop, hl, List.length_cons, Nat.add_mul, Nat.one_mul, Nat.add_sub_cancel], fun j p hj => by
      have := h.2 (j + 1) p hj
      rw [List.drop_drop, show 2 + j * 2 = (j + 1) * 2 by rw [Nat.add_mul, Nat.one_mul, Nat.add_comm]]
      exact this⟩
    have ih := reps_flat2 hR l _ ht
    rw [List.flatMap_cons, ← h0, ← ih, List.take_append_drop]
theorem reps_of2 {R : S56 → List Value → Prop} (hR : ∀ p, R p (encBk p)) : ∀ (l pre : List S56) (cs : List Value), Reps R 2 pre cs → Reps R 2 (pre ++ l) (cs ++ l.flatMap encBk)
  | [], pre, cs, h => by simpa using h
  | x :: l, pre, cs, h => by
    have e1 : pre ++ x :: l = (pre ++ [x]) ++ l := by simp
    have e2 : cs ++ (x :: l).flatMap encBk = (cs ++ encBk x) ++ l.flatMap encBk := by simp
    rw [e1, e2]
    exact reps_of2 hR l _ _ (h.snoc (hR x) rfl)
theorem R_bk {W : World} {base : Nat} {v : Value} {xs : List S56} (h : W.ownsRow base 56 2 v xs.length (xs.flatMap encBk)) : Kd.R k56 56 W base (fun _ => True) v xs :=
  ⟨fun _ _ => trivial, xs.flatMap encBk, h, by
    have e := reps_of2 (R := (k56).M W base (fun k => True ∧ some k ≠ v.ownBlock)) (fun x => k56_mkM W base _ x) xs [] [] (Reps.none _ _)
    rw [List.nil_append, List.nil_append] at e
    exact e⟩
theorem flat_take2 (xs : List S56) : ∀ i, i ≤ xs.length → (xs.flatMap encBk).take (i * 2) = (xs.take i).flatMap encBk := by
  induction xs with
  | nil => intro i hi; simp
  | cons x l ih =>
    intro i hi
    cases i with
    | zero => simp
    | succ i =>
      have := ih i (by simpa using hi)
      rw [List.take_succ_cons, List.flatMap_cons, List.flatMap_cons, ← this, Nat.add_mul, Nat.one_mul]
      simp [encBk]
theorem own_bk {W : World} {base g c : Nat} {xs : List S56} (h : Kd.R k56 56 W base (fun _ => True) (.slice (some ⟨g, 0, none⟩) xs.length c) xs) :
    W.ownsRow base 56 2 (.slice (some ⟨g, 0, none⟩) xs.length c) xs.length (xs.flatMap encBk) ∧ (∀ t, t < xs.length * 2 → (W.cell? ⟨g, t, none⟩).isSome = true) ∧ ∀ t, W.frozen? ⟨g, t, none⟩ = false := by
  obtain ⟨_, inner, ho, hr⟩ := h
  obtain rfl := reps_flat2 (fun p c h => k56_openM h) xs inner hr
  have ho' : W.ownsRow base 56 2 (.slice (some ⟨g, 0, none⟩) xs.length c) xs.length (xs.flatMap encBk) := ho
  refine ⟨ho', ?_⟩
  obtain ⟨hl, hn | ⟨g', cap', cur, hv, hb, hg, h1, h2, h3, h4⟩⟩ := ho'
  · cases hn.1
  · injection hv with hA _ hc
    injection hA with hA
    injection hA with hA
    subst hA
    refine ⟨fun t ht => ?_, fun t => ?_⟩
    · simp only [World.cell?, hg]
      have : t < cur.size := by rw [h3]; omega
      simp [this]
    · simp only [World.frozen?, hg]
      simp
theorem own_bk_end {W : World} {base g c : Nat} {xs : List S56} (h : W.ownsRow base 56 2 (.slice (some ⟨g, 0, none⟩) xs.length c) xs.length (xs.flatMap encBk)) {i : Nat} (hi : i ≤ xs.length) (us : List Value) :
    Kd.R k56 56 (W.setCells g (i * 2) us) base (fun _ => True) (.slice (some ⟨g, 0, none⟩) (xs.take i).length c) (xs.take i) := by
  have h1 := own_cut h hi
  rw [flat_take2 xs i hi] at h1
  have h2 := own_beyonds us (i * 2) W h1 (Nat.le_refl _)
  have hl : (xs.take i).length = i := by rw [List.length_take]; omega
  exact R_bk (by rw [hl]; exact h2)
end

/-! ### api_Backend_65: function 65 -/
section
open Go.Shelf Go.Proofs.Ytklngklmeanhcaa.Hand
attribute [local go_sem] Oper.semAt_some
theorem val_nums (n k : Nat) (hl : n ≤ 1000000) (h : k < n) : decide ((k : Int) < (n : Int)) = true ∧ (0 : Int) ≤ (k : Int) ∧ (k : Int) < (n : Int) ∧ wrap64 ((k : Int) + 1) = ((k + 1 : Nat) : Int) :=
  ⟨decide_eq_true (by omega), by omega, by omega, by unfold wrap64; omega⟩
theorem val_meas (n k : Nat) (h : k < n) : n - (((k + 1 : Nat) : Int)).toNat < n - ((k : Int)).toNat := by
  rw [Int.toNat_natCast, Int.toNat_natCast]; omega
theorem bk_next (l : List S56) (j : Nat) (h : j < l.length) : l.take (j + 1) = l.take j ++ [l.getD j z56] := by
  rw [List.take_succ_eq_append_getElem h]; simp [h]
set_option maxRecDepth 100000 in
set_option maxHeartbeats 8000000 in
theorem values1_in (n : Nat) (hn : 2 ≤ n) (y Bt n₀ : Nat) (A : Option Addr) (c : Nat) (ps : List S56) (hps : ps.length ≤ 1000000)
    (w : World) (hw : w.heap.size = n₀) (hC : Kd.C k56 w A ps.length ps) (J Jx : List S56 → World → Prop) (B : Nat) (hJ : AbidesFrom B J)
    (hY : ∀ pre x W, J pre W → pre.length < ps.length → YieldAt Fence.wide (n - 1) Try.prog y #[.agg #[.int .i64 x.f0, .int .i64 x.f1]] W fun e W' =>
      (e = .returned (.bool true) ∧ J (pre ++ [x]) W' ∧ Below n₀ W W') ∨ (e = .returned (.bool false) ∧ Jx (pre ++ [x]) W'))
    (W : World) (hB : Below n₀ w W) (ht : Blk W Bt 31 [.slice A ps.length c]) (h0 : J [] W) (hBB : B ≤ W.heap.size) :
    CallsIn Fence.wide n Try.prog 85 #[.func (.yield y) #[] #[], .pointer (some ⟨Bt, 0, none⟩)] W fun e W' => (∃ v, e = .returned v) ∧
      ((∃ ys, ys = ps ∧ J ys W') ∨ (∃ pre, (pre <+: ps) ∧ Jx pre W')) := by
  have hro : Fence.wide.round = none := rfl
  refine callsIn_of_wp Try.func85 rfl trivial ?_ hro
  simp only [Try.ntmps85, List.size_toArray, List.length_cons, List.length_nil, Nat.reduceAdd, Nat.reduceSub, Array.replicate_succ, Array.replicate_zero, List.push_toArray, List.append_toArray, List.nil_append, List.cons_append]
  have z0 : W.cell? ⟨Bt, 0, none⟩ = some (.slice A ps.length c) := ht.cell 0
  have HPS := Lib.hid hps
  have HC := Lib.hid hC
  have HB := Lib.hid hB
  have HW0 := Lib.hid hw
  have HY := Lib.hid hY
  have HJ := Lib.hid hJ
  have H0 := Lib.hid h0
  have HBB := Lib.hid hBB
  have HN := Lib.hid hn
  clear hps hC hB hw ht hY hJ h0 hn hBB
  gi_wp2
  gi_loopw [7] (fun i wr => ∃ (k : Nat), k ≤ ps.length ∧ i = .int .i64 k ∧ J (ps.take k) wr ∧ Below n₀ w wr ∧ W.heap.size ≤ wr.heap.size)
    (fun i _ => ps.length - (intOf i).toNat)
  case atStart => exact ⟨0, Nat.zero_le _, rfl, by simpa using H0.out, HB.out, Nat.le_refl _⟩
  case round =>
    obtain ⟨k, hk', rfl, hJs, hnx, hsz⟩ := hrel
    by_cases hlt : k < ps.length
    · have hBr : Below w.heap.size w wr := by rw [HW0.out]; exact hnx
      obtain ⟨ad, hA, c0, c1⟩ := at_T56 (Kd.C_below HC.out hBr) (k : Int) (by omega) (by omega)
      subst hA
      have htk := bk_next ps k hlt
      rw [show rd_T56 ps (k : Int) = ps.getD k z56 from rfl] at c0 c1
      obtain ⟨b, hb⟩ : ∃ b, ps.getD k z56 = b := ⟨_, rfl⟩
      rw [hb] at c0 c1 htk
      rw [Int.toNat_natCast] at c0 c1
      have hpx : ps.take (k + 1) <+: ps := List.take_prefix _ _
      have hln : (ps.take k).length < ps.length := by rw [List.length_take]; exact Nat.lt_of_le_of_lt (Nat.min_le_left _ _) hlt
      obtain ⟨q1, q2, q3, hwk⟩ := val_nums ps.length k HPS.out hlt
      have hbx := Blk.new wr 56 [.int .i64 b.f0, .int .i64 b.f1]
      have hj1 := HJ.out _ _ _ none hJs (grown_of_below (below_alloc (Below.refl _ wr) (.cells #[.int .i64 b.f0, .int .i64 b.f1] 56)) none) (fun r e => by cases e)
      obtain ⟨fn, tmps, assign, body, hy, hYR⟩ := HY.out _ b _ hj1 hln
      have HB1 := Lib.hid (show Below n₀ w (wr.alloc (.cells #[.int .i64 b.f0, .int .i64 b.f1] 56)) from by rw [← HW0.out] at hnx ⊢; exact below_alloc hnx _)
      have HSZ := Lib.hid (show W.heap.size ≤ (wr.alloc (.cells #[.int .i64 b.f0, .int .i64 b.f1] 56)).heap.size from Nat.le_trans hsz (by simp))
      have HTK := Lib.hid htk
      have HPX := Lib.hid hpx
      have HYR := Lib.hid hYR
      clear hBr htk hb hpx hln hj1 hYR hnx hsz hJs hbx
      gi_wp2
      refine ⟨fun _ => (by have := HN.out; omega), HYR.out.mono ?_⟩
      rintro e W3 (⟨rfl, hJ3, hk3⟩ | ⟨rfl, hJx3⟩)
      · have HJ3 := Lib.hid hJ3
        have HK3 := Lib.hid hk3
        clear hJ3 hk3
        gi_wp2
        go_roundw
        case rel => exact ⟨k + 1, Nat.succ_le_of_lt hlt, by rw [hwk], by rw [HTK.out]; exact HJ3.out, HB1.out.trans HK3.out, Nat.le_trans HSZ.out HK3.out.size⟩
        case measure =>
          rw [hwk]
          exact val_meas _ _ hlt
      · have HJ3 := Lib.hid hJx3
        clear hJx3
        gi_wp2
        refine bodyPost_ret (results_none rfl _ _ _) rfl ?_
        exact ⟨⟨_, rfl⟩, .inr ⟨ps.take k ++ [b], by rw [← HTK.out]; exact HPX.out, HJ3.out⟩⟩
    · obtain rfl : k = ps.length := Nat.le_antisymm hk' (Nat.le_of_not_lt hlt)
      have q1 : decide ((ps.length : Int) < (ps.length : Int)) = false := decide_eq_false (by omega)
      have HJ3 := Lib.hid hJs
      clear hJs hnx hsz
      gi_wp2
      go_end0
      exact ⟨⟨_, rfl⟩, .inl ⟨_, by rw [List.take_length], HJ3.out⟩⟩
theorem values_stops (d : Nat) (hd : 2 ≤ d) (Bt n₀ : Nat) (A : Option Addr) (c : Nat) (ps : List S56) (hps : ps.length ≤ 1000000)
    (w W : World) (hw : w.heap.size = n₀) (hC : Kd.C k56 w A ps.length ps) (hB : Below n₀ w W) (hn : n₀ ≤ W.heap.size) (ht : Blk W Bt 31 [.slice A ps.length c]) :
    SeqStopsK Fence.wide d Try.prog 85 #[.pointer (some ⟨Bt, 0, none⟩)] (fun x : S56 => #[.agg #[.int .i64 x.f0, .int .i64 x.f1]]) (Below n₀) (fun ys => ys = ps) (fun pre => pre <+: ps) ps.length W := fun y J Jx W' hW hJ _ hY h0 =>
  values1_in d hd y Bt n₀ A c ps hps w hw hC J Jx _ hJ hY W' (hB.trans (hW.mono hn)) (ht.below hW) h0 (Nat.le_refl _)
set_option maxHeartbeats 1000000 in
theorem values_any (A : Option Addr) (n c : Nat) (w : World) :
    Calls Try.prog 65 #[.slice A n c] w fun e w' => e = .returned (.func (.func 85) #[] #[.pointer (some ⟨w.heap.size, 0, none⟩)]) ∧ w' = w.alloc (.cells #[.slice A n c] 31) := by
  go_enter Try.func65, Try.ntmps65
  go_wp2
  go_ret
  exact ⟨rfl, rfl⟩
theorem infoBk2 : (Try.prog.info? 56).map (fun i => (i.zero, i.size, i.bytes)) = some (some (.agg #[.int .i64 0, .int .i64 0]), 2, 16) := by kernel_rfl
def bkVs (l : List S56) : List Value := l.flatMap encBk
theorem bkVs_len (l : List S56) : (bkVs l).length = l.length * 2 := by
  induction l with
  | nil => rfl
  | cons x l ih => rw [bkVs, List.flatMap_cons, List.length_append, ← bkVs, ih, List.length_cons]; simp [encBk]; omega
set_option maxRecDepth 100000 in
set_option maxHeartbeats 8000000 in
theorem AppendSeq_bk (n : Nat) (hn : 4 ≤ n) (Bt : Nat) (A : Option Addr) (c : Nat) (ps : List S56) (hps : ps.length ≤ 1000000) (w : World) (hC : Kd.C k56 w A ps.length ps) (ht : Blk w Bt 31 [.slice A ps.length c]) :
    CallsIn Fence.wide n Try.prog 100 #[.slice none 0 0, .func (.func 85) #[] #[.pointer (some ⟨Bt, 0, none⟩)]] w fun e W' => ∃ v, e = .returned v ∧ Kd.R k56 56 W' w.heap.size (fun _ => True) v ps ∧ Below w.heap.size w W' := by
  have hro : Fence.wide.round = none := rfl
  obtain ⟨i0, hi, hz0, hz1, hz2⟩ := info_parts infoBk2
  refine callsIn_of_wp_marks Try.func100 rfl trivial ?_ hro
  simp only [Try.ntmps100, List.size_toArray, List.length_cons, List.length_nil, Nat.reduceAdd, Nat.reduceSub, Array.replicate_succ, Array.replicate_zero, List.push_toArray, List.append_toArray, List.nil_append, List.cons_append]
  gi_wp2
  have b0 := Boxed.new w 31 (.slice none 0 0)
  have hB0 : Below w.heap.size w (w.alloc (.cells #[.slice none 0 0] 31)) := (Below.refl _ w).alloc (Nat.le_refl _) _
  replace ht := ht.alloc (.cells #[.slice none 0 0] 31)
  obtain ⟨W0, hW0⟩ : ∃ W0, (w.alloc (.cells #[.slice none 0 0] 31)) = W0 := ⟨_, rfl⟩
  rw [hW0] at hB0 b0 ht ⊢
  clear hW0
  refine wpIn_rangeFunc_ownH hro (by omega) (gf := 85) (lb := #[.pointer (some ⟨Bt, 0, none⟩)]) rfl trivial (enters_of Try.func85 (by kernel_rfl) rfl)
    (values_stops (n - 1) (by omega) Bt w.heap.size A c ps hps w W0 rfl hC hB0 hB0.size ht) (fun h k => h.trans k) (fun W L o o' hL h1 h2 h3 => belowK_b (w := W0) hB0.size W L o o' hL h1 h2 h3) (Below.refl _ _) (fun _ => rfl)
    (fun pre W => (∃ v, Boxed W w.heap.size 31 v ∧ W.ownsRow w.heap.size 56 2 v pre.length (bkVs pre) ∧ True) ∧ Below w.heap.size w W)
    (fun _ _ _ => False)
    (OwnFrom.and (Own.from (holdsRow_own w.heap.size w.heap.size 31 56 2 (fun pre => pre.length) (fun pre => bkVs pre) (fun pre v => True)) _) (ownFrom_below (Nat.le_refl _) hB0.size))
    (fun _ _ _ _ _ hs _ _ => hs)
    ⟨⟨_, b0, World.ownsRow_nil _ _ _ _, trivial⟩, hB0⟩
    (fun x a' W => ∃ q, w.heap.size ≤ q ∧ Blk W q 56 [.int .i64 x.f0, .int .i64 x.f1] ∧ a' = { tmps := #[.slice none 0 0, .func (.func 85) #[] #[.pointer (some ⟨Bt, 0, none⟩)], .pointer (some ⟨w.heap.size, 0, none⟩), undef, .slice none 0 0, .pointer (some ⟨q, 0, none⟩), .func (.func 85) #[] #[.pointer (some ⟨Bt, 0, none⟩)], .agg #[.int .i64 x.f0, .int .i64 x.f1], undef, undef, undef, undef, undef], defers := [] })
    (fun x a' => OwnFrom.ex fun q => OwnFrom.and (OwnFrom.pure fun _ => w.heap.size ≤ q) (OwnFrom.and (blk_ownFrom _ q 56 (fun _ => [.int .i64 x.f0, .int .i64 x.f1])) (OwnFrom.pure fun _ => _))) ?assign ?body ?done ?stop
  case assign =>
    rintro y pre x W K ⟨⟨v, hv, hrow, _⟩, hB⟩ hK
    gi_wp2
    have hbn := Blk.new W 56 [.int .i64 x.f0, .int .i64 x.f1]
    exact hK _ _ ((KeepsOthers.alloc _ _).from _) ((Below.refl _ W).alloc hB.size _) ⟨⟨v, hv.alloc _, hrow.alloc _, trivial⟩, hB.trans ((Below.refl _ _).alloc hB.size _)⟩ ⟨_, hB.size, hbn, rfl⟩
  case body =>
    rintro y pre x a' W hy ⟨r, hr⟩ ⟨⟨v, hv, hrow, _⟩, hB⟩ ⟨q, hq, hbq, rfl⟩ hlt
    have hc := hv.cell
    have c0 := hbq.cell 0
    have c1 := hbq.cell 1
    have hmx : (100000000 : Nat) < maxLen := by decide
    have HPL := Lib.hid (show pre.length + 1 ≤ 1000000 by omega)
    have hbn := Blk.new W 56 [.int .i64 x.f0, .int .i64 x.f1]
    gi_wp2_with (gi_at_builtin; refine wpListIn_append_own_at _ rfl _ _ 31 rfl w.heap.size 56 i0 (.agg #[.int .i64 0, .int .i64 0]) 2 16 Try.underlying31 hi hz0 hz1 hz2 rfl (by decide) _ _ _ rfl (hrow.alloc _) ⟨W.heap.size, 0, none⟩ 1 1 [.int .i64 x.f0, .int .i64 x.f1] rfl rfl (fun j u hj => by rw [add_plain]; exact (hbn.cell j).trans hj) (by simp [Value.oneCell']) (by have := HPL.out; omega) (by have := HPL.out; omega) (by have := hB.size; simp; omega) ?_; intro v' w1 hown' hgrow _ hat; obtain ⟨g', cap', rfl⟩ := ownsRow_succ hown'; obtain ⟨hv1, hv2, hr2, hk2, hb2⟩ := hv.appended (by decide) hrow hB.size (Nat.le_refl _) hown' hgrow; have hc1 := hv1.cell; have hf1 := hv1.frozen)
    have ek : bkVs (pre ++ [x]) = bkVs pre ++ [.int .i64 x.f0, .int .i64 x.f1] := by simp [bkVs, encBk]
    exact ⟨hk2.from _, hb2, ⟨_, hv2, by rw [ek]; simpa using hr2, trivial⟩, hB.trans hb2⟩
  case done =>
    rintro D ys W hD hys ⟨⟨v, hv, hrow, _⟩, hB⟩ hK
    subst hys
    have hc := hv.cell
    gi_wp2
    refine ⟨by simp, .inl ⟨_, _, rfl, run_takeDeferred hK, ?_⟩⟩
    have hr2 := ownsRow_putObj hrow (.deferred none) hK rfl
    refine ⟨_, results_tmp rfl _ _ _, v, rfl, R_bk hr2, hB.trans (belowK_b (w := w) (Nat.le_refl _) W D _ _ (Nat.le_trans hB0.size hD) hK rfl rfl)⟩
  case stop =>
    rintro D c pre W _ _ h _
    exact h.elim
set_option maxHeartbeats 1000000 in
theorem Collect_bk (Bt : Nat) (A : Option Addr) (c : Nat) (ps : List S56) (hps : ps.length ≤ 1000000) (w : World) (hC : Kd.C k56 w A ps.length ps) (ht : Blk w Bt 31 [.slice A ps.length c]) :
    Calls Try.prog 83 #[.func (.func 85) #[] #[.pointer (some ⟨Bt, 0, none⟩)]] w fun e W' => ∃ v, e = .returned v ∧ Kd.R k56 56 W' w.heap.size (fun _ => True) v ps ∧ Below w.heap.size w W' := by
  have hA := Lib.hid ((callsIn_wide (n := 6)).1 (AppendSeq_bk 6 (by omega) Bt A c ps hps w hC ht))
  clear hC ht hps
  go_enter Try.func83, Try.ntmps83
  go_wp2_with (go_at_call 100; refine hA.out.mono ?_; rintro e w1 ⟨v, rfl, hr, hb⟩; have HR := Lib.hid hr; have HB := Lib.hid hb; clear hr hb)
  go_ret
  exact ⟨v, rfl, HR.out, HB.out⟩
end

/-! ### cmp_isNaN_int: function 86 -/
def cmp_isNaN_int.f (a0 : Int) : Option (Bool) := some (a0 != a0)
set_option maxHeartbeats 8000000 in
set_option maxRecDepth 100000 in
theorem cmp_isNaN_int.calls (a0 : Int) (r : Bool) (w : World) (h : cmp_isNaN_int.f a0 = some r) :
    Calls Try.prog 86 #[.int .i64 a0] w fun e w' => e = .returned (.bool r) ∧ Drawn0 w w' := by
  have H : (some (a0 != a0)) = some r := h
  clear h
  obtain rfl := Option.some.inj H
  go_enter Try.func86, Try.ntmps86
  go_wp2
  go_ret
  exact ⟨by first | rfl | (simp; done) | (simp [*]; done), by repeat (first | exact Drawn0.refl _ | apply Drawn0.step)⟩

/-! ### cmp_Compare_int: function 67 -/
def cmp_Compare_int.f (a0 : Int) (a1 : Int) : Option (Int) := (cmp_isNaN_int.f a0).bind fun t103 => ((cmp_isNaN_int.f a1).bind fun t104 => (if t103 = true then (if t104 = true then (some 0) else (some (-1))) else (if t104 = true then (some 1) else (if a0 < a1 then (some (-1)) else (if a0 > a1 then (some 1) else (some 0))))))
set_option maxHeartbeats 8000000 in
set_option maxRecDepth 100000 in
theorem cmp_Compare_int.calls (a0 : Int) (a1 : Int) (r : Int) (w : World) (h : cmp_Compare_int.f a0 a1 = some r) :
    Calls Try.prog 67 #[.int .i64 a0, .int .i64 a1] w fun e w' => e = .returned (.int .i64 r) ∧ Drawn0 w w' := by
  have H : ((cmp_isNaN_int.f a0).bind fun t103 => ((cmp_isNaN_int.f a1).bind fun t104 => (if t103 = true then (if t104 = true then (some 0) else (some (-1))) else (if t104 = true then (some 1) else (if a0 < a1 then (some (-1)) else (if a0 > a1 then (some 1) else (some 0))))))) = some r := h
  clear h
  replace H := Option.bind_eq_some_iff.mp H
  obtain ⟨t103, A30, H⟩ := H
  replace H : ((cmp_isNaN_int.f a1).bind fun t104 => (if t103 = true then (if t104 = true then (some 0) else (some (-1))) else (if t104 = true then (some 1) else (if a0 < a1 then (some (-1)) else (if a0 > a1 then (some 1) else (some 0)))))) = some r := H
  have A3 := Aside0.mk A30
  clear A30
  replace H := Option.bind_eq_some_iff.mp H
  obtain ⟨t104, A40, H⟩ := H
  replace H : (if t103 = true then (if t104 = true then (some 0) else (some (-1))) else (if t104 = true then (some 1) else (if a0 < a1 then (some (-1)) else (if a0 > a1 then (some 1) else (some 0))))) = some r := H
  have A4 := Aside0.mk A40
  clear A40
  by_cases c5 : t103 = true
  · subst c5
    have H1 : (if t104 = true then (some 0) else (some (-1))) = some r := by first | (rw [if_pos rfl] at H; exact H) | (rw [if_pos trivial] at H; exact H)
    clear H
    have H := H1
    clear H1
    by_cases c6 : t104 = true
    · subst c6
      have H1 : (some 0) = some r := by first | (rw [if_pos rfl] at H; exact H) | (rw [if_pos trivial] at H; exact H)
      clear H
      have H := H1
      clear H1
      obtain rfl := Option.some.inj H
      go_enter Try.func67, Try.ntmps67
      go_wp2_with (first | ((with_reducible refine gate_callee (f := 86) rfl ?_); refine goesL_ (some 8) rfl rfl Try.func86 (by kernel_rfl) rfl #[.int .i64 a0] rfl (by (try simp only [List.map_toArray, List.map_cons, List.map_nil]); first | done | rfl | (simp only [List.length_drop, List.length_take]; rfl)) ?_; (with_reducible refine (cmp_isNaN_int.calls a0 true _ A3.out).mono ?_); (try clear A3); rintro e w' ⟨rfl, ⟨nd, rfl⟩⟩; refine ⟨_, rfl, ?_⟩) | ((with_reducible refine gate_callee (f := 86) rfl ?_); refine goesL_ (some 10) rfl rfl Try.func86 (by kernel_rfl) rfl #[.int .i64 a1] rfl (by (try simp only [List.map_toArray, List.map_cons, List.map_nil]); first | done | rfl | (simp only [List.length_drop, List.length_take]; rfl)) ?_; (with_reducible refine (cmp_isNaN_int.calls a1 true _ A4.out).mono ?_); (try clear A4); rintro e w' ⟨rfl, ⟨nd, rfl⟩⟩; refine ⟨_, rfl, ?_⟩))
      go_ret
      exact ⟨by first | rfl | (simp; done) | (simp [*]; done), by repeat (first | exact Drawn0.refl _ | apply Drawn0.step)⟩
    · replace c6 := Bool.eq_false_iff.mpr c6
      subst c6
      have H1 : (some (-1)) = some r := by rw [if_neg (show ¬ (false = true) by decide)] at H; exact H
      clear H
      have H := H1
      clear H1
      obtain rfl := Option.some.inj H
      go_enter Try.func67, Try.ntmps67
      go_wp2_with (first | ((with_reducible refine gate_callee (f := 86) rfl ?_); refine goesL_ (some 8) rfl rfl Try.func86 (by kernel_rfl) rfl #[.int .i64 a0] rfl (by (try simp only [List.map_toArray, List.map_cons, List.map_nil]); first | done | rfl | (simp only [List.length_drop, List.length_take]; rfl)) ?_; (with_reducible refine (cmp_isNaN_int.calls a0 true _ A3.out).mono ?_); (try clear A3); rintro e w' ⟨rfl, ⟨nd, rfl⟩⟩; refine ⟨_, rfl, ?_⟩) | ((with_reducible refine gate_callee (f := 86) rfl ?_); refine goesL_ (some 10) rfl rfl Try.func86 (by kernel_rfl) rfl #[.int .i64 a1] rfl (by (try simp only [List.map_toArray, List.map_cons, List.map_nil]); first | done | rfl | (simp only [List.length_drop, List.length_take]; rfl)) ?_; (with_reducible refine (cmp_isNaN_int.calls a1 false _ A4.out).mono ?_); (try clear A4); rintro e w' ⟨rfl, ⟨nd, rfl⟩⟩; refine ⟨_, rfl, ?_⟩))
      go_ret
      exact ⟨by first | rfl | (simp; done) | (simp [*]; done), by repeat (first | exact Drawn0.refl _ | apply Drawn0.step)⟩
  · replace c5 := Bool.eq_false_iff.mpr c5
    subst c5
    have H1 : (if t104 = true then (some 1) else (if a0 < a1 then (some (-1)) else (if a0 > a1 then (some 1) else (some 0)))) = some r := by rw [if_neg (show ¬ (false = true) by decide)] at H; exact H
    clear H
    have H := H1
    clear H1
    by_cases c7 : t104 = true
    · subst c7
      have H1 : (some 1) = some r := by first | (rw [if_pos rfl] at H; exact H) | (rw [if_pos trivial] at H; exact H)
      clear H
      have H := H1
      clear H1
      obtain rfl := Option.some.inj H
      go_enter Try.func67, Try.ntmps67
      go_wp2_with (first | ((with_reducible refine gate_callee (f := 86) rfl ?_); refine goesL_ (some 8) rfl rfl Try.func86 (by kernel_rfl) rfl #[.int .i64 a0] rfl (by (try simp only [List.map_toArray, List.map_cons, List.map_nil]); first | done | rfl | (simp only [List.length_drop, List.length_take]; rfl)) ?_; (with_reducible refine (cmp_isNaN_int.calls a0 false _ A3.out).mono ?_); (try clear A3); rintro e w' ⟨rfl, ⟨nd, rfl⟩⟩; refine ⟨_, rfl, ?_⟩) | ((with_reducible refine gate_callee (f := 86) rfl ?_); refine goesL_ (some 10) rfl rfl Try.func86 (by kernel_rfl) rfl #[.int .i64 a1] rfl (by (try simp only [List.map_toArray, List.map_cons, List.map_nil]); first | done | rfl | (simp only [List.length_drop, List.length_take]; rfl)) ?_; (with_reducible refine (cmp_isNaN_int.calls a1 true _ A4.out).mono ?_); (try clear A4); rintro e w' ⟨rfl, ⟨nd, rfl⟩⟩; refine ⟨_, rfl, ?_⟩))
      go_ret
      exact ⟨by first | rfl | (simp; done) | (simp [*]; done), by repeat (first | exact Drawn0.refl _ | apply Drawn0.step)⟩
    · replace c7 := Bool.eq_false_iff.mpr c7
      subst c7
      have H1 : (if a0 < a1 then (some (-1)) else (if a0 > a1 then (some 1) else (some 0))) = some r := by rw [if_neg (show ¬ (false = true) by decide)] at H; exact H
      clear H
      have H := H1
      clear H1
      by_cases c8 : a0 < a1
      · rw [if_pos c8] at H
        have c8b0 : decide (a0 < a1) = true := decide_eq_true c8
        clear c8
        obtain rfl := Option.some.inj H
        go_enter Try.func67, Try.ntmps67
        go_wp2_with (first | ((with_reducible refine gate_callee (f := 86) rfl ?_); refine goesL_ (some 8) rfl rfl Try.func86 (by kernel_rfl) rfl #[.int .i64 a0] rfl (by (try simp only [List.map_toArray, List.map_cons, List.map_nil]); first | done | rfl | (simp only [List.length_drop, List.length_take]; rfl)) ?_; (with_reducible refine (cmp_isNaN_int.calls a0 false _ A3.out).mono ?_); (try clear A3); rintro e w' ⟨rfl, ⟨nd, rfl⟩⟩; refine ⟨_, rfl, ?_⟩) | ((with_reducible refine gate_callee (f := 86) rfl ?_); refine goesL_ (some 10) rfl rfl Try.func86 (by kernel_rfl) rfl #[.int .i64 a1] rfl (by (try simp only [List.map_toArray, List.map_cons, List.map_nil]); first | done | rfl | (simp only [List.length_drop, List.length_take]; rfl)) ?_; (with_reducible refine (cmp_isNaN_int.calls a1 false _ A4.out).mono ?_); (try clear A4); rintro e w' ⟨rfl, ⟨nd, rfl⟩⟩; refine ⟨_, rfl, ?_⟩))
        go_ret
        exact ⟨by first | rfl | (simp; done) | (simp [*]; done), by repeat (first | exact Drawn0.refl _ | apply Drawn0.step)⟩
      · rw [if_neg c8] at H
        have c8b0 : decide (a0 < a1) = false := decide_eq_false c8
        clear c8
        by_cases c9 : a0 > a1
        · rw [if_pos c9] at H
          have c9b0 : decide (a1 < a0) = true := decide_eq_true c9
          clear c9
          obtain rfl := Option.some.inj H
          go_enter Try.func67, Try.ntmps67
          go_wp2_with (first | ((with_reducible refine gate_callee (f := 86) rfl ?_); refine goesL_ (some 8) rfl rfl Try.func86 (by kernel_rfl) rfl #[.int .i64 a0] rfl (by (try simp only [List.map_toArray, List.map_cons, List.map_nil]); first | done | rfl | (simp only [List.length_drop, List.length_take]; rfl)) ?_; (with_reducible refine (cmp_isNaN_int.calls a0 false _ A3.out).mono ?_); (try clear A3); rintro e w' ⟨rfl, ⟨nd, rfl⟩⟩; refine ⟨_, rfl, ?_⟩) | ((with_reducible refine gate_callee (f := 86) rfl ?_); refine goesL_ (some 10) rfl rfl Try.func86 (by kernel_rfl) rfl #[.int .i64 a1] rfl (by (try simp only [List.map_toArray, List.map_cons, List.map_nil]); first | done | rfl | (simp only [List.length_drop, List.length_take]; rfl)) ?_; (with_reducible refine (cmp_isNaN_int.calls a1 false _ A4.out).mono ?_); (try clear A4); rintro e w' ⟨rfl, ⟨nd, rfl⟩⟩; refine ⟨_, rfl, ?_⟩))
          go_ret
          exact ⟨by first | rfl | (simp; done) | (simp [*]; done), by repeat (first | exact Drawn0.refl _ | apply Drawn0.step)⟩
        · rw [if_neg c9] at H
          have c9b0 : decide (a1 < a0) = false := decide_eq_false c9
          clear c9
          obtain rfl := Option.some.inj H
          go_enter Try.func67, Try.ntmps67
          go_wp2_with (first | ((with_reducible refine gate_callee (f := 86) rfl ?_); refine goesL_ (some 8) rfl rfl Try.func86 (by kernel_rfl) rfl #[.int .i64 a0] rfl (by (try simp only [List.map_toArray, List.map_cons, List.map_nil]); first | done | rfl | (simp only [List.length_drop, List.length_take]; rfl)) ?_; (with_reducible refine (cmp_isNaN_int.calls a0 false _ A3.out).mono ?_); (try clear A3); rintro e w' ⟨rfl, ⟨nd, rfl⟩⟩; refine ⟨_, rfl, ?_⟩) | ((with_reducible refine gate_callee (f := 86) rfl ?_); refine goesL_ (some 10) rfl rfl Try.func86 (by kernel_rfl) rfl #[.int .i64 a1] rfl (by (try simp only [List.map_toArray, List.map_cons, List.map_nil]); first | done | rfl | (simp only [List.length_drop, List.length_take]; rfl)) ?_; (with_reducible refine (cmp_isNaN_int.calls a1 false _ A4.out).mono ?_); (try clear A4); rintro e w' ⟨rfl, ⟨nd, rfl⟩⟩; refine ⟨_, rfl, ?_⟩))
          go_ret
          exact ⟨by first | rfl | (simp; done) | (simp [*]; done), by repeat (first | exact Drawn0.refl _ | apply Drawn0.step)⟩

-- NOT PRINTED: function 66 (pool_Sorted_1)

/-! ### pool_Sorted: function 34 -/
section
open Go.Sort (grow grow_empty grow_grow alloc_eq_grow)
open Go.Shelf Go.Proofs.Ytklngklmeanhcaa.Hand
def cmpB (x y : S56) : Int := if x.f0 < y.f0 then -1 else if y.f0 < x.f0 then 1 else 0
theorem cmpB_eq (x y : S56) : cmp_Compare_int.f x.f0 y.f0 = some (cmpB x y) := by
  unfold cmp_Compare_int.f cmp_isNaN_int.f cmpB
  by_cases h1 : x.f0 < y.f0
  · simp [h1]
  · by_cases h2 : y.f0 < x.f0 <;> simp [h1, h2]
theorem encBk_len (x : S56) : (encBk x).length = 2 := rfl
theorem encBk_one (x : S56) : ∀ v ∈ encBk x, v.oneCell' = true := fun v hv => by simp [encBk] at hv; rcases hv with rfl | rfl <;> rfl
instance inhBk : Inhabited S56 := ⟨z56⟩
theorem sorted1_any (x y : S56) (W : World) : Calls Try.prog 66 #[.agg #[.int .i64 x.f0, .int .i64 x.f1], .agg #[.int .i64 y.f0, .int .i64 y.f1]] W fun e w' => e = .returned (.int .i64 (cmpB x y)) ∧ ∃ q os', w' = grow (W.drewN q) os' := by
  have hA := fun w => cmp_Compare_int.calls x.f0 y.f0 _ w (cmpB_eq x y)
  generalize cmpB x y = p at hA ⊢
  have HA := Lib.hid hA
  clear hA
  go_enter Try.func66, Try.ntmps66
  go_wp2_with (go_at_call 67; refine (HA.out _).mono ?_; rintro e w1 ⟨rfl, n1, rfl⟩)
  go_ret
  refine ⟨rfl, n1, #[.cells #[.int .i64 x.f0, .int .i64 x.f1] 56, .cells #[.int .i64 y.f0, .int .i64 y.f1] 56], ?_⟩
  rw [alloc_eq_grow, alloc_eq_grow, grow_grow]
  rfl
theorem cmpB_neg (x y : S56) : cmpB x y < 0 ↔ x.f0 < y.f0 := by
  unfold cmpB; split <;> (repeat' split) <;> omega
theorem ltB (x y : S56) : ltOf cmpB x y = decide (x.f0 < y.f0) := by
  unfold ltOf; exact decide_eq_decide.2 (cmpB_neg x y)
theorem swoB : Go.Sort.SWO (ltOf cmpB) where
  irrefl x := by rw [ltB]; simp
  trans x y z h1 h2 := by rw [ltB] at *; simp at *; omega
  ntrans x y z h1 h2 := by rw [ltB] at *; simp at *; omega
def keyB (x : S56) : Int := x.f0
theorem ltB_iff (x y : S56) : ltOf cmpB x y = true ↔ keyB x < keyB y := by rw [ltB]; exact decide_eq_true_iff
/-- A pool in order, equals left in their order. -/
def sortedL (l : List S56) : List S56 := stbL keyB l
theorem sortedL_stb (l : List S56) : Stb keyB (sortedL l) l := stbL_stb l
theorem sortedL_len (l : List S56) : (sortedL l).length = l.length := (sortedL_stb l).len
set_option maxRecDepth 100000 in
set_option maxHeartbeats 4000000 in
theorem stable_small (n cap : Nat) (p : Option Addr) (hn : n < 20) (W : World) (R : World → Prop) (hI : Calls Try.prog 122 #[.slice p n cap, .int .i64 0, .int .i64 (n : Int), .func (.func 66) #[] #[]] W fun e w' => e = .returned (.tuple #[]) ∧ R w') :
    Calls Try.prog 101 #[.slice p n cap, .int .i64 (n : Int), .func (.func 66) #[] #[]] W fun e w' => e = .returned (.tuple #[]) ∧ R w' := by
  have q1 : decide ((20 : Int) ≤ (n : Int)) = false := decide_eq_false (by omega)
  have q2 : decide ((20 : Int) < (n : Int)) = false := decide_eq_false (by omega)
  have HI := Lib.hid hI
  clear hI hn
  go_enter Try.func101, Try.ntmps101
  go_wp2
  refine wp_loop_rounds 1 ?_
  rw [rounds_succ]
  go_wp2_with (go_at_call 122; refine HI.out.mono ?_; rintro e w1 ⟨rfl, hr⟩; have HR := Lib.hid hr; clear hr)
  refine wp_loop_rounds 1 ?_
  rw [rounds_succ]
  go_wp2
  go_end0
  exact ⟨rfl, HR.out⟩
theorem ins_tells (cap g : Nat) (W : World) (d0 : Array S56) (R : RowK encBk 2 W g 0 d0) (hsz : d0.size ≤ 1000000000) : InsTells Try.prog cap encBk 2 66 #[] g 0 W d0.size keyB := by
  intro az bz a b d w P1 X1 Q1 haz hbz hd S hl ha hb
  subst haz; subst hbz
  have eg : ∀ args w, (callFunc 66 args).run Try.prog w = .ok (.enter 66 args) w := enters_of Try.func66 (by kernel_rfl) rfl
  have hlen : P1.length + (X1.length + Q1.length) = d0.size := by rw [← hd, ← Array.length_toList (xs := d), hl, List.length_append, List.length_append]
  have hcon := AnyQ.insertionSortCmpFunc_w Try.insBk 2 Try.isAgg56 Try.sizeOf56 encBk cmpB 66 #[] g 0 cap a b d0 d W w eg (fun _ _ _ _ x y => sorted1_any x y _) R hd.symm S swoB (by omega) (by omega) (by omega)
  change Calls Try.prog 122 _ _ _ at hcon
  rw [hd] at hcon
  refine hcon.mono ?_
  rintro e w' ⟨rfl, hw⟩
  obtain ⟨Y, hY, hl2⟩ := insertion_stb swoB ltB_iff d P1 X1 Q1 hl
  rw [ha, hb] at hl2
  exact ⟨rfl, _, Y, hl2, hY, hw⟩
theorem stable_bk (v : Value) (xs : List S56) (hl : xs.length ≤ 1000000) (n₀ : Nat) (W : World) (hn : n₀ ≤ W.heap.size) (hR : Kd.R k56 56 W n₀ (fun _ => True) v xs) :
    Calls Try.prog 101 #[v, .int .i64 (xs.length : Int), .func (.func 66) #[] #[]] W fun e w' => e = .returned (.tuple #[]) ∧ (Kd.R k56 56 w' n₀ (fun _ => True) v (sortedL xs) ∧ Below n₀ W w') := by
  cases hx : xs with
  | nil =>
    subst hx
    obtain ⟨A, c, rfl⟩ := Kd.R_slice hR
    have hcon := AnyF.insertionSortCmpFunc_none Try.insBk A c (.func (.func 66) #[] #[]) W
    change Calls Try.prog 122 _ _ _ at hcon
    refine stable_small 0 c A (by decide) W _ (hcon.mono ?_)
    rintro e w' ⟨rfl, rfl⟩
    exact ⟨rfl, hR, Below.refl _ _⟩
  | cons x0 l0 =>
    have hpos : 0 < xs.length := by rw [hx]; simp
    rw [← hx]
    obtain ⟨g, cap, rfl, hg1, hg2, _⟩ := Kd.R_form hR hpos
    obtain ⟨ho', _, _⟩ := own_bk hR
    obtain ⟨hH, _⟩ := holdsK_own encBk_len ho'
    have eg : ∀ args w, (callFunc 66 args).run Try.prog w = .ok (.enter 66 args) w := enters_of Try.func66 (by kernel_rfl) rfl
    have eIns : ∀ args w, (callFunc 122 args).run Try.prog w = .ok (.enter 122 args) w := enters_of Try.func122 (by kernel_rfl) rfl
    have R : RowK encBk 2 W g 0 xs.toArray := ⟨encBk_len, encBk_one, hH, hg2⟩
    refine (stable_w stbLays encBk cmpB 66 #[] g 0 cap ltB_iff eg xs.toArray W (fun _ _ _ _ x y => sorted1_any x y _) R xs.length rfl (by omega) (ins_tells cap g W xs.toArray R (by simp; omega)) eIns W (SWK.start hH)).mono ?_
    rintro e w' ⟨rfl, d', hst, n, os, rfl⟩
    have he : (sortedL xs).toArray = d' := by
      have h : d'.toList = sortedL xs := Stb.unique hst (sortedL_stb xs)
      rw [← h]
    have h2 := own_sorted encBk_len ho' (sortedL_len xs) n os
    rw [sortedL_len, he] at h2
    exact ⟨rfl, R_bk (by rw [sortedL_len]; exact h2), sorted_below _ _ _ _ _ _ _ _ hg1 hn⟩
set_option maxHeartbeats 1000000 in
theorem SortStable_bk (v : Value) (xs : List S56) (hl : xs.length ≤ 1000000) (n₀ : Nat) (W : World) (hn : n₀ ≤ W.heap.size) (hR : Kd.R k56 56 W n₀ (fun _ => True) v xs) :
    Calls Try.prog 84 #[v, .func (.func 66) #[] #[]] W fun e w' => e = .returned (.tuple #[]) ∧ (Kd.R k56 56 w' n₀ (fun _ => True) v (sortedL xs) ∧ Below n₀ W w') := by
  obtain ⟨A, c, rfl⟩ := Kd.R_slice hR
  have HI := Lib.hid (stable_bk _ xs hl n₀ W hn hR)
  clear hR hl hn
  go_enter Try.func84, Try.ntmps84
  go_wp2_with (go_at_call 101; refine HI.out.mono ?_; rintro e w1 ⟨rfl, hr⟩; have HR := Lib.hid hr; clear hr)
  go_end0
  exact ⟨rfl, HR.out⟩
set_option maxHeartbeats 1000000 in
theorem SortedStable_bk (Bt : Nat) (A : Option Addr) (c : Nat) (ps : List S56) (hps : ps.length ≤ 1000000) (w : World) (hC : Kd.C k56 w A ps.length ps) (ht : Blk w Bt 31 [.slice A ps.length c]) :
    Calls Try.prog 64 #[.func (.func 85) #[] #[.pointer (some ⟨Bt, 0, none⟩)], .func (.func 66) #[] #[]] w fun e W' => ∃ v, e = .returned v ∧ Kd.R k56 56 W' w.heap.size (fun _ => True) v (sortedL ps) ∧ Below w.heap.size w W' := by
  have hA := Lib.hid (Collect_bk Bt A c ps (by omega) w hC ht)
  have HL := Lib.hid hps
  clear hC ht hps
  go_enter Try.func64, Try.ntmps64
  go_wp2_with (first
    | (go_at_call 83; refine hA.out.mono ?_; rintro e w1 ⟨v, rfl, hr, hb⟩; have HR := Lib.hid hr; have HB := Lib.hid hb; clear hr hb)
    | (go_at_call 84; refine (SortStable_bk v ps HL.out w.heap.size _ HB.out.size HR.out).mono ?_; rintro e w2 ⟨rfl, hr, hb⟩; have HR2 := Lib.hid hr; have HB2 := Lib.hid hb; clear hr hb))
  go_ret
  exact ⟨v, rfl, HR2.out, HB.out.trans HB2.out⟩
set_option maxHeartbeats 1000000 in
theorem Sorted_any (A : Option Addr) (c : Nat) (l : List S56) (hl : l.length ≤ 1000000) (w : World) (hC : Kd.C k56 w A l.length l) :
    Calls Try.prog 34 #[.slice A l.length c] w fun e w' => ∃ v : Value, e = .returned v ∧ Kd.R k56 56 w' w.heap.size (fun _ => True) v (sortedL l) ∧ Below w.heap.size w w' := by
  have HS := Lib.hid (SortedStable_bk w.heap.size A c l hl (w.alloc (.cells #[.slice A l.length c] 31)) (Kd.C_alloc hC _) (Blk.new w 31 [.slice A l.length c]))
  have HB0 := Lib.hid (below_alloc (Below.refl w.heap.size w) (.cells #[.slice A l.length c] 31))
  clear hC hl
  go_enter Try.func34, Try.ntmps34
  go_wp2_with (first
    | (go_at_call 65; refine (values_any _ _ _ _).mono ?_; rintro e w1 ⟨rfl, rfl⟩)
    | (go_at_call 64; refine HS.out.mono ?_; rintro e w2 ⟨v, rfl, hr, hb⟩; have HR := Lib.hid (Kd.R_lower hr HB0.out.size); have HB := Lib.hid (HB0.out.trans (hb.mono HB0.out.size)); clear hr hb))
  go_ret
  exact ⟨v, rfl, HR.out, HB.out⟩
def pool_Sorted.f (l0 : List S56) : Option (List S56) := if l0.length ≤ 1000000 then some (sortedL l0) else none
theorem pool_Sorted.calls (A0 : Option Addr) (c0 : Nat) (l0 : List S56) (r : List S56) (w : World) (hr0 : Kd.C k56 w A0 l0.length l0) (hc0 : l0.length ≤ c0) (h : pool_Sorted.f l0 = some r) :
    Calls Try.prog 34 #[.slice A0 l0.length c0] w fun e w' => ∃ v0_ : Value, e = .returned v0_ ∧ Kd.R k56 56 w' w.heap.size (fun _ => True) v0_ r ∧ Below w.heap.size w w' := by
  unfold pool_Sorted.f at h
  by_cases hl : l0.length ≤ 1000000
  · rw [if_pos hl] at h
    obtain rfl := Option.some.inj h
    exact Sorted_any A0 c0 l0 hl w hr0
  · rw [if_neg hl] at h
    exact absurd h (by simp)
end

/-! ### api_Backend_60: function 60 -/
section
open Go.Shelf Go.Proofs.Ytklngklmeanhcaa.Hand
theorem infoBk_ : (Try.prog.info? 56).map (fun i => (i.zero, i.size, i.bytes)) = some (some (.agg #[(.int .i64 0), (.int .i64 0)]), 2, 16) := by kernel_rfl
def api_Backend_60.f (l0 : List S56) : Option (List S56) := if l0.length ≤ 8796093021952 then some l0 else none

set_option maxRecDepth 100000 in
set_option maxHeartbeats 4000000 in
theorem cloneBk_any (A : Option Addr) (c : Nat) (l : List S56) (hl : l.length ≤ 8796093021952) (w : World) (hC : Kd.C k56 w A l.length l) :
    Calls Try.prog 60 #[.slice A l.length c] w fun e w' => ∃ v : Value, e = .returned v ∧ Kd.R k56 56 w' w.heap.size (fun _ => True) v l ∧ Below w.heap.size w w' := by
  have he := fun (w : World) => Lib.run_eql_slice_nil (P := Try.prog) w 31 56 A l.length c 0 0 Try.underlying31
  cases A with
  | none =>
    have hn : l = [] := by
      cases l with
      | nil => rfl
      | cons x l => obtain ⟨ad, e, _⟩ := hC.2.2 (by simp); cases e
    subst hn
    clear he
    have he : ∀ w : World, (binOp .eql 31 (.slice none 0 c) (.slice none 0 0)).run Try.prog w = .ok (.bool true) w := fun w => Lib.run_eql_slice_nil (P := Try.prog) w 31 56 none 0 c 0 0 Try.underlying31
    go_enter Try.func60, Try.ntmps60
    go_wp2
    go_ret
    exact ⟨_, rfl, Kd.R_nil _ _ _ _ _, Below.refl _ _⟩
  | some a =>
    obtain ⟨z, hz⟩ : ∃ z, ([] : List S56) = z := ⟨_, rfl⟩
    have HZ := Lib.hid hz
    clear hz
    have HC := Lib.hid hC
    clear hC
    have HB := Aside0.mk (Below.refl w.heap.size w)
    go_enter Try.func60, Try.ntmps60
    go_wp2_with (first | ((with_reducible refine gate_dst (N := 5) rfl ?_); refine Kd.R_lit k56 _ 56 ?hg (N := 5) ?hd (xs := ([] : List S56)) (inner := []) (ok := fun _ => True) (okp := fun _ => True) ?hr ?hp (fun _ hk => hk) trivial (Below.refl _ _) (Nat.le_refl _) (by simp) ?_; (case hd => rfl); (case hg => rfl); (case hr => first | (go_simp; done) | (go_simp; rfl)); (case hp => exact (Reps.none _ _)); intro v160 w31 ho32 hb hg_ hnew_; clear hg_ hnew_; rw [HZ.out] at ho32; have HB1 := Aside0.mk hb; have HO1 := Aside0.mk ho32; clear hb ho32) | ((with_reducible refine gate_builtin (b := .append) (xs := #[.tmp 5, .tmp 6]) rfl ?_); at_builtin; refine Kd.R_append_rows k56 (w0 := w) w.heap.size rfl (.tmp 5) (.tmp 6) 31 56 (.agg #[(.int .i64 0), (.int .i64 0)]) 16 rfl Try.underlying31 infoBk_ rfl (by decide) (by omega) v160 z l _ _ _ (fun _ => True) (fun _ => False) rfl rfl ?aO ?aR (fun _ _ h => h) (fun _ h => h.elim) ?aF ?aB ?aS ?aL ?_; (case aR => exact Kd.C_below HC.out HB1.out); (case aB => exact HB1.out); (case aF => exact (fun _ _ => trivial)); (case aO => exact HO1.out); (case aS => exact HB1.out.size); (case aL => rw [← HZ.out]; simp; omega); intro v163 w33 ho hb hg hat; rw [← HZ.out, List.nil_append] at ho; have HB2 := Aside0.mk hb; have HO2 := Aside0.mk ho; clear ho hb hg hat))
    go_ret
    exact ⟨_, rfl, HO2.out, HB2.out⟩

theorem cloneBk_f (l0 : List S56) (h : l0.length ≤ 8796093021952) : api_Backend_60.f l0 = some l0 := if_pos h
theorem api_Backend_60.calls (A0 : Option Addr) (c0 : Nat) (l0 : List S56) (r : List S56) (w : World) (hr0 : Kd.C k56 w A0 l0.length l0) (hc0 : l0.length ≤ c0) (h : api_Backend_60.f l0 = some r) :
    Calls Try.prog 60 #[.slice A0 l0.length c0] w fun e w' => ∃ v0_ : Value, e = .returned (v0_) ∧ Kd.R k56 56 w' w.heap.size (fun _ => True) v0_ r ∧ Below w.heap.size w w' := by
  unfold api_Backend_60.f at h
  by_cases hl : l0.length ≤ 8796093021952
  · rw [if_pos hl] at h
    obtain rfl := Option.some.inj h
    exact cloneBk_any A0 c0 l0 hl w hr0
  · rw [if_neg hl] at h
    exact absurd h (by simp)
end

/-! ### pool_With: function 36 -/
section
open Go.Shelf Go.Proofs.Ytklngklmeanhcaa.Hand
/-- A pool with a backend. -/
def withL (l : List S56) (a b : Int) : List S56 := if findL l a < 0 then l ++ [⟨a, b⟩] else l.set (findL l a).toNat ⟨a, b⟩
theorem infoBk3 : (Try.prog.info? 56).map (fun i => (i.zero, i.size, i.bytes)) = some (some (.agg #[.int .i64 0, .int .i64 0]), 2, 16) := by kernel_rfl
theorem gate_store2 {P : Program} {ops : Array Oper} {Q : Exit → Act → World → Prop} {o : Oper} {rest : List Oper} {a : Act} {W : World} {t : TypeId} {p x : Operand} (_ho : o.op = .store t p x) (h : wpList P ops Q (o :: rest) a W) : wpList P ops Q (o :: rest) a W := h
theorem with_nums (n i : Nat) (hl : n ≤ 8796093021952) (h : i < n) : decide ((0 : Int) ≤ (i : Int)) = true ∧ (0 : Int) ≤ (i : Int) ∧ (i : Int) < (n : Int) := ⟨decide_eq_true (by omega), by omega, by omega⟩
theorem below_alloc2 {n₀ : Nat} {W w : World} (hn : n₀ ≤ W.heap.size) (h : Below n₀ W w) (o : Obj) : Below n₀ W (w.alloc o) := h.trans ((Below.refl n₀ w).alloc (Nat.le_trans hn h.size) o)
set_option maxRecDepth 100000 in
set_option maxHeartbeats 4000000 in
theorem With_any (A : Option Addr) (c : Nat) (l : List S56) (hl : l.length ≤ 8796093021952) (a b : Int) (w : World) (hC : Kd.C k56 w A l.length l) :
    Calls Try.prog 36 #[.slice A l.length c, .agg #[.int .i64 a, .int .i64 b]] w fun e w' => ∃ v : Value, e = .returned v ∧ Kd.R k56 56 w' w.heap.size (fun _ => True) v (withL l a b) ∧ Below w.heap.size w w' := by
  have hb0 := below_alloc (Below.refl w.heap.size w) (.cells #[.int .i64 a, .int .i64 b] 56)
  have hx0 := Blk.new w 56 [.int .i64 a, .int .i64 b]
  have hC0 := Kd.C_below hC hb0
  obtain ⟨g0, hg0⟩ : ∃ g0, w.heap.size = g0 := ⟨_, rfl⟩
  obtain ⟨W0, hW0⟩ : ∃ W0, (w.alloc (.cells #[.int .i64 a, .int .i64 b] 56)) = W0 := ⟨_, rfl⟩
  have hbz : w.heap.size < W0.heap.size := by rw [← hW0]; simp
  rw [hW0] at hb0 hx0 hC0
  have HC0 := Lib.hid hC0
  have HB0 := Lib.hid hb0
  have HX0 := Lib.hid hx0
  have HL := Lib.hid hl
  have HBZ := Lib.hid hbz
  rcases findL_cases l a with ⟨hf, hf2⟩ | ⟨i, hi, hf, hf2, hf3⟩
  · have hv : withL l a b = l ++ [⟨a, b⟩] := by unfold withL; rw [hf, if_pos (by decide)]
    rw [hv]
    have HF := Lib.hid hf
    clear hf2
    clear hC hC0 hb0 hx0 hl hf hv hbz hg0
    go_enter Try.func36, Try.ntmps36
    go_upto_region 1 with (fail)
    clear hW0
    go_wp2_with (first
      | (go_at_call 60; refine (cloneBk_any A c l HL.out _ HC0.out).mono ?_; rintro e w1 ⟨v, rfl, hr, hb⟩; obtain ⟨A2, c2, rfl⟩ := Kd.R_slice hr; have HR := Lib.hid hr; have HB := Lib.hid hb; clear hr hb; have y0 : w1.cell? ⟨w.heap.size, 0, none⟩ = some (.int .i64 a) := (HX0.out.below HB.out).cell 0; have y1 : w1.cell? ⟨w.heap.size, 1, none⟩ = some (.int .i64 b) := (HX0.out.below HB.out).cell 1)
      | (go_at_call 29; refine (Find_any _ _ l HL.out a _ (Kd.R_reads' HR.out).2.2).mono ?_; rintro e w2 ⟨rfl, hb⟩; rw [HF.out]; have HR2 := Lib.hid (Kd.R_lower (Kd.R_below HR.out hb) (Nat.le_of_lt HBZ.out)); have HB2 := Lib.hid (HB0.out.trans ((HB.out.trans (hb.mono HB.out.size)).mono HB0.out.size)); have HX2 := Lib.hid ((HX0.out.below HB.out).below hb); clear hb; have z0 : w2.cell? ⟨w.heap.size, 0, none⟩ = some (.int .i64 a) := HX2.out.cell 0; have z1 : w2.cell? ⟨w.heap.size, 1, none⟩ = some (.int .i64 b) := HX2.out.cell 1)
      | (at_builtin; refine Kd.R_append k56 (w0 := w) w.heap.size rfl (.tmp 20) (.tmp 22) 31 56 (.agg #[(.int .i64 0), (.int .i64 0)]) 16 rfl Try.underlying31 infoBk3 rfl (by decide) (by omega) _ _ (⟨a, b⟩ : S56) [.int .i64 a, .int .i64 b] (fun _ => True) (fun _ => False) rfl rfl (k56_mkM _ _ _ _) (fun _ hk => hk.elim) (fun _ _ => trivial) HR2.out HB2.out HB2.out.size (by have := HL.out; omega) ?_; intro v2 w3 ho hb hg hat; have HV2 := Lib.hid ho; have HB3 := Lib.hid hb; clear ho hb hg hat))
    go_ret
    exact ⟨_, rfl, HV2.out, HB3.out⟩
  · have hv : withL l a b = l.set i ⟨a, b⟩ := by unfold withL; rw [hf, if_neg (by omega), Int.toNat_natCast]
    rw [hv]
    have HF := Lib.hid hf
    have HI := Lib.hid hi
    clear hf2 hf3
    obtain ⟨q0, q5, q6⟩ := with_nums l.length i hl hi
    clear hC hC0 hb0 hx0 hl hf hv hbz hg0 hi
    go_enter Try.func36, Try.ntmps36
    go_upto_region 1 with (fail)
    clear hW0
    go_upto_region 4 with (first
      | (go_at_call 60; refine (cloneBk_any A c l HL.out _ HC0.out).mono ?_; rintro e w1 ⟨v, rfl, hr, hb⟩; obtain ⟨g, cap, rfl, _, _, _⟩ := Kd.R_form hr (Nat.lt_of_le_of_lt (Nat.zero_le _) HI.out); have HR := Lib.hid hr; have HB := Lib.hid hb; clear hr hb; have y0 : w1.cell? ⟨w.heap.size, 0, none⟩ = some (.int .i64 a) := (HX0.out.below HB.out).cell 0; have y1 : w1.cell? ⟨w.heap.size, 1, none⟩ = some (.int .i64 b) := (HX0.out.below HB.out).cell 1)
      | (go_at_call 29; refine (Find_any _ _ l HL.out a _ (Kd.R_reads' HR.out).2.2).mono ?_; rintro e w2 ⟨rfl, hb⟩; rw [HF.out]; have HR2 := Lib.hid (Kd.R_lower (Kd.R_below HR.out hb) (Nat.le_of_lt HBZ.out)); have HB2 := Lib.hid (HB0.out.trans ((HB.out.trans (hb.mono HB.out.size)).mono HB0.out.size)); have HX2 := Lib.hid ((HX0.out.below HB.out).below hb); clear hb; have z0 : w2.cell? ⟨w.heap.size, 0, none⟩ = some (.int .i64 a) := HX2.out.cell 0; have z1 : w2.cell? ⟨w.heap.size, 1, none⟩ = some (.int .i64 b) := HX2.out.cell 1))
    clear y0 y1
    obtain ⟨ad2, hA2, d0, d1⟩ := at_T56 (Kd.R_reads' HR2.out).2.2 (i : Int) (by omega) (by omega)
    cases hA2
    rw [Int.toNat_natCast, add_plain] at d0 d1
    obtain ⟨x0, hx0⟩ : ∃ x0, (rd_T56 l (i : Int)).f0 = x0 := ⟨_, rfl⟩
    obtain ⟨x1, hx1⟩ : ∃ x1, (rd_T56 l (i : Int)).f1 = x1 := ⟨_, rfl⟩
    rw [hx0] at d0
    rw [hx1] at d1
    clear hx0 hx1
    have D0 := Lib.hid d0
    have D1 := Lib.hid d1
    clear d0 d1
    have hij : (i : Int).toNat = i := Int.toNat_natCast i
    have HIJ := Lib.hid hij
    clear hij
    go_wp2_with ((with_reducible refine gate_store2 (t := 56) rfl ?_); refine Kd.R_store k56 (w0 := w) w.heap.size rfl rfl 56 _ _ rfl 56 (i : Int) 0 l (⟨a, b⟩ : S56) _ [.int .i64 a, .int .i64 b] [.int .i64 x0, .int .i64 x1] (fun _ => True) (fun _ => False) rfl ?sO rfl rfl (by kernel_rfl) ?sI HR2.out q5 q6 rfl ?sC (Nat.le_refl 2) (k56_mkM _ _ _ _) (fun _ h => h.elim) HB2.out ?_; (case sO => rw [HIJ.out]; rfl); (case sI => intro q hq; simp at hq; rcases hq with rfl | rfl <;> rfl); (case sC => intro jj uu hu; match jj, hu with | 0, hu => (simp at hu; rw [← hu, HIJ.out]; exact D0.out) | 1, hu => (simp at hu; rw [← hu, HIJ.out]; exact D1.out) | jj + 2, hu => simp at hu); intro w5 hr5 hb5 hg5; rw [HIJ.out] at hr5; have HR5 := Lib.hid hr5; have HB5 := Lib.hid hb5; clear hr5 hb5 hg5)
    go_ret
    exact ⟨_, rfl, HR5.out, HB5.out⟩
def pool_With.f (l0 : List S56) (a1_0 : Int) (a1_1 : Int) : Option (List S56) := if l0.length ≤ 8796093021952 then some (withL l0 a1_0 a1_1) else none
theorem pool_With.calls (A0 : Option Addr) (c0 : Nat) (l0 : List S56) (a1_0 : Int) (a1_1 : Int) (r : List S56) (w : World) (hr0 : Kd.C k56 w A0 l0.length l0) (hc0 : l0.length ≤ c0) (h : pool_With.f l0 a1_0 a1_1 = some r) :
    Calls Try.prog 36 #[.slice A0 l0.length c0, .agg #[.int .i64 a1_0, .int .i64 a1_1]] w fun e w' => ∃ v0_ : Value, e = .returned v0_ ∧ Kd.R k56 56 w' w.heap.size (fun _ => True) v0_ r ∧ Below w.heap.size w w' := by
  unfold pool_With.f at h
  by_cases hl : l0.length ≤ 8796093021952
  · rw [if_pos hl] at h
    obtain rfl := Option.some.inj h
    exact With_any A0 c0 l0 hl a1_0 a1_1 w hr0
  · rw [if_neg hl] at h
    exact absurd h (by simp)
end

/-! ### api_Backend_69: function 69 -/
section
open Go.Shelf Go.Proofs.Ytklngklmeanhcaa.Hand
/-- All others of a pool. -/
def keptL (id : Int) (l : List S56) : List S56 := l.filter fun b => !(b.f0 == id)
structure DelInv (id : Int) (l : List S56) (j i : Nat) (xs : List S56) : Prop where
  lt : i < j
  len : xs.length = l.length
  low : xs.take i = keptL id (l.take j)
  high : xs.drop j = l.drop j
theorem keptL_take (id : Int) (l : List S56) (j : Nat) (h : j < l.length) : keptL id (l.take (j + 1)) = keptL id (l.take j) ++ (if (l[j].f0 == id) = true then [] else [l[j]]) := by
  unfold keptL
  rw [List.take_succ_eq_append_getElem h, List.filter_append]
  congr 1
  cases hb : (l[j].f0 == id) <;> simp [hb]
theorem DelInv.skip {id : Int} {l xs : List S56} {j i : Nat} (h : DelInv id l j i xs) (hj : j < l.length) (he : (l[j].f0 == id) = true) : DelInv id l (j + 1) i xs :=
  ⟨Nat.lt_succ_of_lt h.lt, h.len, by rw [keptL_take id l j hj, if_pos he, List.append_nil]; exact h.low, by have := congrArg (List.drop 1) h.high; rwa [List.drop_drop, List.drop_drop] at this⟩
theorem DelInv.keep {id : Int} {l xs : List S56} {j i : Nat} (h : DelInv id l j i xs) (hj : j < l.length) (he : (l[j].f0 == id) = false) : DelInv id l (j + 1) (i + 1) (xs.set i l[j]) := by
  have hlt := h.lt
  have hl := h.len
  refine ⟨Nat.succ_lt_succ hlt, by rw [List.length_set]; exact hl, ?_, ?_⟩
  · rw [keptL_take id l j hj, he, if_neg (by decide), ← h.low, List.take_succ_eq_append_getElem (by rw [List.length_set]; omega), List.take_set_of_le (Nat.le_refl _), List.getElem_set_self]
  · rw [List.drop_set_of_lt (by omega)]
    have := congrArg (List.drop 1) h.high
    rwa [List.drop_drop, List.drop_drop] at this
theorem DelInv.read {id : Int} {l xs : List S56} {j i : Nat} (h : DelInv id l j i xs) (hj : j < l.length) : xs.getD j z56 = l[j] := by
  have e := congrArg (fun q => q[0]?) h.high
  simp only [List.getElem?_drop, Nat.add_zero] at e
  simp [List.getD_eq_getElem?_getD, e, hj]
theorem DelInv.start {id : Int} {l : List S56} {k : Nat} (hk : k < l.length) (h1 : l[k].f0 = id) (h2 : ∀ j (hj : j < k), l[j].f0 ≠ id) : DelInv id l (k + 1) k l := by
  refine ⟨Nat.lt_succ_self _, rfl, ?_, rfl⟩
  rw [keptL_take id l k hk, if_pos (by simp [h1]), List.append_nil]
  unfold keptL
  refine (List.filter_eq_self.2 fun b hb => ?_).symm
  obtain ⟨j, hj, rfl⟩ := List.mem_iff_getElem.1 hb
  have hjk : j < k := by rw [List.length_take] at hj; omega
  have := h2 j hjk
  simpa using this
theorem keptL_none {id : Int} {l : List S56} (h : ∀ b ∈ l, b.f0 ≠ id) : keptL id l = l := List.filter_eq_self.2 fun b hb => by simpa using h b hb
theorem blk_grown1 {W w1 : World} {B g : Nat} {t : TypeId} {cs : List Value} (h : Blk W B t cs) (hg : W.grownBy w1 (some g)) (hne : B ≠ g) : Blk w1 B t cs := (hg.block B h.lt (by intro e; injection e with e; exact hne e)).trans h
theorem run_clear_bk (W : World) (ty : TypeId) (b o n c : Nat) (hn : 0 < n)
    (hc : ∀ j, j < n * 2 → (W.cell? ⟨b, o + j, none⟩).isSome = true) (hf : ∀ j, j < n * 2 → W.frozen? ⟨b, o + j, none⟩ = false) :
    (Builtin.clear_ #[31] ty #[.slice (some ⟨b, o, none⟩) n c]).run Try.prog W = .ok (.tuple #[]) (W.setCells b o (List.replicate (n * 2) (.int .i64 0))) := by
  have hz : ∀ w, (zeroValue 56).run Try.prog w = .ok (.agg #[.int .i64 0, .int .i64 0]) w := Try.zeroValue56
  have hzc : (Builtin.zeroCells (Value.agg #[.int .i64 0, .int .i64 0]).cells n).toList = List.replicate (n * 2) (.int .i64 0) := by
    simp [Builtin.zeroCells, Value.cells]
    apply List.ext_getElem
    · simp
    · intro i h1 h2
      simp
      rcases Nat.mod_two_eq_zero_or_one i with h | h <;> simp [h]
  have hst := run_storeCells_cells (P := Try.prog) b o (List.replicate (n * 2) (.int .i64 0)) 0 W (by simpa using hc) (by simpa using hf) (by intro v hv'; rw [List.eq_of_mem_replicate hv']; rfl)
  simp only [Nat.add_zero] at hst
  obtain ⟨m, rfl⟩ : ∃ m, n = m + 1 := ⟨n - 1, by omega⟩
  simp [Builtin.clear_, run_underlying Try.underlying31, hz, hzc, hst]
theorem gate_store {P : Program} {ops : Array Oper} {Q : Exit → Act → World → Prop} {o : Oper} {rest : List Oper} {a : Act} {W : World} {t : TypeId} {p x : Operand} (_ho : o.op = .store t p x) (h : wpList P ops Q (o :: rest) a W) : wpList P ops Q (o :: rest) a W := h
theorem below_alloc' {n₀ : Nat} {W w : World} (hn : n₀ ≤ W.heap.size) (h : Below n₀ W w) (o : Obj) : Below n₀ W (w.alloc o) := h.trans ((Below.refl n₀ w).alloc (Nat.le_trans hn h.size) o)
theorem del_nums (n j i : Nat) (hl : n ≤ 1000000) (h : j < n) (hij : i < j) : decide ((j : Int) < (n : Int)) = true ∧ (0 : Int) ≤ (j : Int) ∧ (j : Int) < (n : Int) ∧ wrap64 ((j : Int) + 1) = ((j + 1 : Nat) : Int) ∧ (0 : Int) ≤ (i : Int) ∧ (i : Int) < (n : Int) ∧ wrap64 ((i : Int) + 1) = ((i + 1 : Nat) : Int) :=
  ⟨decide_eq_true (by omega), by omega, by omega, by unfold wrap64; omega, by omega, by omega, by unfold wrap64; omega⟩
theorem del_meas (n k : Nat) (h : k < n) : n - (((k + 1 : Nat) : Int)).toNat < n - ((k : Int)).toNat := by
  rw [Int.toNat_natCast, Int.toNat_natCast]; omega
set_option maxHeartbeats 1000000 in
theorem DeleteFunc_none (id : Int) (B : Nat) (A : Option Addr) (c : Nat) (l : List S56) (hl : l.length ≤ 1000000) (W : World) (hC : Kd.C k56 W A l.length l) (hB : Blk W B 3 [.int .i64 id]) (hno : findL l id = -1) :
    Calls Try.prog 69 #[.slice A l.length c, .func (.func 82) #[] #[.pointer (some ⟨B, 0, none⟩)]] W fun e w' => e = .returned (.slice A l.length c) ∧ Below W.heap.size W w' := by
  have hI := IndexFunc_named id B A c l (Nat.le_trans hl (by decide)) W hC hB.lt (hB.cell 0)
  rw [hno] at hI
  have HI := Lib.hid hI
  clear hI hC hl hB hno
  go_enter Try.func69, Try.ntmps69
  go_wp2_with (go_at_call 62; refine HI.out.mono ?_; rintro e w2 ⟨rfl, hb⟩; have HB2 := Lib.hid hb; clear hb)
  go_ret
  exact ⟨rfl, HB2.out⟩
set_option maxRecDepth 100000 in
set_option maxHeartbeats 8000000 in
theorem DeleteFunc_some (id : Int) (B : Nat) (g c : Nat) (l : List S56) (hl : l.length ≤ 1000000) (n₀ : Nat) (W : World) (hn : n₀ ≤ W.heap.size) (hR : Kd.R k56 56 W n₀ (fun _ => True) (.slice (some ⟨g, 0, none⟩) l.length c) l) (hB : Blk W B 3 [.int .i64 id]) (k0 : Nat) (hk0 : k0 < l.length) (hf : findL l id = (k0 : Int)) (hD : DelInv id l (k0 + 1) k0 l) :
    Calls Try.prog 69 #[.slice (some ⟨g, 0, none⟩) l.length c, .func (.func 82) #[] #[.pointer (some ⟨B, 0, none⟩)]] W fun e w' => ∃ v', e = .returned v' ∧ Kd.R k56 56 w' n₀ (fun _ => True) v' (keptL id l) ∧ Below n₀ W w' := by
  have hgB : B ≠ g := by
    rintro rfl
    obtain ⟨cells, hc⟩ := Kd.R_typed hR B rfl
    have h := (show _ = _ from hB).symm.trans hc
    injection h with h
    injection h with _ h
    exact absurd h (by decide)
  have hgn : n₀ ≤ g := Kd.R_base hR g rfl
  have hI := IndexFunc_named id B (some ⟨g, 0, none⟩) c l (Nat.le_trans hl (by decide)) W (Kd.R_reads' hR).2.2 hB.lt (hB.cell 0)
  rw [hf] at hI
  have hcap := (Kd.R_reads' hR).2.1
  have hne : ((k0 : Int) == -1) = false := beq_eq_false_iff_ne.2 (by omega)
  have hw0 : wrap64 ((k0 : Int) + 1) = ((k0 + 1 : Nat) : Int) := by unfold wrap64; omega
  have HI := Lib.hid hI
  have HL := Lib.hid hl
  have HR := Lib.hid hR
  have HB := Lib.hid hB
  have HD := Lib.hid hD
  have HN := Lib.hid hn
  have HGB := Lib.hid hgB
  have HGN := Lib.hid hgn
  have HCAP := Lib.hid hcap
  have HK0 := Lib.hid hk0
  clear hI hl hR hB hD hn hgB hgn hcap hf hk0
  go_enter Try.func69, Try.ntmps69
  go_wp2_with (go_at_call 62; refine HI.out.mono ?_; rintro e w2 ⟨rfl, hb⟩; have HB2 := Lib.hid hb; clear hb)
  clear hne
  go_loopw [5, 6] (fun s5 s6 wr => ∃ (i j : Nat) (xs : List S56), s5 = .int .i64 i ∧ s6 = .int .i64 j ∧ j ≤ l.length ∧ Aside0 (DelInv id l j i xs) ∧ Aside0 (Kd.R k56 56 wr n₀ (fun _ => True) (.slice (some ⟨g, 0, none⟩) l.length c) xs) ∧ Aside0 (Blk wr B 3 [.int .i64 id]) ∧ Aside0 (Below n₀ W wr))
    (fun _ s6 _ => l.length - (intOf s6).toNat)
  case atStart => exact ⟨k0, k0 + 1, l, rfl, by rw [hw0], HK0.out, ⟨HD.out⟩, ⟨Kd.R_below HR.out HB2.out⟩, ⟨HB.out.below HB2.out⟩, ⟨HB2.out.mono HN.out⟩⟩
  case round =>
    clear hw0
    obtain ⟨i, j, xs, rfl, rfl, hj, HD2, HR2, HBk, HBr⟩ := hrel
    by_cases hlt : j < l.length
    · have hxl := (Kd.R_reads' HR2.out).1
      obtain ⟨ad, hA, c0, c1⟩ := at_T56 (Kd.R_reads' HR2.out).2.2 (j : Int) (by omega) (by omega)
      cases hA
      rw [show rd_T56 xs (j : Int) = xs.getD j z56 from rfl, HD2.out.read hlt] at c0 c1
      obtain ⟨b, hb⟩ : ∃ b, l[j] = b := ⟨_, rfl⟩
      rw [hb] at c0 c1
      rw [Int.toNat_natCast, add_plain] at c0 c1
      clear hxl
      obtain ⟨q1, q2, q3, hwj, q5, q6, hwi⟩ := del_nums l.length j i HL.out hlt HD2.out.lt
      have hskip := fun h => HD2.out.skip hlt h
      have hkeep := fun h => HD2.out.keep hlt h
      rw [hb] at hskip hkeep
      have HSK := Lib.hid hskip
      have HKE := Lib.hid hkeep
      clear hb hskip hkeep
      obtain ⟨b0, b1⟩ := b
      go_upto_region 8 with (fail)
      have hbx := Blk.new wr 56 [.int .i64 b0, .int .i64 b1]
      have hb1 := below_alloc' HN.out HBr.out (.cells #[.int .i64 b0, .int .i64 b1] 56)
      have hr1 := Kd.R_alloc HR2.out (.cells #[.int .i64 b0, .int .i64 b1] 56)
      have hk1 := HBk.out.alloc (.cells #[.int .i64 b0, .int .i64 b1] 56)
      obtain ⟨g5, hg5⟩ : ∃ g5, wr.heap.size = g5 := ⟨_, rfl⟩
      obtain ⟨W1, hW1⟩ : ∃ W1, (wr.alloc (.cells #[.int .i64 b0, .int .i64 b1] 56)) = W1 := ⟨_, rfl⟩
      rw [hg5] at hbx ⊢
      rw [hW1] at hbx hb1 hr1 hk1 ⊢
      clear hg5 hW1 c0 c1 HBr HR2 HBk
      have c0 : W1.cell? ⟨g5, 0, none⟩ = some (.int .i64 b0) := hbx.cell 0
      have c1 : W1.cell? ⟨g5, 1, none⟩ = some (.int .i64 b1) := hbx.cell 1
      have hcall := named1_any id B ⟨b0, b1⟩ W1 (hk1.cell 0) hk1.lt
      have HB1 := Lib.hid hb1
      have HR1 := Lib.hid hr1
      have HK1 := Lib.hid hk1
      have HX1 := Lib.hid hbx
      clear hb1 hr1 hk1 hbx
      obtain ⟨eq, heq⟩ : ∃ eq, (b0 == id) = eq := ⟨_, rfl⟩
      have hsk := HSK.out
      have hke := HKE.out
      clear HSK HKE
      simp only [heq] at hcall hsk hke
      have HCL := Lib.hid hcall
      clear hcall heq
      cases eq with
      | true =>
        have HD3 := Lib.hid (hsk rfl)
        clear hsk hke
        go_wp2_with fail
        refine HCL.out.mono ?_
        rintro e w3 ⟨rfl, rfl⟩
        go_wp2
        go_roundw
        case rel => exact ⟨i, j + 1, xs, rfl, by rw [hwj], Nat.succ_le_of_lt hlt, ⟨HD3.out⟩, ⟨Kd.R_alloc HR1.out _⟩, ⟨HK1.out.alloc _⟩, ⟨below_alloc' HN.out HB1.out _⟩⟩
        case measure =>
          rw [hwj]
          exact del_meas _ _ hlt
      | false =>
        have HD3 := Lib.hid (hke rfl)
        clear hsk hke
        go_wp2_with fail
        refine HCL.out.mono ?_
        rintro e w3 ⟨rfl, rfl⟩
        have hb2 := below_alloc' HN.out HB1.out (.cells #[.int .i64 b0, .int .i64 b1] 56)
        have hr2 := Kd.R_alloc HR1.out (.cells #[.int .i64 b0, .int .i64 b1] 56)
        have hk2 := HK1.out.alloc (.cells #[.int .i64 b0, .int .i64 b1] 56)
        have hx2 := HX1.out.alloc (.cells #[.int .i64 b0, .int .i64 b1] 56)
        obtain ⟨W2, hW2⟩ : ∃ W2, (W1.alloc (.cells #[.int .i64 b0, .int .i64 b1] 56)) = W2 := ⟨_, rfl⟩
        rw [hW2] at hb2 hr2 hk2 hx2 ⊢
        clear hW2 c0 c1 HB1 HR1 HK1 HX1 HCL
        have c0 : W2.cell? ⟨g5, 0, none⟩ = some (.int .i64 b0) := hx2.cell 0
        have c1 : W2.cell? ⟨g5, 1, none⟩ = some (.int .i64 b1) := hx2.cell 1
        have hxl := (Kd.R_reads' hr2).1
        obtain ⟨ad2, hA2, d0, d1⟩ := at_T56 (Kd.R_reads' hr2).2.2 (i : Int) (by omega) (by omega)
        cases hA2
        rw [Int.toNat_natCast, add_plain] at d0 d1
        obtain ⟨x0, hx0⟩ : ∃ x0, (rd_T56 xs (i : Int)).f0 = x0 := ⟨_, rfl⟩
        obtain ⟨x1, hx1⟩ : ∃ x1, (rd_T56 xs (i : Int)).f1 = x1 := ⟨_, rfl⟩
        rw [hx0] at d0
        rw [hx1] at d1
        clear hx0 hx1 hxl
        have HB2 := Lib.hid hb2
        have HR2 := Lib.hid hr2
        have HK2 := Lib.hid hk2
        clear hb2 hr2 hk2 hx2
        have D0 := Lib.hid d0
        have D1 := Lib.hid d1
        clear d0 d1
        have hij : (i : Int).toNat = i := Int.toNat_natCast i
        go_wp2_with ((with_reducible refine gate_store (t := 56) rfl ?_); refine Kd.R_store k56 (w0 := W) n₀ rfl rfl 56 _ _ rfl 56 (i : Int) 0 xs (⟨b0, b1⟩ : S56) _ [.int .i64 b0, .int .i64 b1] [.int .i64 x0, .int .i64 x1] (fun _ => True) (fun _ => False) rfl ?sO rfl rfl (by kernel_rfl) ?sI HR2.out q5 q6 rfl ?sC (Nat.le_refl 2) (k56_mkM _ _ _ _) (fun _ h => h.elim) HB2.out ?_; (case sO => rw [hij]; rfl); (case sI => intro q hq; simp at hq; rcases hq with rfl | rfl <;> rfl); (case sC => intro jj uu hu; match jj, hu with | 0, hu => (simp at hu; rw [← hu, hij]; exact D0.out) | 1, hu => (simp at hu; rw [← hu, hij]; exact D1.out) | jj + 2, hu => simp at hu); intro w5 hr5 hb5 hg5; rw [hij] at hr5; have HR5 := Lib.hid hr5; have HB5 := Lib.hid hb5; have HK5 := Lib.hid (blk_grown1 HK2.out hg5 HGB.out); clear hr5 hb5 hg5)
        go_roundw
        case rel => exact ⟨i + 1, j + 1, xs.set i ⟨b0, b1⟩, by rw [hwi], by rw [hwj], Nat.succ_le_of_lt hlt, ⟨HD3.out⟩, ⟨HR5.out⟩, ⟨HK5.out⟩, ⟨HB5.out⟩⟩
        case measure =>
          rw [hwj]
          exact del_meas _ _ hlt
    · obtain rfl : j = l.length := Nat.le_antisymm hj (Nat.le_of_not_lt hlt)
      have q1 : decide ((l.length : Int) < (l.length : Int)) = false := decide_eq_false (by omega)
      have hil := HD2.out.lt
      have hcap := HCAP.out
      have hlow : xs.take i = keptL id l := by have h := HD2.out.low; rwa [List.take_length] at h
      have hxl : xs.length = l.length := HD2.out.len
      have hr2 := HR2.out
      rw [← hxl] at hr2
      obtain ⟨hrow, hcl, hfl⟩ := own_bk hr2
      have hend := own_bk_end hrow (i := i) (by omega) (List.replicate ((l.length - i) * 2) (.int .i64 0))
      rw [hlow] at hend
      have hil2 : (keptL id l).length = i := by rw [← hlow, List.length_take]; omega
      rw [hil2] at hend
      obtain ⟨i0, hi, hz0, hz1, hz2⟩ := info_parts (show (Try.prog.info? 56).map (fun i => (i.zero, i.size, i.bytes)) = some (some (.agg #[.int .i64 0, .int .i64 0]), 2, 16) from by kernel_rfl)
      have k1 : ∀ W : World, (Instr.slice 31 (.slice (some ⟨g, 0, none⟩) l.length c) (some (.int .i64 (i : Int))) none none).run Try.prog W = .ok (.slice (some ⟨g, i * 2, none⟩) (l.length - i) (c - i)) W := fun W => by
        rw [cut_from (P := Try.prog) 31 56 .i64 Try.underlying31 hi 2 hz1 (some ⟨g, 0, none⟩) l.length c (i : Int) (by omega) (by omega), Int.toNat_natCast, if_neg (by omega), Option.map_some, add_plain]
      have k2 : ∀ W : World, (Instr.slice 31 (.slice (some ⟨g, 0, none⟩) l.length c) none (some (.int .i64 (i : Int))) none).run Try.prog W = .ok (.slice (some ⟨g, 0, none⟩) i c) W := fun W => by
        rw [cut_to (P := Try.prog) 31 56 .i64 Try.underlying31 hi (some ⟨g, 0, none⟩) l.length c (i : Int) (by omega) (by omega) hcap, Int.toNat_natCast]
      have k3 : ∀ ty, (Builtin.clear_ #[31] ty #[.slice (some ⟨g, i * 2, none⟩) (l.length - i) (c - i)]).run Try.prog wr = .ok (.tuple #[]) (wr.setCells g (i * 2) (List.replicate ((l.length - i) * 2) (.int .i64 0))) := fun ty =>
        run_clear_bk wr ty g (i * 2) (l.length - i) (c - i) (by omega) (fun t ht => hcl _ (by omega)) (fun t _ => hfl _)
      have hbb := below_setCells HGN.out (List.replicate ((l.length - i) * 2) (.int .i64 0)) (i * 2) W wr HBr.out
      have HEND := Lib.hid hend
      have HBB := Lib.hid hbb
      have K1 := Lib.hid k1
      clear hend hbb hrow hcl hfl hr2 hlow hxl hil hcap hil2 hi hz0 hz1 hz2 HD2 HR2 HBk HBr hlt
      go_wp2
      go_ret
      exact ⟨_, rfl, HEND.out, HBB.out⟩
theorem DeleteFunc_named (id : Int) (B : Nat) (v : Value) (l : List S56) (hl : l.length ≤ 1000000) (n₀ : Nat) (W : World) (hn : n₀ ≤ W.heap.size) (hR : Kd.R k56 56 W n₀ (fun _ => True) v l) (hB : Blk W B 3 [.int .i64 id]) :
    Calls Try.prog 69 #[v, .func (.func 82) #[] #[.pointer (some ⟨B, 0, none⟩)]] W fun e w' => ∃ v', e = .returned v' ∧ Kd.R k56 56 w' n₀ (fun _ => True) v' (keptL id l) ∧ Below n₀ W w' := by
  rcases findL_cases l id with ⟨h1, h2⟩ | ⟨k, hk, h1, h2, h3⟩
  · obtain ⟨A, c, rfl⟩ := Kd.R_slice hR
    refine (DeleteFunc_none id B A c l hl W (Kd.R_reads' hR).2.2 hB h1).mono ?_
    rintro e w' ⟨rfl, hb⟩
    rw [keptL_none h2]
    exact ⟨_, rfl, Kd.R_below hR hb, hb.mono hn⟩
  · obtain ⟨g, cap, rfl, _, _, _⟩ := Kd.R_form hR (by omega)
    exact DeleteFunc_some id B g cap l hl n₀ W hn hR hB k hk h1 (DelInv.start hk h2 h3)
end

/-! ### pool_Without: function 38 -/
section
open Go.Shelf Go.Proofs.Ytklngklmeanhcaa.Hand
set_option maxHeartbeats 1000000 in
theorem Without_any (A : Option Addr) (c : Nat) (l : List S56) (hl : l.length ≤ 1000000) (id : Int) (w : World) (hC : Kd.C k56 w A l.length l) :
    Calls Try.prog 38 #[.slice A l.length c, .int .i64 id] w fun e w' => ∃ v : Value, e = .returned v ∧ Kd.R k56 56 w' w.heap.size (fun _ => True) v (keptL id l) ∧ Below w.heap.size w w' := by
  have HC := Lib.hid hC
  have HL := Lib.hid hl
  clear hC hl
  go_enter Try.func38, Try.ntmps38
  go_wp2_with (first
    | (go_at_call 60; refine (cloneBk_any A c l (by have := HL.out; omega) _ HC.out).mono ?_; rintro e w1 ⟨v, rfl, hr, hb⟩; have HR := Lib.hid hr; have HB := Lib.hid hb; clear hr hb)
    | (go_at_call 63; refine (named_any _ _).mono ?_; rintro e w2 ⟨rfl, rfl⟩)
    | (go_at_call 69; refine (DeleteFunc_named id w1.heap.size v l HL.out w.heap.size (w1.alloc (.cells #[.int .i64 id] 3)) (below_alloc HB.out _).size (Kd.R_alloc HR.out _) (Blk.new w1 3 [.int .i64 id])).mono ?_; rintro e w3 ⟨v3, rfl, hr3, hb3⟩; have HR3 := Lib.hid hr3; have HB3 := Lib.hid ((below_alloc HB.out _).trans hb3); clear hr3 hb3))
  go_ret
  exact ⟨_, rfl, HR3.out, HB3.out⟩
def pool_Without.f (l0 : List S56) (a1 : Int) : Option (List S56) := if l0.length ≤ 1000000 then some (keptL a1 l0) else none
theorem pool_Without.calls (A0 : Option Addr) (c0 : Nat) (l0 : List S56) (a1 : Int) (r : List S56) (w : World) (hr0 : Kd.C k56 w A0 l0.length l0) (hc0 : l0.length ≤ c0) (h : pool_Without.f l0 a1 = some r) :
    Calls Try.prog 38 #[.slice A0 l0.length c0, .int .i64 a1] w fun e w' => ∃ v0_ : Value, e = .returned v0_ ∧ Kd.R k56 56 w' w.heap.size (fun _ => True) v0_ r ∧ Below w.heap.size w w' := by
  unfold pool_Without.f at h
  by_cases hl : l0.length ≤ 1000000
  · rw [if_pos hl] at h
    obtain rfl := Option.some.inj h
    exact Without_any A0 c0 l0 hl a1 w hr0
  · rw [if_neg hl] at h
    exact absurd h (by simp)
end

end Go.Proofs.Ytklngklmeanhcaa.P
