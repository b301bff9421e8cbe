/- Each Go function that the laws reach, as a plain function, with the proof that the machine's call comes to what it says; of a law: its row. Made by a program of this seat (wip/hp.py, over the print). -/
import Derived.Test.YthdkkmeiihbafaaPx0
import Derived.Test.YthdkkmeiihbafaaPx2
namespace Go.Proofs.Ythdkkmeiihbafaa.P
open Go.RowKit Go.Proofs.YthdkkmeiihbafaaW.PrintWords Go.Proofs.YthdkkmeiihbafaaW.PrintLast Go.Proofs.YthdkkmeiihbafaaW.PrintMore
attribute [local go_sem] max2_int min2_int max_two min_two max_three min_three max_four min_four   -- for this text's walks alone
set_option linter.unusedVariables false
set_option linter.unusedSimpArgs false

/-! ### flows_New: function 43 -/
def flows_New.f (a0 : Int) : Option ((List (S31))) := if 0 ≤ (mx 0 (mn a0 64)) then (if (mx 0 (mn a0 64) : Int).toNat ≤ 7036874417766 then (some (List.replicate (mx 0 (mn a0 64) : Int).toNat z31)) else (none)) else (none)
set_option maxHeartbeats 8000000 in
set_option maxRecDepth 100000 in
theorem flows_New.calls (a0 : Int) (r : List (S31)) (w : World) (h : flows_New.f a0 = some r) :
    Calls Try.prog 43 #[.int .i64 a0] w fun e w' => ∃ v0_ : Value, e = .returned (v0_) ∧ Kd.R k31 31 w' w.heap.size (fun _ => True) v0_ r ∧ Below w.heap.size w w' := by
  have HB := Aside0.mk (Below.refl w.heap.size w)
  have H : (if 0 ≤ (mx 0 (mn a0 64)) then (if (mx 0 (mn a0 64) : Int).toNat ≤ 7036874417766 then (some (List.replicate (mx 0 (mn a0 64) : Int).toNat z31)) else (none)) else (none)) = some r := h
  clear h
  obtain ⟨ji2, hji2⟩ : ∃ j_ : Int, (mn a0 64) = j_ := ⟨_, rfl⟩
  replace H : (if 0 ≤ (mx 0 (ji2)) then (if (mx 0 (ji2) : Int).toNat ≤ 7036874417766 then (some (List.replicate (mx 0 (ji2) : Int).toNat z31)) else (none)) else (none)) = some r := by first | (rw [hji2] at H; exact H) | (simp only [hji2] at H ⊢; exact H)
  (try (have hji2h : ji2 ≤ 64 := by (rw [← hji2]; unfold mn; (repeat' split) <;> omega)))
  (try (have hji2g : ji2 ≤ 64 := by omega))
  have hji2_ : (if 64 < a0 then 64 else a0) = ji2 := hji2
  obtain ⟨ji3, hji3⟩ : ∃ j_ : Int, (mx 0 (ji2)) = j_ := ⟨_, rfl⟩
  replace H : (if 0 ≤ (ji3) then (if (ji3 : Int).toNat ≤ 7036874417766 then (some (List.replicate (ji3 : Int).toNat z31)) else (none)) else (none)) = some r := by first | (rw [hji3] at H; exact H) | (simp only [hji3] at H ⊢; exact H)
  have hji3_ : (if 0 < (ji2) then (ji2) else 0) = ji3 := hji3
  by_cases c4 : 0 ≤ (ji3)
  · rw [if_pos c4] at H
    have c4b0 := eq_true c4
    have c4b1 : decide (0 ≤ (ji3)) = true := decide_eq_true c4
    clear c4
    by_cases c5 : (ji3 : Int).toNat ≤ 7036874417766
    · rw [if_pos c5] at H
      have c5b0 := eq_true c5
      have c5b1 : decide ((ji3 : Int).toNat ≤ 7036874417766) = true := decide_eq_true c5
      clear c5
      obtain ⟨y110, hy110⟩ : ∃ y_ : List (S31), y_ = (List.replicate (ji3 : Int).toNat z31) := ⟨_, rfl⟩
      replace H : (some y110) = some r := by first | (rw [hy110]; with_reducible exact H) | (have H2_ := (Option.bind_some _ _).symm.trans H; rw [hy110]; with_reducible exact H2_) | (have H2_ := (Option.bind_some _ _).symm.trans H; with_reducible exact H2_) | with_reducible exact H | (rw [hy110]; exact H) | exact H
      have Ny110 := Aside0.mk hy110
      clear hy110
      obtain rfl := Option.some.inj H
      go_enter Try.func43, Try.ntmps43
      go_wp2_with (first | ((with_reducible refine gate_dst (N := 6) rfl ?_); refine Kd.R_make k31 _ 31 rfl (N := 6) rfl 22 _ _ rfl ji3 rfl rfl Try.underlying22 (.agg #[(.int .i64 0), (.string ⟨#[]⟩), (.int .i64 0), (.int .i64 0)]) 40 info31 rfl (by decide) (by omega) z31 (ok := fun _ => True) (okp := fun _ => True) (k31_mkM _ _ _ z31 ) (fun _ hk => hk) trivial (of_decide_eq_true (by first | (with_reducible assumption) | assumption)) (Nat.le_trans (Nat.mul_le_mul_right _ (of_decide_eq_true (by first | (with_reducible assumption) | assumption) : ji3.toNat ≤ 7036874417766)) (by omega)) (Below.refl _ _) (Nat.le_refl _) ?_; intro v111 w6 ho7 hb hg_ hnew_; clear hg_ hnew_; (first | rw [← Ny110.out] at ho7 | (simp only [Int.reduceToNat] at ho7; rw [← Ny110.out] at ho7)); have n0_ := Aside0.mk (Kd.R_lower ho7 (below_size (by repeat (first | (with_reducible first | exact HB.out | apply below_alloc | apply pw_below_drewN | apply below_drew1) | exact HB.out)))); have n1_ := Aside0.mk (below_step (by repeat (first | (with_reducible first | exact HB.out | apply below_alloc | apply pw_below_drewN | apply below_drew1) | exact HB.out)) hb); clear HB; have HO112 := n0_; have HB := n1_; clear n0_ n1_; clear hb ho7))
      go_ret
      exact ⟨_, by first | rfl | (simp [errW_none, errW_some] <;> rfl) | (simp only [← hji2, ← hji3]; first | rfl | (simp [errW_none, errW_some] <;> rfl)) | (simp [*, errW_none, errW_some] <;> rfl), by (with_reducible repeat (first | apply Kd.R_alloc | apply Kd.R_drewN | apply Kd.R_drew)); exact HO112.out, by repeat (first | (with_reducible first | exact HB.out | apply below_alloc | apply pw_below_drewN | apply below_drew1) | exact HB.out)⟩
    · rw [if_neg c5] at H
      exact absurd H (by simp)
  · rw [if_neg c4] at H
    exact absurd H (by simp)

-- NOT PRINTED: function 79 (flows_table_live_1)

/-! ### flows_table_live: function 71 -/
section
open Go.Shelf Go.Proofs.Ythdkkmeiihbafaa.Hand
attribute [local go_sem] Oper.semAt_some
/-- The first k places of a table that hold a flow, with what stands there; of all places. -/
def liveUpto (l : List S31) (k : Nat) : List (Int × S31) := (upto (fun i => ((i : Int), rd_T31 l i)) k).filter fun p => p.2.f0 == 1
def liveL (l : List S31) : List (Int × S31) := liveUpto l l.length
abbrev LiveP (l : List S31) : Type := { p : Int × S31 // p ∈ liveL l }
theorem liveUpto_succ (l : List S31) (k : Nat) : liveUpto l (k + 1) = liveUpto l k ++ (if ((rd_T31 l k).f0 == 1) = true then [((k : Int), rd_T31 l k)] else []) := by
  unfold liveUpto
  rw [upto_succ, List.filter_append]
  congr 1
  simp only [List.filter_cons, List.filter_nil]
theorem liveUpto_le (l : List S31) (k : Nat) : (liveUpto l k).length ≤ k := by
  have := List.length_filter_le (fun p : Int × S31 => p.2.f0 == 1) (upto (fun i => ((i : Int), rd_T31 l i)) k)
  rw [upto_length] at this
  exact this
theorem liveUpto_prefix (l : List S31) {k n : Nat} (h : k ≤ n) : liveUpto l k <+: liveUpto l n := by
  obtain ⟨rest, hr⟩ := upto_split (fun i => ((i : Int), rd_T31 l i)) h
  unfold liveUpto
  rw [hr, List.filter_append]
  exact List.prefix_append _ _
theorem live_mem (l : List S31) {k : Nat} (h : k < l.length) (hv : ((rd_T31 l k).f0 == 1) = true) : ((k : Int), rd_T31 l k) ∈ liveL l :=
  List.mem_filter.2 ⟨mem_upto.2 ⟨k, h, rfl⟩, hv⟩

set_option maxRecDepth 100000 in
set_option maxHeartbeats 4000000 in
theorem live1_in (n : Nat) (hn : 1 ≤ n) (y Bt n₀ : Nat) (A : Option Addr) (c : Nat) (l : List S31) (hl : l.length ≤ 1000000)
    (w : World) (hw : w.heap.size = n₀) (hC : Kd.C k31 w A l.length l) (J Jx : List (LiveP l) → World → Prop) (B : Nat) (hJ : AbidesFrom B J)
    (hY : ∀ pre x W, J pre W → pre.length < l.length → YieldAt Fence.wide (n - 1) Try.prog y #[.int .i64 x.1.1, entV x.1.2] W fun e W' =>
      (e = .returned (.bool true) ∧ J (pre ++ [x]) W' ∧ Below n₀ W W') ∨ (e = .returned (.bool false) ∧ Jx (pre ++ [x]) W'))
    (W : World) (hB : Below n₀ w W) (ht : W.cell? ⟨Bt, 0, none⟩ = some (.slice A l.length c)) (h0 : J [] W) :
    CallsIn Fence.wide n Try.prog 79 #[.func (.yield y) #[] #[], .pointer (some ⟨Bt, 0, none⟩)] W fun e W' => (∃ v, e = .returned v) ∧
      ((∃ ys : List (LiveP l), ys.map Subtype.val = liveL l ∧ J ys W') ∨ (∃ pre : List (LiveP l), (pre.map Subtype.val <+: liveL l) ∧ Jx pre W')) := by
  have hro : Fence.wide.round = none := rfl
  refine callsIn_of_wp Try.func79 rfl trivial ?_ hro
  simp only [Try.ntmps79, List.size_toArray, List.length_cons, List.length_nil, Nat.reduceAdd, Nat.reduceSub, Array.replicate_succ, Array.replicate_zero, List.push_toArray, List.append_toArray, List.nil_append, List.cons_append]
  gi_wp2
  gi_loopw [7] (fun i wr => ∃ (k : Nat) (pre : List (LiveP l)), k ≤ l.length ∧ i = .int .i64 k ∧ pre.map Subtype.val = liveUpto l k ∧ J pre wr ∧ Below n₀ W wr)
    (fun i _ => l.length - (intOf i).toNat)
  case atStart => exact ⟨0, [], Nat.zero_le _, rfl, rfl, h0, Below.refl _ _⟩
  case round =>
    obtain ⟨k, pre, hk', rfl, hpre, hJs, hnx⟩ := hrel
    have hBr : Below w.heap.size w wr := by rw [hw]; exact hB.trans hnx
    have hCr := Kd.C_below hC hBr
    have hle := liveUpto_le l k
    have hlen : pre.length = (liveUpto l k).length := by rw [← hpre]; simp
    have HP := Lib.hid hpre
    have HL := Lib.hid hlen
    have hn0 : n₀ ≤ wr.heap.size := by have := hBr.size; omega
    clear hpre hlen hB hBr ht
    by_cases hlt : k < l.length
    · obtain ⟨ad, hA, c0, c1, c2, c3⟩ := at_T31 hCr k (by omega) (by omega)
      subst hA
      have hsucc := liveUpto_succ l k
      have hmem := live_mem l hlt
      obtain ⟨x, hx⟩ : ∃ x, rd_T31 l k = x := ⟨_, rfl⟩
      rw [hx] at c0 c1 c2 c3 hsucc hmem
      simp only [Int.toNat_natCast] at c0 c1 c2 c3
      have HS := Lib.hid hsucc
      have HM := Lib.hid hmem
      have hJ2 : J pre (wr.alloc (.cells #[.int .i64 x.f0, .string x.f1, .int .i64 x.f2, .int .i64 x.f3] 31)) := hJ _ _ _ none hJs (World.grownBy_alloc wr _ none) (fun r e => by cases e)
      have hB2 : Below n₀ W (wr.alloc (.cells #[.int .i64 x.f0, .string x.f1, .int .i64 x.f2, .int .i64 x.f3] 31)) := hnx.alloc hn0 _
      have HB2 := Lib.hid hB2
      have HC := Lib.hid hC
      clear hx hCr hsucc hmem hC hnx hB2 hJs
      cases hv : x.f0 == 1
      · rw [hv] at HS
        have q : (x.f0 == 1) = false := hv
        have HV := Lib.hid hv
        clear hv
        gi_wp2
        refine ⟨fun _ h => (by cases h), ?_⟩
        gi_wp2
        go_roundw
        case rel => exact ⟨k + 1, pre, by omega, by simp, by rw [HP.out, HS.out]; simp, hJ2, HB2.out⟩
        case measure => simp [intOf]; omega
      · rw [hv] at HS HM
        obtain ⟨x2, hx2⟩ : ∃ x2 : LiveP l, x2.1 = ((k : Int), x) := ⟨⟨_, HM.out rfl⟩, rfl⟩
        obtain ⟨fn, tmps, assign, body, hy, hR⟩ := hY pre x2 _ hJ2 (by have := HL.out; omega)
        rw [hx2] at hy
        dsimp only at hy
        have q : (x.f0 == 1) = true := hv
        have HX := Lib.hid hx2
        clear hv hx2 hJ2
        gi_wp2
        refine hR.mono ?_
        rintro e W3 (⟨rfl, hJ3, hk3⟩ | ⟨rfl, hJx3⟩)
        · gi_wp2
          go_roundw
          case rel => exact ⟨k + 1, pre ++ [x2], by omega, by simp, by rw [List.map_append, HP.out, HS.out]; simp [HX.out], hJ3, HB2.out.trans hk3⟩
          case measure => simp [intOf]; omega
        · gi_wp2
          refine bodyPost_ret (results_none rfl _ _ _) rfl ?_
          refine ⟨⟨_, rfl⟩, .inr ⟨pre ++ [x2], ?_, hJx3⟩⟩
          have e : (pre ++ [x2]).map Subtype.val = liveUpto l (k + 1) := by rw [List.map_append, HP.out, HS.out]; simp [HX.out]
          rw [e]
          exact liveUpto_prefix l hlt
    · obtain rfl : k = l.length := by omega
      gi_wp2
      go_end0
      exact ⟨⟨_, rfl⟩, .inl ⟨pre, HP.out, hJs⟩⟩

set_option maxHeartbeats 1000000 in
theorem live_any (A : Option Addr) (n c : Nat) (w : World) :
    Calls Try.prog 71 #[.slice A n c] w fun e w' => e = .returned (.func (.func 79) #[] #[.pointer (some ⟨w.heap.size, 0, none⟩)]) ∧ w' = w.alloc (.cells #[.slice A n c] 69) := by
  go_enter Try.func71, Try.ntmps71
  go_wp2
  go_ret
  exact ⟨rfl, rfl⟩

theorem live_stops (n : Nat) (hn : 1 ≤ n) (Bt n₀ : Nat) (A : Option Addr) (c : Nat) (l : List S31) (hl : l.length ≤ 1000000)
    (w W : World) (hw : w.heap.size = n₀) (hC : Kd.C k31 w A l.length l) (hB : Below n₀ w W) (hBt : Bt < W.heap.size) (ht : W.cell? ⟨Bt, 0, none⟩ = some (.slice A l.length c)) :
    SeqStopsK Fence.wide n Try.prog 79 #[.pointer (some ⟨Bt, 0, none⟩)] (fun x : LiveP l => #[.int .i64 x.1.1, entV x.1.2]) (Below n₀) (fun ys => ys.map Subtype.val = liveL l) (fun pre => pre.map Subtype.val <+: liveL l) l.length W := fun y J Jx W' hW hJ _ hY h0 =>
  live1_in n hn y Bt n₀ A c l hl w hw hC J Jx _ hJ hY W' (hB.trans (hW.mono (by have := hB.size; omega))) ((hW.cell (p := ⟨Bt, 0, none⟩) hBt).trans ht) h0
end

/-! ### flows_Tidy: function 41 -/
section
open Go.Shelf Go.Proofs.Ythdkkmeiihbafaa.Hand
attribute [local go_sem] Oper.semAt_some
theorem findIn_range (key : ByteArray) (n : Nat) : ∀ (ps : List (Int × S31)), (∀ p ∈ ps, 0 ≤ p.1 ∧ p.1 < n) → findIn key ps = -1 ∨ (0 ≤ findIn key ps ∧ findIn key ps < n)
  | [], _ => .inl rfl
  | (j, x) :: r, h => by
    simp only [findIn]
    by_cases h0 : x.f0 = 0
    · rw [if_pos h0]; exact .inl rfl
    · rw [if_neg h0]
      by_cases h1 : x.f0 = 1 ∧ x.f1 = key
      · rw [if_pos h1]; exact .inr (h (j, x) (by simp))
      · rw [if_neg h1]; exact findIn_range key n r (fun p hp => h p (by simp [hp]))
theorem roomIn_range (n : Nat) : ∀ (ps : List (Int × S31)), (∀ p ∈ ps, 0 ≤ p.1 ∧ p.1 < n) → roomIn ps = -1 ∨ (0 ≤ roomIn ps ∧ roomIn ps < n)
  | [], _ => .inl rfl
  | (j, x) :: r, h => by
    simp only [roomIn]
    by_cases h1 : x.f0 = 1
    · rw [if_pos h1]; exact roomIn_range n r (fun p hp => h p (by simp [hp]))
    · rw [if_neg h1]; exact .inr (h (j, x) (by simp))
theorem way_range (l : List S31) (hd : Int) : ∀ p ∈ upto (wayAt l hd) l.length, 0 ≤ p.1 ∧ p.1 < (l.length : Int) := by
  intro p hp
  obtain ⟨i, hi, rfl⟩ := mem_upto.1 hp
  exact ⟨Int.emod_nonneg _ (by omega), Int.emod_lt_of_pos _ (by omega)⟩
theorem home_any (s : ByteArray) (n : Nat) (hs : s.size ≤ 140737488351232) (hn : n ≤ 1000000) : ∃ h, probe_Home.f s (n : Int) = some h := by
  unfold probe_Home.f
  by_cases c : (n : Int) < 1
  · exact ⟨0, if_pos c⟩
  · rw [if_neg c]
    have e1 : ∃ q, fnv_Sum.f s = some q := by
      unfold fnv_Sum.f fnv_Join.f
      rw [if_pos hs]
      exact ⟨_, rfl⟩
    obtain ⟨q, hq⟩ := e1
    rw [hq]
    have e2 : IntKind.u64.wrap (n : Int) = n := by simp [IntKind.wrap, IntKind.bits, IntKind.signed]; omega
    rw [e2]
    exact ⟨_, if_neg (by omega)⟩
theorem find_any (l : List S31) (s : ByteArray) (hs : s.size ≤ 140737488351232) (hn : l.length ≤ 1000000) : ∃ j, probe_Find.f l s = some j ∧ (j = -1 ∨ (0 ≤ j ∧ j < l.length)) := by
  obtain ⟨h, hh⟩ := home_any s l.length hs hn
  unfold probe_Find.f
  rw [if_pos hn, hh]
  exact ⟨_, rfl, findIn_range s l.length _ (way_range l h)⟩
theorem room_any (l : List S31) (s : ByteArray) (hs : s.size ≤ 140737488351232) (hn : l.length ≤ 1000000) : ∃ j, probe_Room.f l s = some j ∧ (j = -1 ∨ (0 ≤ j ∧ j < l.length)) := by
  obtain ⟨h, hh⟩ := home_any s l.length hs hn
  obtain ⟨j, hj, _⟩ := find_any l s hs hn
  unfold probe_Room.f
  rw [hj]
  simp only [Option.bind_some]
  by_cases c : 0 ≤ j
  · rw [if_pos c]; exact ⟨_, rfl, .inl rfl⟩
  · rw [if_neg c, hh]
    exact ⟨_, rfl, roomIn_range l.length _ (way_range l h)⟩
theorem put_any (l : List S31) (a : Int) (s : ByteArray) (b d : Int) (hs : s.size ≤ 140737488351232) (hn : l.length ≤ 1000000) : ∃ q, flows_table_put.f l a s b d = some q ∧ q.2.length = l.length := by
  obtain ⟨j, hj, hr⟩ := find_any l s hs hn
  obtain ⟨m, hm, hr2⟩ := room_any l s hs hn
  unfold flows_table_put.f
  rw [hj]
  simp only [Option.bind_some]
  by_cases c : j < 0
  · rw [if_pos c, hm]
    simp only [Option.bind_some]
    by_cases c2 : m < 0
    · rw [if_pos c2]; exact ⟨_, rfl, rfl⟩
    · rw [if_neg c2, if_pos (by omega), if_pos (by omega)]; exact ⟨_, rfl, by simp⟩
  · rw [if_neg c, if_pos (by omega), if_pos (by omega)]; exact ⟨_, rfl, by simp⟩

/-- One flow put in. -/
def tidyStep (c : List S31) (x : S31) : List S31 := ((flows_table_put.f c x.f0 x.f1 x.f2 x.f3).getD (false, c)).2
def tidyAll (c : List S31) (ps : List (Int × S31)) : List S31 := ps.foldl (fun c p => tidyStep c p.2) c
theorem tidyStep_length (c : List S31) (x : S31) (hs : x.f1.size ≤ 140737488351232) (hn : c.length ≤ 1000000) : (tidyStep c x).length = c.length := by
  obtain ⟨q, hq, hl⟩ := put_any c x.f0 x.f1 x.f2 x.f3 hs hn
  unfold tidyStep
  rw [hq]
  exact hl
theorem tidyAll_length : ∀ (ps : List (Int × S31)) (c : List S31), (∀ p ∈ ps, p.2.f1.size ≤ 140737488351232) → c.length ≤ 1000000 → (tidyAll c ps).length = c.length
  | [], _, _, _ => rfl
  | p :: r, c, h, hn => by
    have e := tidyStep_length c p.2 (h p (by simp)) hn
    have := tidyAll_length r (tidyStep c p.2) (fun q hq => h q (by simp [hq])) (by omega)
    simp only [tidyAll, List.foldl_cons] at this ⊢
    omega
def flows_Tidy.f (l0 : List S31) : Option (List S31) :=
  if l0.length ≤ 1000000 then (if ((liveL l0).all fun p => decide (p.2.f1.size ≤ 140737488351232)) = true then (flows_New.f l0.length).bind fun n => some (tidyAll n (liveL l0)) else none) else none

theorem R_slice {α : Type} {d : Kd α} {e base : Nat} {ok : Nat → Prop} {w : World} {v : Value} {xs : List α} (h : Kd.R d e w base ok v xs) : ∃ A m c, v = .slice A m c := by
  obtain ⟨inner, ho⟩ := Kd.R_own h
  rcases ho.2 with ⟨rfl, _⟩ | ⟨g, cap, cur, rfl, _⟩
  · exact ⟨_, _, _, rfl⟩
  · exact ⟨_, _, _, rfl⟩
theorem R_ownFrom {β : Type} {α : Type} {d : Kd α} {e base n : Nat} {v : Value} {xs : β → List α} : OwnFrom n (fun (s : β) W => Kd.R d e W base (fun _ => True) v (xs s)) := fun s W W' row hs hg hr =>
  Kd.R_mono (Kd.R_grown (Kd.R_bound hs) hg (fun k hk e => by
    obtain ⟨_, o, ho, hc⟩ := hr k e.symm
    obtain ⟨_, _, _, q, _, cells, hcl⟩ := hk
    rw [hcl] at ho
    cases ho
    simp [Obj.isCells] at hc)) (fun _ _ => trivial)

set_option maxRecDepth 100000 in
set_option maxHeartbeats 8000000 in
theorem Tidy_any (A : Option Addr) (c : Nat) (l : List S31) (hl : l.length ≤ 1000000) (hs : ∀ p ∈ liveL l, p.2.f1.size ≤ 140737488351232) (n0 : List S31) (hn : flows_New.f l.length = some n0) (hn0 : n0.length ≤ 1000000) (w : World) (hC : Kd.C k31 w A l.length l) :
    Calls Try.prog 41 #[.slice A l.length c] w fun e W' => ∃ v, e = .returned v ∧ Kd.R k31 31 W' w.heap.size (fun _ => True) v (tidyAll n0 (liveL l)) ∧ Below w.heap.size w W' := by
  refine (callsIn_wide (n := 6)).1 ?_
  have hro : Fence.wide.round = none := rfl
  refine callsIn_of_wp_marks Try.func41 rfl trivial ?_ hro
  simp only [Try.ntmps41, List.size_toArray, List.length_cons, List.length_nil, Nat.reduceAdd, Nat.reduceSub, Array.replicate_succ, Array.replicate_zero, List.push_toArray, List.append_toArray, List.nil_append, List.cons_append]
  have HS := Lib.hid hs
  have HN := Lib.hid hn
  have HN0 := Lib.hid hn0
  clear hs hn hn0
  gi_wp2_with (first
    | (refine ⟨trivial, ?_⟩; gi_at_call 43; refine (callsIn_wide.2 (flows_New.calls _ _ _ HN.out)).mono ?_; rintro e w1 ⟨v, rfl, hr, hb1⟩; obtain ⟨A1, m1, c1, rfl⟩ := R_slice hr; have HR := Lib.hid hr; have HB1 := Lib.hid hb1; have bx := Blk.new w1 69 [.slice none 0 0]; have g1 := bx.cell 0; have f1 := bx.frozen 0; clear hr hb1)
    | (refine ⟨trivial, ?_⟩; gi_at_call 71; refine (callsIn_wide.2 (live_any _ _ _ _)).mono ?_; rintro e w' ⟨rfl, rfl⟩))
  have b1 := Blk.new w1 69 [.slice A1 m1 c1]
  have hr1 := Kd.R_alloc HR.out (.cells #[.slice A1 m1 c1] 69)
  have hB1 := HB1.out.alloc HB1.out.size (.cells #[.slice A1 m1 c1] 69)
  have b2 := Blk.new (w1.alloc (.cells #[.slice A1 m1 c1] 69)) 69 [.slice A l.length c]
  have hB0 := hB1.alloc hB1.size (.cells #[.slice A l.length c] 69)
  replace b1 := b1.alloc (.cells #[.slice A l.length c] 69)
  replace hr1 := Kd.R_alloc hr1 (.cells #[.slice A l.length c] 69)
  simp only [World.size_alloc] at b2
  clear g1 f1 bx hB1
  have hw1 := HB1.out.size
  obtain ⟨W0, hW0⟩ : ∃ W0, (w1.alloc (.cells #[.slice A1 m1 c1] 69)).alloc (.cells #[.slice A l.length c] 69) = W0 := ⟨_, rfl⟩
  replace hB0 : Below w.heap.size w W0 := by rw [← hW0]; exact hB0
  replace hr1 : Kd.R k31 31 W0 w.heap.size (fun _ => True) (.slice A1 m1 c1) n0 := by rw [← hW0]; exact hr1
  replace b1 : Blk W0 w1.heap.size 69 [.slice A1 m1 c1] := by rw [← hW0]; exact b1
  replace b2 : Blk W0 (w1.heap.size + 1) 69 [.slice A l.length c] := by rw [← hW0]; exact b2
  rw [hW0]
  clear hW0
  refine wpIn_rangeFunc_ownH hro (by omega) (gf := 79) (lb := #[.pointer (some ⟨w1.heap.size + 1, 0, none⟩)]) rfl trivial (enters_of Try.func79 (by kernel_rfl) rfl)
    (live_stops (6 - 1) (by omega) (w1.heap.size + 1) w.heap.size A c l hl w W0 rfl hC hB0 b2.lt (by rw [b2.cell]; rfl)) (fun h k => h.trans k) (fun W L o o' hL h1 h2 h3 => belowK_b (w := W0) hB0.size W L o o' hL h1 h2 h3) (Below.refl _ _) (fun _ => rfl)
    (fun (pre : List (LiveP l)) W => (Blk W w1.heap.size 69 [.slice A1 m1 c1] ∧ Kd.R k31 31 W w.heap.size (fun _ => True) (.slice A1 m1 c1) (tidyAll n0 (pre.map Subtype.val))) ∧ Below w.heap.size w W)
    (fun _ _ _ => False)
    (OwnFrom.and (OwnFrom.and (blk_ownFrom _ _ _ _) R_ownFrom) (ownFrom_below (Nat.le_refl _) hB0.size))
    (fun _ _ _ _ _ hs _ _ => hs)
    ⟨⟨b1, hr1⟩, hB0⟩
    (fun x a' W => ∃ Bx, Blk W Bx 31 [.int .i64 x.1.2.f0, .string x.1.2.f1, .int .i64 x.1.2.f2, .int .i64 x.1.2.f3] ∧ a' = { tmps := #[.slice A l.length c, undef, .slice none 0 0, .pointer (some ⟨w1.heap.size, 0, none⟩), undef, .pointer (some ⟨Bx, 0, none⟩), .slice A l.length c, .int .i64 l.length, .slice A1 m1 c1, .slice A l.length c, .func (.func 79) #[] #[.pointer (some ⟨w1.heap.size + 1, 0, none⟩)], .int .i64 x.1.1, entV x.1.2, undef, undef, undef, undef], defers := [] })
    (fun x a' s W W' row ⟨Bx, h2, h3⟩ hg hr => ⟨Bx, blk_ownFrom (β := Unit) W0.heap.size _ _ (fun _ => _) () W W' row h2 hg hr, h3⟩) ?assign ?body ?done ?stop
  case assign =>
    rintro y pre x W K ⟨⟨c0, hr⟩, hB⟩ hK
    have HR2 := Lib.hid hr
    clear hr
    gi_wp2
    exact hK _ _ ((KeepsOthers.alloc _ _).from _) ((Below.refl _ _).alloc hB.size _) ⟨⟨c0.alloc _, Kd.R_alloc HR2.out _⟩, hB.alloc hB.size _⟩ ⟨_, Blk.new W 31 [.int .i64 x.1.2.f0, .string x.1.2.f1, .int .i64 x.1.2.f2, .int .i64 x.1.2.f3], rfl⟩
  case body =>
    rintro y pre x a' W hy ⟨r, hr0⟩ ⟨⟨c0, hr⟩, hB⟩ ⟨Bx, cx, rfl⟩ hlt
    have hsz := HS.out x.1 x.2
    have hlen : (tidyAll n0 (pre.map Subtype.val)).length = n0.length := tidyAll_length _ _ (fun p hp => by obtain ⟨q, _, rfl⟩ := List.mem_map.1 hp; exact HS.out q.1 q.2) HN0.out
    have hstep : tidyAll n0 ((pre ++ [x]).map Subtype.val) = tidyStep (tidyAll n0 (pre.map Subtype.val)) x.1.2 := by simp [tidyAll]
    have hln : (tidyAll n0 (pre.map Subtype.val)).length ≤ 1000000 := by have := HN0.out; omega
    obtain ⟨cl, hcl⟩ : ∃ cl, tidyAll n0 (pre.map Subtype.val) = cl := ⟨_, rfl⟩
    rw [hcl] at hstep hr hln
    obtain ⟨⟨bb, q2⟩, hq, _⟩ := put_any cl x.1.2.f0 x.1.2.f1 x.1.2.f2 x.1.2.f3 hsz hln
    have hst : tidyStep cl x.1.2 = q2 := by unfold tidyStep; rw [hq]; rfl
    have d0 : W.cell? ⟨w1.heap.size, 0, none⟩ = some (.slice A1 m1 c1) := c0.cell 0
    have e0 : W.cell? ⟨Bx, 0, none⟩ = some (.int .i64 x.1.2.f0) := cx.cell 0
    have e1 : W.cell? ⟨Bx, 1, none⟩ = some (.string x.1.2.f1) := cx.cell 1
    have e2 : W.cell? ⟨Bx, 2, none⟩ = some (.int .i64 x.1.2.f2) := cx.cell 2
    have e3 : W.cell? ⟨Bx, 3, none⟩ = some (.int .i64 x.1.2.f3) := cx.cell 3
    have HR2 := Lib.hid hr
    have HQ := Lib.hid hq
    have HST := Lib.hid (hstep.trans hst)
    have hu := Try.underlying31
    clear hr hq hstep hst hcl hlen hln hsz
    gi_wp2_with (refine ⟨trivial, ?_⟩; gi_at_call 66; refine (CallsIn.inRound y (callsIn_wide.2 (flows_table_put.calls (fun k => some k = (Value.slice A1 m1 c1).ownBlock) (.slice A1 m1 c1) cl x.1.2.f0 x.1.2.f1 x.1.2.f2 x.1.2.f3 bb q2 w W hB ⟨fun k hk => hk.symm, (Kd.R_tight rfl HR2.out).2⟩ HQ.out))).mono ?_; rintro e w2 ⟨rfl, hr2, hb2, hk2⟩)
    have hlo : ∀ k, some k = (Value.slice A1 m1 c1).ownBlock → w.heap.size ≤ k ∧ ∃ cells, W.heap[k]? = some (.cells cells 31 (0, 0)) := fun k hk => by
      have := (Kd.R_bound HR2.out).1 k hk.symm
      exact ⟨this.2.1, Kd.R_typed HR2.out k hk.symm⟩
    have hbb : Below w.heap.size W w2 := ⟨hb2.os.trans hB.os.symm, hb2.tape.trans hB.tape.symm, hb2.output.trans hB.output.symm, hk2.1, fun k hk => hk2.2 k (Nat.lt_of_lt_of_le hk hB.size) (fun h => by have := (hlo k h).1; omega)⟩
    refine ⟨⟨hk2.1, fun k o hBk ho hc => (hk2.2 k (Array.getElem?_eq_some_iff.1 ho).1 (fun h => by
      obtain ⟨_, cells, h2⟩ := hlo k h
      rw [h2] at ho; cases ho; simp [Obj.isCells] at hc)).trans ho⟩, hbb, ⟨?_, by rw [HST.out]; exact Kd.R_mono hr2 (fun _ _ => trivial)⟩, hb2⟩
    exact (hk2.2 _ c0.lt (Kd.R_ne HR2.out (show W.heap[w1.heap.size]? = some (.cells #[.slice A1 m1 c1] 69 (0, 0)) from c0) (by decide))).trans c0
  case done =>
    rintro D ys W hD hys ⟨⟨c0, hr⟩, hB⟩ hK
    have d0 : W.cell? ⟨w1.heap.size, 0, none⟩ = some (.slice A1 m1 c1) := c0.cell 0
    have hys' : ys.map Subtype.val = liveL l := hys
    rw [hys'] at hr
    have HR2 := Lib.hid hr
    clear hys hys' hr
    gi_wp2
    refine ⟨by simp, .inl ⟨_, _, rfl, run_takeDeferred hK, ?_⟩⟩
    have hrf := R_ownFrom (β := Unit) (n := 0) (xs := fun _ => tidyAll n0 (liveL l)) () W _ _ HR2.out (grownBy_putObj' _ D (.deferred none)) (fun r e => by cases e; exact ⟨Nat.zero_le _, _, hK, rfl⟩)
    exact ⟨_, results_tmp rfl _ _ _, .slice A1 m1 c1, rfl, hrf, hB.trans (belowK_b (w := w) (Nat.le_refl _) W D _ _ (Nat.le_trans hB0.size hD) hK rfl rfl)⟩
  case stop =>
    rintro D c pre W _ _ h _
    exact h.elim

theorem new_length {a : Int} {n0 : List S31} (h : flows_New.f a = some n0) : n0.length ≤ 64 := by
  unfold flows_New.f at h
  have h64 : mx 0 (mn a 64) ≤ 64 := by unfold mx mn; split <;> (try split) <;> omega
  split at h
  · split at h
    · obtain rfl := Option.some.inj h
      rw [List.length_replicate]; omega
    · exact absurd h (by simp)
  · exact absurd h (by simp)
theorem flows_Tidy.calls (A0 : Option Addr) (c0 : Nat) (l0 : List S31) (r : List S31) (w : World) (hr0 : Kd.C k31 w A0 l0.length l0) (hc0 : l0.length ≤ c0) (h : flows_Tidy.f l0 = some r) :
    Calls Try.prog 41 #[.slice A0 l0.length c0] w fun e w' => ∃ v0_ : Value, e = .returned v0_ ∧ Kd.R k31 31 w' w.heap.size (fun _ => True) v0_ r ∧ Below w.heap.size w w' := by
  unfold flows_Tidy.f at h
  by_cases hl : l0.length ≤ 1000000
  · rw [if_pos hl] at h
    by_cases hs : ((liveL l0).all fun p => decide (p.2.f1.size ≤ 140737488351232)) = true
    · rw [if_pos hs] at h
      obtain ⟨n0, hn, h⟩ := Option.bind_eq_some_iff.mp h
      obtain rfl := Option.some.inj h
      exact Tidy_any A0 c0 l0 hl (fun p hp => by simpa using List.all_eq_true.1 hs p hp) n0 hn (by have := new_length hn; omega) w hr0
    · rw [if_neg hs] at h
      exact absurd h (by simp)
  · rw [if_neg hl] at h
    exact absurd h (by simp)
end

-- NOT PRINTED: function 68 (flows_Delete_1)

/-! ### flows_Delete: function 39 -/
section
open Go.Shelf Go.Proofs.Ythdkkmeiihbafaa.Hand
/-- An entry of which nothing is left but its place. -/
def tombE : S31 := ⟨2, ⟨#[]⟩, 0, 0⟩
set_option maxHeartbeats 4000000 in
theorem Delete1_no (l : List S31) (key : ByteArray) (j : Int) (hj : probe_Find.f l key = some j) (hneg : j < 0) (Bx : Nat) (w W : World) (v : Value) (hB : Below w.heap.size w W) (hR : Kd.R k31 31 W w.heap.size (fun _ => True) v l) (hx : Blk W Bx 9 [.string key]) :
    Calls Try.prog 68 #[v, .pointer (some ⟨Bx, 0, none⟩)] W fun e W' => e = .returned (.bool false) ∧ Kd.R k31 31 W' w.heap.size (fun _ => True) v l ∧ Below w.heap.size w W' := by
  have e0 : W.cell? ⟨Bx, 0, none⟩ = some (.string key) := hx.cell 0
  obtain ⟨A, c, rfl⟩ := Kd.R_slice hR
  have q0 : decide (j < 0) = true := decide_eq_true hneg
  have HR := Lib.hid hR
  have HB := Lib.hid hB
  have HJ := Lib.hid hj
  clear hR hB hx hj hneg
  go_enter Try.func68, Try.ntmps68
  go_wp2_with (go_at_call 25; refine (probe_Find.calls A c l key j W (Kd.R_reads' HR.out).2.2 (Kd.R_reads' HR.out).2.1 HJ.out).mono ?_; rintro e w1 ⟨rfl, hb⟩)
  go_ret
  exact ⟨rfl, Kd.R_below HR.out hb, HB.out.trans (hb.mono HB.out.size)⟩

set_option maxRecDepth 100000 in
set_option maxHeartbeats 4000000 in
theorem Delete1_yes (l : List S31) (key : ByteArray) (j : Int) (hj : probe_Find.f l key = some j) (h0 : 0 ≤ j) (h1 : j < l.length) (Bx : Nat) (w W : World) (v : Value) (hB : Below w.heap.size w W) (hR : Kd.R k31 31 W w.heap.size (fun _ => True) v l) (hx : Blk W Bx 9 [.string key]) :
    Calls Try.prog 68 #[v, .pointer (some ⟨Bx, 0, none⟩)] W fun e W' => e = .returned (.bool true) ∧ Kd.R k31 31 W' w.heap.size (fun _ => True) v (l.set j.toNat tombE) ∧ Below w.heap.size w W' := by
  have e0 : W.cell? ⟨Bx, 0, none⟩ = some (.string key) := hx.cell 0
  obtain ⟨g, c, rfl, hg, _, _⟩ := Kd.R_form hR (by omega)
  have q0 : decide (j < 0) = false := decide_eq_false (by omega)
  have p0 : decide (0 ≤ j) = true := decide_eq_true h0
  have p1 : decide (j < (l.length : Int)) = true := decide_eq_true h1
  have p2 := eq_true h0
  have p3 := eq_true h1
  have HR := Lib.hid hR
  have HB := Lib.hid hB
  have HJ := Lib.hid hj
  have H0 := Lib.hid h0
  have H1 := Lib.hid h1
  have HG := Lib.hid hg
  have hu := Try.underlying31
  clear hR hB hx hj h0 h1 hg
  go_enter Try.func68, Try.ntmps68
  go_wp2_with (first
    | (go_at_call 25; refine (probe_Find.calls _ c l key j W (Kd.R_reads' HR.out).2.2 (Kd.R_reads' HR.out).2.1 HJ.out).mono ?_; rintro e w1 ⟨rfl, hb⟩; have HR1 := Lib.hid (Kd.R_below HR.out hb); have HB1 := Lib.hid (HB.out.trans (hb.mono HB.out.size)); clear hb; obtain ⟨ce, hcl, hM, hcc, hfr⟩ := Kd.R_elem HR1.out z31 j H0.out H1.out; obtain rfl := k31_openM hM; have HP := Lib.hid (Kd.R_seg HR1.out j H0.out H1.out (seg := [.int .i64 2, .string ⟨#[]⟩, .int .i64 0, .int .i64 0]) (j := 0) hcl hcc (show 4 ≤ 4 from by decide) (x' := tombE) (k31_mkM _ _ _ tombE) (fun _ hk => hk)); have hx0 := hcc 0 _ rfl; have hx1 := hcc 1 _ rfl; have hx2 := hcc 2 _ rfl; have hx3 := hcc 3 _ rfl; have hf0 := hfr 0; have hf1 := hfr 1; have hf2 := hfr 2; have hf3 := hfr 3; (try simp only [show (k31).sz = 4 from rfl, Nat.mul_one, Nat.add_zero] at hx0 hx1 hx2 hx3 hf0 hf1 hf2 hf3); clear hcl hcc hfr hM)
    | ((with_reducible refine gate_store (t := 31) (p := 13) rfl ?_); refine store_event (t := 31) (p := 13) (v := ?vo) (w1 := ((((w1.setCell ⟨g, (j : Int).toNat * 4, none⟩ (.int .i64 2)).setCell ⟨g, (j : Int).toNat * 4 + 1, none⟩ (.string ⟨#[]⟩)).setCell ⟨g, (j : Int).toNat * 4 + 2, none⟩ (.int .i64 0)).setCell ⟨g, (j : Int).toNat * 4 + 3, none⟩ (.int .i64 0))) ?hg ?ho ?hn ?hr ?_; (case ho => rfl); (case hg => rfl); (case hn => rfl); (case hr => first | (go_simp; done) | (go_simp; rfl)); intro w2 hw; have HW := Lib.hid hw; clear hw))
  go_ret
  refine ⟨rfl, ?_, ?_⟩
  · rw [HW.out]; exact HP.out.1
  · rw [HW.out]; exact below_set (below_set (below_set (below_set HB1.out HG.out) HG.out) HG.out) HG.out
def flows_Delete.f (l0 : List S31) (a1 : ByteArray) : Option (List S31 × Bool) := if l0.length ≤ 1000000 then (probe_Find.f l0 a1).bind fun j => (if 0 ≤ j then (if j < (l0.length : Int) then (probe_Count.f (l0.set j.toNat tombE) 2).bind fun t => (if wrap64 (2 * t) > (l0.length : Int) then (flows_Tidy.f (l0.set j.toNat tombE)).bind fun u => some (u, true) else some (l0.set j.toNat tombE, true)) else none) else some (l0, false)) else none

set_option maxRecDepth 100000 in
set_option maxHeartbeats 4000000 in
theorem flows_Delete.calls (P0_ : Nat → Prop) (A0 : Option Addr) (c0 : Nat) (l0 : List S31) (a1 : ByteArray) (r1 : List S31) (r2 : Bool) (w : World) (hs0 : Kd.V k31 31 w w.heap.size (fun k_ => P0_ k_) (.slice A0 l0.length c0) l0) (h : flows_Delete.f l0 a1 = some (r1, r2)) :
    Calls Try.prog 39 #[.slice A0 l0.length c0, .string a1] w fun e w' => ∃ v0_ : Value, e = .returned (.tuple #[v0_, .bool r2]) ∧ Kd.V k31 31 w' w.heap.size (fun k_ => (P0_ k_ ∨ w.heap.size ≤ k_)) v0_ r1 ∧ Below w.heap.size w w' := by
  unfold flows_Delete.f at h
  by_cases hl : l0.length ≤ 1000000
  · rw [if_pos hl] at h
    obtain ⟨j, hj, h⟩ := Option.bind_eq_some_iff.mp h
    obtain ⟨_, hcap, hC⟩ := Kd.V_reads' hs0
    have hx := Blk.new w 9 [.string a1]
    have hb0 : Below w.heap.size w (w.alloc (.cells #[.string a1] 9)) := (Below.refl _ w).alloc (Nat.le_refl _) _
    have eg := enters_of Try.func68 (by kernel_rfl) rfl
    have HS := Lib.hid hs0
    have HJ := Lib.hid hj
    have HX := Lib.hid hx
    clear hs0 hj hx
    by_cases h0 : 0 ≤ j
    · rw [if_pos h0] at h
      by_cases h1 : j < (l0.length : Int)
      · rw [if_pos h1] at h
        obtain ⟨t, ht, h⟩ := Option.bind_eq_some_iff.mp h
        obtain ⟨u, hu⟩ : ∃ u, l0.set j.toNat tombE = u := ⟨_, rfl⟩
        have hul : u.length = l0.length := by rw [← hu]; simp
        rw [hu] at ht h
        have HU := Lib.hid hu
        have HUL := Lib.hid hul
        have HT := Lib.hid ht
        have H0 := Lib.hid h0
        have H1 := Lib.hid h1
        clear hu hul ht h0 h1
        by_cases hc : wrap64 (2 * t) > (l0.length : Int)
        · rw [if_pos hc] at h
          obtain ⟨z, hz, h⟩ := Option.bind_eq_some_iff.mp h
          obtain ⟨rfl, rfl⟩ : z = r1 ∧ true = r2 := by simpa using h
          have HZ := Lib.hid hz
          have q0 : decide ((l0.length : Int) < wrap64 (2 * t)) = true := decide_eq_true hc
          have q1 : (u.length : Int) = (l0.length : Int) := by rw [HUL.out]
          clear h hz hc
          go_enter Try.func39, Try.ntmps39
          go_wp2_with (first
            | (go_at_call 64; refine (changed_any 68 eg _ true A0 c0 l0 u hl hcap _ (Kd.C_alloc hC _) (fun v W hB hR => by rw [← HU.out]; exact Delete1_yes l0 a1 j HJ.out H0.out H1.out w.heap.size _ W v hB hR (HX.out.below hB))).mono ?_; rintro e w1 ⟨v, rfl, hr1, hr2, hb⟩; obtain ⟨A1, c1, rfl⟩ := Kd.R_slice (hr1 rfl); have HR1 := Lib.hid (hr1 rfl); have HB := Lib.hid hb; clear hr1 hr2 hb)
            | (go_at_call 31; refine (probe_Count.calls A1 c1 u 2 t _ (Kd.R_reads' HR1.out).2.2 (Kd.R_reads' HR1.out).2.1 HT.out).mono ?_; rintro e w2 ⟨rfl, hb2⟩; have HB2 := Lib.hid hb2; have HR2 := Lib.hid (Kd.R_below HR1.out hb2); clear hb2)
            | (go_at_call 41; refine (flows_Tidy.calls A1 c1 u _ _ (Kd.R_reads' HR2.out).2.2 (Kd.R_reads' HR2.out).2.1 HZ.out).mono ?_; rintro e w3 ⟨v3, rfl, hr3, hb3⟩; have HB3 := Lib.hid hb3; have HR3 := Lib.hid hr3; clear hb3 hr3))
          go_ret2
          have hB1 : Below w.heap.size w w1 := hb0.trans (HB.out.mono (by simp))
          have hB2 : Below w.heap.size w w2 := hB1.trans (HB2.out.mono hB1.size)
          have hB3 : Below w.heap.size w w3 := hB2.trans (HB3.out.mono hB2.size)
          refine ⟨_, rfl, ?_, hB3⟩
          exact Kd.V_mono (Kd.R_V (base' := w.heap.size) (Kd.R_bound HR3.out)) (fun k hk => .inr (Nat.le_trans hB2.size hk.2.1))
        · rw [if_neg hc] at h
          obtain ⟨rfl, rfl⟩ : u = r1 ∧ true = r2 := by simpa using h
          have q0 : decide ((l0.length : Int) < wrap64 (2 * t)) = false := decide_eq_false hc
          have q1 : (u.length : Int) = (l0.length : Int) := by rw [HUL.out]
          clear h hc
          go_enter Try.func39, Try.ntmps39
          go_wp2_with (first
            | (go_at_call 64; refine (changed_any 68 eg _ true A0 c0 l0 u hl hcap _ (Kd.C_alloc hC _) (fun v W hB hR => by rw [← HU.out]; exact Delete1_yes l0 a1 j HJ.out H0.out H1.out w.heap.size _ W v hB hR (HX.out.below hB))).mono ?_; rintro e w1 ⟨v, rfl, hr1, hr2, hb⟩; obtain ⟨A1, c1, rfl⟩ := Kd.R_slice (hr1 rfl); have HR1 := Lib.hid (hr1 rfl); have HB := Lib.hid hb; clear hr1 hr2 hb)
            | (go_at_call 31; refine (probe_Count.calls A1 c1 u 2 t _ (Kd.R_reads' HR1.out).2.2 (Kd.R_reads' HR1.out).2.1 HT.out).mono ?_; rintro e w2 ⟨rfl, hb2⟩; have HB2 := Lib.hid hb2; have HR2 := Lib.hid (Kd.R_below HR1.out hb2); clear hb2))
          go_ret2
          have hB1 : Below w.heap.size w w1 := hb0.trans (HB.out.mono (by simp))
          have hB2 : Below w.heap.size w w2 := hB1.trans (HB2.out.mono hB1.size)
          refine ⟨_, rfl, ?_, hB2⟩
          exact Kd.V_mono (Kd.R_V (base' := w.heap.size) (Kd.R_bound HR2.out)) (fun k hk => .inr (Nat.le_trans (by simp) hk.2.1))
      · rw [if_neg h1] at h
        exact absurd h (by simp)
    · rw [if_neg h0] at h
      obtain ⟨rfl, rfl⟩ : l0 = r1 ∧ false = r2 := by simpa using h
      clear h
      go_enter Try.func39, Try.ntmps39
      go_wp2_with (go_at_call 64; refine (changed_any 68 eg _ false A0 c0 l0 l0 hl hcap _ (Kd.C_alloc hC _) (fun v W hB hR => Delete1_no l0 a1 j HJ.out (by omega) w.heap.size _ W v hB hR (HX.out.below hB))).mono ?_; rintro e w1 ⟨v, rfl, hr1, hr2, hb⟩; obtain rfl := hr2 rfl; have HB := Lib.hid hb; clear hr1 hr2 hb)
      go_ret2
      have hB1 : Below w.heap.size w w1 := hb0.trans (HB.out.mono (by simp))
      exact ⟨_, rfl, Kd.V_mono (Kd.V_below HS.out hB1) (fun k hk => .inl hk), hB1⟩
  · rw [if_neg hl] at h
    exact absurd h (by simp)
end

/-! ### gangplankref12_Texts: function 45 -/
def gangplankref12_Texts.l0 : Nat → List ByteArray → List ByteArray → Int → Option (Bool)
  | 0, _, _, _ => none
  | k + 1, x0, x1, x5 => if x5 < (x0.length : Int) then (if 0 ≤ x5 then (if x5 < (x1.length : Int) then (if (rdOf ByteArray.empty x0 x5).toList = (rdOf ByteArray.empty x1 x5).toList then (gangplankref12_Texts.l0 k x0 x1 (wrap64 (x5 + 1))) else (some false)) else (none)) else (none)) else (some true)
def gangplankref12_Texts.f (k : Nat) (l0 : List ByteArray) (l1 : List ByteArray) : Option (Bool) := if (l0.length : Int) = (l1.length : Int) then (gangplankref12_Texts.l0 k l0 l1 0) else (some false)
theorem gangplankref12_Texts.mono_l : ∀ k, (∀ y0 y1 y2, LeO (gangplankref12_Texts.l0 k y0 y1 y2) (gangplankref12_Texts.l0 (k + 1) y0 y1 y2))
  | 0 => fun _ _ _ r h => by simp [gangplankref12_Texts.l0] at h
  | k + 1 => by
    have ih0 := gangplankref12_Texts.mono_l k
    · intro y0 y1 y2
      unfold gangplankref12_Texts.l0
      repeat' first
      | (with_reducible exact ih0 _ _ _)
      | (with_reducible exact LeO.refl _)
      | (with_reducible exact LeO.none _)
      | (with_reducible refine LeO.ite ?_ ?_)
      | (with_reducible refine LeO.bind ?_ (fun _ => ?_))
      | exact ih0 _ _ _
      | exact LeO.none _
      | refine LeO.ite ?_ ?_
      | refine LeO.bind ?_ (fun _ => ?_)
theorem gangplankref12_Texts.mono : ∀ a0 a1 k, LeO (gangplankref12_Texts.f k a0 a1) (gangplankref12_Texts.f (k + 1) a0 a1) := by
  intro a0 a1 k
  have ih0 := gangplankref12_Texts.mono_l k
  unfold gangplankref12_Texts.f
  repeat' first
      | (with_reducible exact ih0 _ _ _)
      | (with_reducible exact LeO.refl _)
      | (with_reducible exact LeO.none _)
      | (with_reducible refine LeO.ite ?_ ?_)
      | (with_reducible refine LeO.bind ?_ (fun _ => ?_))
      | exact ih0 _ _ _
      | exact LeO.none _
      | refine LeO.ite ?_ ?_
      | refine LeO.bind ?_ (fun _ => ?_)
set_option maxHeartbeats 8000000 in
set_option maxRecDepth 100000 in
theorem gangplankref12_Texts.calls (k : Nat) (A0 : Option Addr) (c0 : Nat) (l0 : List ByteArray) (A1 : Option Addr) (c1 : Nat) (l1 : List ByteArray) (r : Bool) (w : World) (hr0 : Kd.C Kd.string w A0 l0.length l0) (hc0 : l0.length ≤ c0) (hr1 : Kd.C Kd.string w A1 l1.length l1) (hc1 : l1.length ≤ c1) (h : gangplankref12_Texts.f k l0 l1 = some r) :
    Calls Try.prog 45 #[.slice A0 l0.length c0, .slice A1 l1.length c1] w fun e w' => e = .returned (.bool r) ∧ Drawn0 w w' := by
  have HR0 := Aside0.mk hr0
  have HC0 := Aside0.mk hc0
  clear hr0 hc0
  have HR1 := Aside0.mk hr1
  have HC1 := Aside0.mk hc1
  clear hr1 hc1
  have H : (if (l0.length : Int) = (l1.length : Int) then (gangplankref12_Texts.l0 k l0 l1 0) else (some false)) = some r := h
  clear h
  by_cases c3 : (l0.length : Int) = (l1.length : Int)
  · rw [if_pos c3] at H
    have c3b0 : ((l0.length : Int) == (l1.length : Int)) = true := beq_iff_eq.mpr c3
    have c3b1 : ((l0.length : Int) != (l1.length : Int)) = false := bne_eq_false_iff_eq.mpr c3
    have c3b2 : (l0.length == l1.length) = true := by first | simpa using c3 | (simp at c3 ⊢; omega)
    clear c3
    have H' := Aside0.mk H
    clear H
    go_enter Try.func45, Try.ntmps45
    go_wp2
    repeat (go_quiet (fail); try go_wp2)
    go_loopg [5] k (fun kq v5 w' => ∃ (x5_1 : Int), v5 = .int .i64 x5_1 ∧ Aside0 (gangplankref12_Texts.l0 kq l0 l1 x5_1 = some r) ∧ Aside0 (kq ≤ k) ∧ Drawn0 w w')
    case atStart => exact ⟨(0), (by first | rfl | (simp; done) | (simp [*]; done)), H', ⟨Nat.le_refl _⟩, by repeat (first | exact Drawn0.refl _ | apply Drawn0.step)⟩
    case round =>
      clear H'
      try clear c1
      try clear p2
      try clear c3
      try clear c3b0
      try clear c3b1
      try clear c3b2
      obtain ⟨x5_1, rfl, HA, HK1, ⟨m1, rfl⟩⟩ := hrel
      cases gk with
      | zero => exact absurd HA.out (by simp [gangplankref12_Texts.l0])
      | succ k1 =>
        have H := HA.out
        clear HA
        simp only [gangplankref12_Texts.l0] at H
        by_cases c4 : x5_1 < (l0.length : Int)
        · rw [if_pos c4] at H
          have c4b0 : decide (x5_1 < (l0.length : Int)) = true := decide_eq_true c4
          clear c4
          by_cases c5 : 0 ≤ x5_1
          · rw [if_pos c5] at H
            have c5b0 : decide (0 ≤ x5_1) = true := decide_eq_true c5
            clear c5
            by_cases c6 : x5_1 < (l1.length : Int)
            · rw [if_pos c6] at H
              have c6b0 : decide (x5_1 < (l1.length : Int)) = true := decide_eq_true c6
              clear c6
              by_cases c7 : (rdOf ByteArray.empty l0 x5_1).toList = (rdOf ByteArray.empty l1 x5_1).toList
              · rw [if_pos c7] at H
                have c7b0 : ((rdOf ByteArray.empty l0 x5_1).toList == (rdOf ByteArray.empty l1 x5_1).toList) = true := beq_iff_eq.mpr c7
                have c7b1 : ((rdOf ByteArray.empty l0 x5_1).toList != (rdOf ByteArray.empty l1 x5_1).toList) = false := bne_eq_false_iff_eq.mpr c7
                clear c7
                have H' := Aside0.mk H
                clear H
                have p113 : 0 ≤ (x5_1 : Int) := of_decide_eq_true (by first | (with_reducible assumption) | assumption)
                have q113 : x5_1 < (l0.length : Int) := of_decide_eq_true (by first | (with_reducible assumption) | assumption)
                obtain ⟨ad113, e113, hx113_0⟩ := Kd.at_string HR0.out x5_1 p113 q113
                cases e113
                replace p113 := eq_true p113
                replace q113 := eq_true q113
                have p114 : 0 ≤ (x5_1 : Int) := of_decide_eq_true (by first | (with_reducible assumption) | assumption)
                have q114 : x5_1 < (l1.length : Int) := of_decide_eq_true (by first | (with_reducible assumption) | assumption)
                obtain ⟨ad114, e114, hx114_0⟩ := Kd.at_string HR1.out x5_1 p114 q114
                cases e114
                replace p114 := eq_true p114
                replace q114 := eq_true q114
                go_wp2
                repeat (go_quiet (fail); try go_wp2)
                go_roundg k1
                case measure => have := HK1.out; omega
                case rel => exact ⟨(wrap64 (x5_1 + 1)), (by first | rfl | (simp; done) | (simp [*]; done)), H', ⟨by have := HK1.out; omega⟩, by repeat (first | exact Drawn0.refl _ | apply Drawn0.step)⟩
              · rw [if_neg c7] at H
                have c7b0 : ((rdOf ByteArray.empty l0 x5_1).toList == (rdOf ByteArray.empty l1 x5_1).toList) = false := beq_eq_false_iff_ne.mpr c7
                have c7b1 : ((rdOf ByteArray.empty l0 x5_1).toList != (rdOf ByteArray.empty l1 x5_1).toList) = true := bne_iff_ne.mpr c7
                obtain rfl := Option.some.inj H
                have p113 : 0 ≤ (x5_1 : Int) := of_decide_eq_true (by first | (with_reducible assumption) | assumption)
                have q113 : x5_1 < (l0.length : Int) := of_decide_eq_true (by first | (with_reducible assumption) | assumption)
                obtain ⟨ad113, e113, hx113_0⟩ := Kd.at_string HR0.out x5_1 p113 q113
                cases e113
                replace p113 := eq_true p113
                replace q113 := eq_true q113
                have p114 : 0 ≤ (x5_1 : Int) := of_decide_eq_true (by first | (with_reducible assumption) | assumption)
                have q114 : x5_1 < (l1.length : Int) := of_decide_eq_true (by first | (with_reducible assumption) | assumption)
                obtain ⟨ad114, e114, hx114_0⟩ := Kd.at_string HR1.out x5_1 p114 q114
                cases e114
                replace p114 := eq_true p114
                replace q114 := eq_true q114
                go_wp2
                repeat (go_quiet (fail); try go_wp2)
                go_ret
                exact ⟨by first | rfl | (simp; done) | (simp [*]; done), by repeat (first | exact Drawn0.refl _ | apply Drawn0.step)⟩
            · rw [if_neg c6] at H
              exact absurd H (by simp)
          · rw [if_neg c5] at H
            exact absurd H (by simp)
        · rw [if_neg c4] at H
          have c4b0 : decide (x5_1 < (l0.length : Int)) = false := decide_eq_false c4
          clear c4
          obtain rfl := Option.some.inj H
          go_wp2
          repeat (go_quiet (fail); try go_wp2)
          go_ret
          exact ⟨by first | rfl | (simp; done) | (simp [*]; done), by repeat (first | exact Drawn0.refl _ | apply Drawn0.step)⟩
  · rw [if_neg c3] at H
    have c3b0 : ((l0.length : Int) == (l1.length : Int)) = false := beq_eq_false_iff_ne.mpr c3
    have c3b1 : ((l0.length : Int) != (l1.length : Int)) = true := bne_iff_ne.mpr c3
    have c3b2 : (l0.length == l1.length) = false := by first | simpa using c3 | (simp at c3 ⊢; omega)
    obtain rfl := Option.some.inj H
    go_enter Try.func45, Try.ntmps45
    go_wp2
    repeat (go_quiet (fail); try go_wp2)
    go_ret
    exact ⟨by first | rfl | (simp; done) | (simp [*]; done), by repeat (first | exact Drawn0.refl _ | apply Drawn0.step)⟩

/-! ### flows_Keys: function 46 -/
section
open Go.Shelf Go.Proofs.Ythdkkmeiihbafaa.Hand
attribute [local go_sem] Oper.semAt_some
def flows_Keys.f (l0 : List S31) : Option (List ByteArray) := if l0.length ≤ 1000000 then some ((liveL l0).map fun p => p.2.f1) else none
theorem infoKeys : (Try.prog.info? 9).map (fun i => (i.zero, i.size, i.bytes)) = some (some (.string ⟨#[]⟩), 1, 16) := by kernel_rfl
def keysOf {l : List S31} (pre : List (LiveP l)) : List Value := pre.map fun p => Value.string p.1.2.f1

set_option maxRecDepth 100000 in
set_option maxHeartbeats 8000000 in
theorem Keys_any (A : Option Addr) (c : Nat) (l : List S31) (hl : l.length ≤ 1000000) (w : World) (hC : Kd.C k31 w A l.length l) :
    Calls Try.prog 46 #[.slice A l.length c] w fun e W' => ∃ v, e = .returned v ∧ Kd.R Kd.string 9 W' w.heap.size (fun _ => True) v ((liveL l).map fun p => p.2.f1) ∧ Below w.heap.size w W' := by
  refine (callsIn_wide (n := 6)).1 ?_
  have hro : Fence.wide.round = none := rfl
  obtain ⟨i0, hi, hz0, hz1, hz2⟩ := info_parts infoKeys
  refine callsIn_of_wp_marks Try.func46 rfl trivial ?_ hro
  simp only [Try.ntmps46, List.size_toArray, List.length_cons, List.length_nil, Nat.reduceAdd, Nat.reduceSub, Array.replicate_succ, Array.replicate_zero, List.push_toArray, List.append_toArray, List.nil_append, List.cons_append]
  gi_wp2_with (refine ⟨trivial, ?_⟩; gi_at_call 71; refine (callsIn_wide.2 (live_any _ _ _ _)).mono ?_; rintro e w' ⟨rfl, rfl⟩)
  have b0 := Boxed.new w 46 (.slice none 0 0)
  have b2 := Blk.new (w.alloc (.cells #[.slice none 0 0] 46)) 69 [.slice A l.length c]
  have hB0 : Below w.heap.size w ((w.alloc (.cells #[.slice none 0 0] 46)).alloc (.cells #[.slice A l.length c] 69)) := ((Below.refl _ w).alloc (Nat.le_refl _) _).alloc (by simp) _
  replace b0 := b0.alloc (.cells #[.slice A l.length c] 69)
  simp only [World.size_alloc] at b0 b2
  obtain ⟨W0, hW0⟩ : ∃ W0, ((w.alloc (.cells #[.slice none 0 0] 46)).alloc (.cells #[.slice A l.length c] 69)) = W0 := ⟨_, rfl⟩
  rw [hW0] at hB0 ⊢
  replace b0 : Boxed W0 w.heap.size 46 (.slice none 0 0) := by rw [← hW0]; exact b0
  replace b2 : Blk W0 (w.heap.size + 1) 69 [.slice A l.length c] := by rw [← hW0]; exact b2
  clear hW0
  refine wpIn_rangeFunc_ownH hro (by omega) (gf := 79) (lb := #[.pointer (some ⟨w.heap.size + 1, 0, none⟩)]) rfl trivial (enters_of Try.func79 (by kernel_rfl) rfl)
    (live_stops (6 - 1) (by omega) (w.heap.size + 1) w.heap.size A c l hl w W0 rfl hC hB0 b2.lt (by rw [b2.cell]; rfl)) (fun h k => h.trans k) (fun W L o o' hL h1 h2 h3 => belowK_b (w := W0) hB0.size W L o o' hL h1 h2 h3) (Below.refl _ _) (fun _ => rfl)
    (fun pre W => (∃ v, Boxed W w.heap.size 46 v ∧ W.ownsRow w.heap.size 9 1 v (keysOf pre).length (keysOf pre) ∧ True) ∧ Below w.heap.size w W)
    (fun _ _ _ => False)
    (OwnFrom.and (Own.from (holdsRow_own w.heap.size w.heap.size 46 9 1 (fun pre => (keysOf pre).length) (fun pre => keysOf pre) (fun pre v => True)) _) (ownFrom_below (Nat.le_refl _) hB0.size))
    (fun _ _ _ _ _ hs _ _ => hs)
    ⟨⟨_, b0, World.ownsRow_nil _ _ _ _, trivial⟩, hB0⟩
    (fun x a' W => ∃ Bx, Blk W Bx 31 [.int .i64 x.1.2.f0, .string x.1.2.f1, .int .i64 x.1.2.f2, .int .i64 x.1.2.f3] ∧ a' = { tmps := #[.slice A l.length c, undef, .slice none 0 0, .pointer (some ⟨w.heap.size, 0, none⟩), undef, .pointer (some ⟨Bx, 0, none⟩), .slice A l.length c, .func (.func 79) #[] #[.pointer (some ⟨w.heap.size + 1, 0, none⟩)], .int .i64 x.1.1, entV x.1.2, undef, undef, undef, undef, undef, undef], defers := [] })
    (fun x a' s W W' row ⟨Bx, h2, h3⟩ hg hr => ⟨Bx, blk_ownFrom (β := Unit) W0.heap.size _ _ (fun _ => _) () W W' row h2 hg hr, h3⟩) ?assign ?body ?done ?stop
  case assign =>
    rintro y pre x W K ⟨⟨v, hv, hrow, _⟩, hB⟩ hK
    gi_wp2
    exact hK _ _ ((KeepsOthers.alloc _ _).from _) ((Below.refl _ _).alloc hB.size _) ⟨⟨v, hv.alloc _, hrow.alloc _, trivial⟩, hB.alloc hB.size _⟩ ⟨_, Blk.new W 31 [.int .i64 x.1.2.f0, .string x.1.2.f1, .int .i64 x.1.2.f2, .int .i64 x.1.2.f3], rfl⟩
  case body =>
    rintro y pre x a' W hy ⟨r, hr⟩ ⟨⟨v, hv, hrow, _⟩, hB⟩ ⟨Bx, cx, rfl⟩ hlt
    have hc := hv.cell
    have e1 : W.cell? ⟨Bx, 1, none⟩ = some (.string x.1.2.f1) := cx.cell 1
    have hpl : (keysOf pre).length = pre.length := by simp [keysOf]
    have hmx : (1000000 : Nat) < maxLen := by decide
    have HPL := Lib.hid hpl
    clear hpl
    gi_wp2_with (gi_at_builtin; refine wpListIn_append_own _ rfl _ _ 46 rfl w.heap.size 9 i0 (.string ⟨#[]⟩) 1 16 Try.underlying46 hi hz0 hz1 hz2 rfl (by decide) _ _ _ rfl (hrow.alloc _) ⟨W.heap.size, 0, none⟩ 1 1 [.string x.1.2.f1] rfl rfl (cell_one_new _ _ _) (by simp [Value.oneCell']) (by have := HPL.out; omega) (by have := HPL.out; omega) (by have := hB.size; simp; omega) ?_; intro v' w1 hown' hgrow _; obtain ⟨g', cap', rfl⟩ := ownsRow_succ hown'; obtain ⟨hv1, hv2, hr2, hk2, hb2⟩ := hv.appended (by decide) hrow hB.size (Nat.le_refl _) hown' hgrow; have hc1 := hv1.cell; have hf1 := hv1.frozen)
    have ek : keysOf (pre ++ [x]) = keysOf pre ++ [.string x.1.2.f1] := by simp [keysOf]
    exact ⟨hk2.from _, hb2, ⟨_, hv2, by rw [ek]; simpa using hr2, trivial⟩, hB.trans hb2⟩
  case done =>
    rintro D ys W hD hys ⟨⟨v, hv, hrow, _⟩, hB⟩ hK
    have HY := Lib.hid hys
    clear hys
    have hc := hv.cell
    gi_wp2
    refine ⟨by simp, .inl ⟨_, _, rfl, run_takeDeferred hK, ?_⟩⟩
    have ek : keysOf ys = encs Value.string ((liveL l).map fun p => p.2.f1) := by
      rw [← HY.out]; simp [keysOf, encs, Function.comp_def]
    have hr2 := ownsRow_putObj hrow (.deferred none) hK rfl
    rw [ek] at hr2
    refine ⟨_, results_tmp rfl _ _ _, v, rfl, Kd.R_of_own (by rw [encs_length] at hr2; exact hr2) (fun _ _ => trivial), hB.trans (belowK_b (w := w) (Nat.le_refl _) W D _ _ (Nat.le_trans hB0.size hD) hK rfl rfl)⟩
  case stop =>
    rintro D c pre W _ _ h _
    exact h.elim

theorem flows_Keys.calls (A0 : Option Addr) (c0 : Nat) (l0 : List S31) (r : List ByteArray) (w : World) (hr0 : Kd.C k31 w A0 l0.length l0) (hc0 : l0.length ≤ c0) (h : flows_Keys.f l0 = some r) :
    Calls Try.prog 46 #[.slice A0 l0.length c0] w fun e w' => ∃ v0_ : Value, e = .returned v0_ ∧ Kd.R Kd.string 9 w' w.heap.size (fun _ => True) v0_ r ∧ Below w.heap.size w w' := by
  unfold flows_Keys.f at h
  by_cases hl : l0.length ≤ 1000000
  · rw [if_pos hl] at h
    obtain rfl := Option.some.inj h
    exact Keys_any A0 c0 l0 hl w hr0
  · rw [if_neg hl] at h
    exact absurd h (by simp)
end

/-! ### flows_Right: function 49 -/
section
open Go.Shelf Go.Proofs.Ythdkkmeiihbafaa.Hand
attribute [local go_sem] Oper.semAt_some
def flows_Right.f (l0 : List S31) : Option Bool :=
  if l0.length ≤ 1000000 then (if ((liveL l0).all fun p => (probe_Find.f l0 p.2.f1).isSome) = true then some ((liveL l0).all fun p => probe_Find.f l0 p.2.f1 == some p.1) else none) else none

set_option maxRecDepth 100000 in
set_option maxHeartbeats 8000000 in
theorem Right_any (A : Option Addr) (c : Nat) (l : List S31) (hcap : l.length ≤ c) (hl : l.length ≤ 1000000) (hf : ∀ p ∈ liveL l, ∃ j, probe_Find.f l p.2.f1 = some j) (w : World) (hC : Kd.C k31 w A l.length l) :
    Calls Try.prog 49 #[.slice A l.length c] w fun e W' => e = .returned (.bool ((liveL l).all fun p => probe_Find.f l p.2.f1 == some p.1)) ∧ Below w.heap.size w W' := by
  refine (callsIn_wide (n := 6)).1 ?_
  have hro : Fence.wide.round = none := rfl
  refine callsIn_of_wp_marks Try.func49 rfl trivial ?_ hro
  simp only [Try.ntmps49, List.size_toArray, List.length_cons, List.length_nil, Nat.reduceAdd, Nat.reduceSub, Array.replicate_succ, Array.replicate_zero, List.push_toArray, List.append_toArray, List.nil_append, List.cons_append]
  have HF := Lib.hid hf
  clear hf
  have b0 := Blk.new w 22 [.slice A l.length c]
  have b1 := Blk.new (w.alloc (.cells #[.slice A l.length c] 22)) 4 [.bool false]
  replace b0 := b0.alloc (.cells #[.bool false] 4)
  have g0 := b0.cell 0
  gi_wp2_with (refine ⟨trivial, ?_⟩; gi_at_call 71; refine (callsIn_wide.2 (live_any _ _ _ _)).mono ?_; rintro e w' ⟨rfl, rfl⟩)
  have b2 := Blk.new ((w.alloc (.cells #[.slice A l.length c] 22)).alloc (.cells #[.bool false] 4)) 69 [.slice A l.length c]
  have hB0 : Below w.heap.size w (((w.alloc (.cells #[.slice A l.length c] 22)).alloc (.cells #[.bool false] 4)).alloc (.cells #[.slice A l.length c] 69)) := (((Below.refl _ w).alloc (Nat.le_refl _) _).alloc (by simp) _).alloc (by simp; omega) _
  replace b0 := b0.alloc (.cells #[.slice A l.length c] 69)
  replace b1 := b1.alloc (.cells #[.slice A l.length c] 69)
  simp only [World.size_alloc] at b0 b1 b2
  clear g0
  obtain ⟨W0, hW0⟩ : ∃ W0, (((w.alloc (.cells #[.slice A l.length c] 22)).alloc (.cells #[.bool false] 4)).alloc (.cells #[.slice A l.length c] 69)) = W0 := ⟨_, rfl⟩
  rw [hW0] at hB0 ⊢
  replace b0 : Blk W0 w.heap.size 22 [.slice A l.length c] := by rw [← hW0]; exact b0
  replace b1 : Blk W0 (w.heap.size + 1) 4 [.bool false] := by rw [← hW0]; exact b1
  replace b2 : Blk W0 (w.heap.size + 1 + 1) 69 [.slice A l.length c] := by rw [← hW0]; exact b2
  clear hW0
  refine wpIn_rangeFunc_ownH hro (by omega) (gf := 79) (lb := #[.pointer (some ⟨w.heap.size + 1 + 1, 0, none⟩)]) rfl trivial (enters_of Try.func79 (by kernel_rfl) rfl)
    (live_stops (6 - 1) (by omega) (w.heap.size + 1 + 1) w.heap.size A c l hl w W0 rfl hC hB0 b2.lt (by rw [b2.cell]; rfl)) (fun h k => h.trans k) (fun W L o o' hL h1 h2 h3 => belowK_b (w := W0) hB0.size W L o o' hL h1 h2 h3) (Below.refl _ _) (fun _ => rfl)
    (fun pre W => (Blk W w.heap.size 22 [.slice A l.length c] ∧ Blk W (w.heap.size + 1) 4 [.bool false]) ∧ Below w.heap.size w W ∧ ∀ p ∈ pre, probe_Find.f l p.1.2.f1 = some p.1.1)
    (fun c pre W => (c = .ret ∧ ∃ (ini : List (LiveP l)) (last : LiveP l), pre = ini ++ [last] ∧ ¬ probe_Find.f l last.1.2.f1 = some last.1.1 ∧ Blk W (w.heap.size + 1) 4 [.bool false]) ∧ Below w.heap.size w W)
    ((OwnFrom.and (blk_ownFrom _ _ _ _) (blk_ownFrom _ _ _ _)).and ((ownFrom_below (Nat.le_refl _) hB0.size).and (OwnFrom.pure _)))
    (fun c => OwnFrom.and (fun s W W' row ⟨h1, ini, last, h2, h4, h5⟩ hg hr => ⟨h1, ini, last, h2, h4, blk_ownFrom (β := Unit) W0.heap.size _ _ (fun _ => _) () W W' row h5 hg hr⟩) (ownFrom_below (Nat.le_refl _) hB0.size))
    ⟨⟨b0, b1⟩, hB0, by simp⟩
    (fun x a' W => ∃ Bx, w.heap.size + 1 < Bx ∧ Blk W Bx 31 [.int .i64 x.1.2.f0, .string x.1.2.f1, .int .i64 x.1.2.f2, .int .i64 x.1.2.f3] ∧ a' = { tmps := #[.slice A l.length c, .pointer (some ⟨w.heap.size, 0, none⟩), .pointer (some ⟨w.heap.size + 1, 0, none⟩), .int .i64 x.1.1, .pointer (some ⟨Bx, 0, none⟩), .slice A l.length c, .func (.func 79) #[] #[.pointer (some ⟨w.heap.size + 1 + 1, 0, none⟩)], .int .i64 x.1.1, entV x.1.2, undef, undef, undef, undef, undef, undef], defers := [] })
    (fun x a' s W W' row ⟨Bx, h1, h2, h3⟩ hg hr => ⟨Bx, h1, blk_ownFrom (β := Unit) W0.heap.size _ _ (fun _ => _) () W W' row h2 hg hr, h3⟩) ?assign ?body ?done ?stop
  case assign =>
    rintro y pre x W K ⟨⟨c0, c1⟩, hB, hp⟩ hK
    gi_wp2
    exact hK _ _ ((KeepsOthers.alloc _ _).from _) ((Below.refl _ _).alloc hB.size _) ⟨⟨c0.alloc _, c1.alloc _⟩, hB.alloc hB.size _, hp⟩ ⟨_, c1.lt, Blk.new W 31 [.int .i64 x.1.2.f0, .string x.1.2.f1, .int .i64 x.1.2.f2, .int .i64 x.1.2.f3], rfl⟩
  case body =>
    rintro y pre x a' W hy ⟨r, hr⟩ ⟨⟨c0, c1⟩, hB, hp⟩ ⟨Bx, hBx, cx, rfl⟩ hlt
    obtain ⟨j, hj⟩ := HF.out x.1 x.2
    have d0 : W.cell? ⟨w.heap.size, 0, none⟩ = some (.slice A l.length c) := c0.cell 0
    have e1 : W.cell? ⟨Bx, 1, none⟩ = some (.string x.1.2.f1) := cx.cell 1
    have hCW := Kd.C_below hC hB
    have HJ := Lib.hid hj
    clear hj
    by_cases h0 : j = x.1.1
    · have q0 : (j != x.1.1) = false := by simpa using h0
      have H0 := Lib.hid h0
      clear h0
      gi_wp2_with (refine ⟨trivial, ?_⟩; gi_at_call 25; refine (CallsIn.inRound y (callsIn_wide.2 (probe_Find.calls _ _ _ _ _ _ hCW hcap HJ.out))).mono ?_; rintro e w1 ⟨rfl, hb1⟩)
      have hbb : Below w.heap.size W w1 := hb1.mono hB.size
      exact ⟨KeepsFrom.of_grownBy (below_grown hb1) (fun j e => by cases e), hbb, ⟨c0.below hb1, c1.below hb1⟩, hB.trans hbb, fun p hp' => (List.mem_append.1 hp').elim (hp p) (fun e => by simp at e; subst e; rw [HJ.out, H0.out])⟩
    · have q0 : (j != x.1.1) = true := by simpa using h0
      have H0 := Lib.hid h0
      clear h0
      gi_wp2_with (first | (refine ⟨trivial, ?_⟩; gi_at_call 25; refine (CallsIn.inRound y (callsIn_wide.2 (probe_Find.calls _ _ _ _ _ _ hCW hcap HJ.out))).mono ?_; rintro e w1 ⟨rfl, hb1⟩; have c2 := c1.below hb1; have f1 := c2.frozen 0; have g1 := c2.cell 0))
      have hbb : Below w.heap.size W w1 := hb1.mono hB.size
      exact ⟨(KeepsFrom.of_grownBy (below_grown hb1) (fun j e => by cases e)).trans ((KeepsOthers.setCell _ _ _).from _), ⟨rfl, pre, x, rfl, fun e => H0.out (Option.some.inj (HJ.out.symm.trans e)), c2.set1 _⟩, (hB.trans hbb).setCell (p := ⟨w.heap.size + 1, 0, none⟩) (by simp) _⟩
  case done =>
    rintro D ys W hD hys ⟨⟨c0, c1⟩, hB, hp⟩ hK
    have HY := Lib.hid hys
    clear hys
    have f1 := c1.frozen 0
    have g1 := c1.cell 0
    gi_wp2
    have hK' := (KeepsOthers.setCell W ⟨w.heap.size + 1, 0, none⟩ (.bool true)).same D _ hK rfl
    refine ⟨by simp, .inl ⟨_, _, rfl, run_takeDeferred hK', ?_⟩⟩
    have g2 := cell_kept ((c1.set1 (.bool true)).cell 0) (grownBy_putObj' _ D (.deferred none)) (fun r e => by cases e; exact ⟨_, hK', rfl⟩)
    have e : ((liveL l).all fun p => probe_Find.f l p.2.f1 == some p.1) = true := by
      rw [← HY.out, List.all_eq_true]
      intro p hpm
      obtain ⟨q, hq, rfl⟩ := List.mem_map.1 hpm
      rw [hp q hq]; simp
    rw [e]
    refine ⟨.bool true, ?_, rfl, (hB.setCell (p := ⟨w.heap.size + 1, 0, none⟩) (by simp) _).trans (belowK_b (w := w) (Nat.le_refl _) _ D _ _ (Nat.le_trans hB0.size hD) hK' rfl rfl)⟩
    simp [results, Try.f49, go_sem, g2]
  case stop =>
    rintro D cc pre W hD ⟨rest, hpre⟩ ⟨⟨rfl, ini, last, e1, e3, c1⟩, hB⟩ hK
    have e : ((liveL l).all fun p => probe_Find.f l p.2.f1 == some p.1) = false := by
      rw [List.all_eq_false]
      exact ⟨last.1, last.2, by simpa using e3⟩
    clear hpre
    have E := Lib.hid e
    clear e
    gi_wp2
    refine ⟨by simp, .inl ⟨_, _, rfl, run_takeDeferred hK, ?_⟩⟩
    rw [E.out]
    have g2 := cell_kept (c1.cell 0) (grownBy_putObj' _ D (.deferred none)) (fun r e => by cases e; exact ⟨_, hK, rfl⟩)
    refine ⟨_, ?_, rfl, hB.trans (belowK_b (w := w) (Nat.le_refl _) W D _ _ (Nat.le_trans hB0.size hD) hK rfl rfl)⟩
    simp [results, Try.f49, go_sem, g2]

theorem flows_Right.calls (A0 : Option Addr) (c0 : Nat) (l0 : List S31) (r : Bool) (w : World) (hr0 : Kd.C k31 w A0 l0.length l0) (hc0 : l0.length ≤ c0) (h : flows_Right.f l0 = some r) :
    Calls Try.prog 49 #[.slice A0 l0.length c0] w fun e w' => e = .returned (.bool r) ∧ Below w.heap.size w w' := by
  unfold flows_Right.f at h
  by_cases hl : l0.length ≤ 1000000
  · rw [if_pos hl] at h
    by_cases hs : ((liveL l0).all fun p => (probe_Find.f l0 p.2.f1).isSome) = true
    · rw [if_pos hs] at h
      obtain rfl := Option.some.inj h
      exact Right_any A0 c0 l0 hc0 hl (fun p hp => Option.isSome_iff_exists.1 (List.all_eq_true.1 hs p hp)) w hr0
    · rw [if_neg hs] at h
      exact absurd h (by simp)
  · rw [if_neg hl] at h
    exact absurd h (by simp)
end

end Go.Proofs.Ythdkkmeiihbafaa.P
