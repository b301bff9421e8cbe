/- Each Go function that the laws reach, as a plain function, with the proof that the machine's call comes to what it says; of a law: its row. Made by a program of this seat (wip/hp.py, over the print). -/
import Derived.Test.YthdkkmeiihbafaaPx0
import Derived.Test.YthdkkmeiihbafaaPx2
namespace Go.Proofs.Ythdkkmeiihbafaa.P
open Go.RowKit Go.Proofs.YthdkkmeiihbafaaW.PrintWords Go.Proofs.YthdkkmeiihbafaaW.PrintLast Go.Proofs.YthdkkmeiihbafaaW.PrintMore
attribute [local go_sem] max2_int min2_int max_two min_two max_three min_three max_four min_four   -- for this text's walks alone
set_option linter.unusedVariables false
set_option linter.unusedSimpArgs false

/-! ### probe_Room: function 27 -/
section
open Go.Shelf Go.Proofs.Ythdkkmeiihbafaa.Hand
attribute [local go_sem] Oper.semAt_some
def roomIn : List (Int × S31) → Int
  | [] => -1
  | (j, x) :: r => if x.f0 = 1 then roomIn r else j
theorem roomIn_on : ∀ (a b : List (Int × S31)), (∀ p ∈ a, p.2.f0 = 1) → roomIn (a ++ b) = roomIn b
  | [], _, _ => rfl
  | (j, x) :: a, b, h => by
    have hx := h (j, x) (by simp)
    simp only [List.cons_append, roomIn]
    rw [if_pos hx]
    exact roomIn_on a b (fun p hp => h p (by simp [hp]))
def probe_Room.f (l0 : List S31) (a1 : ByteArray) : Option Int :=
  (probe_Find.f l0 a1).bind fun t => if 0 ≤ t then some (-1) else (probe_Home.f a1 l0.length).bind fun hd => some (roomIn (upto (wayAt l0 hd) l0.length))

set_option maxRecDepth 100000 in
set_option maxHeartbeats 8000000 in
theorem Room_any (A : Option Addr) (c : Nat) (l : List S31) (key : ByteArray) (hcap : l.length ≤ c) (hl : l.length ≤ 1000000) (t : Int) (ht : probe_Find.f l key = some t) (hd : Int) (hh : probe_Home.f key l.length = some hd) (w : World) (hC : Kd.C k31 w A l.length l) :
    Calls Try.prog 27 #[.slice A l.length c, .string key] w fun e W' => e = .returned (.int .i64 (if 0 ≤ t then -1 else roomIn (upto (wayAt l hd) l.length))) ∧ Below w.heap.size w W' := by
  refine (callsIn_wide (n := 6)).1 ?_
  have hro : Fence.wide.round = none := rfl
  by_cases htp : 0 ≤ t
  · rw [if_pos htp]
    have hq : decide (0 ≤ t) = true := decide_eq_true htp
    clear htp
    refine callsIn_of_wp_marks Try.func27 rfl trivial ?_ hro
    simp only [Try.ntmps27, List.size_toArray, List.length_cons, List.length_nil, Nat.reduceAdd, Nat.reduceSub, Array.replicate_succ, Array.replicate_zero, List.push_toArray, List.append_toArray, List.nil_append, List.cons_append]
    have b0 := Blk.new w 3 [.int .i64 0]
    gi_wp2_with (refine ⟨trivial, ?_⟩; gi_at_call 25; refine (callsIn_wide.2 (probe_Find.calls _ _ _ _ _ _ (Kd.C_alloc hC _) hcap ht)).mono ?_; rintro e w1 ⟨rfl, hb1⟩; have b1 := b0.below hb1; have g1 := b1.cell 0; have f1 := b1.frozen 0)
    have g2 := (b1.set1 (.int .i64 (-1))).cell 0
    refine ⟨.int .i64 (-1), ?_, rfl, (((Below.refl _ w).alloc (Nat.le_refl _) _).trans (hb1.mono (by simp))).setCell (p := ⟨w.heap.size, 0, none⟩) (Nat.le_refl _) _⟩
    simp [results, Try.f27, go_sem, g2]
  · rw [if_neg htp]
    have hq : decide (0 ≤ t) = false := decide_eq_false htp
    clear htp
    refine callsIn_of_wp_marks Try.func27 rfl trivial ?_ hro
    simp only [Try.ntmps27, List.size_toArray, List.length_cons, List.length_nil, Nat.reduceAdd, Nat.reduceSub, Array.replicate_succ, Array.replicate_zero, List.push_toArray, List.append_toArray, List.nil_append, List.cons_append]
    have b0 := Blk.new w 3 [.int .i64 0]
    gi_wp2_with (first | (refine ⟨trivial, ?_⟩; gi_at_call 25; refine (callsIn_wide.2 (probe_Find.calls _ _ _ _ _ _ (Kd.C_alloc hC _) hcap ht)).mono ?_; rintro e w1 ⟨rfl, hb1⟩; have b1 := b0.below hb1; have g1 := b1.cell 0; have f1 := b1.frozen 0; have hB1 := ((Below.refl w.heap.size w).alloc (Nat.le_refl _) (.cells #[.int .i64 0] 3)).trans (hb1.mono (by simp)); clear hb1) | (refine ⟨trivial, ?_⟩; gi_at_call 58; refine (callsIn_wide.2 (way_any _ _ _ _ _)).mono ?_; rintro e w' ⟨rfl, rfl⟩))
    have b2 := Blk.new w1 22 [.slice A l.length c]
    have b3 := Blk.new (w1.alloc (.cells #[.slice A l.length c] 22)) 9 [.string key]
    have hB0 : Below w.heap.size w ((w1.alloc (.cells #[.slice A l.length c] 22)).alloc (.cells #[.string key] 9)) := (hB1.alloc hB1.size _).alloc (by have := hB1.size; simp; omega) _
    replace b1 := (b1.alloc (.cells #[.slice A l.length c] 22)).alloc (.cells #[.string key] 9)
    replace b2 := b2.alloc (.cells #[.string key] 9)
    simp only [World.size_alloc] at b2 b3
    obtain ⟨W0, hW0⟩ : ∃ W0, ((w1.alloc (.cells #[.slice A l.length c] 22)).alloc (.cells #[.string key] 9)) = W0 := ⟨_, rfl⟩
    rw [hW0] at hB0 ⊢
    replace b1 : Blk W0 w.heap.size 3 [.int .i64 0] := by rw [← hW0]; exact b1
    replace b2 : Blk W0 w1.heap.size 22 [.slice A l.length c] := by rw [← hW0]; exact b2
    replace b3 : Blk W0 (w1.heap.size + 1) 9 [.string key] := by rw [← hW0]; exact b3
    clear hW0
    refine wpIn_rangeFunc_ownH hro (by omega) (gf := 75) (lb := #[.pointer (some ⟨w1.heap.size + 1, 0, none⟩), .pointer (some ⟨w1.heap.size, 0, none⟩)]) rfl trivial (enters_of Try.func75 (by kernel_rfl) rfl)
      (way_stops (6 - 1) (by omega) (w1.heap.size + 1) w1.heap.size w.heap.size A c l key hl hd hh w W0 rfl hC hB0 b3.lt b2.lt (by rw [b3.cell]; rfl) (by rw [b2.cell]; rfl)) kp_t (kp_b hB0.size) (Below.refl _ _) (fun _ => rfl)
      (fun pre W => Blk W w.heap.size 3 [.int .i64 0] ∧ Below w.heap.size w W ∧ ∀ p ∈ pre, p.2.f0 = 1)
      (fun c pre W => (c = .ret ∧ ∃ (ini : List (Int × S31)) (last : Int × S31), pre = ini ++ [last] ∧ (∀ p ∈ ini, p.2.f0 = 1) ∧ ¬ last.2.f0 = 1 ∧ Blk W w.heap.size 3 [.int .i64 last.1]) ∧ Below w.heap.size w W)
      ((blk_ownFrom _ _ _ _).and ((ownFrom_below (Nat.le_refl _) hB0.size).and (OwnFrom.pure _)))
      (fun c => OwnFrom.and (fun s W W' row ⟨h1, ini, last, h2, h3, h4, h5⟩ hg hr => ⟨h1, ini, last, h2, h3, h4, blk_ownFrom (β := Unit) W0.heap.size _ _ (fun _ => _) () W W' row h5 hg hr⟩) (ownFrom_below (Nat.le_refl _) hB0.size))
      ⟨b1, hB0, by simp⟩
      (fun x a' W => ∃ Bx, w.heap.size < Bx ∧ Blk W Bx 31 [.int .i64 x.2.f0, .string x.2.f1, .int .i64 x.2.f2, .int .i64 x.2.f3] ∧ a' = { tmps := #[.slice A l.length c, .string key, undef, undef, .pointer (some ⟨w.heap.size, 0, none⟩), .int .i64 x.1, .pointer (some ⟨Bx, 0, none⟩), .slice A l.length c, .string key, .int .i64 t, .bool false, .slice A l.length c, .string key, .func (.func 75) #[] #[.pointer (some ⟨w1.heap.size + 1, 0, none⟩), .pointer (some ⟨w1.heap.size, 0, none⟩)], .int .i64 x.1, entV x.2, undef, undef, undef, undef], defers := [] })
      (fun x a' s W W' row ⟨Bx, h1, h2, h3⟩ hg hr => ⟨Bx, h1, blk_ownFrom (β := Unit) W0.heap.size _ _ (fun _ => _) () W W' row h2 hg hr, h3⟩) ?assign ?body ?done ?stop
    case assign =>
      rintro y pre x W K ⟨c0, hB, hp⟩ hK
      gi_wp2
      exact hK _ _ ((KeepsOthers.alloc _ _).from _) ((KpB.refl _ _ _).alloc hB.size _) ⟨c0.alloc _, hB.alloc hB.size _, hp⟩ ⟨_, c0.lt, Blk.new W 31 [.int .i64 x.2.f0, .string x.2.f1, .int .i64 x.2.f2, .int .i64 x.2.f3], rfl⟩
    case body =>
      rintro y pre x a' W hy ⟨r, hr⟩ ⟨c0, hB, hp⟩ ⟨Bx, hBx, cx, rfl⟩ hlt
      have e0 : W.cell? ⟨Bx, 0, none⟩ = some (.int .i64 x.2.f0) := cx.cell 0
      by_cases h0 : x.2.f0 = 1
      · have q0 : (x.2.f0 != 1) = false := by simpa using h0
        have H0 := Lib.hid h0
        clear h0
        gi_wp2
        exact ⟨KeepsFrom.refl _ _, KpB.refl _ _ _, c0, hB, fun p hp' => (List.mem_append.1 hp').elim (hp p) (fun e => by simp at e; subst e; exact H0.out)⟩
      · have q0 : (x.2.f0 != 1) = true := by simpa using h0
        have H0 := Lib.hid h0
        clear h0
        have f1 := c0.frozen 0
        have g1 := c0.cell 0
        gi_wp2
        exact ⟨(KeepsOthers.setCell _ _ _).from _, ⟨rfl, pre, x, rfl, hp, H0.out, c0.set1 _⟩, hB.setCell (p := ⟨w.heap.size, 0, none⟩) (Nat.le_refl _) _⟩
    case done =>
      rintro D ys W hD rfl ⟨c0, hB, hp⟩ hK
      have f1 := c0.frozen 0
      have g1 := c0.cell 0
      gi_wp2
      have hK' := (KeepsOthers.setCell W ⟨w.heap.size, 0, none⟩ (.int .i64 (-1))).same D _ hK rfl
      refine ⟨by simp, .inl ⟨_, _, rfl, run_takeDeferred hK', ?_⟩⟩
      have g2 := cell_kept ((c0.set1 (.int .i64 (-1))).cell 0) (grownBy_putObj' _ D (.deferred none)) (fun r e => by cases e; exact ⟨_, hK', rfl⟩)
      have e := roomIn_on (upto (wayAt l hd) l.length) [] hp
      rw [List.append_nil] at e
      refine ⟨.int .i64 (-1), ?_, by rw [e]; rfl, (hB.setCell (p := ⟨w.heap.size, 0, none⟩) (Nat.le_refl _) _).trans (belowK_b (w := w) (Nat.le_refl _) _ D _ _ (Nat.le_trans hB0.size hD) hK' rfl rfl)⟩
      simp [results, Try.f27, go_sem, g2]
    case stop =>
      rintro D cc pre W hD ⟨k, hk, rfl⟩ ⟨⟨rfl, ini, last, e1, e2, e3, c1⟩, hB⟩ hK
      have hf : last.1 = roomIn (upto (wayAt l hd) l.length) := by
        obtain ⟨rest, hr⟩ := upto_split (wayAt l hd) hk
        rw [hr, e1, List.append_assoc, roomIn_on _ _ e2]
        simp only [List.cons_append, roomIn]
        rw [if_neg e3]
      rw [hf] at c1
      gi_wp2
      refine ⟨by simp, .inl ⟨_, _, rfl, run_takeDeferred hK, ?_⟩⟩
      have g2 := cell_kept (c1.cell 0) (grownBy_putObj' _ D (.deferred none)) (fun r e => by cases e; exact ⟨_, hK, rfl⟩)
      refine ⟨_, ?_, rfl, hB.trans (belowK_b (w := w) (Nat.le_refl _) W D _ _ (Nat.le_trans hB0.size hD) hK rfl rfl)⟩
      simp [results, Try.f27, go_sem, g2]

theorem probe_Room.calls (A0 : Option Addr) (c0 : Nat) (l0 : List S31) (a1 : ByteArray) (r : Int) (w : World) (hr0 : Kd.C k31 w A0 l0.length l0) (hc0 : l0.length ≤ c0) (h : probe_Room.f l0 a1 = some r) :
    Calls Try.prog 27 #[.slice A0 l0.length c0, .string a1] w fun e w' => e = .returned (.int .i64 r) ∧ Below w.heap.size w w' := by
  unfold probe_Room.f at h
  obtain ⟨t, ht, h⟩ := Option.bind_eq_some_iff.mp h
  have ht' := ht
  unfold probe_Find.f at ht'
  by_cases hl : l0.length ≤ 1000000
  · rw [if_pos hl] at ht'
    obtain ⟨hd, hh, _⟩ := Option.bind_eq_some_iff.mp ht'
    have hr : r = if 0 ≤ t then -1 else roomIn (upto (wayAt l0 hd) l0.length) := by
      by_cases h0 : 0 ≤ t
      · rw [if_pos h0] at h ⊢; exact (Option.some.inj h).symm
      · rw [if_neg h0, hh] at h
        rw [if_neg h0]
        exact (Option.some.inj h).symm
    rw [hr]
    exact Room_any A0 c0 l0 a1 hc0 hl t ht hd hh w hr0
  · rw [if_neg hl] at ht'
    exact absurd ht' (by simp)
end

/-! ### flows_table_put: function 66 -/
def flows_table_put.f (l0 : List (S31)) (a1_0 : Int) (a1_1 : ByteArray) (a1_2 : Int) (a1_3 : Int) : Option (Bool × (List (S31))) := (probe_Find.f l0 a1_1).bind fun t107 => (if t107 < 0 then ((probe_Room.f l0 a1_1).bind fun t108 => (if t108 < 0 then (some (false, l0)) else (if 0 ≤ t108 then (if t108 < (l0.length : Int) then (some (true, (l0.set (t108 : Int).toNat (⟨a1_0, a1_1, a1_2, a1_3⟩ : S31)))) else (none)) else (none)))) else (if 0 ≤ t107 then (if t107 < (l0.length : Int) then (some (true, (l0.set (t107 : Int).toNat (⟨a1_0, a1_1, a1_2, a1_3⟩ : S31)))) else (none)) else (none)))
set_option maxHeartbeats 8000000 in
set_option maxRecDepth 100000 in
theorem flows_table_put.calls (P0_ : Nat → Prop) (u9000_ : Value) (l0 : List (S31)) (a1_0 : Int) (a1_1 : ByteArray) (a1_2 : Int) (a1_3 : Int) (r1 : Bool) (r2 : List (S31)) (w0 w : World) (hB : Below w0.heap.size w0 w) (ho0 : Kd.R k31 31 w w0.heap.size P0_ u9000_ l0) (h : flows_table_put.f l0 a1_0 a1_1 a1_2 a1_3 = some (r1, r2)) :
    Calls Try.prog 66 #[u9000_, .agg #[.int .i64 a1_0, .string a1_1, .int .i64 a1_2, .int .i64 a1_3]] w fun e w' => e = .returned (.bool r1) ∧ Kd.R k31 31 w' w0.heap.size (fun k_ => (P0_ k_ ∨ w.heap.size ≤ k_)) u9000_ r2 ∧ Below w0.heap.size w0 w' ∧ Kept w w' (fun k_ => P0_ k_) := by
  have hu31 := Try.underlying31
  have HO0 := Aside0.mk (show Kd.R k31 31 w w0.heap.size (fun k_ => (P0_ k_ ∨ w.heap.size ≤ k_)) u9000_ l0 from Kd.R_mono ho0 (fun k_ hk => (.inl hk)))
  have HK := Aside0.mk (Kept.refl w (fun k_ => P0_ k_))
  have HW0 := Aside0.mk hB.size
  have HB := Aside0.mk hB
  clear hB
  have H : ((probe_Find.f l0 a1_1).bind fun t107 => (if t107 < 0 then ((probe_Room.f l0 a1_1).bind fun t108 => (if t108 < 0 then (some (false, l0)) else (if 0 ≤ t108 then (if t108 < (l0.length : Int) then (some (true, (l0.set (t108 : Int).toNat (⟨a1_0, a1_1, a1_2, a1_3⟩ : S31)))) else (none)) else (none)))) else (if 0 ≤ t107 then (if t107 < (l0.length : Int) then (some (true, (l0.set (t107 : Int).toNat (⟨a1_0, a1_1, a1_2, a1_3⟩ : S31)))) else (none)) else (none)))) = some (r1, r2) := h
  clear h
  replace H := Option.bind_eq_some_iff.mp H
  obtain ⟨t107, A30, H⟩ := H
  replace H : (if t107 < 0 then ((probe_Room.f l0 a1_1).bind fun t108 => (if t108 < 0 then (some (false, l0)) else (if 0 ≤ t108 then (if t108 < (l0.length : Int) then (some (true, (l0.set (t108 : Int).toNat (⟨a1_0, a1_1, a1_2, a1_3⟩ : S31)))) else (none)) else (none)))) else (if 0 ≤ t107 then (if t107 < (l0.length : Int) then (some (true, (l0.set (t107 : Int).toNat (⟨a1_0, a1_1, a1_2, a1_3⟩ : S31)))) else (none)) else (none))) = some (r1, r2) := H
  have A3 := Aside0.mk A30
  clear A30
  by_cases c4 : t107 < 0
  · rw [if_pos c4] at H
    have c4b0 : decide (t107 < 0) = true := decide_eq_true c4
    clear c4
    replace H := Option.bind_eq_some_iff.mp H
    obtain ⟨t108, A50, H⟩ := H
    replace H : (if t108 < 0 then (some (false, l0)) else (if 0 ≤ t108 then (if t108 < (l0.length : Int) then (some (true, (l0.set (t108 : Int).toNat (⟨a1_0, a1_1, a1_2, a1_3⟩ : S31)))) else (none)) else (none))) = some (r1, r2) := H
    have A5 := Aside0.mk A50
    clear A50
    by_cases c6 : t108 < 0
    · rw [if_pos c6] at H
      have c6b0 : decide (t108 < 0) = true := decide_eq_true c6
      clear c6
      simp only [Option.some.injEq, Prod.mk.injEq] at H
      obtain ⟨rfl, rfl⟩ := H
      go_enter Try.func66, Try.ntmps66
      go_wp2_with (first | ((with_reducible refine gate_dst (N := 3) rfl ?_); refine box_event ?hg (N := 3) ?hd (cs := #[.int .i64 a1_0, .string a1_1, .int .i64 a1_2, .int .i64 a1_3]) (t := 31) ?hr ?_; (case hd => rfl); (case hg => rfl); (case hr => first | (go_simp; done) | (go_simp; rfl)); intro gb106 hg w7 hbox hb; have n0_ := Aside0.mk (Kd.R_below (Kd.R_elderB (by (with_reducible repeat (first | apply Kd.R_alloc | apply Kd.R_drewN | apply Kd.R_drew)); exact HO0.out) gb106 (Nat.le_of_eq hg.symm)) hb); have n1_ := Aside0.mk (Kept.below (S := (fun k_ => P0_ k_)) (by repeat (first | (with_reducible first | exact HK.out | apply Kept.alloc | apply Kept.drewN | apply Kept.drew) | exact HK.out)) hb); have n2_ := Aside0.mk (below_step (by repeat (first | (with_reducible first | exact HB.out | apply below_alloc | apply pw_below_drewN | apply below_drew1) | exact HB.out)) hb); have n3_ := Aside0.mk (hbox); have n4_ := Aside0.mk ((by rw [hg]; exact (by first | exact HK.out.1 | exact (show Kept w _ (fun k_ => P0_ k_) from by repeat (first | (with_reducible first | exact HK.out | apply Kept.alloc | apply Kept.drewN | apply Kept.drew) | exact HK.out)).1) : w.heap.size ≤ gb106)); have n5_ := Aside0.mk ((by rw [hg]; exact (below_size (by repeat (first | (with_reducible first | exact HB.out | apply below_alloc | apply pw_below_drewN | apply below_drew1) | exact HB.out))) : w0.heap.size ≤ gb106)); clear HO0; clear HK; clear HB; have HO0 := n0_; have HK := n1_; have HB := n2_; have BK106 := n3_; have GW106 := n4_; have GE106 := n5_; clear n0_ n1_ n2_ n3_ n4_ n5_; clear hb hbox hg; have hcz8_0 : w7.cell? ⟨gb106, 0, none⟩ = some (.int .i64 a1_0) := (blk_cell BK106.out 0).trans rfl; have hcz8_1 : w7.cell? ⟨gb106, 1, none⟩ = some (.string a1_1) := (blk_cell BK106.out 1).trans rfl; have hcz8_2 : w7.cell? ⟨gb106, 2, none⟩ = some (.int .i64 a1_2) := (blk_cell BK106.out 2).trans rfl; have hcz8_3 : w7.cell? ⟨gb106, 3, none⟩ = some (.int .i64 a1_3) := (blk_cell BK106.out 3).trans rfl; have hfz8_0 := blk_frozen BK106.out 0; have hfz8_1 := blk_frozen BK106.out 1; have hfz8_2 := blk_frozen BK106.out 2; have hfz8_3 := blk_frozen BK106.out 3; obtain ⟨Ao9, co9, eo9⟩ := Kd.R_slice HO0.out; subst eo9) | ((with_reducible refine gate_callee (f := 25) rfl ?_); refine goesL_ (some 9) rfl rfl Try.func25 (by kernel_rfl) rfl #[.slice Ao9 l0.length co9, .string a1_1] rfl (by (try simp only [List.map_toArray, List.map_cons, List.map_nil]); first | done | rfl | (simp only [List.length_drop, List.length_take]; rfl)) ?_; (with_reducible refine (probe_Find.calls _ _ l0 a1_1 t107 _ ?side1 ?side2 A3.out).mono ?_); (case side1 => repeat (first | exact (Kd.R_reads' HO0.out).2.2 | (with_reducible refine Kd.C_alloc ?_ _) | (with_reducible refine Kd.C_drewN ?_ _) | (with_reducible refine Kd.C_drew ?_))); (case side2 => exact (Kd.R_reads' HO0.out).2.1); (try clear A3); rintro e w10 ⟨rfl, hb⟩; refine ⟨_, rfl, ?_⟩; have n0_ := Aside0.mk (Kd.R_below (by (with_reducible repeat (first | apply Kd.R_alloc | apply Kd.R_drewN | apply Kd.R_drew)); exact HO0.out) hb); have n1_ := Aside0.mk (blk_below (g := gb106) (o := .cells #[.int .i64 a1_0, .string a1_1, .int .i64 a1_2, .int .i64 a1_3] 31 (0, 0)) (by (with_reducible repeat (first | refine blk_drewN ?_ _ | refine blk_drew ?_ | refine blk_alloc ?_ _)); exact BK106.out) hb); have n2_ := Aside0.mk (Kept.below (S := (fun k_ => P0_ k_)) (by repeat (first | (with_reducible first | exact HK.out | apply Kept.alloc | apply Kept.drewN | apply Kept.drew | refine Kept.setCell ?_ (.inr GW106.out) _) | exact HK.out)) hb); have n3_ := Aside0.mk (below_step (by repeat (first | (with_reducible first | exact HB.out | apply below_alloc | apply pw_below_drewN | apply below_drew1 | refine below_set ?_ GE106.out) | exact HB.out)) hb); clear HO0; clear BK106; clear HK; clear HB; have HO0 := n0_; have BK106 := n1_; have HK := n2_; have HB := n3_; clear n0_ n1_ n2_ n3_; (try clear hb); (try clear hb2); (try clear hk); (try clear hi); have hcz11_0 : w10.cell? ⟨gb106, 0, none⟩ = some (.int .i64 a1_0) := (blk_cell BK106.out 0).trans rfl; have hcz11_1 : w10.cell? ⟨gb106, 1, none⟩ = some (.string a1_1) := (blk_cell BK106.out 1).trans rfl; have hcz11_2 : w10.cell? ⟨gb106, 2, none⟩ = some (.int .i64 a1_2) := (blk_cell BK106.out 2).trans rfl; have hcz11_3 : w10.cell? ⟨gb106, 3, none⟩ = some (.int .i64 a1_3) := (blk_cell BK106.out 3).trans rfl; have hfz11_0 := blk_frozen BK106.out 0; have hfz11_1 := blk_frozen BK106.out 1; have hfz11_2 := blk_frozen BK106.out 2; have hfz11_3 := blk_frozen BK106.out 3) | ((with_reducible refine gate_callee (f := 27) rfl ?_); refine goesL_ (some 15) rfl rfl Try.func27 (by kernel_rfl) rfl #[.slice Ao9 l0.length co9, .string a1_1] rfl (by (try simp only [List.map_toArray, List.map_cons, List.map_nil]); first | done | rfl | (simp only [List.length_drop, List.length_take]; rfl)) ?_; (with_reducible refine (probe_Room.calls _ _ l0 a1_1 t108 _ ?side1 ?side2 A5.out).mono ?_); (case side1 => repeat (first | exact (Kd.R_reads' HO0.out).2.2 | (with_reducible refine Kd.C_alloc ?_ _) | (with_reducible refine Kd.C_drewN ?_ _) | (with_reducible refine Kd.C_drew ?_))); (case side2 => exact (Kd.R_reads' HO0.out).2.1); (try clear A5); rintro e w12 ⟨rfl, hb⟩; refine ⟨_, rfl, ?_⟩; have n0_ := Aside0.mk (Kd.R_below (by (with_reducible repeat (first | apply Kd.R_alloc | apply Kd.R_drewN | apply Kd.R_drew)); exact HO0.out) hb); have n1_ := Aside0.mk (blk_below (g := gb106) (o := .cells #[.int .i64 a1_0, .string a1_1, .int .i64 a1_2, .int .i64 a1_3] 31 (0, 0)) (by (with_reducible repeat (first | refine blk_drewN ?_ _ | refine blk_drew ?_ | refine blk_alloc ?_ _)); exact BK106.out) hb); have n2_ := Aside0.mk (Kept.below (S := (fun k_ => P0_ k_)) (by repeat (first | (with_reducible first | exact HK.out | apply Kept.alloc | apply Kept.drewN | apply Kept.drew | refine Kept.setCell ?_ (.inr GW106.out) _) | exact HK.out)) hb); have n3_ := Aside0.mk (below_step (by repeat (first | (with_reducible first | exact HB.out | apply below_alloc | apply pw_below_drewN | apply below_drew1 | refine below_set ?_ GE106.out) | exact HB.out)) hb); clear HO0; clear BK106; clear HK; clear HB; have HO0 := n0_; have BK106 := n1_; have HK := n2_; have HB := n3_; clear n0_ n1_ n2_ n3_; (try clear hb); (try clear hb2); (try clear hk); (try clear hi)))
      go_ret
      exact ⟨by first | rfl | (simp [errW_none, errW_some] <;> rfl) | (simp [*, errW_none, errW_some] <;> rfl), by (with_reducible repeat (first | apply Kd.R_alloc | apply Kd.R_drewN | apply Kd.R_drew)); exact Kd.R_mono HO0.out (fun _ hk => hk.1), by repeat (first | (with_reducible first | exact HB.out | apply below_alloc | apply pw_below_drewN | apply below_drew1 | refine below_set ?_ GE106.out) | exact HB.out), by repeat (first | (with_reducible first | exact HK.out | apply Kept.alloc | apply Kept.drewN | apply Kept.drew | refine Kept.setCell ?_ (.inr GW106.out) _) | exact HK.out)⟩
    · rw [if_neg c6] at H
      have c6b0 : decide (t108 < 0) = false := decide_eq_false c6
      clear c6
      by_cases c13 : 0 ≤ t108
      · rw [if_pos c13] at H
        have c13b0 : decide (0 ≤ t108) = true := decide_eq_true c13
        clear c13
        by_cases c14 : t108 < (l0.length : Int)
        · rw [if_pos c14] at H
          have c14b0 : decide (t108 < (l0.length : Int)) = true := decide_eq_true c14
          clear c14
          obtain ⟨y109, hy109⟩ : ∃ y_ : List (S31), y_ = (l0.set (t108 : Int).toNat (⟨a1_0, a1_1, a1_2, a1_3⟩ : S31)) := ⟨_, rfl⟩
          replace H : (some (true, y109)) = some (r1, r2) := by first | (rw [hy109]; with_reducible exact H) | (have H2_ := (Option.bind_some _ _).symm.trans H; rw [hy109]; with_reducible exact H2_) | (have H2_ := (Option.bind_some _ _).symm.trans H; with_reducible exact H2_) | with_reducible exact H | (rw [hy109]; exact H) | exact H
          have Ny109 := Aside0.mk hy109
          clear hy109
          simp only [Option.some.injEq, Prod.mk.injEq] at H
          obtain ⟨rfl, rfl⟩ := H
          go_enter Try.func66, Try.ntmps66
          go_wp2_with (first | ((with_reducible refine gate_dst (N := 3) rfl ?_); refine box_event ?hg (N := 3) ?hd (cs := #[.int .i64 a1_0, .string a1_1, .int .i64 a1_2, .int .i64 a1_3]) (t := 31) ?hr ?_; (case hd => rfl); (case hg => rfl); (case hr => first | (go_simp; done) | (go_simp; rfl)); intro gb106 hg w16 hbox hb; have n0_ := Aside0.mk (Kd.R_below (Kd.R_elderB (by (with_reducible repeat (first | apply Kd.R_alloc | apply Kd.R_drewN | apply Kd.R_drew)); exact HO0.out) gb106 (Nat.le_of_eq hg.symm)) hb); have n1_ := Aside0.mk (Kept.below (S := (fun k_ => P0_ k_)) (by repeat (first | (with_reducible first | exact HK.out | apply Kept.alloc | apply Kept.drewN | apply Kept.drew) | exact HK.out)) hb); have n2_ := Aside0.mk (below_step (by repeat (first | (with_reducible first | exact HB.out | apply below_alloc | apply pw_below_drewN | apply below_drew1) | exact HB.out)) hb); have n3_ := Aside0.mk (hbox); have n4_ := Aside0.mk ((by rw [hg]; exact (by first | exact HK.out.1 | exact (show Kept w _ (fun k_ => P0_ k_) from by repeat (first | (with_reducible first | exact HK.out | apply Kept.alloc | apply Kept.drewN | apply Kept.drew) | exact HK.out)).1) : w.heap.size ≤ gb106)); have n5_ := Aside0.mk ((by rw [hg]; exact (below_size (by repeat (first | (with_reducible first | exact HB.out | apply below_alloc | apply pw_below_drewN | apply below_drew1) | exact HB.out))) : w0.heap.size ≤ gb106)); clear HO0; clear HK; clear HB; have HO0 := n0_; have HK := n1_; have HB := n2_; have BK106 := n3_; have GW106 := n4_; have GE106 := n5_; clear n0_ n1_ n2_ n3_ n4_ n5_; clear hb hbox hg; have hcz17_0 : w16.cell? ⟨gb106, 0, none⟩ = some (.int .i64 a1_0) := (blk_cell BK106.out 0).trans rfl; have hcz17_1 : w16.cell? ⟨gb106, 1, none⟩ = some (.string a1_1) := (blk_cell BK106.out 1).trans rfl; have hcz17_2 : w16.cell? ⟨gb106, 2, none⟩ = some (.int .i64 a1_2) := (blk_cell BK106.out 2).trans rfl; have hcz17_3 : w16.cell? ⟨gb106, 3, none⟩ = some (.int .i64 a1_3) := (blk_cell BK106.out 3).trans rfl; have hfz17_0 := blk_frozen BK106.out 0; have hfz17_1 := blk_frozen BK106.out 1; have hfz17_2 := blk_frozen BK106.out 2; have hfz17_3 := blk_frozen BK106.out 3; obtain ⟨Ao18, co18, eo18⟩ := Kd.R_slice HO0.out; subst eo18) | ((with_reducible refine gate_callee (f := 25) rfl ?_); refine goesL_ (some 9) rfl rfl Try.func25 (by kernel_rfl) rfl #[.slice Ao18 l0.length co18, .string a1_1] rfl (by (try simp only [List.map_toArray, List.map_cons, List.map_nil]); first | done | rfl | (simp only [List.length_drop, List.length_take]; rfl)) ?_; (with_reducible refine (probe_Find.calls _ _ l0 a1_1 t107 _ ?side1 ?side2 A3.out).mono ?_); (case side1 => repeat (first | exact (Kd.R_reads' HO0.out).2.2 | (with_reducible refine Kd.C_alloc ?_ _) | (with_reducible refine Kd.C_drewN ?_ _) | (with_reducible refine Kd.C_drew ?_))); (case side2 => exact (Kd.R_reads' HO0.out).2.1); (try clear A3); rintro e w19 ⟨rfl, hb⟩; refine ⟨_, rfl, ?_⟩; have n0_ := Aside0.mk (Kd.R_below (by (with_reducible repeat (first | apply Kd.R_alloc | apply Kd.R_drewN | apply Kd.R_drew)); exact HO0.out) hb); have n1_ := Aside0.mk (blk_below (g := gb106) (o := .cells #[.int .i64 a1_0, .string a1_1, .int .i64 a1_2, .int .i64 a1_3] 31 (0, 0)) (by (with_reducible repeat (first | refine blk_drewN ?_ _ | refine blk_drew ?_ | refine blk_alloc ?_ _)); exact BK106.out) hb); have n2_ := Aside0.mk (Kept.below (S := (fun k_ => P0_ k_)) (by repeat (first | (with_reducible first | exact HK.out | apply Kept.alloc | apply Kept.drewN | apply Kept.drew | refine Kept.setCell ?_ (.inr GW106.out) _) | exact HK.out)) hb); have n3_ := Aside0.mk (below_step (by repeat (first | (with_reducible first | exact HB.out | apply below_alloc | apply pw_below_drewN | apply below_drew1 | refine below_set ?_ GE106.out) | exact HB.out)) hb); clear HO0; clear BK106; clear HK; clear HB; have HO0 := n0_; have BK106 := n1_; have HK := n2_; have HB := n3_; clear n0_ n1_ n2_ n3_; (try clear hb); (try clear hb2); (try clear hk); (try clear hi); have hcz20_0 : w19.cell? ⟨gb106, 0, none⟩ = some (.int .i64 a1_0) := (blk_cell BK106.out 0).trans rfl; have hcz20_1 : w19.cell? ⟨gb106, 1, none⟩ = some (.string a1_1) := (blk_cell BK106.out 1).trans rfl; have hcz20_2 : w19.cell? ⟨gb106, 2, none⟩ = some (.int .i64 a1_2) := (blk_cell BK106.out 2).trans rfl; have hcz20_3 : w19.cell? ⟨gb106, 3, none⟩ = some (.int .i64 a1_3) := (blk_cell BK106.out 3).trans rfl; have hfz20_0 := blk_frozen BK106.out 0; have hfz20_1 := blk_frozen BK106.out 1; have hfz20_2 := blk_frozen BK106.out 2; have hfz20_3 := blk_frozen BK106.out 3) | ((with_reducible refine gate_callee (f := 27) rfl ?_); refine goesL_ (some 15) rfl rfl Try.func27 (by kernel_rfl) rfl #[.slice Ao18 l0.length co18, .string a1_1] rfl (by (try simp only [List.map_toArray, List.map_cons, List.map_nil]); first | done | rfl | (simp only [List.length_drop, List.length_take]; rfl)) ?_; (with_reducible refine (probe_Room.calls _ _ l0 a1_1 t108 _ ?side1 ?side2 A5.out).mono ?_); (case side1 => repeat (first | exact (Kd.R_reads' HO0.out).2.2 | (with_reducible refine Kd.C_alloc ?_ _) | (with_reducible refine Kd.C_drewN ?_ _) | (with_reducible refine Kd.C_drew ?_))); (case side2 => exact (Kd.R_reads' HO0.out).2.1); (try clear A5); rintro e w21 ⟨rfl, hb⟩; refine ⟨_, rfl, ?_⟩; have n0_ := Aside0.mk (Kd.R_below (by (with_reducible repeat (first | apply Kd.R_alloc | apply Kd.R_drewN | apply Kd.R_drew)); exact HO0.out) hb); have n1_ := Aside0.mk (blk_below (g := gb106) (o := .cells #[.int .i64 a1_0, .string a1_1, .int .i64 a1_2, .int .i64 a1_3] 31 (0, 0)) (by (with_reducible repeat (first | refine blk_drewN ?_ _ | refine blk_drew ?_ | refine blk_alloc ?_ _)); exact BK106.out) hb); have n2_ := Aside0.mk (Kept.below (S := (fun k_ => P0_ k_)) (by repeat (first | (with_reducible first | exact HK.out | apply Kept.alloc | apply Kept.drewN | apply Kept.drew | refine Kept.setCell ?_ (.inr GW106.out) _) | exact HK.out)) hb); have n3_ := Aside0.mk (below_step (by repeat (first | (with_reducible first | exact HB.out | apply below_alloc | apply pw_below_drewN | apply below_drew1 | refine below_set ?_ GE106.out) | exact HB.out)) hb); clear HO0; clear BK106; clear HK; clear HB; have HO0 := n0_; have BK106 := n1_; have HK := n2_; have HB := n3_; clear n0_ n1_ n2_ n3_; (try clear hb); (try clear hb2); (try clear hk); (try clear hi); have hcz22_0 : w21.cell? ⟨gb106, 0, none⟩ = some (.int .i64 a1_0) := (blk_cell BK106.out 0).trans rfl; have hcz22_1 : w21.cell? ⟨gb106, 1, none⟩ = some (.string a1_1) := (blk_cell BK106.out 1).trans rfl; have hcz22_2 : w21.cell? ⟨gb106, 2, none⟩ = some (.int .i64 a1_2) := (blk_cell BK106.out 2).trans rfl; have hcz22_3 : w21.cell? ⟨gb106, 3, none⟩ = some (.int .i64 a1_3) := (blk_cell BK106.out 3).trans rfl; have hfz22_0 := blk_frozen BK106.out 0; have hfz22_1 := blk_frozen BK106.out 1; have hfz22_2 := blk_frozen BK106.out 2; have hfz22_3 := blk_frozen BK106.out 3; have p15 : 0 ≤ (t108 : Int) := of_decide_eq_true (by first | (with_reducible assumption) | assumption); have q15 : (t108 : Int) < ((l0.length : Int) : Int) := of_decide_eq_true (by first | (with_reducible assumption) | assumption); obtain ⟨go15, co15, eo15, gb15, gl15, cl15, HG15⟩ := Kd.R_form HO0.out (by omega); (first | cases eo15 | (injection eo15 with ea_ en_ ec_; (first | subst ea_ | (injection ea_ with ea_; subst ea_)); subst ec_; clear en_)); have GB15 := Aside0.mk gb15; have GG15 := Aside0.mk HG15; clear gb15 gl15 HG15; have HMgo15 := Aside0.mk (show (P0_ go15 ∨ w.heap.size ≤ go15) from (HO0.out.1 _ rfl).1); obtain ⟨ce15, hcl15, hM15, hcc15, hfr15⟩ := Kd.R_elem HO0.out z31 (t108 : Int) p15 q15; obtain rfl := k31_openM hM15; have hx15_0 : w21.cell? ⟨go15, (t108 : Int).toNat * 4, none⟩ = some (.int .i64 ((rd_T31 l0 t108).f0)) := hcc15 0 _ rfl; have hx15_1 : w21.cell? ⟨go15, (t108 : Int).toNat * 4 + 1, none⟩ = some (.string ((rd_T31 l0 t108).f1)) := hcc15 1 _ rfl; have hx15_2 : w21.cell? ⟨go15, (t108 : Int).toNat * 4 + 2, none⟩ = some (.int .i64 ((rd_T31 l0 t108).f2)) := hcc15 2 _ rfl; have hx15_3 : w21.cell? ⟨go15, (t108 : Int).toNat * 4 + 3, none⟩ = some (.int .i64 ((rd_T31 l0 t108).f3)) := hcc15 3 _ rfl; have hf15_0 : w21.frozen? ⟨go15, (t108 : Int).toNat * 4, none⟩ = false := hfr15 0; have hf15_1 : w21.frozen? ⟨go15, (t108 : Int).toNat * 4 + 1, none⟩ = false := hfr15 1; have hf15_2 : w21.frozen? ⟨go15, (t108 : Int).toNat * 4 + 2, none⟩ = false := hfr15 2; have hf15_3 : w21.frozen? ⟨go15, (t108 : Int).toNat * 4 + 3, none⟩ = false := hfr15 3; clear hcl15 hcc15 hfr15 hM15; replace p15 := eq_true p15; replace q15 := eq_true q15; have HX23 := Aside0.mk (show Kd.R k31 31 w21 w0.heap.size (fun k_ => (P0_ k_ ∨ w.heap.size ≤ k_) ∧ k_ ≠ gb106) (.slice (some ⟨go15, 0, none⟩) l0.length co18) l0 from (by (with_reducible repeat (first | apply Kd.R_alloc | apply Kd.R_drewN | apply Kd.R_drew)); exact HO0.out)); obtain ⟨ce23, hcl23, hM23, hcc23, hfr23⟩ := Kd.R_elem HX23.out z31 (t108 : Int) (of_decide_eq_true (by first | (with_reducible assumption) | assumption)) (by have h_ : (t108 : Int) < ((l0.length : Int) : Int) := of_decide_eq_true (by first | (with_reducible assumption) | assumption); first | exact h_ | (have e_ := (Kd.R_reads' HO0.out).1; omega) | simpa using h_); obtain rfl := k31_openM hM23; have HP23 := Kd.R_seg HX23.out (t108 : Int) (of_decide_eq_true (by first | (with_reducible assumption) | assumption)) (by have h_ : (t108 : Int) < ((l0.length : Int) : Int) := of_decide_eq_true (by first | (with_reducible assumption) | assumption); first | exact h_ | (have e_ := (Kd.R_reads' HO0.out).1; omega) | simpa using h_) (seg := [.int .i64 a1_0, .string a1_1, .int .i64 a1_2, .int .i64 a1_3]) (j := 0) hcl23 hcc23 (show 4 ≤ 4 from by decide) (x' := (⟨a1_0, a1_1, a1_2, a1_3⟩ : S31)) (k31_mkM _ _ _ (⟨a1_0, a1_1, a1_2, a1_3⟩ : S31) ) (fun _ hk => hk); have hx23_0 := hcc23 0 _ rfl; (try simp only [show (k31).sz = 4 from rfl, Nat.mul_one, Nat.add_zero] at hx23_0); have hf23_0 := hfr23 0; (try simp only [show (k31).sz = 4 from rfl, Nat.mul_one, Nat.add_zero] at hf23_0); have hx23_1 := hcc23 1 _ rfl; (try simp only [show (k31).sz = 4 from rfl, Nat.mul_one, Nat.add_zero] at hx23_1); have hf23_1 := hfr23 1; (try simp only [show (k31).sz = 4 from rfl, Nat.mul_one, Nat.add_zero] at hf23_1); have hx23_2 := hcc23 2 _ rfl; (try simp only [show (k31).sz = 4 from rfl, Nat.mul_one, Nat.add_zero] at hx23_2); have hf23_2 := hfr23 2; (try simp only [show (k31).sz = 4 from rfl, Nat.mul_one, Nat.add_zero] at hf23_2); have hx23_3 := hcc23 3 _ rfl; (try simp only [show (k31).sz = 4 from rfl, Nat.mul_one, Nat.add_zero] at hx23_3); have hf23_3 := hfr23 3; (try simp only [show (k31).sz = 4 from rfl, Nat.mul_one, Nat.add_zero] at hf23_3); clear hcl23 hcc23 hfr23 hM23) | ((with_reducible refine gate_store (t := 31) (p := 21) rfl ?_); refine store_event (t := 31) (p := 21) (v := ?vo_w24) (w1 := ((((w21.setCell ⟨go15, (t108 : Int).toNat * 4, none⟩ (.int .i64 a1_0)).setCell ⟨go15, (t108 : Int).toNat * 4 + 1, none⟩ (.string a1_1)).setCell ⟨go15, (t108 : Int).toNat * 4 + 2, none⟩ (.int .i64 a1_2)).setCell ⟨go15, (t108 : Int).toNat * 4 + 3, none⟩ (.int .i64 a1_3))) ?hg ?ho ?hn ?hr ?_; (case ho => rfl); (case hg => rfl); (case hn => rfl); (case hr => first | (go_simp; done) | (go_simp; rfl)); intro w24 hw; have hg : w21.grownBy w24 (some go15) := (by rw [hw]; exact HP23.2); have hp_ : Kd.R k31 31 w24 w0.heap.size (fun k_ => (P0_ k_ ∨ w.heap.size ≤ k_) ∧ k_ ≠ gb106) (.slice (some ⟨go15, 0, none⟩) l0.length co18) y109 := (by rw [hw, Ny109.out]; exact HP23.1); clear HP23; have n0_ := Aside0.mk (hp_); have n1_ := Aside0.mk (blk_grown (g := gb106) (o := .cells #[.int .i64 a1_0, .string a1_1, .int .i64 a1_2, .int .i64 a1_3] 31 (0, 0)) (by (with_reducible repeat (first | refine blk_drewN ?_ _ | refine blk_drew ?_ | refine blk_alloc ?_ _)); exact BK106.out) hg (Kd.R_away HO0.out (fun _ hk => hk.2))); have n2_ := Aside0.mk ((by rw [hw]; exact below_set (below_set (below_set (below_set (HB.out) GB15.out) GB15.out) GB15.out) GB15.out : Below w0.heap.size w0 w24)); have n3_ := Aside0.mk (Kept.of_grown (S := (fun k_ => P0_ k_)) hg (by repeat (first | (with_reducible first | exact HK.out | apply Kept.alloc | apply Kept.drewN | apply Kept.drew | refine Kept.setCell ?_ (.inr GW106.out) _) | exact HK.out)) (fun k_ e_ => (HO0.out.1 k_ e_).1)); clear HO0; clear BK106; clear HB; clear HK; have HO0 := n0_; have BK106 := n1_; have HB := n2_; have HK := n3_; clear n0_ n1_ n2_ n3_; clear hg hw hp_))
          go_ret
          exact ⟨by first | rfl | (simp [errW_none, errW_some] <;> rfl) | (simp [*, errW_none, errW_some] <;> rfl), by (with_reducible repeat (first | apply Kd.R_alloc | apply Kd.R_drewN | apply Kd.R_drew)); exact Kd.R_mono HO0.out (fun _ hk => hk.1), by repeat (first | (with_reducible first | exact HB.out | apply below_alloc | apply pw_below_drewN | apply below_drew1 | refine below_set ?_ GE106.out) | exact HB.out), by repeat (first | (with_reducible first | exact HK.out | apply Kept.alloc | apply Kept.drewN | apply Kept.drew | refine Kept.setCell ?_ (.inr GW106.out) _) | exact HK.out)⟩
        · rw [if_neg c14] at H
          exact absurd H (by simp)
      · rw [if_neg c13] at H
        exact absurd H (by simp)
  · rw [if_neg c4] at H
    have c4b0 : decide (t107 < 0) = false := decide_eq_false c4
    clear c4
    by_cases c25 : 0 ≤ t107
    · rw [if_pos c25] at H
      have c25b0 : decide (0 ≤ t107) = true := decide_eq_true c25
      clear c25
      by_cases c26 : t107 < (l0.length : Int)
      · rw [if_pos c26] at H
        have c26b0 : decide (t107 < (l0.length : Int)) = true := decide_eq_true c26
        clear c26
        obtain ⟨y110, hy110⟩ : ∃ y_ : List (S31), y_ = (l0.set (t107 : Int).toNat (⟨a1_0, a1_1, a1_2, a1_3⟩ : S31)) := ⟨_, rfl⟩
        replace H : (some (true, y110)) = some (r1, r2) := by first | (rw [hy110]; with_reducible exact H) | (have H2_ := (Option.bind_some _ _).symm.trans H; rw [hy110]; with_reducible exact H2_) | (have H2_ := (Option.bind_some _ _).symm.trans H; with_reducible exact H2_) | with_reducible exact H | (rw [hy110]; exact H) | exact H
        have Ny110 := Aside0.mk hy110
        clear hy110
        simp only [Option.some.injEq, Prod.mk.injEq] at H
        obtain ⟨rfl, rfl⟩ := H
        go_enter Try.func66, Try.ntmps66
        go_wp2_with (first | ((with_reducible refine gate_dst (N := 3) rfl ?_); refine box_event ?hg (N := 3) ?hd (cs := #[.int .i64 a1_0, .string a1_1, .int .i64 a1_2, .int .i64 a1_3]) (t := 31) ?hr ?_; (case hd => rfl); (case hg => rfl); (case hr => first | (go_simp; done) | (go_simp; rfl)); intro gb106 hg w28 hbox hb; have n0_ := Aside0.mk (Kd.R_below (Kd.R_elderB (by (with_reducible repeat (first | apply Kd.R_alloc | apply Kd.R_drewN | apply Kd.R_drew)); exact HO0.out) gb106 (Nat.le_of_eq hg.symm)) hb); have n1_ := Aside0.mk (Kept.below (S := (fun k_ => P0_ k_)) (by repeat (first | (with_reducible first | exact HK.out | apply Kept.alloc | apply Kept.drewN | apply Kept.drew) | exact HK.out)) hb); have n2_ := Aside0.mk (below_step (by repeat (first | (with_reducible first | exact HB.out | apply below_alloc | apply pw_below_drewN | apply below_drew1) | exact HB.out)) hb); have n3_ := Aside0.mk (hbox); have n4_ := Aside0.mk ((by rw [hg]; exact (by first | exact HK.out.1 | exact (show Kept w _ (fun k_ => P0_ k_) from by repeat (first | (with_reducible first | exact HK.out | apply Kept.alloc | apply Kept.drewN | apply Kept.drew) | exact HK.out)).1) : w.heap.size ≤ gb106)); have n5_ := Aside0.mk ((by rw [hg]; exact (below_size (by repeat (first | (with_reducible first | exact HB.out | apply below_alloc | apply pw_below_drewN | apply below_drew1) | exact HB.out))) : w0.heap.size ≤ gb106)); clear HO0; clear HK; clear HB; have HO0 := n0_; have HK := n1_; have HB := n2_; have BK106 := n3_; have GW106 := n4_; have GE106 := n5_; clear n0_ n1_ n2_ n3_ n4_ n5_; clear hb hbox hg; have hcz29_0 : w28.cell? ⟨gb106, 0, none⟩ = some (.int .i64 a1_0) := (blk_cell BK106.out 0).trans rfl; have hcz29_1 : w28.cell? ⟨gb106, 1, none⟩ = some (.string a1_1) := (blk_cell BK106.out 1).trans rfl; have hcz29_2 : w28.cell? ⟨gb106, 2, none⟩ = some (.int .i64 a1_2) := (blk_cell BK106.out 2).trans rfl; have hcz29_3 : w28.cell? ⟨gb106, 3, none⟩ = some (.int .i64 a1_3) := (blk_cell BK106.out 3).trans rfl; have hfz29_0 := blk_frozen BK106.out 0; have hfz29_1 := blk_frozen BK106.out 1; have hfz29_2 := blk_frozen BK106.out 2; have hfz29_3 := blk_frozen BK106.out 3; obtain ⟨Ao30, co30, eo30⟩ := Kd.R_slice HO0.out; subst eo30) | ((with_reducible refine gate_callee (f := 25) rfl ?_); refine goesL_ (some 9) rfl rfl Try.func25 (by kernel_rfl) rfl #[.slice Ao30 l0.length co30, .string a1_1] rfl (by (try simp only [List.map_toArray, List.map_cons, List.map_nil]); first | done | rfl | (simp only [List.length_drop, List.length_take]; rfl)) ?_; (with_reducible refine (probe_Find.calls _ _ l0 a1_1 t107 _ ?side1 ?side2 A3.out).mono ?_); (case side1 => repeat (first | exact (Kd.R_reads' HO0.out).2.2 | (with_reducible refine Kd.C_alloc ?_ _) | (with_reducible refine Kd.C_drewN ?_ _) | (with_reducible refine Kd.C_drew ?_))); (case side2 => exact (Kd.R_reads' HO0.out).2.1); (try clear A3); rintro e w31 ⟨rfl, hb⟩; refine ⟨_, rfl, ?_⟩; have n0_ := Aside0.mk (Kd.R_below (by (with_reducible repeat (first | apply Kd.R_alloc | apply Kd.R_drewN | apply Kd.R_drew)); exact HO0.out) hb); have n1_ := Aside0.mk (blk_below (g := gb106) (o := .cells #[.int .i64 a1_0, .string a1_1, .int .i64 a1_2, .int .i64 a1_3] 31 (0, 0)) (by (with_reducible repeat (first | refine blk_drewN ?_ _ | refine blk_drew ?_ | refine blk_alloc ?_ _)); exact BK106.out) hb); have n2_ := Aside0.mk (Kept.below (S := (fun k_ => P0_ k_)) (by repeat (first | (with_reducible first | exact HK.out | apply Kept.alloc | apply Kept.drewN | apply Kept.drew | refine Kept.setCell ?_ (.inr GW106.out) _) | exact HK.out)) hb); have n3_ := Aside0.mk (below_step (by repeat (first | (with_reducible first | exact HB.out | apply below_alloc | apply pw_below_drewN | apply below_drew1 | refine below_set ?_ GE106.out) | exact HB.out)) hb); clear HO0; clear BK106; clear HK; clear HB; have HO0 := n0_; have BK106 := n1_; have HK := n2_; have HB := n3_; clear n0_ n1_ n2_ n3_; (try clear hb); (try clear hb2); (try clear hk); (try clear hi); have hcz32_0 : w31.cell? ⟨gb106, 0, none⟩ = some (.int .i64 a1_0) := (blk_cell BK106.out 0).trans rfl; have hcz32_1 : w31.cell? ⟨gb106, 1, none⟩ = some (.string a1_1) := (blk_cell BK106.out 1).trans rfl; have hcz32_2 : w31.cell? ⟨gb106, 2, none⟩ = some (.int .i64 a1_2) := (blk_cell BK106.out 2).trans rfl; have hcz32_3 : w31.cell? ⟨gb106, 3, none⟩ = some (.int .i64 a1_3) := (blk_cell BK106.out 3).trans rfl; have hfz32_0 := blk_frozen BK106.out 0; have hfz32_1 := blk_frozen BK106.out 1; have hfz32_2 := blk_frozen BK106.out 2; have hfz32_3 := blk_frozen BK106.out 3; have p27 : 0 ≤ (t107 : Int) := of_decide_eq_true (by first | (with_reducible assumption) | assumption); have q27 : (t107 : Int) < ((l0.length : Int) : Int) := of_decide_eq_true (by first | (with_reducible assumption) | assumption); obtain ⟨go27, co27, eo27, gb27, gl27, cl27, HG27⟩ := Kd.R_form HO0.out (by omega); (first | cases eo27 | (injection eo27 with ea_ en_ ec_; (first | subst ea_ | (injection ea_ with ea_; subst ea_)); subst ec_; clear en_)); have GB27 := Aside0.mk gb27; have GG27 := Aside0.mk HG27; clear gb27 gl27 HG27; have HMgo27 := Aside0.mk (show (P0_ go27 ∨ w.heap.size ≤ go27) from (HO0.out.1 _ rfl).1); obtain ⟨ce27, hcl27, hM27, hcc27, hfr27⟩ := Kd.R_elem HO0.out z31 (t107 : Int) p27 q27; obtain rfl := k31_openM hM27; have hx27_0 : w31.cell? ⟨go27, (t107 : Int).toNat * 4, none⟩ = some (.int .i64 ((rd_T31 l0 t107).f0)) := hcc27 0 _ rfl; have hx27_1 : w31.cell? ⟨go27, (t107 : Int).toNat * 4 + 1, none⟩ = some (.string ((rd_T31 l0 t107).f1)) := hcc27 1 _ rfl; have hx27_2 : w31.cell? ⟨go27, (t107 : Int).toNat * 4 + 2, none⟩ = some (.int .i64 ((rd_T31 l0 t107).f2)) := hcc27 2 _ rfl; have hx27_3 : w31.cell? ⟨go27, (t107 : Int).toNat * 4 + 3, none⟩ = some (.int .i64 ((rd_T31 l0 t107).f3)) := hcc27 3 _ rfl; have hf27_0 : w31.frozen? ⟨go27, (t107 : Int).toNat * 4, none⟩ = false := hfr27 0; have hf27_1 : w31.frozen? ⟨go27, (t107 : Int).toNat * 4 + 1, none⟩ = false := hfr27 1; have hf27_2 : w31.frozen? ⟨go27, (t107 : Int).toNat * 4 + 2, none⟩ = false := hfr27 2; have hf27_3 : w31.frozen? ⟨go27, (t107 : Int).toNat * 4 + 3, none⟩ = false := hfr27 3; clear hcl27 hcc27 hfr27 hM27; replace p27 := eq_true p27; replace q27 := eq_true q27; have HX33 := Aside0.mk (show Kd.R k31 31 w31 w0.heap.size (fun k_ => (P0_ k_ ∨ w.heap.size ≤ k_) ∧ k_ ≠ gb106) (.slice (some ⟨go27, 0, none⟩) l0.length co30) l0 from (by (with_reducible repeat (first | apply Kd.R_alloc | apply Kd.R_drewN | apply Kd.R_drew)); exact HO0.out)); obtain ⟨ce33, hcl33, hM33, hcc33, hfr33⟩ := Kd.R_elem HX33.out z31 (t107 : Int) (of_decide_eq_true (by first | (with_reducible assumption) | assumption)) (by have h_ : (t107 : Int) < ((l0.length : Int) : Int) := of_decide_eq_true (by first | (with_reducible assumption) | assumption); first | exact h_ | (have e_ := (Kd.R_reads' HO0.out).1; omega) | simpa using h_); obtain rfl := k31_openM hM33; have HP33 := Kd.R_seg HX33.out (t107 : Int) (of_decide_eq_true (by first | (with_reducible assumption) | assumption)) (by have h_ : (t107 : Int) < ((l0.length : Int) : Int) := of_decide_eq_true (by first | (with_reducible assumption) | assumption); first | exact h_ | (have e_ := (Kd.R_reads' HO0.out).1; omega) | simpa using h_) (seg := [.int .i64 a1_0, .string a1_1, .int .i64 a1_2, .int .i64 a1_3]) (j := 0) hcl33 hcc33 (show 4 ≤ 4 from by decide) (x' := (⟨a1_0, a1_1, a1_2, a1_3⟩ : S31)) (k31_mkM _ _ _ (⟨a1_0, a1_1, a1_2, a1_3⟩ : S31) ) (fun _ hk => hk); have hx33_0 := hcc33 0 _ rfl; (try simp only [show (k31).sz = 4 from rfl, Nat.mul_one, Nat.add_zero] at hx33_0); have hf33_0 := hfr33 0; (try simp only [show (k31).sz = 4 from rfl, Nat.mul_one, Nat.add_zero] at hf33_0); have hx33_1 := hcc33 1 _ rfl; (try simp only [show (k31).sz = 4 from rfl, Nat.mul_one, Nat.add_zero] at hx33_1); have hf33_1 := hfr33 1; (try simp only [show (k31).sz = 4 from rfl, Nat.mul_one, Nat.add_zero] at hf33_1); have hx33_2 := hcc33 2 _ rfl; (try simp only [show (k31).sz = 4 from rfl, Nat.mul_one, Nat.add_zero] at hx33_2); have hf33_2 := hfr33 2; (try simp only [show (k31).sz = 4 from rfl, Nat.mul_one, Nat.add_zero] at hf33_2); have hx33_3 := hcc33 3 _ rfl; (try simp only [show (k31).sz = 4 from rfl, Nat.mul_one, Nat.add_zero] at hx33_3); have hf33_3 := hfr33 3; (try simp only [show (k31).sz = 4 from rfl, Nat.mul_one, Nat.add_zero] at hf33_3); clear hcl33 hcc33 hfr33 hM33) | ((with_reducible refine gate_store (t := 31) (p := 21) rfl ?_); refine store_event (t := 31) (p := 21) (v := ?vo_w34) (w1 := ((((w31.setCell ⟨go27, (t107 : Int).toNat * 4, none⟩ (.int .i64 a1_0)).setCell ⟨go27, (t107 : Int).toNat * 4 + 1, none⟩ (.string a1_1)).setCell ⟨go27, (t107 : Int).toNat * 4 + 2, none⟩ (.int .i64 a1_2)).setCell ⟨go27, (t107 : Int).toNat * 4 + 3, none⟩ (.int .i64 a1_3))) ?hg ?ho ?hn ?hr ?_; (case ho => rfl); (case hg => rfl); (case hn => rfl); (case hr => first | (go_simp; done) | (go_simp; rfl)); intro w34 hw; have hg : w31.grownBy w34 (some go27) := (by rw [hw]; exact HP33.2); have hp_ : Kd.R k31 31 w34 w0.heap.size (fun k_ => (P0_ k_ ∨ w.heap.size ≤ k_) ∧ k_ ≠ gb106) (.slice (some ⟨go27, 0, none⟩) l0.length co30) y110 := (by rw [hw, Ny110.out]; exact HP33.1); clear HP33; have n0_ := Aside0.mk (hp_); have n1_ := Aside0.mk (blk_grown (g := gb106) (o := .cells #[.int .i64 a1_0, .string a1_1, .int .i64 a1_2, .int .i64 a1_3] 31 (0, 0)) (by (with_reducible repeat (first | refine blk_drewN ?_ _ | refine blk_drew ?_ | refine blk_alloc ?_ _)); exact BK106.out) hg (Kd.R_away HO0.out (fun _ hk => hk.2))); have n2_ := Aside0.mk ((by rw [hw]; exact below_set (below_set (below_set (below_set (HB.out) GB27.out) GB27.out) GB27.out) GB27.out : Below w0.heap.size w0 w34)); have n3_ := Aside0.mk (Kept.of_grown (S := (fun k_ => P0_ k_)) hg (by repeat (first | (with_reducible first | exact HK.out | apply Kept.alloc | apply Kept.drewN | apply Kept.drew | refine Kept.setCell ?_ (.inr GW106.out) _) | exact HK.out)) (fun k_ e_ => (HO0.out.1 k_ e_).1)); clear HO0; clear BK106; clear HB; clear HK; have HO0 := n0_; have BK106 := n1_; have HB := n2_; have HK := n3_; clear n0_ n1_ n2_ n3_; clear hg hw hp_))
        go_ret
        exact ⟨by first | rfl | (simp [errW_none, errW_some] <;> rfl) | (simp [*, errW_none, errW_some] <;> rfl), by (with_reducible repeat (first | apply Kd.R_alloc | apply Kd.R_drewN | apply Kd.R_drew)); exact Kd.R_mono HO0.out (fun _ hk => hk.1), by repeat (first | (with_reducible first | exact HB.out | apply below_alloc | apply pw_below_drewN | apply below_drew1 | refine below_set ?_ GE106.out) | exact HB.out), by repeat (first | (with_reducible first | exact HK.out | apply Kept.alloc | apply Kept.drewN | apply Kept.drew | refine Kept.setCell ?_ (.inr GW106.out) _) | exact HK.out)⟩
      · rw [if_neg c26] at H
        exact absurd H (by simp)
    · rw [if_neg c25] at H
      exact absurd H (by simp)

-- NOT PRINTED: function 65 (flows_Put_1)

/-! ### flows_Put: function 37 -/
section
open Go.Shelf Go.Proofs.Ythdkkmeiihbafaa.Hand
set_option maxHeartbeats 4000000 in
theorem Put1_any (l l2 : List S31) (key : ByteArray) (bk dl : Int) (b : Bool) (h : flows_table_put.f l 1 key bk dl = some (b, l2)) (Bx : Nat) (w W : World) (v : Value) (hB : Below w.heap.size w W) (hR : Kd.R k31 31 W w.heap.size (fun _ => True) v l) (hx : Blk W Bx 31 [.int .i64 1, .string key, .int .i64 bk, .int .i64 dl]) :
    Calls Try.prog 65 #[v, .pointer (some ⟨Bx, 0, none⟩)] W fun e W' => e = .returned (.bool b) ∧ Kd.R k31 31 W' w.heap.size (fun _ => True) v l2 ∧ Below w.heap.size w W' := by
  have e0 : W.cell? ⟨Bx, 0, none⟩ = some (.int .i64 1) := hx.cell 0
  have e1 : W.cell? ⟨Bx, 1, none⟩ = some (.string key) := hx.cell 1
  have e2 : W.cell? ⟨Bx, 2, none⟩ = some (.int .i64 bk) := hx.cell 2
  have e3 : W.cell? ⟨Bx, 3, none⟩ = some (.int .i64 dl) := hx.cell 3
  have HR := Lib.hid hR
  have HB := Lib.hid hB
  have HH := Lib.hid h
  clear hR hB hx h
  have hu := Try.underlying31
  go_enter Try.func65, Try.ntmps65
  go_wp2_with (go_at_call 66; refine (flows_table_put.calls (fun _ => True) v l 1 key bk dl b l2 w W HB.out HR.out HH.out).mono ?_; rintro e w1 ⟨rfl, hr, hb, _⟩)
  go_ret
  exact ⟨rfl, Kd.R_mono hr (fun _ _ => trivial), hb⟩

def flows_Put.f (l0 : List S31) (a1 : ByteArray) (a2 : Int) (a3 : Int) : Option (List S31 × Int) := if l0.length ≤ 1000000 then (flows_table_put.f l0 1 a1 a2 a3).bind fun p => some (if p.1 = true then (p.2, 0) else (l0, 12)) else none

set_option maxHeartbeats 4000000 in
theorem flows_Put.calls (P0_ : Nat → Prop) (A0 : Option Addr) (c0 : Nat) (l0 : List S31) (a1 : ByteArray) (a2 : Int) (a3 : Int) (r1 : List S31) (r2 : Int) (w : World) (hs0 : Kd.V k31 31 w w.heap.size (fun k_ => P0_ k_) (.slice A0 l0.length c0) l0) (h : flows_Put.f l0 a1 a2 a3 = some (r1, r2)) :
    Calls Try.prog 37 #[.slice A0 l0.length c0, .string a1, .int .i64 a2, .int .i64 a3] w fun e w' => ∃ v0_ : Value, e = .returned (.tuple #[v0_, .int .i64 r2]) ∧ Kd.V k31 31 w' w.heap.size (fun k_ => (P0_ k_ ∨ w.heap.size ≤ k_)) v0_ r1 ∧ Below w.heap.size w w' := by
  unfold flows_Put.f at h
  by_cases hl : l0.length ≤ 1000000
  · rw [if_pos hl] at h
    obtain ⟨⟨b, l2⟩, hp, h⟩ := Option.bind_eq_some_iff.mp h
    have h' := Option.some.inj h
    clear h
    obtain ⟨_, hcap, hC⟩ := Kd.V_reads' hs0
    have hx := Blk.new w 31 [.int .i64 1, .string a1, .int .i64 a2, .int .i64 a3]
    have hb0 : Below w.heap.size w (w.alloc (.cells #[.int .i64 1, .string a1, .int .i64 a2, .int .i64 a3] 31)) := (Below.refl _ w).alloc (Nat.le_refl _) _
    have eg := enters_of Try.func65 (by kernel_rfl) rfl
    have HS := Lib.hid hs0
    have HP := Lib.hid hp
    have H' := Lib.hid h'
    have HX := Lib.hid hx
    clear hs0 hp h' hx
    cases b
    all_goals
      go_enter Try.func37, Try.ntmps37
      go_wp2_with (go_at_call 64; refine (changed_any 65 eg _ _ A0 c0 l0 l2 hl hcap _ (Kd.C_alloc hC _) (fun v W hB hR => Put1_any l0 l2 a1 a2 a3 _ HP.out w.heap.size _ W v hB hR (HX.out.below hB))).mono ?_; rintro e w1 ⟨v, rfl, hr1, hr2, hb⟩; have HR1 := Lib.hid hr1; have HR2 := Lib.hid hr2; have HB := Lib.hid hb; clear hr1 hr2 hb)
      go_ret2
      have hB : Below w.heap.size w w1 := hb0.trans (HB.out.mono (by simp))
    · obtain ⟨rfl, rfl⟩ : l0 = r1 ∧ (12 : Int) = r2 := by simpa using H'.out
      refine ⟨_, rfl, ?_, hB⟩
      rw [HR2.out (by trivial)]
      exact Kd.V_mono (Kd.V_below HS.out hB) (fun k hk => .inl hk)
    · obtain ⟨rfl, rfl⟩ : l2 = r1 ∧ (0 : Int) = r2 := by simpa using H'.out
      refine ⟨_, rfl, ?_, hB⟩
      exact Kd.V_mono (Kd.R_V (base' := w.heap.size) (Kd.R_bound (HR1.out (by trivial)))) (fun k hk => .inr (Nat.le_trans (by simp) hk.2.1))
  · rw [if_neg hl] at h
    exact absurd h (by simp)
end

/-! ### flows_New: function 43 -/
def flows_New.f (a0 : Int) : Option ((List (S31))) := if 0 ≤ (mx 0 (mn a0 64)) then (if (mx 0 (mn a0 64) : Int).toNat ≤ 7036874417766 then (some (List.replicate (mx 0 (mn a0 64) : Int).toNat z31)) else (none)) else (none)
set_option maxHeartbeats 8000000 in
set_option maxRecDepth 100000 in
theorem flows_New.calls (a0 : Int) (r : List (S31)) (w : World) (h : flows_New.f a0 = some r) :
    Calls Try.prog 43 #[.int .i64 a0] w fun e w' => ∃ v0_ : Value, e = .returned (v0_) ∧ Kd.R k31 31 w' w.heap.size (fun _ => True) v0_ r ∧ Below w.heap.size w w' := by
  have HB := Aside0.mk (Below.refl w.heap.size w)
  have H : (if 0 ≤ (mx 0 (mn a0 64)) then (if (mx 0 (mn a0 64) : Int).toNat ≤ 7036874417766 then (some (List.replicate (mx 0 (mn a0 64) : Int).toNat z31)) else (none)) else (none)) = some r := h
  clear h
  obtain ⟨ji2, hji2⟩ : ∃ j_ : Int, (mn a0 64) = j_ := ⟨_, rfl⟩
  replace H : (if 0 ≤ (mx 0 (ji2)) then (if (mx 0 (ji2) : Int).toNat ≤ 7036874417766 then (some (List.replicate (mx 0 (ji2) : Int).toNat z31)) else (none)) else (none)) = some r := by first | (rw [hji2] at H; exact H) | (simp only [hji2] at H ⊢; exact H)
  (try (have hji2h : ji2 ≤ 64 := by (rw [← hji2]; unfold mn; (repeat' split) <;> omega)))
  (try (have hji2g : ji2 ≤ 64 := by omega))
  have hji2_ : (if 64 < a0 then 64 else a0) = ji2 := hji2
  obtain ⟨ji3, hji3⟩ : ∃ j_ : Int, (mx 0 (ji2)) = j_ := ⟨_, rfl⟩
  replace H : (if 0 ≤ (ji3) then (if (ji3 : Int).toNat ≤ 7036874417766 then (some (List.replicate (ji3 : Int).toNat z31)) else (none)) else (none)) = some r := by first | (rw [hji3] at H; exact H) | (simp only [hji3] at H ⊢; exact H)
  have hji3_ : (if 0 < (ji2) then (ji2) else 0) = ji3 := hji3
  by_cases c4 : 0 ≤ (ji3)
  · rw [if_pos c4] at H
    have c4b0 := eq_true c4
    have c4b1 : decide (0 ≤ (ji3)) = true := decide_eq_true c4
    clear c4
    by_cases c5 : (ji3 : Int).toNat ≤ 7036874417766
    · rw [if_pos c5] at H
      have c5b0 := eq_true c5
      have c5b1 : decide ((ji3 : Int).toNat ≤ 7036874417766) = true := decide_eq_true c5
      clear c5
      obtain ⟨y111, hy111⟩ : ∃ y_ : List (S31), y_ = (List.replicate (ji3 : Int).toNat z31) := ⟨_, rfl⟩
      replace H : (some y111) = some r := by first | (rw [hy111]; with_reducible exact H) | (have H2_ := (Option.bind_some _ _).symm.trans H; rw [hy111]; with_reducible exact H2_) | (have H2_ := (Option.bind_some _ _).symm.trans H; with_reducible exact H2_) | with_reducible exact H | (rw [hy111]; exact H) | exact H
      have Ny111 := Aside0.mk hy111
      clear hy111
      obtain rfl := Option.some.inj H
      go_enter Try.func43, Try.ntmps43
      go_wp2_with (first | ((with_reducible refine gate_dst (N := 6) rfl ?_); refine Kd.R_make k31 _ 31 rfl (N := 6) rfl 22 _ _ rfl ji3 rfl rfl Try.underlying22 (.agg #[(.int .i64 0), (.string ⟨#[]⟩), (.int .i64 0), (.int .i64 0)]) 40 info31 rfl (by decide) (by omega) z31 (ok := fun _ => True) (okp := fun _ => True) (k31_mkM _ _ _ z31 ) (fun _ hk => hk) trivial (of_decide_eq_true (by first | (with_reducible assumption) | assumption)) (Nat.le_trans (Nat.mul_le_mul_right _ (of_decide_eq_true (by first | (with_reducible assumption) | assumption) : ji3.toNat ≤ 7036874417766)) (by omega)) (Below.refl _ _) (Nat.le_refl _) ?_; intro v112 w6 ho7 hb hg_ hnew_; clear hg_ hnew_; (first | rw [← Ny111.out] at ho7 | (simp only [Int.reduceToNat] at ho7; rw [← Ny111.out] at ho7)); have n0_ := Aside0.mk (Kd.R_lower ho7 (below_size (by repeat (first | (with_reducible first | exact HB.out | apply below_alloc | apply pw_below_drewN | apply below_drew1) | exact HB.out)))); have n1_ := Aside0.mk (below_step (by repeat (first | (with_reducible first | exact HB.out | apply below_alloc | apply pw_below_drewN | apply below_drew1) | exact HB.out)) hb); clear HB; have HO113 := n0_; have HB := n1_; clear n0_ n1_; clear hb ho7))
      go_ret
      exact ⟨_, by first | rfl | (simp [errW_none, errW_some] <;> rfl) | (simp only [← hji2, ← hji3]; first | rfl | (simp [errW_none, errW_some] <;> rfl)) | (simp [*, errW_none, errW_some] <;> rfl), by (with_reducible repeat (first | apply Kd.R_alloc | apply Kd.R_drewN | apply Kd.R_drew)); exact HO113.out, by repeat (first | (with_reducible first | exact HB.out | apply below_alloc | apply pw_below_drewN | apply below_drew1) | exact HB.out)⟩
    · rw [if_neg c5] at H
      exact absurd H (by simp)
  · rw [if_neg c4] at H
    exact absurd H (by simp)

/-! ### flows_Tidy: function 41 -/
section
open Go.Shelf Go.Proofs.Ythdkkmeiihbafaa.Hand
attribute [local go_sem] Oper.semAt_some
theorem findIn_range (key : ByteArray) (n : Nat) : ∀ (ps : List (Int × S31)), (∀ p ∈ ps, 0 ≤ p.1 ∧ p.1 < n) → findIn key ps = -1 ∨ (0 ≤ findIn key ps ∧ findIn key ps < n)
  | [], _ => .inl rfl
  | (j, x) :: r, h => by
    simp only [findIn]
    by_cases h0 : x.f0 = 0
    · rw [if_pos h0]; exact .inl rfl
    · rw [if_neg h0]
      by_cases h1 : x.f0 = 1 ∧ x.f1 = key
      · rw [if_pos h1]; exact .inr (h (j, x) (by simp))
      · rw [if_neg h1]; exact findIn_range key n r (fun p hp => h p (by simp [hp]))
theorem roomIn_range (n : Nat) : ∀ (ps : List (Int × S31)), (∀ p ∈ ps, 0 ≤ p.1 ∧ p.1 < n) → roomIn ps = -1 ∨ (0 ≤ roomIn ps ∧ roomIn ps < n)
  | [], _ => .inl rfl
  | (j, x) :: r, h => by
    simp only [roomIn]
    by_cases h1 : x.f0 = 1
    · rw [if_pos h1]; exact roomIn_range n r (fun p hp => h p (by simp [hp]))
    · rw [if_neg h1]; exact .inr (h (j, x) (by simp))
theorem way_range (l : List S31) (hd : Int) : ∀ p ∈ upto (wayAt l hd) l.length, 0 ≤ p.1 ∧ p.1 < (l.length : Int) := by
  intro p hp
  obtain ⟨i, hi, rfl⟩ := mem_upto.1 hp
  exact ⟨Int.emod_nonneg _ (by omega), Int.emod_lt_of_pos _ (by omega)⟩
theorem home_any (s : ByteArray) (n : Nat) (hs : s.size ≤ 140737488351232) (hn : n ≤ 1000000) : ∃ h, probe_Home.f s (n : Int) = some h := by
  unfold probe_Home.f
  by_cases c : (n : Int) < 1
  · exact ⟨0, if_pos c⟩
  · rw [if_neg c]
    have e1 : ∃ q, fnv_Sum.f s = some q := by
      unfold fnv_Sum.f fnv_Join.f
      rw [if_pos hs]
      exact ⟨_, rfl⟩
    obtain ⟨q, hq⟩ := e1
    rw [hq]
    have e2 : IntKind.u64.wrap (n : Int) = n := by simp [IntKind.wrap, IntKind.bits, IntKind.signed]; omega
    rw [e2]
    exact ⟨_, if_neg (by omega)⟩
theorem find_any (l : List S31) (s : ByteArray) (hs : s.size ≤ 140737488351232) (hn : l.length ≤ 1000000) : ∃ j, probe_Find.f l s = some j ∧ (j = -1 ∨ (0 ≤ j ∧ j < l.length)) := by
  obtain ⟨h, hh⟩ := home_any s l.length hs hn
  unfold probe_Find.f
  rw [if_pos hn, hh]
  exact ⟨_, rfl, findIn_range s l.length _ (way_range l h)⟩
theorem room_any (l : List S31) (s : ByteArray) (hs : s.size ≤ 140737488351232) (hn : l.length ≤ 1000000) : ∃ j, probe_Room.f l s = some j ∧ (j = -1 ∨ (0 ≤ j ∧ j < l.length)) := by
  obtain ⟨h, hh⟩ := home_any s l.length hs hn
  obtain ⟨j, hj, _⟩ := find_any l s hs hn
  unfold probe_Room.f
  rw [hj]
  simp only [Option.bind_some]
  by_cases c : 0 ≤ j
  · rw [if_pos c]; exact ⟨_, rfl, .inl rfl⟩
  · rw [if_neg c, hh]
    exact ⟨_, rfl, roomIn_range l.length _ (way_range l h)⟩
theorem put_any (l : List S31) (a : Int) (s : ByteArray) (b d : Int) (hs : s.size ≤ 140737488351232) (hn : l.length ≤ 1000000) : ∃ q, flows_table_put.f l a s b d = some q ∧ q.2.length = l.length := by
  obtain ⟨j, hj, hr⟩ := find_any l s hs hn
  obtain ⟨m, hm, hr2⟩ := room_any l s hs hn
  unfold flows_table_put.f
  rw [hj]
  simp only [Option.bind_some]
  by_cases c : j < 0
  · rw [if_pos c, hm]
    simp only [Option.bind_some]
    by_cases c2 : m < 0
    · rw [if_pos c2]; exact ⟨_, rfl, rfl⟩
    · rw [if_neg c2, if_pos (by omega), if_pos (by omega)]; exact ⟨_, rfl, by simp⟩
  · rw [if_neg c, if_pos (by omega), if_pos (by omega)]; exact ⟨_, rfl, by simp⟩

/-- One flow put in. -/
def tidyStep (c : List S31) (x : S31) : List S31 := ((flows_table_put.f c x.f0 x.f1 x.f2 x.f3).getD (false, c)).2
def tidyAll (c : List S31) (ps : List (Int × S31)) : List S31 := ps.foldl (fun c p => tidyStep c p.2) c
theorem tidyStep_length (c : List S31) (x : S31) (hs : x.f1.size ≤ 140737488351232) (hn : c.length ≤ 1000000) : (tidyStep c x).length = c.length := by
  obtain ⟨q, hq, hl⟩ := put_any c x.f0 x.f1 x.f2 x.f3 hs hn
  unfold tidyStep
  rw [hq]
  exact hl
theorem tidyAll_length : ∀ (ps : List (Int × S31)) (c : List S31), (∀ p ∈ ps, p.2.f1.size ≤ 140737488351232) → c.length ≤ 1000000 → (tidyAll c ps).length = c.length
  | [], _, _, _ => rfl
  | p :: r, c, h, hn => by
    have e := tidyStep_length c p.2 (h p (by simp)) hn
    have := tidyAll_length r (tidyStep c p.2) (fun q hq => h q (by simp [hq])) (by omega)
    simp only [tidyAll, List.foldl_cons] at this ⊢
    omega
def flows_Tidy.f (l0 : List S31) : Option (List S31) :=
  if l0.length ≤ 1000000 then (if ((liveL l0).all fun p => decide (p.2.f1.size ≤ 140737488351232)) = true then (flows_New.f l0.length).bind fun n => some (tidyAll n (liveL l0)) else none) else none

theorem R_slice {α : Type} {d : Kd α} {e base : Nat} {ok : Nat → Prop} {w : World} {v : Value} {xs : List α} (h : Kd.R d e w base ok v xs) : ∃ A m c, v = .slice A m c := by
  obtain ⟨inner, ho⟩ := Kd.R_own h
  rcases ho.2 with ⟨rfl, _⟩ | ⟨g, cap, cur, rfl, _⟩
  · exact ⟨_, _, _, rfl⟩
  · exact ⟨_, _, _, rfl⟩
theorem R_ownFrom {β : Type} {α : Type} {d : Kd α} {e base n : Nat} {v : Value} {xs : β → List α} : OwnFrom n (fun (s : β) W => Kd.R d e W base (fun _ => True) v (xs s)) := fun s W W' row hs hg hr =>
  Kd.R_mono (Kd.R_grown (Kd.R_bound hs) hg (fun k hk e => by
    obtain ⟨_, o, ho, hc⟩ := hr k e.symm
    obtain ⟨_, _, _, q, _, cells, hcl⟩ := hk
    rw [hcl] at ho
    cases ho
    simp [Obj.isCells] at hc)) (fun _ _ => trivial)

set_option maxRecDepth 100000 in
set_option maxHeartbeats 8000000 in
theorem Tidy_any (A : Option Addr) (c : Nat) (l : List S31) (hl : l.length ≤ 1000000) (hs : ∀ p ∈ liveL l, p.2.f1.size ≤ 140737488351232) (n0 : List S31) (hn : flows_New.f l.length = some n0) (hn0 : n0.length ≤ 1000000) (w : World) (hC : Kd.C k31 w A l.length l) :
    Calls Try.prog 41 #[.slice A l.length c] w fun e W' => ∃ v, e = .returned v ∧ Kd.R k31 31 W' w.heap.size (fun _ => True) v (tidyAll n0 (liveL l)) ∧ Below w.heap.size w W' := by
  refine (callsIn_wide (n := 6)).1 ?_
  have hro : Fence.wide.round = none := rfl
  refine callsIn_of_wp_marks Try.func41 rfl trivial ?_ hro
  simp only [Try.ntmps41, List.size_toArray, List.length_cons, List.length_nil, Nat.reduceAdd, Nat.reduceSub, Array.replicate_succ, Array.replicate_zero, List.push_toArray, List.append_toArray, List.nil_append, List.cons_append]
  have HS := Lib.hid hs
  have HN := Lib.hid hn
  have HN0 := Lib.hid hn0
  clear hs hn hn0
  gi_wp2_with (first
    | (refine ⟨trivial, ?_⟩; gi_at_call 43; refine (callsIn_wide.2 (flows_New.calls _ _ _ HN.out)).mono ?_; rintro e w1 ⟨v, rfl, hr, hb1⟩; obtain ⟨A1, m1, c1, rfl⟩ := R_slice hr; have HR := Lib.hid hr; have HB1 := Lib.hid hb1; have bx := Blk.new w1 69 [.slice none 0 0]; have g1 := bx.cell 0; have f1 := bx.frozen 0; clear hr hb1)
    | (refine ⟨trivial, ?_⟩; gi_at_call 71; refine (callsIn_wide.2 (live_any _ _ _ _)).mono ?_; rintro e w' ⟨rfl, rfl⟩))
  have b1 := Blk.new w1 69 [.slice A1 m1 c1]
  have hr1 := Kd.R_alloc HR.out (.cells #[.slice A1 m1 c1] 69)
  have hB1 := HB1.out.alloc HB1.out.size (.cells #[.slice A1 m1 c1] 69)
  have b2 := Blk.new (w1.alloc (.cells #[.slice A1 m1 c1] 69)) 69 [.slice A l.length c]
  have hB0 := hB1.alloc hB1.size (.cells #[.slice A l.length c] 69)
  replace b1 := b1.alloc (.cells #[.slice A l.length c] 69)
  replace hr1 := Kd.R_alloc hr1 (.cells #[.slice A l.length c] 69)
  simp only [World.size_alloc] at b2
  clear g1 f1 bx hB1
  have hw1 := HB1.out.size
  obtain ⟨W0, hW0⟩ : ∃ W0, (w1.alloc (.cells #[.slice A1 m1 c1] 69)).alloc (.cells #[.slice A l.length c] 69) = W0 := ⟨_, rfl⟩
  replace hB0 : Below w.heap.size w W0 := by rw [← hW0]; exact hB0
  replace hr1 : Kd.R k31 31 W0 w.heap.size (fun _ => True) (.slice A1 m1 c1) n0 := by rw [← hW0]; exact hr1
  replace b1 : Blk W0 w1.heap.size 69 [.slice A1 m1 c1] := by rw [← hW0]; exact b1
  replace b2 : Blk W0 (w1.heap.size + 1) 69 [.slice A l.length c] := by rw [← hW0]; exact b2
  rw [hW0]
  clear hW0
  refine wpIn_rangeFunc_ownH hro (by omega) (gf := 79) (lb := #[.pointer (some ⟨w1.heap.size + 1, 0, none⟩)]) rfl trivial (enters_of Try.func79 (by kernel_rfl) rfl)
    (live_stops (6 - 1) (by omega) (w1.heap.size + 1) w.heap.size A c l hl w W0 rfl hC hB0 b2.lt (by rw [b2.cell]; rfl)) (fun h k => h.trans k) (fun W L o o' hL h1 h2 h3 => belowK_b (w := W0) hB0.size W L o o' hL h1 h2 h3) (Below.refl _ _) (fun _ => rfl)
    (fun (pre : List (LiveP l)) W => (Blk W w1.heap.size 69 [.slice A1 m1 c1] ∧ Kd.R k31 31 W w.heap.size (fun _ => True) (.slice A1 m1 c1) (tidyAll n0 (pre.map Subtype.val))) ∧ Below w.heap.size w W)
    (fun _ _ _ => False)
    (OwnFrom.and (OwnFrom.and (blk_ownFrom _ _ _ _) R_ownFrom) (ownFrom_below (Nat.le_refl _) hB0.size))
    (fun _ _ _ _ _ hs _ _ => hs)
    ⟨⟨b1, hr1⟩, hB0⟩
    (fun x a' W => ∃ Bx, Blk W Bx 31 [.int .i64 x.1.2.f0, .string x.1.2.f1, .int .i64 x.1.2.f2, .int .i64 x.1.2.f3] ∧ a' = { tmps := #[.slice A l.length c, undef, .slice none 0 0, .pointer (some ⟨w1.heap.size, 0, none⟩), undef, .pointer (some ⟨Bx, 0, none⟩), .slice A l.length c, .int .i64 l.length, .slice A1 m1 c1, .slice A l.length c, .func (.func 79) #[] #[.pointer (some ⟨w1.heap.size + 1, 0, none⟩)], .int .i64 x.1.1, entV x.1.2, undef, undef, undef, undef], defers := [] })
    (fun x a' s W W' row ⟨Bx, h2, h3⟩ hg hr => ⟨Bx, blk_ownFrom (β := Unit) W0.heap.size _ _ (fun _ => _) () W W' row h2 hg hr, h3⟩) ?assign ?body ?done ?stop
  case assign =>
    rintro y pre x W K ⟨⟨c0, hr⟩, hB⟩ hK
    have HR2 := Lib.hid hr
    clear hr
    gi_wp2
    exact hK _ _ ((KeepsOthers.alloc _ _).from _) ((Below.refl _ _).alloc hB.size _) ⟨⟨c0.alloc _, Kd.R_alloc HR2.out _⟩, hB.alloc hB.size _⟩ ⟨_, Blk.new W 31 [.int .i64 x.1.2.f0, .string x.1.2.f1, .int .i64 x.1.2.f2, .int .i64 x.1.2.f3], rfl⟩
  case body =>
    rintro y pre x a' W hy ⟨r, hr0⟩ ⟨⟨c0, hr⟩, hB⟩ ⟨Bx, cx, rfl⟩ hlt
    have hsz := HS.out x.1 x.2
    have hlen : (tidyAll n0 (pre.map Subtype.val)).length = n0.length := tidyAll_length _ _ (fun p hp => by obtain ⟨q, _, rfl⟩ := List.mem_map.1 hp; exact HS.out q.1 q.2) HN0.out
    have hstep : tidyAll n0 ((pre ++ [x]).map Subtype.val) = tidyStep (tidyAll n0 (pre.map Subtype.val)) x.1.2 := by simp [tidyAll]
    have hln : (tidyAll n0 (pre.map Subtype.val)).length ≤ 1000000 := by have := HN0.out; omega
    obtain ⟨cl, hcl⟩ : ∃ cl, tidyAll n0 (pre.map Subtype.val) = cl := ⟨_, rfl⟩
    rw [hcl] at hstep hr hln
    obtain ⟨⟨bb, q2⟩, hq, _⟩ := put_any cl x.1.2.f0 x.1.2.f1 x.1.2.f2 x.1.2.f3 hsz hln
    have hst : tidyStep cl x.1.2 = q2 := by unfold tidyStep; rw [hq]; rfl
    have d0 : W.cell? ⟨w1.heap.size, 0, none⟩ = some (.slice A1 m1 c1) := c0.cell 0
    have e0 : W.cell? ⟨Bx, 0, none⟩ = some (.int .i64 x.1.2.f0) := cx.cell 0
    have e1 : W.cell? ⟨Bx, 1, none⟩ = some (.string x.1.2.f1) := cx.cell 1
    have e2 : W.cell? ⟨Bx, 2, none⟩ = some (.int .i64 x.1.2.f2) := cx.cell 2
    have e3 : W.cell? ⟨Bx, 3, none⟩ = some (.int .i64 x.1.2.f3) := cx.cell 3
    have HR2 := Lib.hid hr
    have HQ := Lib.hid hq
    have HST := Lib.hid (hstep.trans hst)
    have hu := Try.underlying31
    clear hr hq hstep hst hcl hlen hln hsz
    gi_wp2_with (refine ⟨trivial, ?_⟩; gi_at_call 66; refine (CallsIn.inRound y (callsIn_wide.2 (flows_table_put.calls (fun k => some k = (Value.slice A1 m1 c1).ownBlock) (.slice A1 m1 c1) cl x.1.2.f0 x.1.2.f1 x.1.2.f2 x.1.2.f3 bb q2 w W hB ⟨fun k hk => hk.symm, (Kd.R_tight rfl HR2.out).2⟩ HQ.out))).mono ?_; rintro e w2 ⟨rfl, hr2, hb2, hk2⟩)
    have hlo : ∀ k, some k = (Value.slice A1 m1 c1).ownBlock → w.heap.size ≤ k ∧ ∃ cells, W.heap[k]? = some (.cells cells 31 (0, 0)) := fun k hk => by
      have := (Kd.R_bound HR2.out).1 k hk.symm
      exact ⟨this.2.1, Kd.R_typed HR2.out k hk.symm⟩
    have hbb : Below w.heap.size W w2 := ⟨hb2.os.trans hB.os.symm, hb2.tape.trans hB.tape.symm, hb2.output.trans hB.output.symm, hk2.1, fun k hk => hk2.2 k (Nat.lt_of_lt_of_le hk hB.size) (fun h => by have := (hlo k h).1; omega)⟩
    refine ⟨⟨hk2.1, fun k o hBk ho hc => (hk2.2 k (Array.getElem?_eq_some_iff.1 ho).1 (fun h => by
      obtain ⟨_, cells, h2⟩ := hlo k h
      rw [h2] at ho; cases ho; simp [Obj.isCells] at hc)).trans ho⟩, hbb, ⟨?_, by rw [HST.out]; exact Kd.R_mono hr2 (fun _ _ => trivial)⟩, hb2⟩
    exact (hk2.2 _ c0.lt (Kd.R_ne HR2.out (show W.heap[w1.heap.size]? = some (.cells #[.slice A1 m1 c1] 69 (0, 0)) from c0) (by decide))).trans c0
  case done =>
    rintro D ys W hD hys ⟨⟨c0, hr⟩, hB⟩ hK
    have d0 : W.cell? ⟨w1.heap.size, 0, none⟩ = some (.slice A1 m1 c1) := c0.cell 0
    have hys' : ys.map Subtype.val = liveL l := hys
    rw [hys'] at hr
    have HR2 := Lib.hid hr
    clear hys hys' hr
    gi_wp2
    refine ⟨by simp, .inl ⟨_, _, rfl, run_takeDeferred hK, ?_⟩⟩
    have hrf := R_ownFrom (β := Unit) (n := 0) (xs := fun _ => tidyAll n0 (liveL l)) () W _ _ HR2.out (grownBy_putObj' _ D (.deferred none)) (fun r e => by cases e; exact ⟨Nat.zero_le _, _, hK, rfl⟩)
    exact ⟨_, results_tmp rfl _ _ _, .slice A1 m1 c1, rfl, hrf, hB.trans (belowK_b (w := w) (Nat.le_refl _) W D _ _ (Nat.le_trans hB0.size hD) hK rfl rfl)⟩
  case stop =>
    rintro D c pre W _ _ h _
    exact h.elim

theorem new_length {a : Int} {n0 : List S31} (h : flows_New.f a = some n0) : n0.length ≤ 64 := by
  unfold flows_New.f at h
  have h64 : mx 0 (mn a 64) ≤ 64 := by unfold mx mn; split <;> (try split) <;> omega
  split at h
  · split at h
    · obtain rfl := Option.some.inj h
      rw [List.length_replicate]; omega
    · exact absurd h (by simp)
  · exact absurd h (by simp)
theorem flows_Tidy.calls (A0 : Option Addr) (c0 : Nat) (l0 : List S31) (r : List S31) (w : World) (hr0 : Kd.C k31 w A0 l0.length l0) (hc0 : l0.length ≤ c0) (h : flows_Tidy.f l0 = some r) :
    Calls Try.prog 41 #[.slice A0 l0.length c0] w fun e w' => ∃ v0_ : Value, e = .returned v0_ ∧ Kd.R k31 31 w' w.heap.size (fun _ => True) v0_ r ∧ Below w.heap.size w w' := by
  unfold flows_Tidy.f at h
  by_cases hl : l0.length ≤ 1000000
  · rw [if_pos hl] at h
    by_cases hs : ((liveL l0).all fun p => decide (p.2.f1.size ≤ 140737488351232)) = true
    · rw [if_pos hs] at h
      obtain ⟨n0, hn, h⟩ := Option.bind_eq_some_iff.mp h
      obtain rfl := Option.some.inj h
      exact Tidy_any A0 c0 l0 hl (fun p hp => by simpa using List.all_eq_true.1 hs p hp) n0 hn (by have := new_length hn; omega) w hr0
    · rw [if_neg hs] at h
      exact absurd h (by simp)
  · rw [if_neg hl] at h
    exact absurd h (by simp)
end

/-! ### sweep_clock_over: function 72 -/
def sweep_clock_over.f (a0 : Int) (a1_0 : Int) (a1_1 : ByteArray) (a1_2 : Int) (a1_3 : Int) : Option (Bool) := if a1_0 = 1 then (some (decide (a1_3 < a0))) else (some false)
set_option maxHeartbeats 8000000 in
set_option maxRecDepth 100000 in
theorem sweep_clock_over.calls (a0 : Int) (a1_0 : Int) (a1_1 : ByteArray) (a1_2 : Int) (a1_3 : Int) (r : Bool) (w : World) (h : sweep_clock_over.f a0 a1_0 a1_1 a1_2 a1_3 = some r) :
    Calls Try.prog 72 #[.int .i64 a0, .agg #[.int .i64 a1_0, .string a1_1, .int .i64 a1_2, .int .i64 a1_3]] w fun e w' => e = .returned (.bool r) ∧ Below w.heap.size w w' := by
  have hu31 := Try.underlying31
  have HB := Aside0.mk (Below.refl w.heap.size w)
  have H : (if a1_0 = 1 then (some (decide (a1_3 < a0))) else (some false)) = some r := h
  clear h
  by_cases c3 : a1_0 = 1
  · rw [if_pos c3] at H
    have c3b0 : (a1_0 == 1) = true := beq_iff_eq.mpr c3
    have c3b1 : (a1_0 != 1) = false := bne_eq_false_iff_eq.mpr c3
    clear c3
    obtain rfl := Option.some.inj H
    go_enter Try.func72, Try.ntmps72
    go_wp2_with (first | ((with_reducible refine gate_dst (N := 3) rfl ?_); refine box_event ?hg (N := 3) ?hd (cs := #[.int .i64 a1_0, .string a1_1, .int .i64 a1_2, .int .i64 a1_3]) (t := 31) ?hr ?_; (case hd => rfl); (case hg => rfl); (case hr => first | (go_simp; done) | (go_simp; rfl)); intro gb114 hg w4 hbox hb; have n0_ := Aside0.mk (below_step (by repeat (first | (with_reducible first | exact HB.out | apply below_alloc | apply pw_below_drewN | apply below_drew1) | exact HB.out)) hb); have n1_ := Aside0.mk (hbox); have n2_ := Aside0.mk ((by rw [hg]; exact (below_size (by repeat (first | (with_reducible first | exact HB.out | apply below_alloc | apply pw_below_drewN | apply below_drew1) | exact HB.out))) : w.heap.size ≤ gb114)); have n3_ := Aside0.mk ((by rw [hg]; exact (below_size (by repeat (first | (with_reducible first | exact HB.out | apply below_alloc | apply pw_below_drewN | apply below_drew1) | exact HB.out))) : w.heap.size ≤ gb114)); clear HB; have HB := n0_; have BK114 := n1_; have GW114 := n2_; have GE114 := n3_; clear n0_ n1_ n2_ n3_; clear hb hbox hg; have hcz5_0 : w4.cell? ⟨gb114, 0, none⟩ = some (.int .i64 a1_0) := (blk_cell BK114.out 0).trans rfl; have hcz5_1 : w4.cell? ⟨gb114, 1, none⟩ = some (.string a1_1) := (blk_cell BK114.out 1).trans rfl; have hcz5_2 : w4.cell? ⟨gb114, 2, none⟩ = some (.int .i64 a1_2) := (blk_cell BK114.out 2).trans rfl; have hcz5_3 : w4.cell? ⟨gb114, 3, none⟩ = some (.int .i64 a1_3) := (blk_cell BK114.out 3).trans rfl; have hfz5_0 := blk_frozen BK114.out 0; have hfz5_1 := blk_frozen BK114.out 1; have hfz5_2 := blk_frozen BK114.out 2; have hfz5_3 := blk_frozen BK114.out 3))
    go_ret
    exact ⟨by first | rfl | (simp [errW_none, errW_some] <;> rfl) | (simp [*, errW_none, errW_some] <;> rfl), by repeat (first | (with_reducible first | exact HB.out | apply below_alloc | apply pw_below_drewN | apply below_drew1 | refine below_set ?_ GE114.out) | exact HB.out)⟩
  · rw [if_neg c3] at H
    have c3b0 : (a1_0 == 1) = false := beq_eq_false_iff_ne.mpr c3
    have c3b1 : (a1_0 != 1) = true := bne_iff_ne.mpr c3
    obtain rfl := Option.some.inj H
    go_enter Try.func72, Try.ntmps72
    go_wp2_with (first | ((with_reducible refine gate_dst (N := 3) rfl ?_); refine box_event ?hg (N := 3) ?hd (cs := #[.int .i64 a1_0, .string a1_1, .int .i64 a1_2, .int .i64 a1_3]) (t := 31) ?hr ?_; (case hd => rfl); (case hg => rfl); (case hr => first | (go_simp; done) | (go_simp; rfl)); intro gb114 hg w6 hbox hb; have n0_ := Aside0.mk (below_step (by repeat (first | (with_reducible first | exact HB.out | apply below_alloc | apply pw_below_drewN | apply below_drew1) | exact HB.out)) hb); have n1_ := Aside0.mk (hbox); have n2_ := Aside0.mk ((by rw [hg]; exact (below_size (by repeat (first | (with_reducible first | exact HB.out | apply below_alloc | apply pw_below_drewN | apply below_drew1) | exact HB.out))) : w.heap.size ≤ gb114)); have n3_ := Aside0.mk ((by rw [hg]; exact (below_size (by repeat (first | (with_reducible first | exact HB.out | apply below_alloc | apply pw_below_drewN | apply below_drew1) | exact HB.out))) : w.heap.size ≤ gb114)); clear HB; have HB := n0_; have BK114 := n1_; have GW114 := n2_; have GE114 := n3_; clear n0_ n1_ n2_ n3_; clear hb hbox hg; have hcz7_0 : w6.cell? ⟨gb114, 0, none⟩ = some (.int .i64 a1_0) := (blk_cell BK114.out 0).trans rfl; have hcz7_1 : w6.cell? ⟨gb114, 1, none⟩ = some (.string a1_1) := (blk_cell BK114.out 1).trans rfl; have hcz7_2 : w6.cell? ⟨gb114, 2, none⟩ = some (.int .i64 a1_2) := (blk_cell BK114.out 2).trans rfl; have hcz7_3 : w6.cell? ⟨gb114, 3, none⟩ = some (.int .i64 a1_3) := (blk_cell BK114.out 3).trans rfl; have hfz7_0 := blk_frozen BK114.out 0; have hfz7_1 := blk_frozen BK114.out 1; have hfz7_2 := blk_frozen BK114.out 2; have hfz7_3 := blk_frozen BK114.out 3))
    go_ret
    exact ⟨by first | rfl | (simp [errW_none, errW_some] <;> rfl) | (simp [*, errW_none, errW_some] <;> rfl), by repeat (first | (with_reducible first | exact HB.out | apply below_alloc | apply pw_below_drewN | apply below_drew1 | refine below_set ?_ GE114.out) | exact HB.out)⟩

-- NOT PRINTED: function 80 (sweep_places_1)

/-! ### sweep_places: function 74 -/
section
open Go.Shelf Go.Proofs.Ythdkkmeiihbafaa.Hand
attribute [local go_sem] Oper.semAt_some
/-- Where one looks, step by step. -/
def placeAt (from_ : Int) (many : Nat) (i : Nat) : Int := (from_ + i) % many

abbrev PlaceP (many : Nat) : Type := { j : Int // 0 ≤ j ∧ j < many }
set_option maxRecDepth 100000 in
set_option maxHeartbeats 4000000 in
theorem places1_in (n : Nat) (hn : 1 ≤ n) (y Bf Bn Bm n₀ : Nat) (f : Int) (N many : Nat) (hf0 : 0 ≤ f) (hf1 : f ≤ many) (hN : N ≤ many) (hl : many ≤ 1000000)
    (w : World) (hw : w.heap.size = n₀) (J Jx : List (PlaceP many) → World → Prop) (B : Nat) (hJ : AbidesFrom B J)
    (hY : ∀ pre x W, J pre W → pre.length < N → YieldAt Fence.wide (n - 1) Try.prog y #[.int .i64 x.1] W fun e W' =>
      (e = .returned (.bool true) ∧ J (pre ++ [x]) W' ∧ KpB n₀ (fun a => a = ⟨Bf, 0, none⟩ ∨ a = ⟨Bm, 0, none⟩) W W') ∨ (e = .returned (.bool false) ∧ Jx (pre ++ [x]) W'))
    (W : World) (hB : Below n₀ w W) (hkn : W.cell? ⟨Bn, 0, none⟩ = some (.int .i64 N)) (hkf : W.cell? ⟨Bf, 0, none⟩ = some (.int .i64 f)) (hkm : W.cell? ⟨Bm, 0, none⟩ = some (.int .i64 many)) (h0 : J [] W) :
    CallsIn Fence.wide n Try.prog 80 #[.func (.yield y) #[] #[], .pointer (some ⟨Bn, 0, none⟩), .pointer (some ⟨Bf, 0, none⟩), .pointer (some ⟨Bm, 0, none⟩)] W fun e W' => (∃ v, e = .returned v) ∧
      ((∃ ys : List (PlaceP many), ys.map Subtype.val = upto (placeAt f many) N ∧ J ys W') ∨ (∃ pre : List (PlaceP many), (∃ k, k ≤ N ∧ pre.map Subtype.val = upto (placeAt f many) k) ∧ Jx pre W')) := by
  have hro : Fence.wide.round = none := rfl
  refine callsIn_of_wp Try.func80 rfl trivial ?_ hro
  simp only [Try.ntmps80, List.size_toArray, List.length_cons, List.length_nil, Nat.reduceAdd, Nat.reduceSub, Array.replicate_succ, Array.replicate_zero, List.push_toArray, List.append_toArray, List.nil_append, List.cons_append]
  gi_wp2
  gi_loopw [7] (fun i wr => ∃ (k : Nat) (pre : List (PlaceP many)), k ≤ N ∧ i = .int .i64 k ∧ pre.map Subtype.val = upto (placeAt f many) k ∧ J pre wr ∧ KpB n₀ (fun a => a = ⟨Bf, 0, none⟩ ∨ a = ⟨Bm, 0, none⟩) W wr)
    (fun i _ => N - (intOf i).toNat)
  case atStart => exact ⟨0, [], Nat.zero_le _, rfl, rfl, h0, KpB.refl _ _ _⟩
  case round =>
    obtain ⟨k, pre, hk', rfl, hpre, hJs, hnx⟩ := hrel
    have hkfr : wr.cell? ⟨Bf, 0, none⟩ = some (.int .i64 f) := hnx.2 _ _ (.inl rfl) hkf
    have hkmr : wr.cell? ⟨Bm, 0, none⟩ = some (.int .i64 many) := hnx.2 _ _ (.inr rfl) hkm
    have hlen : pre.length = k := by have := congrArg List.length hpre; simpa [upto_length] using this
    have HP := Lib.hid hpre
    have HL := Lib.hid hlen
    clear hkn hkf hkm hpre hlen
    by_cases hlt : k < N
    · obtain ⟨x2, hx2⟩ : ∃ x2 : PlaceP many, x2.1 = placeAt f many k := ⟨⟨placeAt f many k, Int.emod_nonneg _ (by omega), Int.emod_lt_of_pos _ (by omega)⟩, rfl⟩
      obtain ⟨fn, tmps, assign, body, hy, hR⟩ := hY _ x2 wr hJs (by have := HL.out; omega)
      obtain ⟨m, rfl⟩ := Int.eq_ofNat_of_zero_le hf0
      have hne : ¬ ((many : Int) = 0) := by omega
      rw [hx2] at hy
      dsimp only [placeAt] at hy
      have HX := Lib.hid hx2
      clear hx2
      gi_wp2
      refine hR.mono ?_
      rintro e W3 (⟨rfl, hJ3, hk3⟩ | ⟨rfl, hJx3⟩)
      · gi_wp2
        go_roundw
        case rel => exact ⟨k + 1, pre ++ [x2], by omega, by simp, by rw [upto_succ, List.map_append, HP.out]; simp [HX.out], hJ3, kp_t hnx hk3⟩
        case measure => simp [intOf]; omega
      · gi_wp2
        refine bodyPost_ret (results_none rfl _ _ _) rfl ?_
        exact ⟨⟨_, rfl⟩, .inr ⟨_, ⟨k + 1, by omega, by rw [upto_succ, List.map_append, HP.out]; simp [HX.out]⟩, hJx3⟩⟩
    · obtain rfl : k = N := by omega
      gi_wp2
      go_end0
      exact ⟨⟨_, rfl⟩, .inl ⟨pre, HP.out, hJs⟩⟩

set_option maxHeartbeats 1000000 in
theorem places_any (f n many : Int) (w : World) :
    Calls Try.prog 74 #[.int .i64 f, .int .i64 n, .int .i64 many] w fun e w' => e = .returned (.func (.func 80) #[] #[.pointer (some ⟨w.heap.size + 1, 0, none⟩), .pointer (some ⟨w.heap.size, 0, none⟩), .pointer (some ⟨w.heap.size + 1 + 1, 0, none⟩)]) ∧ w' = ((w.alloc (.cells #[.int .i64 f] 3)).alloc (.cells #[.int .i64 n] 3)).alloc (.cells #[.int .i64 many] 3) := by
  go_enter Try.func74, Try.ntmps74
  go_wp2
  go_ret
  exact ⟨rfl, rfl⟩

theorem places_stops (n : Nat) (hn : 1 ≤ n) (Bf Bn Bm n₀ : Nat) (f : Int) (N many : Nat) (hf0 : 0 ≤ f) (hf1 : f ≤ many) (hN : N ≤ many) (hl : many ≤ 1000000)
    (w W : World) (hw : w.heap.size = n₀) (hB : Below n₀ w W) (hBf : Bf < W.heap.size) (hBn : Bn < W.heap.size) (hBm : Bm < W.heap.size) (hkn : W.cell? ⟨Bn, 0, none⟩ = some (.int .i64 N)) (hkf : W.cell? ⟨Bf, 0, none⟩ = some (.int .i64 f)) (hkm : W.cell? ⟨Bm, 0, none⟩ = some (.int .i64 many)) :
    SeqStopsK Fence.wide n Try.prog 80 #[.pointer (some ⟨Bn, 0, none⟩), .pointer (some ⟨Bf, 0, none⟩), .pointer (some ⟨Bm, 0, none⟩)] (fun x : PlaceP many => #[.int .i64 x.1]) (KpB n₀ (fun a => a = ⟨Bf, 0, none⟩ ∨ a = ⟨Bm, 0, none⟩)) (fun ys => ys.map Subtype.val = upto (placeAt f many) N) (fun pre => ∃ k, k ≤ N ∧ pre.map Subtype.val = upto (placeAt f many) k) N W := fun y J Jx W' hW hJ _ hY h0 =>
  places1_in n hn y Bf Bn Bm n₀ f N many hf0 hf1 hN hl w hw J Jx _ hJ hY W' (hB.trans (hW.mono (by have := hB.size; omega))) ((hW.cell (p := ⟨Bn, 0, none⟩) hBn).trans hkn) ((hW.cell (p := ⟨Bf, 0, none⟩) hBf).trans hkf) ((hW.cell (p := ⟨Bm, 0, none⟩) hBm).trans hkm) h0
end

/-! ### sweep_Step: function 52 -/
section
open Go.Shelf Go.Proofs.Ythdkkmeiihbafaa.Hand Go.BigFrame
attribute [local go_sem] Oper.semAt_some
theorem fn_wide (f : FuncId) : Fence.wide.fn f = True := rfl
theorem asked_wide (P : Program) (o : Oper) (a : Act) (C : World → Prop) : o.askedIn Fence.wide P a C = True := eq_true fun _ _ _ _ => trivial
def tombS : S31 := ⟨2, ⟨#[]⟩, 0, 0⟩
def overB (now : Int) (x : S31) : Bool := if x.f0 = 1 then decide (x.f3 < now) else false
theorem over_some (now : Int) (x : S31) : sweep_clock_over.f now x.f0 x.f1 x.f2 x.f3 = some (overB now x) := by
  unfold sweep_clock_over.f overB
  split <;> rfl
/-- One place looked at. -/
def stepOne (now : Int) (s : List S31 × Int) (j : Int) : List S31 × Int := if overB now (rd_T31 s.1 j) = true then (s.1.set j.toNat tombS, s.2 + 1) else s
def stepAll (now : Int) (s : List S31 × Int) (js : List Int) : List S31 × Int := js.foldl (stepOne now) s
theorem stepAll_length (now : Int) : ∀ (js : List Int) (s : List S31 × Int), (stepAll now s js).1.length = s.1.length
  | [], _ => rfl
  | j :: js, s => by
    have := stepAll_length now js (stepOne now s j)
    simp only [stepAll, List.foldl_cons] at this ⊢
    rw [this]; unfold stepOne; split <;> simp
theorem stepAll_count (now : Int) : ∀ (js : List Int) (s : List S31 × Int), s.2 ≤ (stepAll now s js).2 ∧ (stepAll now s js).2 ≤ s.2 + js.length
  | [], s => ⟨Int.le_refl _, by simp [stepAll]⟩
  | j :: js, s => by
    have := stepAll_count now js (stepOne now s j)
    have h : s.2 ≤ (stepOne now s j).2 ∧ (stepOne now s j).2 ≤ s.2 + 1 := by unfold stepOne; split <;> simp <;> omega
    simp only [stepAll, List.foldl_cons, List.length_cons] at this ⊢
    omega
end

end Go.Proofs.Ythdkkmeiihbafaa.P
