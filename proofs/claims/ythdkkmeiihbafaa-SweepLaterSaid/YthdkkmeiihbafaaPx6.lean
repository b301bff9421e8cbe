/- Each Go function that the laws reach, as a plain function, with the proof that the machine's call comes to what it says; of a law: its row. Made by a program of this seat (wip/hp.py, over the print). -/
import Derived.Test.YthdkkmeiihbafaaPx0
import Derived.Test.YthdkkmeiihbafaaPx2
import Derived.Test.YthdkkmeiihbafaaPx3
namespace Go.Proofs.Ythdkkmeiihbafaa.P
open Go.RowKit Go.Proofs.YthdkkmeiihbafaaW.PrintWords Go.Proofs.YthdkkmeiihbafaaW.PrintLast Go.Proofs.YthdkkmeiihbafaaW.PrintMore
attribute [local go_sem] max2_int min2_int max_two min_two max_three min_three max_four min_four   -- for this text's walks alone
set_option linter.unusedVariables false
set_option linter.unusedSimpArgs false

-- CUT
/-! ### sweep_Step: function 52 -/
section
open Go.Shelf Go.Proofs.Ythdkkmeiihbafaa.Hand Go.BigFrame
attribute [local go_sem] Oper.semAt_some
set_option maxRecDepth 100000 in
set_option maxHeartbeats 16000000 in
theorem Step_neg (A : Option Addr) (c : Nat) (l : List S31) (hl : l.length ≤ 1000000) (hcap : l.length ≤ c) (from_ n now m1 : Int) (hf0 : from_ < 0) (hf1 : from_ < 0) (N : Nat) (hN : N ≤ l.length) (hm1 : (if n < 0 then 0 else n) = m1) (hm2 : (if (l.length : Int) < m1 then (l.length : Int) else m1) = (N : Int))
    (T : List S31) (G : Int) (hTG : stepAll now (l, 0) (upto (placeAt (0) l.length) N) = (T, G)) (t2 : Int) (ht2 : 0 < G → probe_Count.f T 2 = some t2) (U : List S31) (hU : (0 < G ∧ wrap64 (2 * t2) > (l.length : Int)) → flows_Tidy.f T = some U) (hU2 : ¬ (0 < G ∧ wrap64 (2 * t2) > (l.length : Int)) → U = T)
    (w : World) (hC : Kd.C k31 w A l.length l) :
    Calls Try.prog 52 #[.slice A l.length c, .int .i64 from_, .int .i64 n, .int .i64 now] w fun e W' => ∃ v, e = .returned (.tuple #[v, .int .i64 (if (l.length : Int) > 0 then Int.tmod (wrap64 ((0) + (N : Int))) (l.length : Int) else (0)), .int .i64 G]) ∧ Kd.R k31 31 W' w.heap.size (fun _ => True) v U ∧ Below w.heap.size w W' := by
  refine (callsIn_wide (n := 6)).1 ?_
  have hro : Fence.wide.round = none := rfl
  refine callsIn_of_wp_marks Try.func52 rfl trivial ?_ hro
  simp only [Try.ntmps52, List.size_toArray, List.length_cons, List.length_nil, Nat.reduceAdd, Nat.reduceSub, Array.replicate_succ, Array.replicate_zero, List.push_toArray, List.append_toArray, List.nil_append, List.cons_append]
  have q0 : decide (from_ < 0) = true := decide_eq_true (by omega)
  have HN := Lib.hid hN
  have HF := Lib.hid (show 0 ≤ (0 : Int) ∧ (0 : Int) ≤ l.length from by clear hm1 hm2; omega)
  have HTG := Lib.hid hTG
  have HT2 := Lib.hid ht2
  have HU := Lib.hid hU
  have HU2 := Lib.hid hU2
  clear hN hf0 hf1 hTG ht2 hU hU2
  have b66 := Blk.new w 66 [.func (.func 72) #[.int .i64 now] #[]]
  gi_wp2_with (first
    | (refine ⟨trivial, ?_⟩; gi_at_call 73; refine (callsIn_wide.2 (api_Entry_73.any A c l hl _ (Kd.C_alloc hC _))).mono ?_; rintro e w1 ⟨v, rfl, hr, hb⟩; obtain ⟨A1, c1, rfl⟩ := Kd.R_slice hr; have HR := Lib.hid hr; have HB := Lib.hid hb; clear hr hb)
    | (refine ⟨trivial, ?_⟩; gi_at_call 74; refine (callsIn_wide.2 (places_any _ _ _ _)).mono ?_; rintro e w' ⟨rfl, rfl⟩))
  replace b66 := b66.below HB.out
  have hB1 : Below w.heap.size w w1 := ((Below.refl _ w).alloc (Nat.le_refl _) _).trans (HB.out.mono (by simp))
  have hw1 : w.heap.size + 1 ≤ w1.heap.size := by have := HB.out.size; simp at this; omega
  have hr1 : Kd.R k31 31 w1 w.heap.size (fun _ => True) (.slice A1 l.length c1) l := Kd.R_lower HR.out (by simp)
  have d1 := Blk.new w1 22 [.slice A1 l.length c1]
  have d2 := Blk.new (w1.alloc (.cells #[.slice A1 l.length c1] 22)) 3 [.int .i64 0]
  have d3 := Blk.new ((w1.alloc (.cells #[.slice A1 l.length c1] 22)).alloc (.cells #[.int .i64 0] 3)) 3 [.int .i64 (0)]
  have d4 := Blk.new (((w1.alloc (.cells #[.slice A1 l.length c1] 22)).alloc (.cells #[.int .i64 0] 3)).alloc (.cells #[.int .i64 (0)] 3)) 3 [.int .i64 N]
  have d5 := Blk.new ((((w1.alloc (.cells #[.slice A1 l.length c1] 22)).alloc (.cells #[.int .i64 0] 3)).alloc (.cells #[.int .i64 (0)] 3)).alloc (.cells #[.int .i64 N] 3)) 3 [.int .i64 l.length]
  replace b66 := ((((b66.alloc (.cells #[.slice A1 l.length c1] 22)).alloc (.cells #[.int .i64 0] 3)).alloc (.cells #[.int .i64 (0)] 3)).alloc (.cells #[.int .i64 N] 3)).alloc (.cells #[.int .i64 l.length] 3)
  replace hr1 := Kd.R_alloc (Kd.R_alloc (Kd.R_alloc (Kd.R_alloc (Kd.R_alloc hr1 (.cells #[.slice A1 l.length c1] 22)) (.cells #[.int .i64 0] 3)) (.cells #[.int .i64 (0)] 3)) (.cells #[.int .i64 N] 3)) (.cells #[.int .i64 l.length] 3)
  have hB0 : Below w.heap.size w (((((w1.alloc (.cells #[.slice A1 l.length c1] 22)).alloc (.cells #[.int .i64 0] 3)).alloc (.cells #[.int .i64 (0)] 3)).alloc (.cells #[.int .i64 N] 3)).alloc (.cells #[.int .i64 l.length] 3)) :=
    ((((hB1.alloc (by omega) _).alloc (by simp; omega) _).alloc (by simp; omega) _).alloc (by simp; omega) _).alloc (by simp; omega) _
  replace d1 := (((d1.alloc (.cells #[.int .i64 0] 3)).alloc (.cells #[.int .i64 (0)] 3)).alloc (.cells #[.int .i64 N] 3)).alloc (.cells #[.int .i64 l.length] 3)
  replace d2 := ((d2.alloc (.cells #[.int .i64 (0)] 3)).alloc (.cells #[.int .i64 N] 3)).alloc (.cells #[.int .i64 l.length] 3)
  replace d3 := (d3.alloc (.cells #[.int .i64 N] 3)).alloc (.cells #[.int .i64 l.length] 3)
  replace d4 := d4.alloc (.cells #[.int .i64 l.length] 3)
  simp only [World.size_alloc] at d1 d2 d3 d4 d5
  obtain ⟨W0, hW0⟩ : ∃ W0, (((((w1.alloc (.cells #[.slice A1 l.length c1] 22)).alloc (.cells #[.int .i64 0] 3)).alloc (.cells #[.int .i64 (0)] 3)).alloc (.cells #[.int .i64 N] 3)).alloc (.cells #[.int .i64 l.length] 3)) = W0 := ⟨_, rfl⟩
  replace hB0 : Below w.heap.size w W0 := by rw [← hW0]; exact hB0
  replace hr1 : Kd.R k31 31 W0 w.heap.size (fun _ => True) (.slice A1 l.length c1) l := by rw [← hW0]; exact hr1
  replace b66 : Blk W0 w.heap.size 66 [.func (.func 72) #[.int .i64 now] #[]] := by rw [← hW0]; exact b66
  replace d1 : Blk W0 w1.heap.size 22 [.slice A1 l.length c1] := by rw [← hW0]; exact d1
  replace d2 : Blk W0 (w1.heap.size + 1) 3 [.int .i64 0] := by rw [← hW0]; exact d2
  replace d3 : Blk W0 (w1.heap.size + 1 + 1) 3 [.int .i64 (0)] := by rw [← hW0]; exact d3
  replace d4 : Blk W0 (w1.heap.size + 1 + 1 + 1) 3 [.int .i64 N] := by rw [← hW0]; exact d4
  replace d5 : Blk W0 (w1.heap.size + 1 + 1 + 1 + 1) 3 [.int .i64 l.length] := by rw [← hW0]; exact d5
  rw [hW0]
  clear hW0 hB1 HR
  refine wpIn_rangeFunc_ownH hro (by omega) (gf := 80) (lb := #[.pointer (some ⟨w1.heap.size + 1 + 1 + 1, 0, none⟩), .pointer (some ⟨w1.heap.size + 1 + 1, 0, none⟩), .pointer (some ⟨w1.heap.size + 1 + 1 + 1 + 1, 0, none⟩)]) rfl trivial (enters_of Try.func80 (by kernel_rfl) rfl)
    (places_stops (6 - 1) (by omega) (w1.heap.size + 1 + 1) (w1.heap.size + 1 + 1 + 1) (w1.heap.size + 1 + 1 + 1 + 1) w.heap.size (0) N l.length HF.out.1 HF.out.2 HN.out hl w W0 rfl hB0 d3.lt d4.lt d5.lt (by rw [d4.cell]; rfl) (by rw [d3.cell]; rfl) (by rw [d5.cell]; rfl)) kp_t (kp_b hB0.size) (Below.refl _ _) (fun _ => rfl)
    (fun (pre : List (PlaceP l.length)) W => ((Blk W w.heap.size 66 [.func (.func 72) #[.int .i64 now] #[]] ∧ Blk W w1.heap.size 22 [.slice A1 l.length c1]) ∧ (Blk W (w1.heap.size + 1) 3 [.int .i64 (stepAll now (l, 0) (pre.map Subtype.val)).2] ∧ Blk W (w1.heap.size + 1 + 1) 3 [.int .i64 (0)]) ∧ Blk W (w1.heap.size + 1 + 1 + 1 + 1) 3 [.int .i64 l.length]) ∧ Kd.R k31 31 W w.heap.size (fun _ => True) (.slice A1 l.length c1) (stepAll now (l, 0) (pre.map Subtype.val)).1 ∧ Below w.heap.size w W)
    (fun _ _ _ => False)
    (OwnFrom.and (OwnFrom.and (OwnFrom.and (blk_ownFrom _ _ _ _) (blk_ownFrom _ _ _ _)) (OwnFrom.and (OwnFrom.and (blk_ownFrom _ _ _ (fun (pre : List (PlaceP l.length)) => [.int .i64 (stepAll now (l, 0) (pre.map Subtype.val)).2])) (blk_ownFrom _ _ _ _)) (blk_ownFrom _ _ _ _))) (OwnFrom.and R_ownFrom (ownFrom_below (Nat.le_refl _) hB0.size)))
    (fun _ _ _ _ _ hs _ _ => hs)
    ⟨⟨⟨b66, d1⟩, ⟨d2, d3⟩, d5⟩, hr1, hB0⟩
    (fun x a' W => a' = { tmps := #[.slice A l.length c, .int .i64 (0), .int .i64 N, .int .i64 now, undef, undef, undef, undef, .slice none 0 0, .int .i64 0, .int .i64 0, .pointer (some ⟨w.heap.size, 0, none⟩), .pointer (some ⟨w1.heap.size, 0, none⟩), .pointer (some ⟨w1.heap.size + 1, 0, none⟩), .int .i64 x.1, .int .i64 from_, .bool true, .bool true, undef, undef, undef, undef, .bool true, .int .i64 n, .int .i64 m1, .slice A l.length c, .int .i64 l.length, .int .i64 N, .int .i64 now, .func (.func 72) #[.int .i64 now] #[], .slice A l.length c, .slice A1 l.length c1, .int .i64 (0), .int .i64 N, .slice A l.length c, .int .i64 l.length, .func (.func 80) #[] #[.pointer (some ⟨w1.heap.size + 1 + 1 + 1, 0, none⟩), .pointer (some ⟨w1.heap.size + 1 + 1, 0, none⟩), .pointer (some ⟨w1.heap.size + 1 + 1 + 1 + 1, 0, none⟩)], .int .i64 x.1, undef, undef, undef, undef, undef, undef, undef, undef, undef, undef, undef, undef, undef, undef, undef, undef, undef, undef, undef, undef, undef, undef, undef, undef, undef, undef, undef, undef, undef, undef, undef, undef, undef, undef, undef, undef], defers := [] })
    (fun x a' s W W' row h hg hr => h) ?assign ?body ?done ?stop
  case assign =>
    rintro y pre x W K hI hK
    have HI := Lib.hid hI
    clear hI
    gi_wp2
    exact hK _ _ (KeepsFrom.refl _ _) (KpB.refl _ _ _) HI.out rfl
  case body =>
    rintro y pre x a' W hy ⟨r, hr0⟩ ⟨⟨⟨k66, k1⟩, ⟨k2, k3⟩, k5⟩, hR, hB⟩ rfl hlt
    obtain ⟨hx0, hx1⟩ := x.2
    have hgc := stepAll_count now (pre.map Subtype.val) (l, 0)
    have hlen := stepAll_length now (pre.map Subtype.val) (l, 0)
    have hst : stepAll now (l, 0) ((pre ++ [x]).map Subtype.val) = stepOne now (stepAll now (l, 0) (pre.map Subtype.val)) x.1 := by simp [stepAll]
    obtain ⟨⟨tb, g⟩, hs⟩ : ∃ s, stepAll now (l, 0) (pre.map Subtype.val) = s := ⟨_, rfl⟩
    rw [hs] at hlen hR k2 hgc hst
    dsimp only at hlen hR k2 hgc
    rw [List.length_map] at hgc
    have hgb : 0 ≤ g ∧ g < 1000000 := by have := HN.out; omega
    clear hgc hs
    obtain ⟨gb, cap, he, hgb0, hgl, _⟩ := Kd.R_form hR (by omega)
    obtain ⟨rfl, rfl⟩ : A1 = some ⟨gb, 0, none⟩ ∧ cap = c1 := by injection he with e1 e2 e3; exact ⟨e1, e3.symm⟩
    clear he
    have n66 : gb ≠ w.heap.size := fun e => Kd.R_ne hR (show W.heap[w.heap.size]? = some (.cells #[_] 66 (0, 0)) from k66) (by decide) (by rw [← e]; rfl)
    have n1 : gb ≠ w1.heap.size := fun e => Kd.R_ne hR (show W.heap[w1.heap.size]? = some (.cells #[_] 22 (0, 0)) from k1) (by decide) (by rw [← e]; rfl)
    have n2 : gb ≠ w1.heap.size + 1 := fun e => Kd.R_ne hR (show W.heap[w1.heap.size + 1]? = some (.cells #[_] 3 (0, 0)) from k2) (by decide) (by rw [← e]; rfl)
    have n3 : gb ≠ w1.heap.size + 1 + 1 := fun e => Kd.R_ne hR (show W.heap[w1.heap.size + 1 + 1]? = some (.cells #[_] 3 (0, 0)) from k3) (by decide) (by rw [← e]; rfl)
    have n5 : gb ≠ w1.heap.size + 1 + 1 + 1 + 1 := fun e => Kd.R_ne hR (show W.heap[w1.heap.size + 1 + 1 + 1 + 1]? = some (.cells #[_] 3 (0, 0)) from k5) (by decide) (by rw [← e]; rfl)
    have e66 : W.cell? ⟨w.heap.size, 0, none⟩ = some (.func (.func 72) #[.int .i64 now] #[]) := k66.cell 0
    have e1 : W.cell? ⟨w1.heap.size, 0, none⟩ = some (.slice (some ⟨gb, 0, none⟩) l.length cap) := k1.cell 0
    obtain ⟨ev, hev⟩ : ∃ ev, rd_T31 tb x.1 = ev := ⟨_, rfl⟩
    obtain ⟨ce, hcl, hM, hcc, hfr⟩ := Kd.R_elem hR z31 x.1 hx0 hx1
    obtain rfl := k31_openM hM
    have x0 := hcc 0 _ rfl
    have x1 := hcc 1 _ rfl
    have x2 := hcc 2 _ rfl
    have x3 := hcc 3 _ rfl
    rw [show tb.getD x.1.toNat z31 = ev from hev] at x0 x1 x2 x3
    simp only [show (k31).sz = 4 from rfl, Nat.mul_one, Nat.add_zero] at x0 x1 x2 x3
    clear hcl hM hcc hfr
    have hov := over_some now ev
    have hso : stepOne now (tb, g) x.1 = if overB now ev = true then (tb.set x.1.toNat tombS, g + 1) else (tb, g) := by unfold stepOne; rw [hev]
    have hu := Try.underlying31
    have p2 := eq_true hx0
    have p3 := eq_true hx1
    have p4 : decide (0 ≤ x.1) = true := decide_eq_true hx0
    have p5 : decide (x.1 < (l.length : Int)) = true := decide_eq_true hx1
    have HOV := Lib.hid hov
    have HSO := Lib.hid (hst.trans hso)
    have HR := Lib.hid hR
    have HX0 := Lib.hid hx0
    have HX1 := Lib.hid hx1
    have HGB := Lib.hid hgb
    have HL := Lib.hid hlen
    have HB2 := Lib.hid hB
    clear hov hso hst hR hx0 hx1 hgb hlen hev hB
    cases hbb : overB now ev
    · rw [hbb] at HOV HSO
      have hw64 := hbb
      clear hw64 hbb
      refine wpIn_block ?_
      refine wpIn_seq ?_
      gi_region_with (refine ⟨trivial, ?_⟩; gi_at_call 72; refine (CallsIn.inRound y (callsIn_wide.2 (sweep_clock_over.calls now ev.f0 ev.f1 ev.f2 ev.f3 false _ HOV.out))).mono ?_; rintro e w2 ⟨rfl, hb⟩)
      all_goals
        gi_wp2
        have hbW : Below W.heap.size W w2 := by first | exact hb | exact (pw_below_drewN (Below.refl _ _) _).trans hb | exact (below_drew (Below.refl _ _)).trans hb
        have hfin := HSO.out
        rw [if_neg (by decide)] at hfin
        exact ⟨KeepsFrom.of_grownBy (below_grown hbW) (fun j e => by cases e), ⟨hbW.mono HB2.out.size, fun a v hs hv => cell_kept hv (below_grown hbW) (fun r e => by cases e)⟩, ⟨⟨k66.below hbW, k1.below hbW⟩, ⟨by rw [hfin]; exact k2.below hbW, k3.below hbW⟩, k5.below hbW⟩, by rw [hfin]; exact Kd.R_below HR.out hbW, HB2.out.trans (hbW.mono HB2.out.size)⟩
    · rw [hbb] at HOV HSO
      clear hbb
      have hw64 : wrap64 (g + 1) = g + 1 := by have := HGB.out; unfold wrap64; omega
      refine wpIn_block ?_
      refine wpIn_seq ?_
      gi_region_with (refine ⟨trivial, ?_⟩; gi_at_call 72; refine (CallsIn.inRound y (callsIn_wide.2 (sweep_clock_over.calls now ev.f0 ev.f1 ev.f2 ev.f3 true _ HOV.out))).mono ?_; rintro e w2 ⟨rfl, hb⟩; have HBW := Lib.hid (show Below W.heap.size W w2 from by first | exact hb | exact (pw_below_drewN (Below.refl _ _) _).trans hb | exact (below_drew (Below.refl _ _)).trans hb); clear hb x0 x1 x2 x3 e1 e66; have e1 : w2.cell? ⟨w1.heap.size, 0, none⟩ = some (.slice (some ⟨gb, 0, none⟩) l.length cap) := (k1.below HBW.out).cell 0; have e2 : w2.cell? ⟨w1.heap.size + 1, 0, none⟩ = some (.int .i64 g) := (k2.below HBW.out).cell 0; have ef := (k2.below HBW.out).frozen 0; have HR2 := Lib.hid (Kd.R_below HR.out HBW.out); obtain ⟨ce, hcl, hM, hcc, hfr⟩ := Kd.R_elem HR2.out z31 x.1 HX0.out HX1.out; obtain rfl := k31_openM hM; have HP := Lib.hid (Kd.R_seg HR2.out x.1 HX0.out HX1.out (seg := [.int .i64 2, .string ⟨#[]⟩, .int .i64 0, .int .i64 0]) (j := 0) hcl hcc (show 4 ≤ 4 from by decide) (x' := tombS) (k31_mkM _ _ _ tombS) (fun _ hk => hk)); have x0 := hcc 0 _ rfl; have x1 := hcc 1 _ rfl; have x2 := hcc 2 _ rfl; have x3 := hcc 3 _ rfl; have z0 := hfr 0; have z1 := hfr 1; have z2 := hfr 2; have z3 := hfr 3; (try simp only [show (k31).sz = 4 from rfl, Nat.mul_one, Nat.add_zero] at x0 x1 x2 x3 z0 z1 z2 z3); clear hcl hcc hfr hM)
      all_goals
        gi_wp2
        have hfin := HSO.out
        rw [if_pos (by trivial)] at hfin
        have hRn : ∀ k, some k = (Value.slice (some ⟨gb, 0, none⟩) l.length cap).ownBlock → k ≠ w1.heap.size + 1 := fun k hk => by
          have hk' : k = gb := by simpa [Value.ownBlock] using hk
          rw [hk']; exact n2
        have kp0 : KpB w.heap.size (fun a => a = ⟨w1.heap.size + 1 + 1, 0, none⟩ ∨ a = ⟨w1.heap.size + 1 + 1 + 1 + 1, 0, none⟩) W w2 := ⟨HBW.out.mono HB2.out.size, fun a v hs hv => cell_kept hv (below_grown HBW.out) (fun r e => by cases e)⟩
        have hSr : ∀ (o : Nat) (a : Addr), (a = ⟨w1.heap.size + 1 + 1, 0, none⟩ ∨ a = ⟨w1.heap.size + 1 + 1 + 1 + 1, 0, none⟩) → (⟨gb, o, none⟩ : Addr) ≠ a := fun o a ha e => by
          rcases ha with rfl | rfl
          · exact n3 (congrArg Addr.block e)
          · exact n5 (congrArg Addr.block e)
        have hSg : ∀ (a : Addr), (a = ⟨w1.heap.size + 1 + 1, 0, none⟩ ∨ a = ⟨w1.heap.size + 1 + 1 + 1 + 1, 0, none⟩) → (⟨w1.heap.size + 1, 0, none⟩ : Addr) ≠ a := fun a ha e => by
          rcases ha with rfl | rfl
          · have := congrArg Addr.block e; dsimp only at this; omega
          · have := congrArg Addr.block e; dsimp only at this; omega
        refine ⟨((((((KeepsFrom.of_grownBy (below_grown HBW.out) (fun j e => by cases e)).trans ((KeepsOthers.setCell _ _ _).from _)).trans ((KeepsOthers.setCell _ _ _).from _)).trans ((KeepsOthers.setCell _ _ _).from _)).trans ((KeepsOthers.setCell _ _ _).from _)).trans ((KeepsOthers.setCell _ _ _).from _)), ((((kp0.set _ hgb0 (hSr _) _).set _ hgb0 (hSr _) _).set _ hgb0 (hSr _) _).set _ hgb0 (hSr _) _).set _ (by show w.heap.size ≤ w1.heap.size + 1; omega) hSg _,
          ⟨⟨(((((k66.below HBW.out).far _ n66 _).far _ n66 _).far _ n66 _).far _ n66 _).far _ (by show w1.heap.size + 1 ≠ w.heap.size; omega) _, (((((k1.below HBW.out).far _ n1 _).far _ n1 _).far _ n1 _).far _ n1 _).far _ (by show w1.heap.size + 1 ≠ w1.heap.size; omega) _⟩,
           ⟨by rw [hfin]; exact (((((k2.below HBW.out).far _ n2 _).far _ n2 _).far _ n2 _).far _ n2 _).set1 _, (((((k3.below HBW.out).far _ n3 _).far _ n3 _).far _ n3 _).far _ n3 _).far _ (by show w1.heap.size + 1 ≠ w1.heap.size + 1 + 1; omega) _⟩,
           (((((k5.below HBW.out).far _ n5 _).far _ n5 _).far _ n5 _).far _ n5 _).far _ (by show w1.heap.size + 1 ≠ w1.heap.size + 1 + 1 + 1 + 1; omega) _⟩,
          by rw [hfin]; exact Kd.R_mono (Kd.R_far (Kd.R_tight rfl HP.out.1) hRn _) (fun _ _ => trivial),
          below_set (below_set (below_set (below_set (below_set (HB2.out.trans (HBW.out.mono HB2.out.size)) hgb0) hgb0) hgb0) hgb0) (by show w.heap.size ≤ w1.heap.size + 1; omega)⟩
  case done =>
    rintro D ys W hD hys ⟨⟨⟨k66, k1⟩, ⟨k2, k3⟩, k5⟩, hR, hB⟩ hK
    have hys' : ys.map Subtype.val = upto (placeAt (0) l.length) N := hys
    rw [hys', HTG.out] at k2 hR
    dsimp only at k2 hR
    have hTl : T.length = l.length := by have := stepAll_length now (upto (placeAt (0) l.length) N) (l, 0); rw [HTG.out] at this; exact this
    have hGb : 0 ≤ G ∧ G ≤ 1000000 := by have := stepAll_count now (upto (placeAt (0) l.length) N) (l, 0); rw [HTG.out, upto_length] at this; have := HN.out; dsimp only at *; omega
    clear hys hys' k66 k3 k5
    have e1 : W.cell? ⟨w1.heap.size, 0, none⟩ = some (.slice A1 l.length c1) := k1.cell 0
    have e2 : W.cell? ⟨w1.heap.size + 1, 0, none⟩ = some (.int .i64 G) := k2.cell 0
    have hDW : D < W.heap.size := (Array.getElem?_eq_some_iff.1 hK).1
    have HGB := Lib.hid hGb
    have HTL := Lib.hid hTl
    have HRT := Lib.hid hR
    have HBW := Lib.hid hB
    have hTl2 : (T.length : Int) = (l.length : Int) := by rw [hTl]
    clear hGb hTl hR hB
    by_cases hG : 0 < G
    · have HT := Lib.hid (HT2.out hG)
      have qG : decide (0 < G) = true := decide_eq_true hG
      have qG2 := eq_true hG
      have HG := Lib.hid hG
      clear hG
      by_cases hc : wrap64 (2 * t2) > (l.length : Int)
      · have qc : decide ((l.length : Int) < wrap64 (2 * t2)) = true := decide_eq_true hc
        have qc2 : ((l.length : Int) < IntKind.i64.wrap (2 * t2)) = True := by rw [show IntKind.i64.wrap (2 * t2) = wrap64 (2 * t2) from by unfold wrap64; exact IntKind.wrap_i64 _]; exact eq_true hc
        have qc4 : decide ((l.length : Int) < IntKind.i64.wrap (2 * t2)) = true := by rw [show IntKind.i64.wrap (2 * t2) = wrap64 (2 * t2) from by unfold wrap64; exact IntKind.wrap_i64 _]; exact decide_eq_true hc
        have HUT := Lib.hid (HU.out ⟨HG.out, hc⟩)
        clear hc
        have hcount : ∀ W' : World, Kd.C k31 W' A1 l.length T → Calls Try.prog 31 #[.slice A1 l.length c1, .int .i64 2] W' fun e w' => e = .returned (.int .i64 t2) ∧ Below W'.heap.size W' w' := fun W' hC' => by
          have h1 := probe_Count.calls A1 c1 T 2 t2 W' (by rw [HTL.out]; exact hC') (by rw [HTL.out]; exact (Kd.R_reads' HRT.out).2.1) HT.out
          rw [HTL.out] at h1; exact h1
        have htidy : ∀ W' : World, Kd.C k31 W' A1 l.length T → Calls Try.prog 41 #[.slice A1 l.length c1] W' fun e w' => ∃ v, e = .returned v ∧ Kd.R k31 31 w' W'.heap.size (fun _ => True) v U ∧ Below W'.heap.size W' w' := fun W' hC' => by
          have h1 := flows_Tidy.calls A1 c1 T U W' (by rw [HTL.out]; exact hC') (by rw [HTL.out]; exact (Kd.R_reads' HRT.out).2.1) HUT.out
          rw [HTL.out] at h1; exact h1
        have hTC : Kd.C k31 W A1 l.length T := by have h1 := (Kd.R_reads' HRT.out).2.2; first | exact h1 | (rw [HTL.out] at h1; exact h1)
        gi_wp2
        refine wpIn_mono (Q := NoPanic _) ?_ NoPanic.imp
        gi_region_with (refine ⟨trivial, ?_⟩; gi_at_call 31; refine (callsIn_wide.2 (hcount _ (by first | exact hTC | exact Kd.C_drew hTC | exact Kd.C_drewN hTC _))).mono ?_; rintro e w2 ⟨rfl, hb⟩; have HBC := Lib.hid (show Below W.heap.size W w2 from by first | exact hb | exact (pw_below_drewN (Below.refl _ _) _).trans hb | exact (below_drew (Below.refl _ _)).trans hb); clear hb e1 e2; have e1 : w2.cell? ⟨w1.heap.size, 0, none⟩ = some (.slice A1 l.length c1) := (k1.below HBC.out).cell 0; have e2 : w2.cell? ⟨w1.heap.size + 1, 0, none⟩ = some (.int .i64 G) := (k2.below HBC.out).cell 0; have hTC2 : Kd.C k31 w2 A1 l.length T := Kd.C_below hTC HBC.out)
        all_goals (refine NoPanic.normal ?_)
        all_goals
          gi_wp2_with (refine ⟨trivial, ?_⟩; gi_at_call 41; refine (callsIn_wide.2 (htidy _ hTC2)).mono ?_; rintro e w3 ⟨v3, rfl, hr3, hb3⟩; obtain ⟨A2, c2, rfl⟩ := Kd.R_slice hr3; clear e1 e2; have HB3 := Lib.hid (HBC.out.trans (hb3.mono HBC.out.size)); have HR3 := Lib.hid (Kd.R_lower hr3 (HBC.out.size)); clear hr3 hb3; have e1 : w3.cell? ⟨w1.heap.size, 0, none⟩ = some (.slice A1 l.length c1) := (k1.below HB3.out).cell 0; have ef := (k1.below HB3.out).frozen 0)
        all_goals
          have hlt := k1.lt
          have hRn : ∀ k, some k = (Value.slice A2 U.length c2).ownBlock → k ≠ w1.heap.size := fun k hk => by
            have h1 := ((Kd.R_bound HR3.out).1 k hk.symm).2.1
            omega
          have kS : Blk (w3.setCell ⟨w1.heap.size, 0, none⟩ (.slice A2 U.length c2)) w1.heap.size 22 [.slice A2 U.length c2] := (k1.below HB3.out).set1 _
          have kG : Blk (w3.setCell ⟨w1.heap.size, 0, none⟩ (.slice A2 U.length c2)) (w1.heap.size + 1) 3 [.int .i64 G] := (k2.below HB3.out).far _ (by show w1.heap.size ≠ w1.heap.size + 1; omega) _
          have hBS : Below w.heap.size w (w3.setCell ⟨w1.heap.size, 0, none⟩ (.slice A2 U.length c2)) := below_set (HBW.out.trans (HB3.out.mono HBW.out.size)) (by show w.heap.size ≤ w1.heap.size; omega)
          have hRS : Kd.R k31 31 (w3.setCell ⟨w1.heap.size, 0, none⟩ (.slice A2 U.length c2)) w.heap.size (fun _ => True) (.slice A2 U.length c2) U := Kd.R_mono (Kd.R_far (Kd.R_tight rfl (Kd.R_lower HR3.out HBW.out.size)) hRn _) (fun _ _ => trivial)
          have hKS : (w3.setCell ⟨w1.heap.size, 0, none⟩ (.slice A2 U.length c2)).heap[D]? = some (.deferred (some [])) := (Below.heap_setCell w3 ⟨w1.heap.size, 0, none⟩ _ D (by have := hB0.size; have := d1.lt; show D ≠ w1.heap.size; omega)).trans ((HB3.out.block D hDW).trans hK)
          obtain ⟨W3, hW3⟩ : ∃ W3, (w3.setCell ⟨w1.heap.size, 0, none⟩ (.slice A2 U.length c2)) = W3 := ⟨_, rfl⟩
          rw [hW3] at kS kG hBS hRS hKS
          rw [hW3]
          clear hW3 e1 ef hRn hTC hTC2 hcount htidy
          have e1 := kS.cell 0
          have e2 := kG.cell 0
          have HRS := Lib.hid hRS
          have HBS := Lib.hid hBS
          clear hRS hBS
        all_goals
          refine wpIn_mono (Q := NoPanic _) ?_ NoPanic.imp
          gi_big_quiet_th (skip)
          refine NoPanic.normal ?_
          gi_wp2
        all_goals
          rename Nat => n2
          have hrf := R_ownFrom (β := Unit) (n := 0) (xs := fun _ => U) () (W3.drewN n2) _ _ (Kd.R_drewN HRS.out n2) (grownBy_putObj' _ D (.deferred none)) (fun r e => by cases e; exact ⟨Nat.zero_le _, _, hKS, rfl⟩)
          have hbf : Below w.heap.size w (W3.drewN n2) := pw_below_drewN HBS.out n2
          refine ⟨by simp, .inl ⟨_, _, rfl, run_takeDeferred (show (W3.drewN n2).heap[D]? = _ from hKS), ?_⟩⟩
          refine ⟨_, ?_, .slice A2 U.length c2, rfl, hrf, hbf.trans (belowK_b (w := w) (Nat.le_refl _) _ D _ _ (Nat.le_trans hB0.size hD) (show (W3.drewN n2).heap[D]? = _ from hKS) rfl rfl)⟩
          simp [results, Try.f52, go_sem]
          all_goals (rw [show wrap64 (N : Int) = (N : Int) from by have := HN.out; unfold wrap64; omega, Int.tmod_eq_emod_of_nonneg (by omega)])
      · have qc : decide ((l.length : Int) < wrap64 (2 * t2)) = false := decide_eq_false hc
        have qc2 : ((l.length : Int) < IntKind.i64.wrap (2 * t2)) = False := by rw [show IntKind.i64.wrap (2 * t2) = wrap64 (2 * t2) from by unfold wrap64; exact IntKind.wrap_i64 _]; exact eq_false hc
        have qc4 : decide ((l.length : Int) < IntKind.i64.wrap (2 * t2)) = false := by rw [show IntKind.i64.wrap (2 * t2) = wrap64 (2 * t2) from by unfold wrap64; exact IntKind.wrap_i64 _]; exact decide_eq_false hc
        have HUT := Lib.hid (HU2.out (fun h => hc h.2))
        clear hc
        have hcount : ∀ W' : World, Kd.C k31 W' A1 l.length T → Calls Try.prog 31 #[.slice A1 l.length c1, .int .i64 2] W' fun e w' => e = .returned (.int .i64 t2) ∧ Below W'.heap.size W' w' := fun W' hC' => by
          have h1 := probe_Count.calls A1 c1 T 2 t2 W' (by rw [HTL.out]; exact hC') (by rw [HTL.out]; exact (Kd.R_reads' HRT.out).2.1) HT.out
          rw [HTL.out] at h1; exact h1
        have hTC : Kd.C k31 W A1 l.length T := by have h1 := (Kd.R_reads' HRT.out).2.2; first | exact h1 | (rw [HTL.out] at h1; exact h1)
        gi_wp2
        refine wpIn_mono (Q := NoPanic _) ?_ NoPanic.imp
        gi_region_with (refine ⟨trivial, ?_⟩; gi_at_call 31; refine (callsIn_wide.2 (hcount _ (by first | exact hTC | exact Kd.C_drew hTC | exact Kd.C_drewN hTC _))).mono ?_; rintro e w2 ⟨rfl, hb⟩; have HBC := Lib.hid (show Below W.heap.size W w2 from by first | exact hb | exact (pw_below_drewN (Below.refl _ _) _).trans hb | exact (below_drew (Below.refl _ _)).trans hb); clear hb e1 e2; have e1 : w2.cell? ⟨w1.heap.size, 0, none⟩ = some (.slice A1 l.length c1) := (k1.below HBC.out).cell 0; have e2 : w2.cell? ⟨w1.heap.size + 1, 0, none⟩ = some (.int .i64 G) := (k2.below HBC.out).cell 0)
        all_goals (refine NoPanic.normal ?_)
        all_goals gi_wp2
        all_goals
          refine wpIn_mono (Q := NoPanic _) ?_ NoPanic.imp
          gi_region_with skip
        all_goals (refine NoPanic.normal ?_)
        all_goals gi_wp2
        all_goals
          have hK2 : w2.heap[D]? = some (.deferred (some [])) := (HBC.out.block D hDW).trans hK
          have hR2 := Kd.R_drew (Kd.R_below HRT.out HBC.out)
          have hrf := R_ownFrom (β := Unit) (n := 0) (xs := fun _ => T) () w2.drew _ _ hR2 (grownBy_putObj' _ D (.deferred none)) (fun r e => by cases e; exact ⟨Nat.zero_le _, _, hK2, rfl⟩)
          have hbf : Below w.heap.size w w2.drew := below_drew (HBW.out.trans (HBC.out.mono HBW.out.size))
          refine ⟨by simp, .inl ⟨_, _, rfl, run_takeDeferred (show w2.drew.heap[D]? = _ from hK2), ?_⟩⟩
          refine ⟨_, ?_, .slice A1 l.length c1, rfl, by rw [HUT.out]; exact hrf, hbf.trans (belowK_b (w := w) (Nat.le_refl _) _ D _ _ (Nat.le_trans hB0.size hD) hK2 rfl rfl)⟩
          simp [results, Try.f52, go_sem]
          all_goals (rw [show wrap64 (N : Int) = (N : Int) from by have := HN.out; unfold wrap64; omega, Int.tmod_eq_emod_of_nonneg (by omega)])
    · have qG : decide (0 < G) = false := decide_eq_false hG
      have qG2 := eq_false hG
      have HUT := Lib.hid (HU2.out (fun h => hG h.1))
      clear hG
      gi_wp2
      refine wpIn_mono (Q := NoPanic _) ?_ NoPanic.imp
      refine wpIn_region_quiet_lit rfl (by kernel_rfl) (by kernel_rfl) ?_
      repeat (gi_big_quiet_step (skip))
      refine wpQuietIn_step (fun _ _ _ _ => trivial) (fun K hK => ?_)
      go_simp
      refine hK _ ?_; clear hK K
      repeat (gi_big_quiet_step (skip))
      refine wpQuietIn_nil ?_
      intro _ hw'
      obtain ⟨n1, hw''⟩ := hw'
      subst hw''
      refine NoPanic.normal ?_
      gi_wp2
      all_goals
        refine wpIn_mono (Q := NoPanic _) ?_ NoPanic.imp
        gi_big_quiet_th (skip)
        refine NoPanic.normal ?_
        gi_wp2
      all_goals
        rename Nat => n2
        have hR2 := Kd.R_drewN HRT.out (n1 + n2)
        have hrf := R_ownFrom (β := Unit) (n := 0) (xs := fun _ => T) () (W.drewN (n1 + n2)) _ _ hR2 (grownBy_putObj' _ D (.deferred none)) (fun r e => by cases e; exact ⟨Nat.zero_le _, _, hK, rfl⟩)
        have hbf : Below w.heap.size w (W.drewN (n1 + n2)) := pw_below_drewN HBW.out (n1 + n2)
        refine ⟨by simp, .inl ⟨_, _, rfl, run_takeDeferred (show (W.drewN (n1 + n2)).heap[D]? = _ from hK), ?_⟩⟩
        refine ⟨_, ?_, .slice A1 l.length c1, rfl, by rw [HUT.out]; exact hrf, hbf.trans (belowK_b (w := w) (Nat.le_refl _) _ D _ _ (Nat.le_trans hB0.size hD) (show (W.drewN (n1 + n2)).heap[D]? = _ from hK) rfl rfl)⟩
        simp [results, Try.f52, go_sem]
        all_goals (rw [show wrap64 (N : Int) = (N : Int) from by have := HN.out; unfold wrap64; omega, Int.tmod_eq_emod_of_nonneg (by omega)])
  case stop =>
    rintro D c pre W _ _ h _
    exact h.elim
end

end Go.Proofs.Ythdkkmeiihbafaa.P
