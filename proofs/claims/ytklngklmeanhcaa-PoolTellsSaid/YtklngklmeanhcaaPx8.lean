/- Each Go function that the laws reach, as a plain function, with the proof that the machine's call comes to what it says; of a law: its row. Made by a program of this seat (wip/hp.py, over the print). -/
import Derived.Test.YtklngklmeanhcaaPx0
import Derived.Test.YtklngklmeanhcaaPx2
import Derived.Test.YtklngklmeanhcaaPx4
import Derived.Test.YtklngklmeanhcaaPx7
namespace Go.Proofs.Ytklngklmeanhcaa.P
open Go.RowKit Go.Proofs.YtklngklmeanhcaaW.PrintWords Go.Proofs.YtklngklmeanhcaaW.PrintLast Go.Proofs.YtklngklmeanhcaaW.PrintMore
attribute [local go_sem] max2_int min2_int max_two min_two max_three min_three max_four min_four   -- for this text's walks alone
set_option linter.unusedVariables false
set_option linter.unusedSimpArgs false

/-! ### gangplankref08_Gone: function 42 -/
section
open Go.Shelf Go.Proofs.Ytklngklmeanhcaa.Hand
theorem rdR (xs : List S56) (i : Nat) (h : i < xs.length) : rd_T56 xs (i : Int) = xs[i] := by unfold rd_T56; simp [h]
theorem etaR (x : S56) : (⟨x.f0, x.f1⟩ : S56) = x := rfl
theorem step_w (i n : Nat) (h : i < n) (hn : n ≤ 1000) : wrap64 ((i : Int) + 1) = ((i + 1 : Nat) : Int) := by unfold wrap64; omega
theorem rfind_loop (p : List S56) (id : Int) (hm : p.length ≤ 1000) : ∀ (d i k : Nat), p.length - i = d → i ≤ p.length → d < k → gangplankref08_Find.l0 k p id (i : Int) = some (findAt id (p.drop i) (i : Int))
  | d, i, k, hd, hi, hk => by
    obtain ⟨k, rfl⟩ : ∃ m, k = m + 1 := ⟨k - 1, by omega⟩
    simp only [gangplankref08_Find.l0]
    by_cases h : i < p.length
    · obtain ⟨d, rfl⟩ : ∃ m, d = m + 1 := ⟨d - 1, by omega⟩
      rw [if_pos (by omega), if_pos (by omega), rdR p i h, step_w i _ h hm, List.drop_eq_getElem_cons h]
      unfold findAt
      by_cases he : p[i].f0 = id
      · rw [if_pos he, if_pos he]
      · rw [if_neg he, if_neg he, rfind_loop p id hm d (i + 1) k (by omega) (by omega) (by omega)]
        rfl
    · rw [if_neg (by omega), List.drop_of_length_le (by omega)]
      rfl
theorem rfind (p : List S56) (id : Int) (hm : p.length ≤ 1000) (k : Nat) (hk : p.length < k) : gangplankref08_Find.f k p id = some (findL p id) := by
  unfold gangplankref08_Find.f findL
  have h := rfind_loop p id hm p.length 0 k (by omega) (by omega) hk
  rwa [show ((0 : Nat) : Int) = 0 from rfl, List.drop_zero] at h
theorem rput_done (l : List S56) (a b : Int) (hm : l.length ≤ 1000) : ∀ (d i k : Nat) (acc : List S56), l.length - i = d → i ≤ l.length → d < k → acc.length ≤ i + 1 → gangplankref08_put.l0 k l acc true (i : Int) a b = some (acc ++ l.drop i)
  | d, i, k, acc, hd, hi, hk, ha => by
    obtain ⟨k, rfl⟩ : ∃ m, k = m + 1 := ⟨k - 1, by omega⟩
    simp only [gangplankref08_put.l0]
    by_cases h : i < l.length
    · obtain ⟨d, rfl⟩ : ∃ m, d = m + 1 := ⟨d - 1, by omega⟩
      rw [if_pos (by omega), if_pos trivial, if_pos (by omega), if_pos (by omega), rdR l i h, etaR, step_w i _ h hm, rput_done l a b hm d (i + 1) k _ (by omega) (by omega) (by omega) (by rw [List.length_append, List.length_singleton]; omega), List.drop_eq_getElem_cons h, List.append_assoc]
      rfl
    · rw [if_neg (by omega), if_pos trivial, List.drop_of_length_le (by omega), List.append_nil]
theorem rput_loop (l : List S56) (a b : Int) (hm : l.length ≤ 1000) : ∀ (d i k : Nat) (acc : List S56), l.length - i = d → i ≤ l.length → d < k → acc.length = i → gangplankref08_put.l0 k l acc false (i : Int) a b = some (acc ++ putL keyB ⟨a, b⟩ (l.drop i))
  | d, i, k, acc, hd, hi, hk, ha => by
    obtain ⟨k, rfl⟩ : ∃ m, k = m + 1 := ⟨k - 1, by omega⟩
    simp only [gangplankref08_put.l0]
    by_cases h : i < l.length
    · obtain ⟨d, rfl⟩ : ∃ m, d = m + 1 := ⟨d - 1, by omega⟩
      rw [if_pos (by omega), if_neg (by decide), if_pos (by omega), rdR l i h, step_w i _ h hm, List.drop_eq_getElem_cons h]
      unfold putL
      by_cases hc : l[i].f0 > a
      · rw [if_pos hc, if_pos (by omega), Option.bind_some, if_pos (by rw [List.length_append, List.length_singleton]; omega), etaR, rput_done l a b hm d (i + 1) k _ (by omega) (by omega) (by omega) (by rw [List.length_append, List.length_append, List.length_singleton]; simp; omega), if_pos (show keyB ⟨a, b⟩ < keyB l[i] from hc)]
        simp
      · rw [if_neg hc, if_pos (by omega), etaR, rput_loop l a b hm d (i + 1) k _ (by omega) (by omega) (by omega) (by rw [List.length_append, List.length_singleton]; omega), if_neg (show ¬ keyB ⟨a, b⟩ < keyB l[i] from hc)]
        simp
    · rw [if_neg (by omega), if_neg (by decide), if_pos (by omega), List.drop_of_length_le (by omega)]
      rfl
theorem rput (l : List S56) (x : S56) (hm : l.length ≤ 1000) (k : Nat) (hk : l.length < k) : gangplankref08_put.f k l x.f0 x.f1 = some (putL keyB x l) := by
  unfold gangplankref08_put.f
  have h := rput_loop l x.f0 x.f1 hm l.length 0 k [] (by omega) (by omega) hk rfl
  rwa [List.nil_append, List.drop_zero, etaR] at h
theorem putL_len (x : S56) : ∀ l : List S56, (putL keyB x l).length = l.length + 1
  | [] => rfl
  | y :: l => by
    unfold putL
    split
    · rfl
    · rw [List.length_cons, putL_len x l, List.length_cons]
theorem rsorted_loop (p : List S56) (hm : p.length ≤ 500) (K : Nat) (hK : 501 ≤ K) : ∀ (d i k : Nat) (acc : List S56), p.length - i = d → i ≤ p.length → d + K ≤ k → acc.length = i → gangplankref08_Sorted.l0 k p acc (i : Int) = some ((p.drop i).foldl (fun o b => putL keyB b o) acc)
  | d, i, k, acc, hd, hi, hk, ha => by
    obtain ⟨k, rfl⟩ : ∃ m, k = m + 1 := ⟨k - 1, by omega⟩
    simp only [gangplankref08_Sorted.l0]
    by_cases h : i < p.length
    · obtain ⟨d, rfl⟩ : ∃ m, d = m + 1 := ⟨d - 1, by omega⟩
      rw [if_pos (by omega), if_pos (by omega), rdR p i h, rput acc p[i] (by omega) k (by omega), Option.bind_some, step_w i _ h (by omega), rsorted_loop p hm K hK d (i + 1) k _ (by omega) (by omega) (by omega) (by rw [putL_len]; omega), List.drop_eq_getElem_cons h]
      rfl
    · rw [if_neg (by omega), List.drop_of_length_le (by omega)]
      rfl
theorem rsorted (p : List S56) (hm : p.length ≤ 500) (k : Nat) (hk : p.length + 501 ≤ k) : gangplankref08_Sorted.f k p = some (sortedL p) := by
  unfold gangplankref08_Sorted.f
  have h := rsorted_loop p hm 501 (Nat.le_refl _) p.length 0 k [] (by omega) (by omega) (by omega) rfl
  rwa [List.drop_zero] at h
/-- Is the element at i taken in: not found in the other pool, and not met before. -/
def newG (b s : List S56) (i : Nat) : Bool := decide (findL b (s.getD i z56).f0 < 0) && (decide (i = 0) || !((s.getD (i - 1) z56).f0 == (s.getD i z56).f0))
def goneR (b s : List S56) : Nat → List Int
  | 0 => []
  | i + 1 => if newG b s i = true then goneR b s i ++ [(s.getD i z56).f0] else goneR b s i
theorem goneR_len (b s : List S56) : ∀ i, (goneR b s i).length ≤ i
  | 0 => Nat.le_refl _
  | i + 1 => by
    have := goneR_len b s i
    unfold goneR
    split
    · rw [List.length_append, List.length_singleton]; omega
    · omega
theorem infoIntR : (Try.prog.info? 3).map (fun i => (i.zero, i.size, i.bytes)) = some (some (.int .i64 0), 1, 8) := by kernel_rfl
set_option maxRecDepth 100000 in
set_option maxHeartbeats 8000000 in
theorem refGone_any (A1 A2 : Option Addr) (c1 c2 : Nat) (p q : List S56) (hp : p.length ≤ 500) (hq : q.length ≤ 500) (h1 : p.length ≤ c1) (h2 : q.length ≤ c2) (w : World) (hC1 : Kd.C k56 w A1 p.length p) (hC2 : Kd.C k56 w A2 q.length q) :
    Calls Try.prog 42 #[.slice A1 p.length c1, .slice A2 q.length c2] w fun e w' => ∃ v, e = .returned v ∧ Kd.R (Kd.int .i64) 3 w' w.heap.size (fun _ => True) v (goneR q (sortedL p) (sortedL p).length) ∧ Below w.heap.size w w' := by
  have HSO := Lib.hid (gangplankref08_Sorted.calls 1100 A1 c1 p (sortedL p) w hC1 h1 (rsorted p hp 1100 (by omega)))
  have HF := Lib.hid (show ∀ (W : World) (x : Int), Kd.C k56 W A2 q.length q → Calls Try.prog 44 #[.slice A2 q.length c2, .int .i64 x] W fun e w' => e = .returned (.int .i64 (findL q x)) ∧ ∃ n, w' = W.drewN n from fun W x hC => (gangplankref08_Find.calls 1100 A2 c2 q x (findL q x) W hC h2 (rfind q x (by omega) 1100 (by omega))).mono fun e w' h => ⟨h.1, h.2.out⟩)
  have HC2 := Lib.hid hC2
  have hsl : (sortedL p).length ≤ 500 := by rw [sortedL_len]; exact hp
  obtain ⟨s, hs⟩ : ∃ s, sortedL p = s := ⟨_, rfl⟩
  rw [hs] at hsl HSO ⊢
  have HB0 := Lib.hid (Below.refl w.heap.size w)
  clear hC1 hC2 hp hq h1 h2 hs
  go_enter Try.func42, Try.ntmps42
  go_wp2_with (go_at_call 35; refine HSO.out.mono ?_; rintro e w1 ⟨v1, rfl, hr1, hb1⟩; obtain ⟨As, cs, rfl⟩ := Kd.R_slice hr1; have HR1 := Lib.hid hr1; have HB1 := Lib.hid hb1; clear hr1 hb1)
  go_loopw [6, 7] (fun out i wr => ∃ (j : Nat), j ≤ s.length ∧ i = .int .i64 j ∧ Aside0 (Kd.R (Kd.int .i64) 3 wr w.heap.size (fun _ => True) out (goneR q s j)) ∧ Aside0 (Kd.R k56 56 wr w.heap.size (fun _ => True) (.slice As s.length cs) s) ∧ Aside0 (Below w.heap.size w wr))
    (fun _ i _ => s.length - (intOf i).toNat)
  case atStart => exact ⟨0, Nat.zero_le _, rfl, ⟨Kd.R_nil _ _ _ _ _⟩, ⟨HR1.out⟩, ⟨HB1.out⟩⟩
  case round =>
    clear HR1 HB1
    obtain ⟨j, hj, rfl, HO, HR, HB⟩ := hrel
    by_cases hlt : j < s.length
    · obtain ⟨ad, hA, c0, _⟩ := at_T56 (Kd.R_reads' HR.out).2.2 (j : Int) (by omega) (by omega)
      subst hA
      rw [show rd_T56 s (j : Int) = s.getD j z56 from rfl, Int.toNat_natCast] at c0
      have hq1 := HF.out
      obtain ⟨x, hx⟩ : ∃ x, (s.getD j z56).f0 = x := ⟨_, rfl⟩
      obtain ⟨fx, hfx⟩ : ∃ fx, findL q x = fx := ⟨_, rfl⟩
      have hcall : ∀ W, Kd.C k56 W A2 q.length q → Calls Try.prog 44 #[.slice A2 q.length c2, .int .i64 x] W fun e w' => e = .returned (.int .i64 fx) ∧ ∃ n, w' = W.drewN n := fun W hC => by rw [← hfx]; exact HF.out W x hC
      rw [hx] at c0
      have hwk : wrap64 ((j : Int) + 1) = ((j + 1 : Nat) : Int) := step_w j _ hlt (by omega)
      have q1 : decide ((j : Int) < (s.length : Int)) = true := decide_eq_true (by omega)
      have q2 : (0 : Int) ≤ (j : Int) := by omega
      have q3 : (j : Int) < (s.length : Int) := by omega
      have HW := Lib.hid hwk
      have HCL := Lib.hid (fun n => hcall (wr.drewN n) (Kd.C_drewN (Kd.C_below HC2.out HB.out) n))
      have hnew : newG q s j = (decide (fx < 0) && (decide (j = 0) || !((s.getD (j - 1) z56).f0 == x))) := by unfold newG; rw [hx, hfx]
      have HN := Lib.hid hnew
      have HX := Lib.hid hx
      clear hq1 hcall hwk hnew hx hfx
      have HGL := Lib.hid (show (goneR q s j).length ≤ 500 from Nat.le_trans (goneR_len q s j) (by omega))
      have hstep1 : newG q s j = true → goneR q s (j + 1) = goneR q s j ++ [x] := fun h => by
        show (if newG q s j = true then goneR q s j ++ [(s.getD j z56).f0] else goneR q s j) = _
        rw [if_pos h, HX.out]
      have hstep0 : newG q s j = false → goneR q s (j + 1) = goneR q s j := fun h => by
        show (if newG q s j = true then goneR q s j ++ [(s.getD j z56).f0] else goneR q s j) = _
        rw [if_neg (by rw [h]; decide)]
      have HS1 := Lib.hid hstep1
      have HS0 := Lib.hid hstep0
      clear hstep1 hstep0
      by_cases hA : fx < 0
      · have qa : decide (fx < 0) = true := decide_eq_true hA
        by_cases h0 : j = 0
        · have HG := Lib.hid (HS1.out (by rw [HN.out, qa, decide_eq_true h0]; rfl))
          have qb : ((j : Int) == 0) = true := by rw [beq_iff_eq]; omega
          clear HS0 HS1 HN h0
          go_upto_region 6 with (fail)
          go_quiet ((go_at_call 44; exact Calls.quiet_of (HCL.out _)))
          have HOQ := Lib.hid (Kd.R_drewN HO.out nq)
          have HRQ := Lib.hid (Kd.R_drewN HR.out nq)
          have HBQ := Lib.hid (pw_below_drewN HB.out nq)
          obtain ⟨wq, hwq⟩ : ∃ wq, wr.drewN nq = wq := ⟨_, rfl⟩
          replace c0 : wq.cell? ((ad.add (j * 2))) = some (.int .i64 x) := by rw [← hwq]; exact c0
          rw [hwq] at HOQ HRQ HBQ ⊢
          clear hwq HO HR HB
          go_wp2_with (at_builtin; refine Kd.R_append (Kd.int .i64) (w0 := w) w.heap.size rfl (.tmp 42) (.tmp 48) 62 3 (.int .i64 0) 8 rfl Try.underlying62 infoIntR rfl (by decide) (by omega) _ (goneR q s j) x [.int .i64 x] (fun _ => True) (fun _ => False) rfl rfl rfl (fun _ hk => hk.elim) (fun _ _ => trivial) HOQ.out HBQ.out HBQ.out.size (by have := HGL.out; omega) ?_; intro pv2 w4 hl2 hb2 hg2 _; have HO4 := Lib.hid hl2; have HR4 := Lib.hid (Kd.R_over HRQ.out HOQ.out (by decide) hg2); have HB4 := Lib.hid hb2; clear hl2 hb2 hg2)
          go_roundw
          case rel => exact ⟨j + 1, Nat.succ_le_of_lt hlt, congrArg (Value.int .i64) (by omega), ⟨by rw [HG.out]; exact HO4.out⟩, ⟨HR4.out⟩, ⟨HB4.out⟩⟩
          case measure => (show s.length - ((j : Int) + 1).toNat < s.length - (j : Int).toNat); omega
        · obtain ⟨jm, hjm⟩ : ∃ jm, j - 1 = jm := ⟨_, rfl⟩
          have qb : ((j : Int) == 0) = false := by rw [beq_eq_false_iff_ne]; omega
          have v1 : (j : Int) - 1 = (jm : Int) := by omega
          have v2 : IntKind.i64.wrap ((j : Int) - 1) = (jm : Int) := by rw [IntKind.wrap_i64]; omega
          have r1 : (0 : Int) ≤ (jm : Int) := by omega
          have r2 : (jm : Int) < (s.length : Int) := by omega
          obtain ⟨ad2, hA2, d0, _⟩ := at_T56 (Kd.R_reads' HR.out).2.2 (jm : Int) (by omega) (by omega)
          have hAA := Option.some.inj hA2
          clear hA2
          subst hAA
          rw [show rd_T56 s (jm : Int) = s.getD jm z56 from rfl, Int.toNat_natCast] at d0
          obtain ⟨y, hy⟩ : ∃ y, (s.getD jm z56).f0 = y := ⟨_, rfl⟩
          rw [hy] at d0
          have hn := HN.out
          rw [hjm, hy, qa, decide_eq_false h0] at hn
          have HNN := Lib.hid hn
          clear hn hy hjm HN h0
          by_cases he : y = x
          · have qc : (y == x) = true := beq_iff_eq.mpr he
            have qd : (y != x) = false := bne_eq_false_iff_eq.mpr he
            have HG := Lib.hid (HS0.out (by rw [HNN.out, qc]; rfl))
            clear HS0 HS1 HNN he
            go_upto_region 6 with (fail)
            go_quiet ((go_at_call 44; exact Calls.quiet_of (HCL.out _)))
            go_wp2
            go_roundw
            case rel => exact ⟨j + 1, Nat.succ_le_of_lt hlt, congrArg (Value.int .i64) (by omega), ⟨by rw [HG.out]; exact Kd.R_drewN HO.out _⟩, ⟨Kd.R_drewN HR.out _⟩, ⟨pw_below_drewN HB.out _⟩⟩
            case measure => (show s.length - ((j : Int) + 1).toNat < s.length - (j : Int).toNat); omega
          · have qc : (y == x) = false := beq_eq_false_iff_ne.mpr he
            have qd : (y != x) = true := bne_iff_ne.mpr he
            have HG := Lib.hid (HS1.out (by rw [HNN.out, qc]; rfl))
            clear HS0 HS1 HNN he
            go_upto_region 6 with (fail)
            go_quiet ((go_at_call 44; exact Calls.quiet_of (HCL.out _)))
            have HOQ := Lib.hid (Kd.R_drewN HO.out nq)
            have HRQ := Lib.hid (Kd.R_drewN HR.out nq)
            have HBQ := Lib.hid (pw_below_drewN HB.out nq)
            obtain ⟨wq, hwq⟩ : ∃ wq, wr.drewN nq = wq := ⟨_, rfl⟩
            replace c0 : wq.cell? ((ad.add (j * 2))) = some (.int .i64 x) := by rw [← hwq]; exact c0
            rw [hwq] at HOQ HRQ HBQ ⊢
            clear hwq HO HR HB
            go_wp2_with (at_builtin; refine Kd.R_append (Kd.int .i64) (w0 := w) w.heap.size rfl (.tmp 42) (.tmp 48) 62 3 (.int .i64 0) 8 rfl Try.underlying62 infoIntR rfl (by decide) (by omega) _ (goneR q s j) x [.int .i64 x] (fun _ => True) (fun _ => False) rfl rfl rfl (fun _ hk => hk.elim) (fun _ _ => trivial) HOQ.out HBQ.out HBQ.out.size (by have := HGL.out; omega) ?_; intro pv2 w4 hl2 hb2 hg2 _; have HO4 := Lib.hid hl2; have HR4 := Lib.hid (Kd.R_over HRQ.out HOQ.out (by decide) hg2); have HB4 := Lib.hid hb2; clear hl2 hb2 hg2)
            go_roundw
            case rel => exact ⟨j + 1, Nat.succ_le_of_lt hlt, congrArg (Value.int .i64) (by omega), ⟨by rw [HG.out]; exact HO4.out⟩, ⟨HR4.out⟩, ⟨HB4.out⟩⟩
            case measure => (show s.length - ((j : Int) + 1).toNat < s.length - (j : Int).toNat); omega
      · have qa : decide (fx < 0) = false := decide_eq_false hA
        have HG := Lib.hid (HS0.out (by rw [HN.out, qa]; rfl))
        clear HS0 HS1 HN
        go_upto_region 6 with (fail)
        go_quiet ((go_at_call 44; exact Calls.quiet_of (HCL.out _)))
        go_wp2
        go_roundw
        case rel => exact ⟨j + 1, Nat.succ_le_of_lt hlt, congrArg (Value.int .i64) (by omega), ⟨by rw [HG.out]; exact Kd.R_drewN HO.out _⟩, ⟨Kd.R_drewN HR.out _⟩, ⟨pw_below_drewN HB.out _⟩⟩
        case measure => (show s.length - ((j : Int) + 1).toNat < s.length - (j : Int).toNat); omega
    · obtain rfl : j = s.length := Nat.le_antisymm hj (Nat.le_of_not_lt hlt)
      have q1 : decide ((s.length : Int) < (s.length : Int)) = false := decide_eq_false (by omega)
      go_wp2
      go_ret
      exact ⟨_, rfl, HO.out, HB.out⟩
def gangplankref08_Gone.f (l0 : List S56) (l1 : List S56) : Option (List Int) := if l0.length ≤ 500 ∧ l1.length ≤ 500 then some (goneR l1 (sortedL l0) (sortedL l0).length) else none
theorem gangplankref08_Gone.calls (A0 : Option Addr) (c0 : Nat) (l0 : List S56) (A1 : Option Addr) (c1 : Nat) (l1 : List S56) (r : List Int) (w : World) (hr0 : Kd.C k56 w A0 l0.length l0) (hc0 : l0.length ≤ c0) (hr1 : Kd.C k56 w A1 l1.length l1) (hc1 : l1.length ≤ c1) (h : gangplankref08_Gone.f l0 l1 = some r) :
    Calls Try.prog 42 #[.slice A0 l0.length c0, .slice A1 l1.length c1] w fun e w' => ∃ v0_ : Value, e = .returned v0_ ∧ Kd.R (Kd.int .i64) 3 w' w.heap.size (fun _ => True) v0_ r ∧ Below w.heap.size w w' := by
  unfold gangplankref08_Gone.f at h
  by_cases hl : l0.length ≤ 500 ∧ l1.length ≤ 500
  · rw [if_pos hl] at h
    obtain rfl := Option.some.inj h
    exact refGone_any A0 A1 c0 c1 l0 l1 hl.1 hl.2 hc0 hc1 w hr0 hr1
  · rw [if_neg hl] at h
    exact absurd h (by simp)
end

/-! ### gangplankref08_Check: function 43 -/
def gangplankref08_Check.l0 : Nat → List (S56) → Int → Option (Int)
  | 0, _, _ => none
  | k + 1, x0, x3 => if x3 < (x0.length : Int) then (if 0 ≤ x3 then (if ((rd_T56 x0 x3).f0) < 1 then (some 10) else (if ((rd_T56 x0 x3).f0) > 65535 then (some 10) else (if ((rd_T56 x0 x3).f1) < 1 then (some 10) else (if ((rd_T56 x0 x3).f1) > 16 then (some 10) else ((gangplankref08_Find.f k x0 ((rd_T56 x0 x3).f0)).bind fun t156 => (if t156 = x3 then (gangplankref08_Check.l0 k x0 (wrap64 (x3 + 1))) else (some 10))))))) else (none)) else (some 0)
def gangplankref08_Check.f (k : Nat) (l0 : List (S56)) : Option (Int) := if (l0.length : Int) > 32 then (some 10) else (gangplankref08_Check.l0 k l0 0)
theorem gangplankref08_Check.mono_l : ∀ k, (∀ y0 y1, LeO (gangplankref08_Check.l0 k y0 y1) (gangplankref08_Check.l0 (k + 1) y0 y1))
  | 0 => fun _ _ r h => by simp [gangplankref08_Check.l0] at h
  | k + 1 => by
    have ih0 := gangplankref08_Check.mono_l k
    · intro y0 y1
      unfold gangplankref08_Check.l0
      repeat' first
      | (with_reducible exact ih0 _ _)
      | (with_reducible exact gangplankref08_Find.mono _ _ _)
      | (with_reducible exact LeO.refl _)
      | (with_reducible exact LeO.none _)
      | (with_reducible refine LeO.ite ?_ ?_)
      | (with_reducible refine LeO.bind ?_ (fun _ => ?_))
      | exact ih0 _ _
      | exact gangplankref08_Find.mono _ _ _
      | exact LeO.none _
      | refine LeO.ite ?_ ?_
      | refine LeO.bind ?_ (fun _ => ?_)
theorem gangplankref08_Check.mono : ∀ a0 k, LeO (gangplankref08_Check.f k a0) (gangplankref08_Check.f (k + 1) a0) := by
  intro a0 k
  have ih0 := gangplankref08_Check.mono_l k
  unfold gangplankref08_Check.f
  repeat' first
      | (with_reducible exact ih0 _ _)
      | (with_reducible exact gangplankref08_Find.mono _ _ _)
      | (with_reducible exact LeO.refl _)
      | (with_reducible exact LeO.none _)
      | (with_reducible refine LeO.ite ?_ ?_)
      | (with_reducible refine LeO.bind ?_ (fun _ => ?_))
      | exact ih0 _ _
      | exact gangplankref08_Find.mono _ _ _
      | exact LeO.none _
      | refine LeO.ite ?_ ?_
      | refine LeO.bind ?_ (fun _ => ?_)
set_option maxHeartbeats 8000000 in
set_option maxRecDepth 100000 in
theorem gangplankref08_Check.calls (k : Nat) (A0 : Option Addr) (c0 : Nat) (l0 : List (S56)) (r : Int) (w : World) (hr0 : Kd.C k56 w A0 l0.length l0) (hc0 : l0.length ≤ c0) (h : gangplankref08_Check.f k l0 = some r) :
    Calls Try.prog 43 #[.slice A0 l0.length c0] w fun e w' => e = .returned (.int .i64 r) ∧ Below w.heap.size w w' := by
  have hu56 := Try.underlying56
  have HR0 := Aside0.mk hr0
  have HC0 := Aside0.mk hc0
  clear hr0 hc0
  have HB := Aside0.mk (Below.refl w.heap.size w)
  have H : (if (l0.length : Int) > 32 then (some 10) else (gangplankref08_Check.l0 k l0 0)) = some r := h
  clear h
  by_cases c2 : (l0.length : Int) > 32
  · rw [if_pos c2] at H
    have c2b0 : decide (32 < (l0.length : Int)) = true := decide_eq_true c2
    have c2b1 : decide (32 < l0.length) = true := decide_eq_true (by omega)
    clear c2
    obtain rfl := Option.some.inj H
    go_enter Try.func43, Try.ntmps43
    go_wp2
    go_ret
    exact ⟨by first | rfl | (simp [errW_none, errW_some] <;> rfl) | (simp [*, errW_none, errW_some] <;> rfl), by repeat (first | (with_reducible first | exact HB.out | apply below_alloc | apply pw_below_drewN | apply below_drew1) | exact HB.out)⟩
  · rw [if_neg c2] at H
    have c2b0 : decide (32 < (l0.length : Int)) = false := decide_eq_false c2
    have c2b1 : decide (32 < l0.length) = false := decide_eq_false (by omega)
    clear c2
    have H' := Aside0.mk H
    clear H
    go_enter Try.func43, Try.ntmps43
    go_wp2
    go_loopg [3] k (fun kq v3 w' => ∃ (x3_1 : Int), v3 = .int .i64 x3_1 ∧ Aside0 (gangplankref08_Check.l0 kq l0 x3_1 = some r) ∧ Aside0 (kq ≤ k) ∧ Aside0 (Below w.heap.size w w'))
    case atStart => exact ⟨(0), (by first | rfl | (simp; done) | (simp [*]; done)), H', ⟨Nat.le_refl _⟩, ⟨by repeat (first | (with_reducible first | exact HB.out | apply below_alloc | apply pw_below_drewN | apply below_drew1) | exact HB.out)⟩⟩
    case round =>
      clear H'
      try clear c2
      try clear c2b0
      try clear c2b1
      try clear p2
      obtain ⟨x3_1, rfl, HA, HK1, HB⟩ := hrel
      cases gk with
      | zero => exact absurd HA.out (by simp [gangplankref08_Check.l0])
      | succ k1 =>
        have H := HA.out
        clear HA
        simp only [gangplankref08_Check.l0] at H
        by_cases c3 : x3_1 < (l0.length : Int)
        · rw [if_pos c3] at H
          have c3b0 : decide (x3_1 < (l0.length : Int)) = true := decide_eq_true c3
          clear c3
          by_cases c4 : 0 ≤ x3_1
          · rw [if_pos c4] at H
            have c4b0 : decide (0 ≤ x3_1) = true := decide_eq_true c4
            clear c4
            by_cases c5 : ((rd_T56 l0 x3_1).f0) < 1
            · rw [if_pos c5] at H
              have c5b0 : decide (((rd_T56 l0 x3_1).f0) < 1) = true := decide_eq_true c5
              clear c5
              obtain rfl := Option.some.inj H
              have p154 : 0 ≤ (x3_1 : Int) := of_decide_eq_true (by first | (with_reducible assumption) | assumption)
              have q154 : x3_1 < (l0.length : Int) := of_decide_eq_true (by first | (with_reducible assumption) | assumption)
              obtain ⟨ad154, e154, hx154_0, hx154_1⟩ := at_T56 HR0.out x3_1 p154 q154
              cases e154
              replace hx154_0 := (HB.out.cell (World.block_lt_of_cell? w _ hx154_0)).trans hx154_0
              replace hx154_1 := (HB.out.cell (World.block_lt_of_cell? w _ hx154_1)).trans hx154_1
              replace p154 := eq_true p154
              replace q154 := eq_true q154
              go_wp2_with (first | ((with_reducible refine gate_dst (N := 4) rfl ?_); refine box_event ?hg (N := 4) ?hd (cs := #[.int .i64 0, .int .i64 0]) (t := 56) ?hr ?_; (case hd => rfl); (case hg => rfl); (case hr => first | (go_simp; done) | (go_simp; rfl)); intro gb155 hg w6 hbox hb; have n0_ := Aside0.mk (below_step (by repeat (first | (with_reducible first | exact HB.out | apply below_alloc | apply pw_below_drewN | apply below_drew1) | exact HB.out)) hb); have n1_ := Aside0.mk (hbox); have n2_ := Aside0.mk ((by rw [hg]; exact (below_size (by repeat (first | (with_reducible first | exact HB.out | apply below_alloc | apply pw_below_drewN | apply below_drew1) | exact HB.out))) : w.heap.size ≤ gb155)); have n3_ := Aside0.mk ((by rw [hg]; exact (below_size (by repeat (first | (with_reducible first | exact HB.out | apply below_alloc | apply pw_below_drewN | apply below_drew1) | exact HB.out))) : w.heap.size ≤ gb155)); clear HB; have HB := n0_; have BK155 := n1_; have GW155 := n2_; have GE155 := n3_; clear n0_ n1_ n2_ n3_; clear hb hbox hg; have hcz7_0 : w6.cell? ⟨gb155, 0, none⟩ = some (.int .i64 0) := (blk_cell BK155.out 0).trans rfl; have hcz7_1 : w6.cell? ⟨gb155, 1, none⟩ = some (.int .i64 0) := (blk_cell BK155.out 1).trans rfl; have hfz7_0 := blk_frozen BK155.out 0; have hfz7_1 := blk_frozen BK155.out 1))
              go_ret
              exact ⟨by first | rfl | (simp [errW_none, errW_some] <;> rfl) | (simp [*, errW_none, errW_some] <;> rfl), by repeat (first | (with_reducible first | exact HB.out | apply below_alloc | apply pw_below_drewN | apply below_drew1 | refine below_set ?_ GE155.out) | exact HB.out)⟩
            · rw [if_neg c5] at H
              have c5b0 : decide (((rd_T56 l0 x3_1).f0) < 1) = false := decide_eq_false c5
              clear c5
              by_cases c8 : ((rd_T56 l0 x3_1).f0) > 65535
              · rw [if_pos c8] at H
                have c8b0 : decide (65535 < ((rd_T56 l0 x3_1).f0)) = true := decide_eq_true c8
                clear c8
                obtain rfl := Option.some.inj H
                have p154 : 0 ≤ (x3_1 : Int) := of_decide_eq_true (by first | (with_reducible assumption) | assumption)
                have q154 : x3_1 < (l0.length : Int) := of_decide_eq_true (by first | (with_reducible assumption) | assumption)
                obtain ⟨ad154, e154, hx154_0, hx154_1⟩ := at_T56 HR0.out x3_1 p154 q154
                cases e154
                replace hx154_0 := (HB.out.cell (World.block_lt_of_cell? w _ hx154_0)).trans hx154_0
                replace hx154_1 := (HB.out.cell (World.block_lt_of_cell? w _ hx154_1)).trans hx154_1
                replace p154 := eq_true p154
                replace q154 := eq_true q154
                go_wp2_with (first | ((with_reducible refine gate_dst (N := 4) rfl ?_); refine box_event ?hg (N := 4) ?hd (cs := #[.int .i64 0, .int .i64 0]) (t := 56) ?hr ?_; (case hd => rfl); (case hg => rfl); (case hr => first | (go_simp; done) | (go_simp; rfl)); intro gb155 hg w9 hbox hb; have n0_ := Aside0.mk (below_step (by repeat (first | (with_reducible first | exact HB.out | apply below_alloc | apply pw_below_drewN | apply below_drew1) | exact HB.out)) hb); have n1_ := Aside0.mk (hbox); have n2_ := Aside0.mk ((by rw [hg]; exact (below_size (by repeat (first | (with_reducible first | exact HB.out | apply below_alloc | apply pw_below_drewN | apply below_drew1) | exact HB.out))) : w.heap.size ≤ gb155)); have n3_ := Aside0.mk ((by rw [hg]; exact (below_size (by repeat (first | (with_reducible first | exact HB.out | apply below_alloc | apply pw_below_drewN | apply below_drew1) | exact HB.out))) : w.heap.size ≤ gb155)); clear HB; have HB := n0_; have BK155 := n1_; have GW155 := n2_; have GE155 := n3_; clear n0_ n1_ n2_ n3_; clear hb hbox hg; have hcz10_0 : w9.cell? ⟨gb155, 0, none⟩ = some (.int .i64 0) := (blk_cell BK155.out 0).trans rfl; have hcz10_1 : w9.cell? ⟨gb155, 1, none⟩ = some (.int .i64 0) := (blk_cell BK155.out 1).trans rfl; have hfz10_0 := blk_frozen BK155.out 0; have hfz10_1 := blk_frozen BK155.out 1))
                go_ret
                exact ⟨by first | rfl | (simp [errW_none, errW_some] <;> rfl) | (simp [*, errW_none, errW_some] <;> rfl), by repeat (first | (with_reducible first | exact HB.out | apply below_alloc | apply pw_below_drewN | apply below_drew1 | refine below_set ?_ GE155.out) | exact HB.out)⟩
              · rw [if_neg c8] at H
                have c8b0 : decide (65535 < ((rd_T56 l0 x3_1).f0)) = false := decide_eq_false c8
                clear c8
                by_cases c11 : ((rd_T56 l0 x3_1).f1) < 1
                · rw [if_pos c11] at H
                  have c11b0 : decide (((rd_T56 l0 x3_1).f1) < 1) = true := decide_eq_true c11
                  clear c11
                  obtain rfl := Option.some.inj H
                  have p154 : 0 ≤ (x3_1 : Int) := of_decide_eq_true (by first | (with_reducible assumption) | assumption)
                  have q154 : x3_1 < (l0.length : Int) := of_decide_eq_true (by first | (with_reducible assumption) | assumption)
                  obtain ⟨ad154, e154, hx154_0, hx154_1⟩ := at_T56 HR0.out x3_1 p154 q154
                  cases e154
                  replace hx154_0 := (HB.out.cell (World.block_lt_of_cell? w _ hx154_0)).trans hx154_0
                  replace hx154_1 := (HB.out.cell (World.block_lt_of_cell? w _ hx154_1)).trans hx154_1
                  replace p154 := eq_true p154
                  replace q154 := eq_true q154
                  go_wp2_with (first | ((with_reducible refine gate_dst (N := 4) rfl ?_); refine box_event ?hg (N := 4) ?hd (cs := #[.int .i64 0, .int .i64 0]) (t := 56) ?hr ?_; (case hd => rfl); (case hg => rfl); (case hr => first | (go_simp; done) | (go_simp; rfl)); intro gb155 hg w12 hbox hb; have n0_ := Aside0.mk (below_step (by repeat (first | (with_reducible first | exact HB.out | apply below_alloc | apply pw_below_drewN | apply below_drew1) | exact HB.out)) hb); have n1_ := Aside0.mk (hbox); have n2_ := Aside0.mk ((by rw [hg]; exact (below_size (by repeat (first | (with_reducible first | exact HB.out | apply below_alloc | apply pw_below_drewN | apply below_drew1) | exact HB.out))) : w.heap.size ≤ gb155)); have n3_ := Aside0.mk ((by rw [hg]; exact (below_size (by repeat (first | (with_reducible first | exact HB.out | apply below_alloc | apply pw_below_drewN | apply below_drew1) | exact HB.out))) : w.heap.size ≤ gb155)); clear HB; have HB := n0_; have BK155 := n1_; have GW155 := n2_; have GE155 := n3_; clear n0_ n1_ n2_ n3_; clear hb hbox hg; have hcz13_0 : w12.cell? ⟨gb155, 0, none⟩ = some (.int .i64 0) := (blk_cell BK155.out 0).trans rfl; have hcz13_1 : w12.cell? ⟨gb155, 1, none⟩ = some (.int .i64 0) := (blk_cell BK155.out 1).trans rfl; have hfz13_0 := blk_frozen BK155.out 0; have hfz13_1 := blk_frozen BK155.out 1))
                  go_ret
                  exact ⟨by first | rfl | (simp [errW_none, errW_some] <;> rfl) | (simp [*, errW_none, errW_some] <;> rfl), by repeat (first | (with_reducible first | exact HB.out | apply below_alloc | apply pw_below_drewN | apply below_drew1 | refine below_set ?_ GE155.out) | exact HB.out)⟩
                · rw [if_neg c11] at H
                  have c11b0 : decide (((rd_T56 l0 x3_1).f1) < 1) = false := decide_eq_false c11
                  clear c11
                  by_cases c14 : ((rd_T56 l0 x3_1).f1) > 16
                  · rw [if_pos c14] at H
                    have c14b0 : decide (16 < ((rd_T56 l0 x3_1).f1)) = true := decide_eq_true c14
                    clear c14
                    obtain rfl := Option.some.inj H
                    have p154 : 0 ≤ (x3_1 : Int) := of_decide_eq_true (by first | (with_reducible assumption) | assumption)
                    have q154 : x3_1 < (l0.length : Int) := of_decide_eq_true (by first | (with_reducible assumption) | assumption)
                    obtain ⟨ad154, e154, hx154_0, hx154_1⟩ := at_T56 HR0.out x3_1 p154 q154
                    cases e154
                    replace hx154_0 := (HB.out.cell (World.block_lt_of_cell? w _ hx154_0)).trans hx154_0
                    replace hx154_1 := (HB.out.cell (World.block_lt_of_cell? w _ hx154_1)).trans hx154_1
                    replace p154 := eq_true p154
                    replace q154 := eq_true q154
                    go_wp2_with (first | ((with_reducible refine gate_dst (N := 4) rfl ?_); refine box_event ?hg (N := 4) ?hd (cs := #[.int .i64 0, .int .i64 0]) (t := 56) ?hr ?_; (case hd => rfl); (case hg => rfl); (case hr => first | (go_simp; done) | (go_simp; rfl)); intro gb155 hg w15 hbox hb; have n0_ := Aside0.mk (below_step (by repeat (first | (with_reducible first | exact HB.out | apply below_alloc | apply pw_below_drewN | apply below_drew1) | exact HB.out)) hb); have n1_ := Aside0.mk (hbox); have n2_ := Aside0.mk ((by rw [hg]; exact (below_size (by repeat (first | (with_reducible first | exact HB.out | apply below_alloc | apply pw_below_drewN | apply below_drew1) | exact HB.out))) : w.heap.size ≤ gb155)); have n3_ := Aside0.mk ((by rw [hg]; exact (below_size (by repeat (first | (with_reducible first | exact HB.out | apply below_alloc | apply pw_below_drewN | apply below_drew1) | exact HB.out))) : w.heap.size ≤ gb155)); clear HB; have HB := n0_; have BK155 := n1_; have GW155 := n2_; have GE155 := n3_; clear n0_ n1_ n2_ n3_; clear hb hbox hg; have hcz16_0 : w15.cell? ⟨gb155, 0, none⟩ = some (.int .i64 0) := (blk_cell BK155.out 0).trans rfl; have hcz16_1 : w15.cell? ⟨gb155, 1, none⟩ = some (.int .i64 0) := (blk_cell BK155.out 1).trans rfl; have hfz16_0 := blk_frozen BK155.out 0; have hfz16_1 := blk_frozen BK155.out 1))
                    go_ret
                    exact ⟨by first | rfl | (simp [errW_none, errW_some] <;> rfl) | (simp [*, errW_none, errW_some] <;> rfl), by repeat (first | (with_reducible first | exact HB.out | apply below_alloc | apply pw_below_drewN | apply below_drew1 | refine below_set ?_ GE155.out) | exact HB.out)⟩
                  · rw [if_neg c14] at H
                    have c14b0 : decide (16 < ((rd_T56 l0 x3_1).f1)) = false := decide_eq_false c14
                    clear c14
                    replace H := Option.bind_eq_some_iff.mp H
                    obtain ⟨t156, A170, H⟩ := H
                    replace H : (if t156 = x3_1 then (gangplankref08_Check.l0 k1 l0 (wrap64 (x3_1 + 1))) else (some 10)) = some r := H
                    have A17 := Aside0.mk A170
                    clear A170
                    by_cases c18 : t156 = x3_1
                    · rw [if_pos c18] at H
                      have c18b0 : (t156 == x3_1) = true := beq_iff_eq.mpr c18
                      have c18b1 : (t156 != x3_1) = false := bne_eq_false_iff_eq.mpr c18
                      clear c18
                      have H' := Aside0.mk H
                      clear H
                      have p154 : 0 ≤ (x3_1 : Int) := of_decide_eq_true (by first | (with_reducible assumption) | assumption)
                      have q154 : x3_1 < (l0.length : Int) := of_decide_eq_true (by first | (with_reducible assumption) | assumption)
                      obtain ⟨ad154, e154, hx154_0, hx154_1⟩ := at_T56 HR0.out x3_1 p154 q154
                      cases e154
                      replace hx154_0 := (HB.out.cell (World.block_lt_of_cell? w _ hx154_0)).trans hx154_0
                      replace hx154_1 := (HB.out.cell (World.block_lt_of_cell? w _ hx154_1)).trans hx154_1
                      replace p154 := eq_true p154
                      replace q154 := eq_true q154
                      go_wp2_with (first | ((with_reducible refine gate_dst (N := 4) rfl ?_); refine box_event ?hg (N := 4) ?hd (cs := #[.int .i64 0, .int .i64 0]) (t := 56) ?hr ?_; (case hd => rfl); (case hg => rfl); (case hr => first | (go_simp; done) | (go_simp; rfl)); intro gb155 hg w19 hbox hb; have n0_ := Aside0.mk (below_step (by repeat (first | (with_reducible first | exact HB.out | apply below_alloc | apply pw_below_drewN | apply below_drew1) | exact HB.out)) hb); have n1_ := Aside0.mk (hbox); have n2_ := Aside0.mk ((by rw [hg]; exact (below_size (by repeat (first | (with_reducible first | exact HB.out | apply below_alloc | apply pw_below_drewN | apply below_drew1) | exact HB.out))) : w.heap.size ≤ gb155)); have n3_ := Aside0.mk ((by rw [hg]; exact (below_size (by repeat (first | (with_reducible first | exact HB.out | apply below_alloc | apply pw_below_drewN | apply below_drew1) | exact HB.out))) : w.heap.size ≤ gb155)); clear HB; have HB := n0_; have BK155 := n1_; have GW155 := n2_; have GE155 := n3_; clear n0_ n1_ n2_ n3_; clear hb hbox hg; have hcz20_0 : w19.cell? ⟨gb155, 0, none⟩ = some (.int .i64 0) := (blk_cell BK155.out 0).trans rfl; have hcz20_1 : w19.cell? ⟨gb155, 1, none⟩ = some (.int .i64 0) := (blk_cell BK155.out 1).trans rfl; have hfz20_0 := blk_frozen BK155.out 0; have hfz20_1 := blk_frozen BK155.out 1) | (go_at_call 44; (with_reducible refine (gangplankref08_Find.calls k1 _ _ l0 ((rd_T56 l0 x3_1).f0) t156 _ ?side1 ?side2 A17.out).mono ?_); (case side1 => exact Kd.C_below HR0.out (by repeat (first | (with_reducible first | exact HB.out | apply below_alloc | apply pw_below_drewN | apply below_drew1 | refine below_set ?_ GE155.out) | exact HB.out))); (case side2 => exact HC0.out); (try clear A17); rintro e w' ⟨rfl, ⟨nd, rfl⟩⟩))
                      go_roundg k1
                      case measure => have := HK1.out; omega
                      case rel => exact ⟨(wrap64 (x3_1 + 1)), (by first | rfl | (simp; done) | (simp [*]; done)), H', ⟨by have := HK1.out; omega⟩, ⟨by repeat (first | (with_reducible first | exact HB.out | apply below_alloc | apply pw_below_drewN | apply below_drew1 | refine below_set ?_ GE155.out) | exact HB.out)⟩⟩
                    · rw [if_neg c18] at H
                      have c18b0 : (t156 == x3_1) = false := beq_eq_false_iff_ne.mpr c18
                      have c18b1 : (t156 != x3_1) = true := bne_iff_ne.mpr c18
                      obtain rfl := Option.some.inj H
                      have p154 : 0 ≤ (x3_1 : Int) := of_decide_eq_true (by first | (with_reducible assumption) | assumption)
                      have q154 : x3_1 < (l0.length : Int) := of_decide_eq_true (by first | (with_reducible assumption) | assumption)
                      obtain ⟨ad154, e154, hx154_0, hx154_1⟩ := at_T56 HR0.out x3_1 p154 q154
                      cases e154
                      replace hx154_0 := (HB.out.cell (World.block_lt_of_cell? w _ hx154_0)).trans hx154_0
                      replace hx154_1 := (HB.out.cell (World.block_lt_of_cell? w _ hx154_1)).trans hx154_1
                      replace p154 := eq_true p154
                      replace q154 := eq_true q154
                      go_wp2_with (first | ((with_reducible refine gate_dst (N := 4) rfl ?_); refine box_event ?hg (N := 4) ?hd (cs := #[.int .i64 0, .int .i64 0]) (t := 56) ?hr ?_; (case hd => rfl); (case hg => rfl); (case hr => first | (go_simp; done) | (go_simp; rfl)); intro gb155 hg w21 hbox hb; have n0_ := Aside0.mk (below_step (by repeat (first | (with_reducible first | exact HB.out | apply below_alloc | apply pw_below_drewN | apply below_drew1) | exact HB.out)) hb); have n1_ := Aside0.mk (hbox); have n2_ := Aside0.mk ((by rw [hg]; exact (below_size (by repeat (first | (with_reducible first | exact HB.out | apply below_alloc | apply pw_below_drewN | apply below_drew1) | exact HB.out))) : w.heap.size ≤ gb155)); have n3_ := Aside0.mk ((by rw [hg]; exact (below_size (by repeat (first | (with_reducible first | exact HB.out | apply below_alloc | apply pw_below_drewN | apply below_drew1) | exact HB.out))) : w.heap.size ≤ gb155)); clear HB; have HB := n0_; have BK155 := n1_; have GW155 := n2_; have GE155 := n3_; clear n0_ n1_ n2_ n3_; clear hb hbox hg; have hcz22_0 : w21.cell? ⟨gb155, 0, none⟩ = some (.int .i64 0) := (blk_cell BK155.out 0).trans rfl; have hcz22_1 : w21.cell? ⟨gb155, 1, none⟩ = some (.int .i64 0) := (blk_cell BK155.out 1).trans rfl; have hfz22_0 := blk_frozen BK155.out 0; have hfz22_1 := blk_frozen BK155.out 1) | (go_at_call 44; (with_reducible refine (gangplankref08_Find.calls k1 _ _ l0 ((rd_T56 l0 x3_1).f0) t156 _ ?side1 ?side2 A17.out).mono ?_); (case side1 => exact Kd.C_below HR0.out (by repeat (first | (with_reducible first | exact HB.out | apply below_alloc | apply pw_below_drewN | apply below_drew1 | refine below_set ?_ GE155.out) | exact HB.out))); (case side2 => exact HC0.out); (try clear A17); rintro e w' ⟨rfl, ⟨nd, rfl⟩⟩))
                      go_ret
                      exact ⟨by first | rfl | (simp [errW_none, errW_some] <;> rfl) | (simp [*, errW_none, errW_some] <;> rfl), by repeat (first | (with_reducible first | exact HB.out | apply below_alloc | apply pw_below_drewN | apply below_drew1 | refine below_set ?_ GE155.out) | exact HB.out)⟩
          · rw [if_neg c4] at H
            exact absurd H (by simp)
        · rw [if_neg c3] at H
          have c3b0 : decide (x3_1 < (l0.length : Int)) = false := decide_eq_false c3
          clear c3
          obtain rfl := Option.some.inj H
          go_wp2
          go_ret
          exact ⟨by first | rfl | (simp [errW_none, errW_some] <;> rfl) | (simp [*, errW_none, errW_some] <;> rfl), by repeat (first | (with_reducible first | exact HB.out | apply below_alloc | apply pw_below_drewN | apply below_drew1) | exact HB.out)⟩

end Go.Proofs.Ytklngklmeanhcaa.P
