/- Each Go function that the laws reach, as a plain function, with the proof that the machine's call comes to what it says; of a law: its row. Made by a program of this seat (wip/hp.py, over the print). -/
import Derived.Test.YtcekkbimdogboaaPx0
namespace Go.Proofs.Ytcekkbimdogboaa.P
open Go.RowKit Go.Proofs.YtcekkbimdogboaaW.PrintWords Go.Proofs.YtcekkbimdogboaaW.PrintLast Go.Proofs.YtcekkbimdogboaaW.PrintMore
attribute [local go_sem] max2_int min2_int max_two min_two max_three min_three max_four min_four   -- for this text's walks alone
set_option linter.unusedVariables false
set_option linter.unusedSimpArgs false

-- NOT PRINTED: function 72 (pool_named_1)

-- NOT PRINTED: function 51 (pool_named)

-- NOT PRINTED: function 50 (api_Backend_50)

/-! ### pool_Find: function 26 -/
section
open Go.Shelf Go.Proofs.Ytcekkbimdogboaa.Hand
def findAt (id : Int) : List S39 → Int → Int
  | [], _ => -1
  | b :: l, i => if b.f0 = id then i else findAt id l (i + 1)
/-- Where a backend stands, or -1. -/
def findL (l : List S39) (id : Int) : Int := findAt id l 0
theorem findAt_step (id : Int) (l : List S39) (k : Nat) (h : k < l.length) (i : Int) : findAt id (l.drop k) i = if (l.getD k z39).f0 = id then i else findAt id (l.drop (k + 1)) (i + 1) := by
  rw [List.drop_eq_getElem_cons h]
  simp [findAt, h]
theorem findAt_end (id : Int) (l : List S39) (i : Int) : findAt id (l.drop l.length) i = -1 := by
  rw [List.drop_length]; rfl
theorem findAt_cases (id : Int) : ∀ (l : List S39) (i : Int), (findAt id l i = -1 ∧ ∀ b ∈ l, b.f0 ≠ id) ∨ ∃ k : Nat, ∃ h : k < l.length, findAt id l i = i + k ∧ l[k].f0 = id ∧ ∀ j (hj : j < k), l[j].f0 ≠ id
  | [], i => .inl ⟨rfl, fun b hb => by cases hb⟩
  | b :: l, i => by
    by_cases hb : b.f0 = id
    · exact .inr ⟨0, by simp, by simp [findAt, hb], hb, fun j hj => absurd hj (Nat.not_lt_zero _)⟩
    · rcases findAt_cases id l (i + 1) with ⟨h1, h2⟩ | ⟨k, h, h1, h2, h3⟩
      · exact .inl ⟨by simp [findAt, hb, h1], fun x hx => by rcases List.mem_cons.1 hx with rfl | hx; exact hb; exact h2 x hx⟩
      · refine .inr ⟨k + 1, by simp; omega, by simp [findAt, hb, h1]; omega, by simpa using h2, fun j hj => ?_⟩
        cases j with
        | zero => simpa using hb
        | succ j => simpa using h3 j (by omega)
theorem findL_cases (l : List S39) (id : Int) : (findL l id = -1 ∧ ∀ b ∈ l, b.f0 ≠ id) ∨ ∃ k : Nat, ∃ h : k < l.length, findL l id = k ∧ l[k].f0 = id ∧ ∀ j (hj : j < k), l[j].f0 ≠ id := by
  rcases findAt_cases id l 0 with h | ⟨k, h, h1, h2⟩
  · exact .inl h
  · exact .inr ⟨k, h, by unfold findL; omega, h2⟩
set_option maxHeartbeats 1000000 in
theorem named1_any (id : Int) (B : Nat) (x : S39) (W : World) (hc : W.cell? ⟨B, 0, none⟩ = some (.int .i64 id)) (hB : B < W.heap.size) :
    Calls Try.prog 72 #[.agg #[.int .i64 x.f0, .int .i64 x.f1], .pointer (some ⟨B, 0, none⟩)] W fun e w' => e = .returned (.bool (x.f0 == id)) ∧ w' = W.alloc (.cells #[.int .i64 x.f0, .int .i64 x.f1] 39) := by
  obtain ⟨x0, x1⟩ := x
  have hne : B ≠ W.heap.size := by omega
  go_enter Try.func72, Try.ntmps72
  go_wp2
  go_ret
  exact ⟨rfl, rfl⟩
set_option maxHeartbeats 1000000 in
theorem named_any (id : Int) (W : World) :
    Calls Try.prog 51 #[.int .i64 id] W fun e w' => e = .returned (.func (.func 72) #[] #[.pointer (some ⟨W.heap.size, 0, none⟩)]) ∧ w' = W.alloc (.cells #[.int .i64 id] 3) := by
  go_enter Try.func51, Try.ntmps51
  go_wp2
  go_ret
  exact ⟨rfl, rfl⟩
set_option maxRecDepth 100000 in
set_option maxHeartbeats 4000000 in
theorem IndexFunc_named (id : Int) (B : Nat) (A : Option Addr) (c : Nat) (l : List S39) (hl : l.length ≤ 4611686018427387904) (w : World) (hC : Kd.C k39 w A l.length l) (hB : B < w.heap.size) (hc : w.cell? ⟨B, 0, none⟩ = some (.int .i64 id)) :
    Calls Try.prog 50 #[.slice A l.length c, .func (.func 72) #[] #[.pointer (some ⟨B, 0, none⟩)]] w fun e w' => e = .returned (.int .i64 (findL l id)) ∧ Below w.heap.size w w' := by
  have HC := Lib.hid hC
  have HL := Lib.hid hl
  have HB := Lib.hid hB
  have HCC := Lib.hid hc
  clear hC hl hB hc
  unfold findL
  obtain ⟨r, hr⟩ : ∃ r, findAt id l 0 = r := ⟨_, rfl⟩
  rw [hr]
  have eg := enters_of Try.func72 (by kernel_rfl) rfl
  have HR := Lib.hid hr
  clear hr
  go_enter Try.func50, Try.ntmps50
  go_wp2
  go_loopw [8] (fun i wr => ∃ (k : Nat), k ≤ l.length ∧ i = .int .i64 k ∧ Aside0 (findAt id (l.drop k) (k : Int) = r) ∧ Aside0 (Below w.heap.size w wr))
    (fun i _ => l.length - (intOf i).toNat)
  case atStart => exact ⟨0, Nat.zero_le _, rfl, ⟨HR.out⟩, ⟨Below.refl _ _⟩⟩
  case round =>
    obtain ⟨k, hk, rfl, HK, HBr⟩ := hrel
    by_cases hlt : k < l.length
    · obtain ⟨ad, hA, c0, c1⟩ := at_T39 (Kd.C_below HC.out HBr.out) (k : Int) (by omega) (by omega)
      subst hA
      have hst := HK.out
      rw [findAt_step id l k hlt] at hst
      rw [show rd_T39 l (k : Int) = l.getD k z39 from rfl] at c0 c1
      obtain ⟨b, hb⟩ : ∃ b, l.getD k z39 = b := ⟨_, rfl⟩
      rw [hb] at c0 c1 hst
      rw [Int.toNat_natCast] at c0 c1
      have hcall := named1_any id B b wr ((HBr.out.cell (p := ⟨B, 0, none⟩) HB.out).trans HCC.out) (Nat.lt_of_lt_of_le HB.out HBr.out.size)
      have HST := Lib.hid hst
      have HBW := Lib.hid HBr.out
      have q1 : decide ((k : Int) < (l.length : Int)) = true := decide_eq_true (by omega)
      have q2 : (0 : Int) ≤ (k : Int) := by omega
      have q3 : (k : Int) < (l.length : Int) := by omega
      have hwk : wrap64 ((k : Int) + 1) = ((k + 1 : Nat) : Int) := by have := HL.out; unfold wrap64; omega
      have hbe : (b.f0 == id) = true ∨ (b.f0 == id) = false := by cases (b.f0 == id) <;> simp
      clear hst hb HK HBr
      rcases hbe with hbe | hbe
      · rw [hbe] at hcall
        have hr2 : (k : Int) = r := by have h := HST.out; rw [if_pos (by simpa using hbe)] at h; exact h
        have HR2 := Lib.hid hr2
        clear hr2 hbe
        have HCL := Lib.hid hcall
        clear hcall
        go_wp2_with fail
        refine HCL.out.mono ?_
        rintro e w3 ⟨rfl, rfl⟩
        go_wp2
        go_ret
        exact ⟨by rw [HR2.out]; rfl, below_alloc HBW.out _⟩
      · rw [hbe] at hcall
        have hr2 : findAt id (l.drop (k + 1)) ((k : Int) + 1) = r := by have h := HST.out; rw [if_neg (by simpa using hbe)] at h; exact h
        have HR2 := Lib.hid hr2
        clear hr2 hbe
        have HCL := Lib.hid hcall
        clear hcall
        go_wp2_with fail
        refine HCL.out.mono ?_
        rintro e w3 ⟨rfl, rfl⟩
        go_wp2
        go_roundw
        case rel => exact ⟨k + 1, Nat.succ_le_of_lt hlt, by rw [hwk], ⟨HR2.out⟩, ⟨below_alloc HBW.out _⟩⟩
        case measure =>
          rw [hwk]
          show l.length - (((k + 1 : Nat) : Int)).toNat < l.length - ((k : Int)).toNat
          rw [Int.toNat_natCast, Int.toNat_natCast]
          exact Nat.sub_succ_lt_self _ _ hlt
    · obtain rfl : k = l.length := Nat.le_antisymm hk (Nat.le_of_not_lt hlt)
      have q1 : decide ((l.length : Int) < (l.length : Int)) = false := decide_eq_false (by omega)
      have HR2 := Lib.hid (HK.out.symm.trans (findAt_end id l _))
      clear HK
      go_wp2
      go_ret
      exact ⟨by rw [HR2.out]; rfl, HBr.out⟩
def pool_Find.f (l0 : List S39) (a1 : Int) : Option Int := if l0.length ≤ 1000000 then some (findL l0 a1) else none
set_option maxHeartbeats 1000000 in
theorem Find_any (A : Option Addr) (c : Nat) (l : List S39) (hl : l.length ≤ 1000000) (id : Int) (w : World) (hC : Kd.C k39 w A l.length l) :
    Calls Try.prog 26 #[.slice A l.length c, .int .i64 id] w fun e w' => e = .returned (.int .i64 (findL l id)) ∧ Below w.heap.size w w' := by
  have hI := IndexFunc_named id w.heap.size A c l (Nat.le_trans hl (by decide)) (w.alloc (.cells #[.int .i64 id] 3)) (Kd.C_alloc hC _) (by simp) ((Blk.new w 3 [.int .i64 id]).cell 0)
  have HI := Lib.hid hI
  clear hI hC hl
  go_enter Try.func26, Try.ntmps26
  go_wp2_with (first
    | (go_at_call 51; refine (named_any _ _).mono ?_; rintro e w1 ⟨rfl, rfl⟩)
    | (go_at_call 50; refine HI.out.mono ?_; rintro e w2 ⟨rfl, hb⟩; have HB2 := Lib.hid hb; clear hb))
  go_ret
  exact ⟨rfl, (below_alloc (Below.refl _ _) _).trans (HB2.out.mono (by simp))⟩
theorem pool_Find.calls (A0 : Option Addr) (c0 : Nat) (l0 : List S39) (a1 : Int) (r : Int) (w : World) (hr0 : Kd.C k39 w A0 l0.length l0) (hc0 : l0.length ≤ c0) (h : pool_Find.f l0 a1 = some r) :
    Calls Try.prog 26 #[.slice A0 l0.length c0, .int .i64 a1] w fun e w' => e = .returned (.int .i64 r) ∧ Below w.heap.size w w' := by
  unfold pool_Find.f at h
  by_cases hl : l0.length ≤ 1000000
  · rw [if_pos hl] at h
    obtain rfl := Option.some.inj h
    exact Find_any A0 c0 l0 hl a1 w hr0
  · rw [if_neg hl] at h
    exact absurd h (by simp)
end

/-! ### bk -/
section
open Go.Shelf Go.Proofs.Ytcekkbimdogboaa.Hand
def encBk (x : S39) : List Value := [.int .i64 x.f0, .int .i64 x.f1]
theorem reps_flat2 {R : S39 → List Value → Prop} (hR : ∀ p c, R p c → c = encBk p) : ∀ (xs : List S39) (cs : List Value), Reps R 2 xs cs → cs = xs.flatMap encBk
  | [], cs, h => by have := h.1; simp at this; simp [this]
  | x :: l, cs, h => by
    have h0 := hR _ _ (h.2 0 x rfl)
    have hl := h.1
    rw [Nat.zero_mul, List.drop_zero] at h0
    have ht : Reps R 2 l (cs.drop 2) := ⟨by rw [List.length_drop, hl, List.length_cons, Nat.add_mul, Nat.one_mul, Nat.add_sub_cancel], fun j p hj => by
      have := h.2 (j + 1) p hj
      rw [List.drop_drop, show 2 + j * 2 = (j + 1) * 2 by rw [Nat.add_mul, Nat.one_mul, Nat.add_comm]]
      exact this⟩
    have ih := reps_flat2 hR l _ ht
    rw [List.flatMap_cons, ← h0, ← ih, List.take_append_drop]
theorem reps_of2 {R : S39 → List Value → Prop} (hR : ∀ p, R p (encBk p)) : ∀ (l pre : List S39) (cs : List Value), Reps R 2 pre cs → Reps R 2 (pre ++ l) (cs ++ l.flatMap encBk)
  | [], pre, cs, h => by simpa using h
  | x :: l, pre, cs, h => by
    have e1 : pre ++ x :: l = (pre ++ [x]) ++ l := by simp
    have e2 : cs ++ (x :: l).flatMap encBk = (cs ++ encBk x) ++ l.flatMap encBk := by simp
    rw [e1, e2]
    exact reps_of2 hR l _ _ (h.snoc (hR x) rfl)
theorem R_bk {W : World} {base : Nat} {v : Value} {xs : List S39} (h : W.ownsRow base 39 2 v xs.length (xs.flatMap encBk)) : Kd.R k39 39 W base (fun _ => True) v xs :=
  ⟨fun _ _ => trivial, xs.flatMap encBk, h, by
    have e := reps_of2 (R := (k39).M W base (fun k => True ∧ some k ≠ v.ownBlock)) (fun x => k39_mkM W base _ x) xs [] [] (Reps.none _ _)
    rw [List.nil_append, List.nil_append] at e
    exact e⟩
theorem flat_take2 (xs : List S39) : ∀ i, i ≤ xs.length → (xs.flatMap encBk).take (i * 2) = (xs.take i).flatMap encBk := by
  induction xs with
  | nil => intro i hi; simp
  | cons x l ih =>
    intro i hi
    cases i with
    | zero => simp
    | succ i =>
      have := ih i (by simpa using hi)
      rw [List.take_succ_cons, List.flatMap_cons, List.flatMap_cons, ← this, Nat.add_mul, Nat.one_mul]
      simp [encBk]
theorem own_bk {W : World} {base g c : Nat} {xs : List S39} (h : Kd.R k39 39 W base (fun _ => True) (.slice (some ⟨g, 0, none⟩) xs.length c) xs) :
    W.ownsRow base 39 2 (.slice (some ⟨g, 0, none⟩) xs.length c) xs.length (xs.flatMap encBk) ∧ (∀ t, t < xs.length * 2 → (W.cell? ⟨g, t, none⟩).isSome = true) ∧ ∀ t, W.frozen? ⟨g, t, none⟩ = false := by
  obtain ⟨_, inner, ho, hr⟩ := h
  obtain rfl := reps_flat2 (fun p c h => k39_openM h) xs inner hr
  have ho' : W.ownsRow base 39 2 (.slice (some ⟨g, 0, none⟩) xs.length c) xs.length (xs.flatMap encBk) := ho
  refine ⟨ho', ?_⟩
  obtain ⟨hl, hn | ⟨g', cap', cur, hv, hb, hg, h1, h2, h3, h4⟩⟩ := ho'
  · cases hn.1
  · injection hv with hA _ hc
    injection hA with hA
    injection hA with hA
    subst hA
    refine ⟨fun t ht => ?_, fun t => ?_⟩
    · simp only [World.cell?, hg]
      have : t < cur.size := by rw [h3]; omega
      simp [this]
    · simp only [World.frozen?, hg]
      simp
theorem own_bk_end {W : World} {base g c : Nat} {xs : List S39} (h : W.ownsRow base 39 2 (.slice (some ⟨g, 0, none⟩) xs.length c) xs.length (xs.flatMap encBk)) {i : Nat} (hi : i ≤ xs.length) (us : List Value) :
    Kd.R k39 39 (W.setCells g (i * 2) us) base (fun _ => True) (.slice (some ⟨g, 0, none⟩) (xs.take i).length c) (xs.take i) := by
  have h1 := own_cut h hi
  rw [flat_take2 xs i hi] at h1
  have h2 := own_beyonds us (i * 2) W h1 (Nat.le_refl _)
  have hl : (xs.take i).length = i := by rw [List.length_take]; omega
  exact R_bk (by rw [hl]; exact h2)
end

/-! ### api_Backend_54: function 54 -/
section
open Go.Shelf Go.Proofs.Ytcekkbimdogboaa.Hand
/-- All others of a pool. -/
def keptL (id : Int) (l : List S39) : List S39 := l.filter fun b => !(b.f0 == id)
structure DelInv (id : Int) (l : List S39) (j i : Nat) (xs : List S39) : Prop where
  lt : i < j
  len : xs.length = l.length
  low : xs.take i = keptL id (l.take j)
  high : xs.drop j = l.drop j
theorem keptL_take (id : Int) (l : List S39) (j : Nat) (h : j < l.length) : keptL id (l.take (j + 1)) = keptL id (l.take j) ++ (if (l[j].f0 == id) = true then [] else [l[j]]) := by
  unfold keptL
  rw [List.take_succ_eq_append_getElem h, List.filter_append]
  congr 1
  cases hb : (l[j].f0 == id) <;> simp [hb]
theorem DelInv.skip {id : Int} {l xs : List S39} {j i : Nat} (h : DelInv id l j i xs) (hj : j < l.length) (he : (l[j].f0 == id) = true) : DelInv id l (j + 1) i xs :=
  ⟨Nat.lt_succ_of_lt h.lt, h.len, by rw [keptL_take id l j hj, if_pos he, List.append_nil]; exact h.low, by have := congrArg (List.drop 1) h.high; rwa [List.drop_drop, List.drop_drop] at this⟩
theorem DelInv.keep {id : Int} {l xs : List S39} {j i : Nat} (h : DelInv id l j i xs) (hj : j < l.length) (he : (l[j].f0 == id) = false) : DelInv id l (j + 1) (i + 1) (xs.set i l[j]) := by
  have hlt := h.lt
  have hl := h.len
  refine ⟨Nat.succ_lt_succ hlt, by rw [List.length_set]; exact hl, ?_, ?_⟩
  · rw [keptL_take id l j hj, he, if_neg (by decide), ← h.low, List.take_succ_eq_append_getElem (by rw [List.length_set]; omega), List.take_set_of_le (Nat.le_refl _), List.getElem_set_self]
  · rw [List.drop_set_of_lt (by omega)]
    have := congrArg (List.drop 1) h.high
    rwa [List.drop_drop, List.drop_drop] at this
theorem DelInv.read {id : Int} {l xs : List S39} {j i : Nat} (h : DelInv id l j i xs) (hj : j < l.length) : xs.getD j z39 = l[j] := by
  have e := congrArg (fun q => q[0]?) h.high
  simp only [List.getElem?_drop, Nat.add_zero] at e
  simp [List.getD_eq_getElem?_getD, e, hj]
theorem DelInv.start {id : Int} {l : List S39} {k : Nat} (hk : k < l.length) (h1 : l[k].f0 = id) (h2 : ∀ j (hj : j < k), l[j].f0 ≠ id) : DelInv id l (k + 1) k l := by
  refine ⟨Nat.lt_succ_self _, rfl, ?_, rfl⟩
  rw [keptL_take id l k hk, if_pos (by simp [h1]), List.append_nil]
  unfold keptL
  refine (List.filter_eq_self.2 fun b hb => ?_).symm
  obtain ⟨j, hj, rfl⟩ := List.mem_iff_getElem.1 hb
  have hjk : j < k := by rw [List.length_take] at hj; omega
  have := h2 j hjk
  simpa using this
theorem keptL_none {id : Int} {l : List S39} (h : ∀ b ∈ l, b.f0 ≠ id) : keptL id l = l := List.filter_eq_self.2 fun b hb => by simpa using h b hb
theorem blk_grown1 {W w1 : World} {B g : Nat} {t : TypeId} {cs : List Value} (h : Blk W B t cs) (hg : W.grownBy w1 (some g)) (hne : B ≠ g) : Blk w1 B t cs := (hg.block B h.lt (by intro e; injection e with e; exact hne e)).trans h
theorem run_clear_bk (W : World) (ty : TypeId) (b o n c : Nat) (hn : 0 < n)
    (hc : ∀ j, j < n * 2 → (W.cell? ⟨b, o + j, none⟩).isSome = true) (hf : ∀ j, j < n * 2 → W.frozen? ⟨b, o + j, none⟩ = false) :
    (Builtin.clear_ #[22] ty #[.slice (some ⟨b, o, none⟩) n c]).run Try.prog W = .ok (.tuple #[]) (W.setCells b o (List.replicate (n * 2) (.int .i64 0))) := by
  have hz : ∀ w, (zeroValue 39).run Try.prog w = .ok (.agg #[.int .i64 0, .int .i64 0]) w := Try.zeroValue39
  have hzc : (Builtin.zeroCells (Value.agg #[.int .i64 0, .int .i64 0]).cells n).toList = List.replicate (n * 2) (.int .i64 0) := by
    simp [Builtin.zeroCells, Value.cells]
    apply List.ext_getElem
    · simp
    · intro i h1 h2
      simp
      rcases Nat.mod_two_eq_zero_or_one i with h | h <;> simp [h]
  have hst := run_storeCells_cells (P := Try.prog) b o (List.replicate (n * 2) (.int .i64 0)) 0 W (by simpa using hc) (by simpa using hf) (by intro v hv'; rw [List.eq_of_mem_replicate hv']; rfl)
  simp only [Nat.add_zero] at hst
  obtain ⟨m, rfl⟩ : ∃ m, n = m + 1 := ⟨n - 1, by omega⟩
  simp [Builtin.clear_, run_underlying Try.underlying22, hz, hzc, hst]
theorem gate_store {P : Program} {ops : Array Oper} {Q : Exit → Act → World → Prop} {o : Oper} {rest : List Oper} {a : Act} {W : World} {t : TypeId} {p x : Operand} (_ho : o.op = .store t p x) (h : wpList P ops Q (o :: rest) a W) : wpList P ops Q (o :: rest) a W := h
theorem below_alloc' {n₀ : Nat} {W w : World} (hn : n₀ ≤ W.heap.size) (h : Below n₀ W w) (o : Obj) : Below n₀ W (w.alloc o) := h.trans ((Below.refl n₀ w).alloc (Nat.le_trans hn h.size) o)
theorem del_nums (n j i : Nat) (hl : n ≤ 1000000) (h : j < n) (hij : i < j) : decide ((j : Int) < (n : Int)) = true ∧ (0 : Int) ≤ (j : Int) ∧ (j : Int) < (n : Int) ∧ wrap64 ((j : Int) + 1) = ((j + 1 : Nat) : Int) ∧ (0 : Int) ≤ (i : Int) ∧ (i : Int) < (n : Int) ∧ wrap64 ((i : Int) + 1) = ((i + 1 : Nat) : Int) :=
  ⟨decide_eq_true (by omega), by omega, by omega, by unfold wrap64; omega, by omega, by omega, by unfold wrap64; omega⟩
theorem del_meas (n k : Nat) (h : k < n) : n - (((k + 1 : Nat) : Int)).toNat < n - ((k : Int)).toNat := by
  rw [Int.toNat_natCast, Int.toNat_natCast]; omega
set_option maxHeartbeats 1000000 in
theorem DeleteFunc_none (id : Int) (B : Nat) (A : Option Addr) (c : Nat) (l : List S39) (hl : l.length ≤ 1000000) (W : World) (hC : Kd.C k39 W A l.length l) (hB : Blk W B 3 [.int .i64 id]) (hno : findL l id = -1) :
    Calls Try.prog 54 #[.slice A l.length c, .func (.func 72) #[] #[.pointer (some ⟨B, 0, none⟩)]] W fun e w' => e = .returned (.slice A l.length c) ∧ Below W.heap.size W w' := by
  have hI := IndexFunc_named id B A c l (Nat.le_trans hl (by decide)) W hC hB.lt (hB.cell 0)
  rw [hno] at hI
  have HI := Lib.hid hI
  clear hI hC hl hB hno
  go_enter Try.func54, Try.ntmps54
  go_wp2_with (go_at_call 50; refine HI.out.mono ?_; rintro e w2 ⟨rfl, hb⟩; have HB2 := Lib.hid hb; clear hb)
  go_ret
  exact ⟨rfl, HB2.out⟩
set_option maxRecDepth 100000 in
set_option maxHeartbeats 8000000 in
theorem DeleteFunc_some (id : Int) (B : Nat) (g c : Nat) (l : List S39) (hl : l.length ≤ 1000000) (n₀ : Nat) (W : World) (hn : n₀ ≤ W.heap.size) (hR : Kd.R k39 39 W n₀ (fun _ => True) (.slice (some ⟨g, 0, none⟩) l.length c) l) (hB : Blk W B 3 [.int .i64 id]) (k0 : Nat) (hk0 : k0 < l.length) (hf : findL l id = (k0 : Int)) (hD : DelInv id l (k0 + 1) k0 l) :
    Calls Try.prog 54 #[.slice (some ⟨g, 0, none⟩) l.length c, .func (.func 72) #[] #[.pointer (some ⟨B, 0, none⟩)]] W fun e w' => ∃ v', e = .returned v' ∧ Kd.R k39 39 w' n₀ (fun _ => True) v' (keptL id l) ∧ Below n₀ W w' := by
  have hgB : B ≠ g := by
    rintro rfl
    obtain ⟨cells, hc⟩ := Kd.R_typed hR B rfl
    have h := (show _ = _ from hB).symm.trans hc
    injection h with h
    injection h with _ h
    exact absurd h (by decide)
  have hgn : n₀ ≤ g := Kd.R_base hR g rfl
  have hI := IndexFunc_named id B (some ⟨g, 0, none⟩) c l (Nat.le_trans hl (by decide)) W (Kd.R_reads' hR).2.2 hB.lt (hB.cell 0)
  rw [hf] at hI
  have hcap := (Kd.R_reads' hR).2.1
  have hne : ((k0 : Int) == -1) = false := beq_eq_false_iff_ne.2 (by omega)
  have hw0 : wrap64 ((k0 : Int) + 1) = ((k0 + 1 : Nat) : Int) := by unfold wrap64; omega
  have HI := Lib.hid hI
  have HL := Lib.hid hl
  have HR := Lib.hid hR
  have HB := Lib.hid hB
  have HD := Lib.hid hD
  have HN := Lib.hid hn
  have HGB := Lib.hid hgB
  have HGN := Lib.hid hgn
  have HCAP := Lib.hid hcap
  have HK0 := Lib.hid hk0
  clear hI hl hR hB hD hn hgB hgn hcap hf hk0
  go_enter Try.func54, Try.ntmps54
  go_wp2_with (go_at_call 50; refine HI.out.mono ?_; rintro e w2 ⟨rfl, hb⟩; have HB2 := Lib.hid hb; clear hb)
  clear hne
  go_loopw [5, 6] (fun s5 s6 wr => ∃ (i j : Nat) (xs : List S39), s5 = .int .i64 i ∧ s6 = .int .i64 j ∧ j ≤ l.length ∧ Aside0 (DelInv id l j i xs) ∧ Aside0 (Kd.R k39 39 wr n₀ (fun _ => True) (.slice (some ⟨g, 0, none⟩) l.length c) xs) ∧ Aside0 (Blk wr B 3 [.int .i64 id]) ∧ Aside0 (Below n₀ W wr))
    (fun _ s6 _ => l.length - (intOf s6).toNat)
  case atStart => exact ⟨k0, k0 + 1, l, rfl, by rw [hw0], HK0.out, ⟨HD.out⟩, ⟨Kd.R_below HR.out HB2.out⟩, ⟨HB.out.below HB2.out⟩, ⟨HB2.out.mono HN.out⟩⟩
  case round =>
    clear hw0
    obtain ⟨i, j, xs, rfl, rfl, hj, HD2, HR2, HBk, HBr⟩ := hrel
    by_cases hlt : j < l.length
    · have hxl := (Kd.R_reads' HR2.out).1
      obtain ⟨ad, hA, c0, c1⟩ := at_T39 (Kd.R_reads' HR2.out).2.2 (j : Int) (by omega) (by omega)
      cases hA
      rw [show rd_T39 xs (j : Int) = xs.getD j z39 from rfl, HD2.out.read hlt] at c0 c1
      obtain ⟨b, hb⟩ : ∃ b, l[j] = b := ⟨_, rfl⟩
      rw [hb] at c0 c1
      rw [Int.toNat_natCast, add_plain] at c0 c1
      clear hxl
      obtain ⟨q1, q2, q3, hwj, q5, q6, hwi⟩ := del_nums l.length j i HL.out hlt HD2.out.lt
      have hskip := fun h => HD2.out.skip hlt h
      have hkeep := fun h => HD2.out.keep hlt h
      rw [hb] at hskip hkeep
      have HSK := Lib.hid hskip
      have HKE := Lib.hid hkeep
      clear hb hskip hkeep
      obtain ⟨b0, b1⟩ := b
      go_upto_region 8 with (fail)
      have hbx := Blk.new wr 39 [.int .i64 b0, .int .i64 b1]
      have hb1 := below_alloc' HN.out HBr.out (.cells #[.int .i64 b0, .int .i64 b1] 39)
      have hr1 := Kd.R_alloc HR2.out (.cells #[.int .i64 b0, .int .i64 b1] 39)
      have hk1 := HBk.out.alloc (.cells #[.int .i64 b0, .int .i64 b1] 39)
      obtain ⟨g5, hg5⟩ : ∃ g5, wr.heap.size = g5 := ⟨_, rfl⟩
      obtain ⟨W1, hW1⟩ : ∃ W1, (wr.alloc (.cells #[.int .i64 b0, .int .i64 b1] 39)) = W1 := ⟨_, rfl⟩
      rw [hg5] at hbx ⊢
      rw [hW1] at hbx hb1 hr1 hk1 ⊢
      clear hg5 hW1 c0 c1 HBr HR2 HBk
      have c0 : W1.cell? ⟨g5, 0, none⟩ = some (.int .i64 b0) := hbx.cell 0
      have c1 : W1.cell? ⟨g5, 1, none⟩ = some (.int .i64 b1) := hbx.cell 1
      have hcall := named1_any id B ⟨b0, b1⟩ W1 (hk1.cell 0) hk1.lt
      have HB1 := Lib.hid hb1
      have HR1 := Lib.hid hr1
      have HK1 := Lib.hid hk1
      have HX1 := Lib.hid hbx
      clear hb1 hr1 hk1 hbx
      obtain ⟨eq, heq⟩ : ∃ eq, (b0 == id) = eq := ⟨_, rfl⟩
      have hsk := HSK.out
      have hke := HKE.out
      clear HSK HKE
      simp only [heq] at hcall hsk hke
      have HCL := Lib.hid hcall
      clear hcall heq
      cases eq with
      | true =>
        have HD3 := Lib.hid (hsk rfl)
        clear hsk hke
        go_wp2_with fail
        refine HCL.out.mono ?_
        rintro e w3 ⟨rfl, rfl⟩
        go_wp2
        go_roundw
        case rel => exact ⟨i, j + 1, xs, rfl, by rw [hwj], Nat.succ_le_of_lt hlt, ⟨HD3.out⟩, ⟨Kd.R_alloc HR1.out _⟩, ⟨HK1.out.alloc _⟩, ⟨below_alloc' HN.out HB1.out _⟩⟩
        case measure =>
          rw [hwj]
          exact del_meas _ _ hlt
      | false =>
        have HD3 := Lib.hid (hke rfl)
        clear hsk hke
        go_wp2_with fail
        refine HCL.out.mono ?_
        rintro e w3 ⟨rfl, rfl⟩
        have hb2 := below_alloc' HN.out HB1.out (.cells #[.int .i64 b0, .int .i64 b1] 39)
        have hr2 := Kd.R_alloc HR1.out (.cells #[.int .i64 b0, .int .i64 b1] 39)
        have hk2 := HK1.out.alloc (.cells #[.int .i64 b0, .int .i64 b1] 39)
        have hx2 := HX1.out.alloc (.cells #[.int .i64 b0, .int .i64 b1] 39)
        obtain ⟨W2, hW2⟩ : ∃ W2, (W1.alloc (.cells #[.int .i64 b0, .int .i64 b1] 39)) = W2 := ⟨_, rfl⟩
        rw [hW2] at hb2 hr2 hk2 hx2 ⊢
        clear hW2 c0 c1 HB1 HR1 HK1 HX1 HCL
        have c0 : W2.cell? ⟨g5, 0, none⟩ = some (.int .i64 b0) := hx2.cell 0
        have c1 : W2.cell? ⟨g5, 1, none⟩ = some (.int .i64 b1) := hx2.cell 1
        have hxl := (Kd.R_reads' hr2).1
        obtain ⟨ad2, hA2, d0, d1⟩ := at_T39 (Kd.R_reads' hr2).2.2 (i : Int) (by omega) (by omega)
        cases hA2
        rw [Int.toNat_natCast, add_plain] at d0 d1
        obtain ⟨x0, hx0⟩ : ∃ x0, (rd_T39 xs (i : Int)).f0 = x0 := ⟨_, rfl⟩
        obtain ⟨x1, hx1⟩ : ∃ x1, (rd_T39 xs (i : Int)).f1 = x1 := ⟨_, rfl⟩
        rw [hx0] at d0
        rw [hx1] at d1
        clear hx0 hx1 hxl
        have HB2 := Lib.hid hb2
        have HR2 := Lib.hid hr2
        have HK2 := Lib.hid hk2
        clear hb2 hr2 hk2 hx2
        have D0 := Lib.hid d0
        have D1 := Lib.hid d1
        clear d0 d1
        have hij : (i : Int).toNat = i := Int.toNat_natCast i
        go_wp2_with ((with_reducible refine gate_store (t := 39) rfl ?_); refine Kd.R_store k39 (w0 := W) n₀ rfl rfl 39 _ _ rfl 39 (i : Int) 0 xs (⟨b0, b1⟩ : S39) _ [.int .i64 b0, .int .i64 b1] [.int .i64 x0, .int .i64 x1] (fun _ => True) (fun _ => False) rfl ?sO rfl rfl (by kernel_rfl) ?sI HR2.out q5 q6 rfl ?sC (Nat.le_refl 2) (k39_mkM _ _ _ _) (fun _ h => h.elim) HB2.out ?_; (case sO => rw [hij]; rfl); (case sI => intro q hq; simp at hq; rcases hq with rfl | rfl <;> rfl); (case sC => intro jj uu hu; match jj, hu with | 0, hu => (simp at hu; rw [← hu, hij]; exact D0.out) | 1, hu => (simp at hu; rw [← hu, hij]; exact D1.out) | jj + 2, hu => simp at hu); intro w5 hr5 hb5 hg5; rw [hij] at hr5; have HR5 := Lib.hid hr5; have HB5 := Lib.hid hb5; have HK5 := Lib.hid (blk_grown1 HK2.out hg5 HGB.out); clear hr5 hb5 hg5)
        go_roundw
        case rel => exact ⟨i + 1, j + 1, xs.set i ⟨b0, b1⟩, by rw [hwi], by rw [hwj], Nat.succ_le_of_lt hlt, ⟨HD3.out⟩, ⟨HR5.out⟩, ⟨HK5.out⟩, ⟨HB5.out⟩⟩
        case measure =>
          rw [hwj]
          exact del_meas _ _ hlt
    · obtain rfl : j = l.length := Nat.le_antisymm hj (Nat.le_of_not_lt hlt)
      have q1 : decide ((l.length : Int) < (l.length : Int)) = false := decide_eq_false (by omega)
      have hil := HD2.out.lt
      have hcap := HCAP.out
      have hlow : xs.take i = keptL id l := by have h := HD2.out.low; rwa [List.take_length] at h
      have hxl : xs.length = l.length := HD2.out.len
      have hr2 := HR2.out
      rw [← hxl] at hr2
      obtain ⟨hrow, hcl, hfl⟩ := own_bk hr2
      have hend := own_bk_end hrow (i := i) (by omega) (List.replicate ((l.length - i) * 2) (.int .i64 0))
      rw [hlow] at hend
      have hil2 : (keptL id l).length = i := by rw [← hlow, List.length_take]; omega
      rw [hil2] at hend
      obtain ⟨i0, hi, hz0, hz1, hz2⟩ := info_parts (show (Try.prog.info? 39).map (fun i => (i.zero, i.size, i.bytes)) = some (some (.agg #[.int .i64 0, .int .i64 0]), 2, 16) from by kernel_rfl)
      have k1 : ∀ W : World, (Instr.slice 22 (.slice (some ⟨g, 0, none⟩) l.length c) (some (.int .i64 (i : Int))) none none).run Try.prog W = .ok (.slice (some ⟨g, i * 2, none⟩) (l.length - i) (c - i)) W := fun W => by
        rw [cut_from (P := Try.prog) 22 39 .i64 Try.underlying22 hi 2 hz1 (some ⟨g, 0, none⟩) l.length c (i : Int) (by omega) (by omega), Int.toNat_natCast, if_neg (by omega), Option.map_some, add_plain]
      have k2 : ∀ W : World, (Instr.slice 22 (.slice (some ⟨g, 0, none⟩) l.length c) none (some (.int .i64 (i : Int))) none).run Try.prog W = .ok (.slice (some ⟨g, 0, none⟩) i c) W := fun W => by
        rw [cut_to (P := Try.prog) 22 39 .i64 Try.underlying22 hi (some ⟨g, 0, none⟩) l.length c (i : Int) (by omega) (by omega) hcap, Int.toNat_natCast]
      have k3 : ∀ ty, (Builtin.clear_ #[22] ty #[.slice (some ⟨g, i * 2, none⟩) (l.length - i) (c - i)]).run Try.prog wr = .ok (.tuple #[]) (wr.setCells g (i * 2) (List.replicate ((l.length - i) * 2) (.int .i64 0))) := fun ty =>
        run_clear_bk wr ty g (i * 2) (l.length - i) (c - i) (by omega) (fun t ht => hcl _ (by omega)) (fun t _ => hfl _)
      have hbb := below_setCells HGN.out (List.replicate ((l.length - i) * 2) (.int .i64 0)) (i * 2) W wr HBr.out
      have HEND := Lib.hid hend
      have HBB := Lib.hid hbb
      have K1 := Lib.hid k1
      clear hend hbb hrow hcl hfl hr2 hlow hxl hil hcap hil2 hi hz0 hz1 hz2 HD2 HR2 HBk HBr hlt
      go_wp2
      go_ret
      exact ⟨_, rfl, HEND.out, HBB.out⟩
theorem DeleteFunc_named (id : Int) (B : Nat) (v : Value) (l : List S39) (hl : l.length ≤ 1000000) (n₀ : Nat) (W : World) (hn : n₀ ≤ W.heap.size) (hR : Kd.R k39 39 W n₀ (fun _ => True) v l) (hB : Blk W B 3 [.int .i64 id]) :
    Calls Try.prog 54 #[v, .func (.func 72) #[] #[.pointer (some ⟨B, 0, none⟩)]] W fun e w' => ∃ v', e = .returned v' ∧ Kd.R k39 39 w' n₀ (fun _ => True) v' (keptL id l) ∧ Below n₀ W w' := by
  rcases findL_cases l id with ⟨h1, h2⟩ | ⟨k, hk, h1, h2, h3⟩
  · obtain ⟨A, c, rfl⟩ := Kd.R_slice hR
    refine (DeleteFunc_none id B A c l hl W (Kd.R_reads' hR).2.2 hB h1).mono ?_
    rintro e w' ⟨rfl, hb⟩
    rw [keptL_none h2]
    exact ⟨_, rfl, Kd.R_below hR hb, hb.mono hn⟩
  · obtain ⟨g, cap, rfl, _, _, _⟩ := Kd.R_form hR (by omega)
    exact DeleteFunc_some id B g cap l hl n₀ W hn hR hB k hk h1 (DelInv.start hk h2 h3)
end

/-! ### api_Backend_55: function 55 -/
section
open Go.Shelf Go.Proofs.Ytcekkbimdogboaa.Hand
theorem infoBk_ : (Try.prog.info? 39).map (fun i => (i.zero, i.size, i.bytes)) = some (some (.agg #[(.int .i64 0), (.int .i64 0)]), 2, 16) := by kernel_rfl
def api_Backend_55.f (l0 : List S39) : Option (List S39) := if l0.length ≤ 1000000 then some l0 else none

set_option maxRecDepth 100000 in
set_option maxHeartbeats 4000000 in
theorem cloneBk_any (A : Option Addr) (c : Nat) (l : List S39) (hl : l.length ≤ 1000000) (w : World) (hC : Kd.C k39 w A l.length l) :
    Calls Try.prog 55 #[.slice A l.length c] w fun e w' => ∃ v : Value, e = .returned v ∧ Kd.R k39 39 w' w.heap.size (fun _ => True) v l ∧ Below w.heap.size w w' := by
  have he := fun (w : World) => Lib.run_eql_slice_nil (P := Try.prog) w 22 39 A l.length c 0 0 Try.underlying22
  cases A with
  | none =>
    have hn : l = [] := by
      cases l with
      | nil => rfl
      | cons x l => obtain ⟨ad, e, _⟩ := hC.2.2 (by simp); cases e
    subst hn
    clear he
    have he : ∀ w : World, (binOp .eql 22 (.slice none 0 c) (.slice none 0 0)).run Try.prog w = .ok (.bool true) w := fun w => Lib.run_eql_slice_nil (P := Try.prog) w 22 39 none 0 c 0 0 Try.underlying22
    go_enter Try.func55, Try.ntmps55
    go_wp2
    go_ret
    exact ⟨_, rfl, Kd.R_nil _ _ _ _ _, Below.refl _ _⟩
  | some a =>
    obtain ⟨z, hz⟩ : ∃ z, ([] : List S39) = z := ⟨_, rfl⟩
    have HZ := Lib.hid hz
    clear hz
    have HC := Lib.hid hC
    clear hC
    have HB := Aside0.mk (Below.refl w.heap.size w)
    go_enter Try.func55, Try.ntmps55
    go_wp2_with (first | ((with_reducible refine gate_dst (N := 5) rfl ?_); refine Kd.R_lit k39 _ 39 ?hg (N := 5) ?hd (xs := ([] : List S39)) (inner := []) (ok := fun _ => True) (okp := fun _ => True) ?hr ?hp (fun _ hk => hk) trivial (Below.refl _ _) (Nat.le_refl _) (by simp) ?_; (case hd => rfl); (case hg => rfl); (case hr => first | (go_simp; done) | (go_simp; rfl)); (case hp => exact (Reps.none _ _)); intro v160 w31 ho32 hb hg_ hnew_; clear hg_ hnew_; rw [HZ.out] at ho32; have HB1 := Aside0.mk hb; have HO1 := Aside0.mk ho32; clear hb ho32) | ((with_reducible refine gate_builtin (b := .append) (xs := #[.tmp 5, .tmp 6]) rfl ?_); at_builtin; refine Kd.R_append_rows k39 (w0 := w) w.heap.size rfl (.tmp 5) (.tmp 6) 22 39 (.agg #[(.int .i64 0), (.int .i64 0)]) 16 rfl Try.underlying22 infoBk_ rfl (by decide) (by omega) v160 z l _ _ _ (fun _ => True) (fun _ => False) rfl rfl ?aO ?aR (fun _ _ h => h) (fun _ h => h.elim) ?aF ?aB ?aS ?aL ?_; (case aR => exact Kd.C_below HC.out HB1.out); (case aB => exact HB1.out); (case aF => exact (fun _ _ => trivial)); (case aO => exact HO1.out); (case aS => exact HB1.out.size); (case aL => rw [← HZ.out]; simp; omega); intro v163 w33 ho hb hg hat; rw [← HZ.out, List.nil_append] at ho; have HB2 := Aside0.mk hb; have HO2 := Aside0.mk ho; clear ho hb hg hat))
    go_ret
    exact ⟨_, rfl, HO2.out, HB2.out⟩

theorem cloneBk_f (l0 : List S39) (h : l0.length ≤ 1000000) : api_Backend_55.f l0 = some l0 := if_pos h
theorem api_Backend_55.calls (A0 : Option Addr) (c0 : Nat) (l0 : List S39) (r : List S39) (w : World) (hr0 : Kd.C k39 w A0 l0.length l0) (hc0 : l0.length ≤ c0) (h : api_Backend_55.f l0 = some r) :
    Calls Try.prog 55 #[.slice A0 l0.length c0] w fun e w' => ∃ v0_ : Value, e = .returned (v0_) ∧ Kd.R k39 39 w' w.heap.size (fun _ => True) v0_ r ∧ Below w.heap.size w w' := by
  unfold api_Backend_55.f at h
  by_cases hl : l0.length ≤ 1000000
  · rw [if_pos hl] at h
    obtain rfl := Option.some.inj h
    exact cloneBk_any A0 c0 l0 hl w hr0
  · rw [if_neg hl] at h
    exact absurd h (by simp)
end

/-! ### pool_Without: function 36 -/
section
open Go.Shelf Go.Proofs.Ytcekkbimdogboaa.Hand
set_option maxHeartbeats 1000000 in
theorem Without_any (A : Option Addr) (c : Nat) (l : List S39) (hl : l.length ≤ 1000000) (id : Int) (w : World) (hC : Kd.C k39 w A l.length l) :
    Calls Try.prog 36 #[.slice A l.length c, .int .i64 id] w fun e w' => ∃ v : Value, e = .returned v ∧ Kd.R k39 39 w' w.heap.size (fun _ => True) v (keptL id l) ∧ Below w.heap.size w w' := by
  have HC := Lib.hid hC
  have HL := Lib.hid hl
  clear hC hl
  go_enter Try.func36, Try.ntmps36
  go_wp2_with (first
    | (go_at_call 55; refine (cloneBk_any A c l HL.out _ HC.out).mono ?_; rintro e w1 ⟨v, rfl, hr, hb⟩; have HR := Lib.hid hr; have HB := Lib.hid hb; clear hr hb)
    | (go_at_call 51; refine (named_any _ _).mono ?_; rintro e w2 ⟨rfl, rfl⟩)
    | (go_at_call 54; refine (DeleteFunc_named id w1.heap.size v l HL.out w.heap.size (w1.alloc (.cells #[.int .i64 id] 3)) (below_alloc HB.out _).size (Kd.R_alloc HR.out _) (Blk.new w1 3 [.int .i64 id])).mono ?_; rintro e w3 ⟨v3, rfl, hr3, hb3⟩; have HR3 := Lib.hid hr3; have HB3 := Lib.hid ((below_alloc HB.out _).trans hb3); clear hr3 hb3))
  go_ret
  exact ⟨_, rfl, HR3.out, HB3.out⟩
def pool_Without.f (l0 : List S39) (a1 : Int) : Option (List S39) := if l0.length ≤ 1000000 then some (keptL a1 l0) else none
theorem pool_Without.calls (A0 : Option Addr) (c0 : Nat) (l0 : List S39) (a1 : Int) (r : List S39) (w : World) (hr0 : Kd.C k39 w A0 l0.length l0) (hc0 : l0.length ≤ c0) (h : pool_Without.f l0 a1 = some r) :
    Calls Try.prog 36 #[.slice A0 l0.length c0, .int .i64 a1] w fun e w' => ∃ v0_ : Value, e = .returned v0_ ∧ Kd.R k39 39 w' w.heap.size (fun _ => True) v0_ r ∧ Below w.heap.size w w' := by
  unfold pool_Without.f at h
  by_cases hl : l0.length ≤ 1000000
  · rw [if_pos hl] at h
    obtain rfl := Option.some.inj h
    exact Without_any A0 c0 l0 hl a1 w hr0
  · rw [if_neg hl] at h
    exact absurd h (by simp)
end

/-! ### pool_With: function 37 -/
section
open Go.Shelf Go.Proofs.Ytcekkbimdogboaa.Hand
/-- A pool with a backend. -/
def withL (l : List S39) (a b : Int) : List S39 := if findL l a < 0 then l ++ [⟨a, b⟩] else l.set (findL l a).toNat ⟨a, b⟩
theorem infoBk3 : (Try.prog.info? 39).map (fun i => (i.zero, i.size, i.bytes)) = some (some (.agg #[.int .i64 0, .int .i64 0]), 2, 16) := by kernel_rfl
theorem gate_store2 {P : Program} {ops : Array Oper} {Q : Exit → Act → World → Prop} {o : Oper} {rest : List Oper} {a : Act} {W : World} {t : TypeId} {p x : Operand} (_ho : o.op = .store t p x) (h : wpList P ops Q (o :: rest) a W) : wpList P ops Q (o :: rest) a W := h
theorem with_nums (n i : Nat) (hl : n ≤ 1000000) (h : i < n) : decide ((0 : Int) ≤ (i : Int)) = true ∧ (0 : Int) ≤ (i : Int) ∧ (i : Int) < (n : Int) := ⟨decide_eq_true (by omega), by omega, by omega⟩
theorem below_alloc2 {n₀ : Nat} {W w : World} (hn : n₀ ≤ W.heap.size) (h : Below n₀ W w) (o : Obj) : Below n₀ W (w.alloc o) := h.trans ((Below.refl n₀ w).alloc (Nat.le_trans hn h.size) o)
set_option maxRecDepth 100000 in
set_option maxHeartbeats 4000000 in
theorem With_any (A : Option Addr) (c : Nat) (l : List S39) (hl : l.length ≤ 1000000) (a b : Int) (w : World) (hC : Kd.C k39 w A l.length l) :
    Calls Try.prog 37 #[.slice A l.length c, .agg #[.int .i64 a, .int .i64 b]] w fun e w' => ∃ v : Value, e = .returned v ∧ Kd.R k39 39 w' w.heap.size (fun _ => True) v (withL l a b) ∧ Below w.heap.size w w' := by
  have hb0 := below_alloc (Below.refl w.heap.size w) (.cells #[.int .i64 a, .int .i64 b] 39)
  have hx0 := Blk.new w 39 [.int .i64 a, .int .i64 b]
  have hC0 := Kd.C_below hC hb0
  obtain ⟨g0, hg0⟩ : ∃ g0, w.heap.size = g0 := ⟨_, rfl⟩
  obtain ⟨W0, hW0⟩ : ∃ W0, (w.alloc (.cells #[.int .i64 a, .int .i64 b] 39)) = W0 := ⟨_, rfl⟩
  have hbz : w.heap.size < W0.heap.size := by rw [← hW0]; simp
  rw [hW0] at hb0 hx0 hC0
  have HC0 := Lib.hid hC0
  have HB0 := Lib.hid hb0
  have HX0 := Lib.hid hx0
  have HL := Lib.hid hl
  have HBZ := Lib.hid hbz
  rcases findL_cases l a with ⟨hf, hf2⟩ | ⟨i, hi, hf, hf2, hf3⟩
  · have hv : withL l a b = l ++ [⟨a, b⟩] := by unfold withL; rw [hf, if_pos (by decide)]
    rw [hv]
    have HF := Lib.hid hf
    clear hf2
    clear hC hC0 hb0 hx0 hl hf hv hbz hg0
    go_enter Try.func37, Try.ntmps37
    go_upto_region 1 with (fail)
    clear hW0
    go_wp2_with (first
      | (go_at_call 55; refine (cloneBk_any A c l HL.out _ HC0.out).mono ?_; rintro e w1 ⟨v, rfl, hr, hb⟩; obtain ⟨A2, c2, rfl⟩ := Kd.R_slice hr; have HR := Lib.hid hr; have HB := Lib.hid hb; clear hr hb; have y0 : w1.cell? ⟨w.heap.size, 0, none⟩ = some (.int .i64 a) := (HX0.out.below HB.out).cell 0; have y1 : w1.cell? ⟨w.heap.size, 1, none⟩ = some (.int .i64 b) := (HX0.out.below HB.out).cell 1)
      | (go_at_call 26; refine (Find_any _ _ l HL.out a _ (Kd.R_reads' HR.out).2.2).mono ?_; rintro e w2 ⟨rfl, hb⟩; rw [HF.out]; have HR2 := Lib.hid (Kd.R_lower (Kd.R_below HR.out hb) (Nat.le_of_lt HBZ.out)); have HB2 := Lib.hid (HB0.out.trans ((HB.out.trans (hb.mono HB.out.size)).mono HB0.out.size)); have HX2 := Lib.hid ((HX0.out.below HB.out).below hb); clear hb; have z0 : w2.cell? ⟨w.heap.size, 0, none⟩ = some (.int .i64 a) := HX2.out.cell 0; have z1 : w2.cell? ⟨w.heap.size, 1, none⟩ = some (.int .i64 b) := HX2.out.cell 1)
      | (at_builtin; refine Kd.R_append k39 (w0 := w) w.heap.size rfl (.tmp 20) (.tmp 22) 22 39 (.agg #[(.int .i64 0), (.int .i64 0)]) 16 rfl Try.underlying22 infoBk3 rfl (by decide) (by omega) _ _ (⟨a, b⟩ : S39) [.int .i64 a, .int .i64 b] (fun _ => True) (fun _ => False) rfl rfl (k39_mkM _ _ _ _) (fun _ hk => hk.elim) (fun _ _ => trivial) HR2.out HB2.out HB2.out.size (by have := HL.out; omega) ?_; intro v2 w3 ho hb hg hat; have HV2 := Lib.hid ho; have HB3 := Lib.hid hb; clear ho hb hg hat))
    go_ret
    exact ⟨_, rfl, HV2.out, HB3.out⟩
  · have hv : withL l a b = l.set i ⟨a, b⟩ := by unfold withL; rw [hf, if_neg (by omega), Int.toNat_natCast]
    rw [hv]
    have HF := Lib.hid hf
    have HI := Lib.hid hi
    clear hf2 hf3
    obtain ⟨q0, q5, q6⟩ := with_nums l.length i hl hi
    clear hC hC0 hb0 hx0 hl hf hv hbz hg0 hi
    go_enter Try.func37, Try.ntmps37
    go_upto_region 1 with (fail)
    clear hW0
    go_upto_region 4 with (first
      | (go_at_call 55; refine (cloneBk_any A c l HL.out _ HC0.out).mono ?_; rintro e w1 ⟨v, rfl, hr, hb⟩; obtain ⟨g, cap, rfl, _, _, _⟩ := Kd.R_form hr (Nat.lt_of_le_of_lt (Nat.zero_le _) HI.out); have HR := Lib.hid hr; have HB := Lib.hid hb; clear hr hb; have y0 : w1.cell? ⟨w.heap.size, 0, none⟩ = some (.int .i64 a) := (HX0.out.below HB.out).cell 0; have y1 : w1.cell? ⟨w.heap.size, 1, none⟩ = some (.int .i64 b) := (HX0.out.below HB.out).cell 1)
      | (go_at_call 26; refine (Find_any _ _ l HL.out a _ (Kd.R_reads' HR.out).2.2).mono ?_; rintro e w2 ⟨rfl, hb⟩; rw [HF.out]; have HR2 := Lib.hid (Kd.R_lower (Kd.R_below HR.out hb) (Nat.le_of_lt HBZ.out)); have HB2 := Lib.hid (HB0.out.trans ((HB.out.trans (hb.mono HB.out.size)).mono HB0.out.size)); have HX2 := Lib.hid ((HX0.out.below HB.out).below hb); clear hb; have z0 : w2.cell? ⟨w.heap.size, 0, none⟩ = some (.int .i64 a) := HX2.out.cell 0; have z1 : w2.cell? ⟨w.heap.size, 1, none⟩ = some (.int .i64 b) := HX2.out.cell 1))
    clear y0 y1
    obtain ⟨ad2, hA2, d0, d1⟩ := at_T39 (Kd.R_reads' HR2.out).2.2 (i : Int) (by omega) (by omega)
    cases hA2
    rw [Int.toNat_natCast, add_plain] at d0 d1
    obtain ⟨x0, hx0⟩ : ∃ x0, (rd_T39 l (i : Int)).f0 = x0 := ⟨_, rfl⟩
    obtain ⟨x1, hx1⟩ : ∃ x1, (rd_T39 l (i : Int)).f1 = x1 := ⟨_, rfl⟩
    rw [hx0] at d0
    rw [hx1] at d1
    clear hx0 hx1
    have D0 := Lib.hid d0
    have D1 := Lib.hid d1
    clear d0 d1
    have hij : (i : Int).toNat = i := Int.toNat_natCast i
    have HIJ := Lib.hid hij
    clear hij
    go_wp2_with ((with_reducible refine gate_store2 (t := 39) rfl ?_); refine Kd.R_store k39 (w0 := w) w.heap.size rfl rfl 39 _ _ rfl 39 (i : Int) 0 l (⟨a, b⟩ : S39) _ [.int .i64 a, .int .i64 b] [.int .i64 x0, .int .i64 x1] (fun _ => True) (fun _ => False) rfl ?sO rfl rfl (by kernel_rfl) ?sI HR2.out q5 q6 rfl ?sC (Nat.le_refl 2) (k39_mkM _ _ _ _) (fun _ h => h.elim) HB2.out ?_; (case sO => rw [HIJ.out]; rfl); (case sI => intro q hq; simp at hq; rcases hq with rfl | rfl <;> rfl); (case sC => intro jj uu hu; match jj, hu with | 0, hu => (simp at hu; rw [← hu, HIJ.out]; exact D0.out) | 1, hu => (simp at hu; rw [← hu, HIJ.out]; exact D1.out) | jj + 2, hu => simp at hu); intro w5 hr5 hb5 hg5; rw [HIJ.out] at hr5; have HR5 := Lib.hid hr5; have HB5 := Lib.hid hb5; clear hr5 hb5 hg5)
    go_ret
    exact ⟨_, rfl, HR5.out, HB5.out⟩
def pool_With.f (l0 : List S39) (a1_0 : Int) (a1_1 : Int) : Option (List S39) := if l0.length ≤ 1000000 then some (withL l0 a1_0 a1_1) else none
theorem pool_With.calls (A0 : Option Addr) (c0 : Nat) (l0 : List S39) (a1_0 : Int) (a1_1 : Int) (r : List S39) (w : World) (hr0 : Kd.C k39 w A0 l0.length l0) (hc0 : l0.length ≤ c0) (h : pool_With.f l0 a1_0 a1_1 = some r) :
    Calls Try.prog 37 #[.slice A0 l0.length c0, .agg #[.int .i64 a1_0, .int .i64 a1_1]] w fun e w' => ∃ v0_ : Value, e = .returned v0_ ∧ Kd.R k39 39 w' w.heap.size (fun _ => True) v0_ r ∧ Below w.heap.size w w' := by
  unfold pool_With.f at h
  by_cases hl : l0.length ≤ 1000000
  · rw [if_pos hl] at h
    obtain rfl := Option.some.inj h
    exact With_any A0 c0 l0 hl a1_0 a1_1 w hr0
  · rw [if_neg hl] at h
    exact absurd h (by simp)
end

end Go.Proofs.Ytcekkbimdogboaa.P
