/- Each Go function that the laws reach, as a plain function, with the proof that the machine's call comes to what it says; of a law: its row. Made by a program of this seat (wip/hp.py, over the print). -/
import Derived.Test.YtklngklmeanhcaaPx0
import Derived.Test.YtklngklmeanhcaaPx3
import Derived.Test.YtklngklmeanhcaaPx5
import Derived.Test.YtklngklmeanhcaaPx6
import Derived.Test.YtklngklmeanhcaaPx7
namespace Go.Proofs.Ytklngklmeanhcaa.P
open Go.RowKit Go.Proofs.YtklngklmeanhcaaW.PrintWords Go.Proofs.YtklngklmeanhcaaW.PrintLast Go.Proofs.YtklngklmeanhcaaW.PrintMore
attribute [local go_sem] max2_int min2_int max_two min_two max_three min_three max_four min_four   -- for this text's walks alone
set_option linter.unusedVariables false
set_option linter.unusedSimpArgs false

/-! ### gangplankref09_sort: function 92 -/
section
open Go.Shelf Go.Proofs.Ytklngklmeanhcaa.Hand
theorem lessP_eq (x y : S124) : gangplankref09_Less.f x.f0 x.f1 y.f0 y.f1 = some (lessP x y) := by
  unfold gangplankref09_Less.f lessP
  by_cases h1 : x.f0 < y.f0
  · simp [h1]
  · by_cases h2 : x.f0 = y.f0
    · simp [h2]
    · simp [h1, h2]
theorem rdP (xs : List S124) (i : Nat) (h : i < xs.length) : rd_T124 xs (i : Int) = xs[i] := by unfold rd_T124; simp [h]
theorem wrapS (i n : Nat) (h : i < n) (hn : n ≤ 4611686018427387904) : wrap64 ((i : Int) + 1) = ((i + 1 : Nat) : Int) := by unfold wrap64; omega
theorem merge_go (a b : List S124) (ha : a.length ≤ 4611686018427387904) (hb : b.length ≤ 4611686018427387904) : ∀ (m i j : Nat), i ≤ a.length → j ≤ b.length → (a.length - i) + (b.length - j) = m → ∀ k, 2 * m + 2 ≤ k → ∀ out : List S124, out.length + m ≤ 8796093022207 →
    gangplankref09_merge.l0 k a b out i j = some (out ++ List.merge (a.drop i) (b.drop j) leP)
  | m, i, j, hi, hj, hm, k, hk, out, ho => by
    obtain ⟨k, rfl⟩ : ∃ q, k = q + 1 + 1 := ⟨k - 2, by omega⟩
    by_cases ci : i < a.length
    · have da : a.drop i = a[i] :: a.drop (i + 1) := List.drop_eq_getElem_cons ci
      obtain ⟨m, rfl⟩ : ∃ q, m = q + 1 := ⟨m - 1, by omega⟩
      simp only [gangplankref09_merge.l0, gangplankref09_merge.j1]
      rw [if_pos (by omega : (i : Int) < (a.length : Int)), if_pos trivial]
      by_cases cj : j < b.length
      · have db : b.drop j = b[j] :: b.drop (j + 1) := List.drop_eq_getElem_cons cj
        rw [if_neg (by omega : ¬ (j : Int) ≥ (b.length : Int)), if_pos (by omega : (i : Int) < (a.length : Int)), if_pos (by omega : (0 : Int) ≤ (j : Int)), if_pos (by omega : (j : Int) < (b.length : Int)), if_pos (by omega : (0 : Int) ≤ (i : Int)), rdP b j cj, rdP a i ci, lessP_eq, Option.bind_some]
        by_cases hl : lessP b[j] a[i] = true
        · rw [if_pos hl, if_pos (by omega : out.length < 8796093022208), wrapS j b.length cj hb, merge_go a b ha hb m i (j + 1) hi (by omega) (by omega) k (by omega) _ (by rw [List.length_append, List.length_singleton]; omega), da, db, List.cons_merge_cons_neg _ _ _ (by simp [leP, hl]), ← da, List.append_assoc]
          rfl
        · rw [if_neg hl, if_pos (by omega : out.length < 8796093022208), wrapS i a.length ci ha, merge_go a b ha hb m (i + 1) j (by omega) hj (by omega) k (by omega) _ (by rw [List.length_append, List.length_singleton]; omega), da, db, List.cons_merge_cons_pos _ _ _ (by simp [leP, hl]), ← db, List.append_assoc]
          rfl
      · have db : b.drop j = [] := List.drop_eq_nil_of_le (by omega)
        rw [if_pos (by omega : (j : Int) ≥ (b.length : Int)), if_pos (by omega : (0 : Int) ≤ (i : Int)), if_pos (by omega : (i : Int) < (a.length : Int)), if_pos (by omega : out.length < 8796093022208), wrapS i a.length ci ha, rdP a i ci, merge_go a b ha hb m (i + 1) j (by omega) hj (by omega) k (by omega) _ (by rw [List.length_append, List.length_singleton]; omega), da, db, List.merge_right, List.merge_right, List.append_assoc]
        rfl
    · have da : a.drop i = [] := List.drop_eq_nil_of_le (by omega)
      simp only [gangplankref09_merge.l0, gangplankref09_merge.j1]
      rw [if_neg (by omega : ¬ (i : Int) < (a.length : Int))]
      by_cases cj : j < b.length
      · have db : b.drop j = b[j] :: b.drop (j + 1) := List.drop_eq_getElem_cons cj
        obtain ⟨m, rfl⟩ : ∃ q, m = q + 1 := ⟨m - 1, by omega⟩
        rw [if_pos (by simpa using (by omega : (j : Int) < (b.length : Int))), if_neg (by omega : ¬ (j : Int) ≥ (b.length : Int)), if_neg (by omega : ¬ (i : Int) < (a.length : Int)), if_pos (by omega : (0 : Int) ≤ (j : Int)), if_pos (by omega : (j : Int) < (b.length : Int)), if_pos (by omega : out.length < 8796093022208), wrapS j b.length cj hb, rdP b j cj, merge_go a b ha hb m i (j + 1) hi (by omega) (by omega) k (by omega) _ (by rw [List.length_append, List.length_singleton]; omega), da, db, List.nil_merge, List.nil_merge, List.append_assoc]
        rfl
      · have db : b.drop j = [] := List.drop_eq_nil_of_le (by omega)
        rw [if_neg (by simpa using (by omega : ¬ (j : Int) < (b.length : Int))), da, db, List.nil_merge, List.append_nil]
theorem merge_eq (a b : List S124) (ha : a.length ≤ 1000000000) (hb : b.length ≤ 1000000000) : gangplankref09_merge.f (2 * (a.length + b.length) + 2) a b = some (List.merge a b leP) := by
  have h := merge_go a b (by omega) (by omega) (a.length + b.length) 0 0 (Nat.zero_le _) (Nat.zero_le _) (by omega) _ (Nat.le_refl _) [] (by simp; omega)
  simpa [gangplankref09_merge.f] using h
/-- The reference's sort: halves, sorted, merged. -/
def srtF : Nat → List S124 → List S124
  | 0, l => l
  | f + 1, l => if l.length < 2 then l else List.merge (srtF f (l.take (l.length / 2))) (srtF f (l.drop (l.length / 2))) leP
theorem srtF_step (f : Nat) (l : List S124) (h : ¬ l.length < 2) : srtF (f + 1) l = List.merge (srtF f (l.take (l.length / 2))) (srtF f (l.drop (l.length / 2))) leP := by
  conv => lhs; unfold srtF
  rw [if_neg h]
theorem srtF_len : ∀ f l, (srtF f l).length = l.length
  | 0, _ => rfl
  | f + 1, l => by
    unfold srtF
    split
    · rfl
    · rw [List.length_merge, srtF_len f, srtF_len f, List.length_take, List.length_drop]; omega
theorem sort_nums (n h n1 n2 : Nat) (h2 : 2 ≤ n) (hl : n ≤ 100000000) (hh : h = n / 2) (hl1 : n1 ≤ 100000000) (hl2 : n2 ≤ 100000000) : decide ((n : Int) < 2) = false ∧ ((n : Int) / 2) = (h : Int) ∧ h ≤ n ∧ (0 : Int) ≤ (h : Int) ∧ (h : Int) ≤ (n : Int) ∧ wrap64 (h : Int) = (h : Int) ∧ n1 ≤ 1000000000 ∧ n2 ≤ 1000000000 :=
  ⟨decide_eq_false (by omega), by rw [hh]; omega, by omega, by omega, by omega, by unfold wrap64; omega, by omega, by omega⟩
theorem wrapH (h : Nat) (hh : h ≤ 100000000) : wrap64 (h : Int) = (h : Int) := by unfold wrap64; omega
/-- What comes back: the argument, or a row of its own. -/
def SortBack (l r : List S124) (A : Option Addr) (c : Nat) (w : World) (e : Ending) (w' : World) : Prop :=
  ∃ v, e = .returned v ∧ ((v = .slice A l.length c ∧ w' = w ∧ r = l) ∨ Kd.R k124 124 w' w.heap.size (fun _ => True) v r) ∧ Below w.heap.size w w'
theorem SortBack.reads {l r : List S124} {A : Option Addr} {c : Nat} {w w' : World} {e : Ending} (h : SortBack l r A c w e w') (hC : Kd.C k124 w A l.length l) (hc : l.length ≤ c) : ∃ A1 c1, e = .returned (.slice A1 r.length c1) ∧ r.length ≤ c1 ∧ Kd.C k124 w' A1 r.length r ∧ Below w.heap.size w w' := by
  obtain ⟨v, rfl, hv, hb⟩ := h
  rcases hv with ⟨rfl, rfl, rfl⟩ | hv
  · exact ⟨A, c, rfl, hc, hC, hb⟩
  · obtain ⟨A1, c1, rfl⟩ := Kd.R_slice hv
    exact ⟨A1, c1, rfl, (Kd.R_reads' hv).2.1, (Kd.R_reads' hv).2.2, hb⟩
set_option maxHeartbeats 1000000 in
theorem sort_base (l : List S124) (hl : l.length < 2) (A : Option Addr) (c : Nat) (w : World) :
    Calls Try.prog 92 #[.slice A l.length c] w (SortBack l l A c w) := by
  have q : decide ((l.length : Int) < 2) = true := decide_eq_true (by omega)
  go_enter Try.func92, Try.ntmps92
  go_wp2
  go_ret
  exact ⟨_, rfl, .inl ⟨rfl, rfl, rfl⟩, Below.refl _ _⟩
set_option maxRecDepth 100000 in
set_option maxHeartbeats 4000000 in
theorem sort_step (l : List S124) (h2 : 2 ≤ l.length) (hl : l.length ≤ 100000000) (A : Option Addr) (c : Nat) (hc : l.length ≤ c) (w : World) (hC : Kd.C k124 w A l.length l) (h : Nat) (hh : h = l.length / 2) (la lb l1 l2 : List S124) (AB : Option Addr) (hAB : AB = if c = h then A else A.map (·.add (h * 2))) (hla : la = l.take h) (hlb : lb = l.drop h)
    (hl1 : l1.length ≤ 100000000) (hl2 : l2.length ≤ 100000000)
    (h1 : ∀ W, Kd.C k124 W A la.length la → Calls Try.prog 92 #[.slice A la.length c] W fun e w' => ∃ A1 c1, e = .returned (.slice A1 l1.length c1) ∧ l1.length ≤ c1 ∧ Kd.C k124 w' A1 l1.length l1 ∧ Below W.heap.size W w')
    (h3 : ∀ W, Kd.C k124 W AB lb.length lb → Calls Try.prog 92 #[.slice AB lb.length (c - h)] W fun e w' => ∃ A1 c1, e = .returned (.slice A1 l2.length c1) ∧ l2.length ≤ c1 ∧ Kd.C k124 w' A1 l2.length l2 ∧ Below W.heap.size W w') :
    Calls Try.prog 92 #[.slice A l.length c] w (SortBack l (List.merge l1 l2 leP) A c w) := by
  obtain ⟨q, hq, hle, hi0, hi1, hw, hL1, hL2⟩ := sort_nums l.length h l1.length l2.length h2 hl hh hl1 hl2
  have hlc : (h : Int) ≤ (l.length : Int) := hi1
  obtain ⟨i0, hi, hz0, hz1, hz2⟩ := info_parts (show (Try.prog.info? 124).map (fun i => (i.zero, i.size, i.bytes)) = some (some (.agg #[.int .u64 0, .int .i64 0]), 2, 16) from by kernel_rfl)
  have e1 : la.length = h := by rw [hla, List.length_take]; exact Nat.min_eq_left hle
  have e2 : lb.length = l.length - h := by rw [hlb]; exact List.length_drop
  have k1 : ∀ W : World, (Instr.slice 77 (.slice A l.length c) none (some (.int .i64 (h : Int))) none).run Try.prog W = .ok (.slice A la.length c) W := fun W => by
    rw [cut_to (P := Try.prog) 77 124 .i64 Try.underlying77 hi A l.length c (h : Int) hi0 hi1 hc, Int.toNat_natCast, e1]
  have k2 : ∀ W : World, (Instr.slice 77 (.slice A l.length c) (some (.int .i64 (h : Int))) none none).run Try.prog W = .ok (.slice AB lb.length (c - h)) W := fun W => by
    rw [cut_from (P := Try.prog) 77 124 .i64 Try.underlying77 hi 2 hz1 A l.length c (h : Int) hi0 hi1, Int.toNat_natCast, e2, hAB]
  have HTA := Lib.hid (show ∀ W, Kd.C k124 W A l.length l → Kd.C k124 W A la.length la from fun W hW => by rw [hla]; exact Kd.C_take hW hle)
  have HTB := Lib.hid (show ∀ W, Kd.C k124 W A l.length l → Kd.C k124 W AB lb.length lb from fun W hW => by rw [hlb, hAB]; exact Kd.C_drop hW hle hc)
  have H1 := Lib.hid h1
  have H2 := Lib.hid h3
  have HM := Lib.hid (merge_eq l1 l2 hL1 hL2)
  have HC := Lib.hid hC
  have HCC := Lib.hid hc
  clear h1 h3 hC hc hh hl1 hl2 hl e1 e2 hAB hla hlb h2 hi hz0 hz1 hz2 hle hi1 hi0 hlc hL1 hL2
  go_enter Try.func92, Try.ntmps92
  go_wp2
  refine start_ (n := 10) (S := fun w' => True) (ds := []) #[false, false, false, false, false, false, false, false, false, false] (by kernel_rfl) rfl rfl trivial (fun hHeld => ?_)
  refine pure_ (i := 0) (N := some 11) (v := ?_) (a' := ?_) #[true, false, false, false, false, false, false, false, false, false] rfl rfl (by kernel_rfl) (fun _ _ _ h => h) (Or.inl ⟨by rfl, ?_⟩) ?_ ?_
  rotate_left
  · intro w'
    go_simp
    with_reducible rfl
  rotate_left
  · simp only [Act.put, List.setIfInBounds_toArray, List.set_cons_zero, List.set_cons_succ, i64_w, i32_w]
    rfl
  refine pure_ (i := 1) (N := some 12) (v := ?_) (a' := ?_) #[true, true, false, false, false, false, false, false, false, false] rfl rfl (by kernel_rfl) (fun _ _ _ h => h) (Or.inl ⟨by rfl, ?_⟩) ?_ ?_
  rotate_left
  · intro w'
    go_simp
    with_reducible rfl
  rotate_left
  · simp only [Act.put, List.setIfInBounds_toArray, List.set_cons_zero, List.set_cons_succ, i64_w, i32_w]
    rfl
  refine pure_ (i := 2) (N := some 13) (v := ?_) (a' := ?_) #[true, true, true, false, false, false, false, false, false, false] rfl rfl (by kernel_rfl) (fun _ _ _ h => h) (Or.inl ⟨by rfl, ?_⟩) ?_ ?_
  rotate_left
  · intro w'
    go_simp
    with_reducible rfl
  rotate_left
  · simp only [Act.put, List.setIfInBounds_toArray, List.set_cons_zero, List.set_cons_succ, i64_w, i32_w]
    rfl
  refine pure_ (i := 4) (N := some 15) (v := ?_) (a' := ?_) #[true, true, true, false, true, false, false, false, false, false] rfl rfl (by kernel_rfl) (fun _ _ _ h => h) (Or.inl ⟨by rfl, ?_⟩) ?_ ?_
  rotate_left
  · intro w'
    go_simp
    with_reducible rfl
  rotate_left
  · simp only [Act.put, List.setIfInBounds_toArray, List.set_cons_zero, List.set_cons_succ, i64_w, i32_w]
    rfl
  refine pure_ (i := 5) (N := some 16) (v := ?_) (a' := ?_) #[true, true, true, false, true, true, false, false, false, false] rfl rfl (by kernel_rfl) (fun _ _ _ h => h) (Or.inl ⟨by rfl, ?_⟩) ?_ ?_
  rotate_left
  · intro w'
    go_simp
    with_reducible rfl
  rotate_left
  · simp only [Act.put, List.setIfInBounds_toArray, List.set_cons_zero, List.set_cons_succ, i64_w, i32_w]
    rfl
  refine pure_ (i := 6) (N := some 17) (v := ?_) (a' := ?_) #[true, true, true, false, true, true, true, false, false, false] rfl rfl (by kernel_rfl) (fun _ _ _ h => h) (Or.inl ⟨by rfl, ?_⟩) ?_ ?_
  rotate_left
  · intro w'
    go_simp
    with_reducible rfl
  rotate_left
  · simp only [Act.put, List.setIfInBounds_toArray, List.set_cons_zero, List.set_cons_succ, i64_w, i32_w]
    rfl
  refine one_ (i := 3) (N := some 14) #[true, true, true, true, true, true, true, false, false, false] rfl rfl (by kernel_rfl) (by decide) (fun K hK => ?_)
  refine goes_ Try.func92 (by kernel_rfl) rfl #[.slice A la.length c] (by rfl) rfl rfl (by simp only [List.map_toArray, List.map_cons, List.map_nil]; rfl) ?_
  with_reducible refine (H1.out w.drew (HTA.out _ (Kd.C_drew HC.out))).mono ?_
  rintro e w1 ⟨A1, k1, rfl, hk1, hC1, hb1⟩
  refine ⟨_, rfl, ?_⟩
  have HK1 := Lib.hid hk1
  have HC1 := Lib.hid hC1
  have HCB := Lib.hid (Kd.C_below (Kd.C_drew HC.out) hb1)
  have HB1 := Lib.hid ((below_drew (Below.refl w.heap.size w)).trans hb1)
  clear hk1 hC1 hb1
  refine hK.out _ _ trivial (fun hHeld => ?_)
  clear hK K
  refine norm_ (a' := ?_) ?_ ?_
  rotate_left
  · show Act.put _ (some 14) _ = _
    simp only [Act.put, List.setIfInBounds_toArray, List.set_cons_zero, List.set_cons_succ, i64_w, i32_w]
    rfl
  refine one_ (i := 7) (N := some 18) #[true, true, true, true, true, true, true, true, false, false] rfl rfl (by kernel_rfl) (by decide) (fun K hK => ?_)
  refine goes_ Try.func92 (by kernel_rfl) rfl #[.slice AB lb.length (c - h)] (by rfl) rfl rfl (by simp only [List.map_toArray, List.map_cons, List.map_nil]; rfl) ?_
  with_reducible refine (H2.out w1 (HTB.out _ HCB.out)).mono ?_
  rintro e w2 ⟨A2, k2, rfl, hk2, hC2, hb2⟩
  refine ⟨_, rfl, ?_⟩
  have HK2 := Lib.hid hk2
  have HC2 := Lib.hid hC2
  have HC3 := Lib.hid (Kd.C_below HC1.out hb2)
  have HB2 := Lib.hid (HB1.out.trans (hb2.mono HB1.out.size))
  clear hk2 hC2 hb2
  refine hK.out _ _ trivial (fun hHeld => ?_)
  clear hK K
  refine norm_ (a' := ?_) ?_ ?_
  rotate_left
  · show Act.put _ (some 18) _ = _
    simp only [Act.put, List.setIfInBounds_toArray, List.set_cons_zero, List.set_cons_succ, i64_w, i32_w]
    rfl
  refine one_ (i := 8) (N := some 19) #[true, true, true, true, true, true, true, true, true, false] rfl rfl (by kernel_rfl) (by decide) (fun K hK => ?_)
  refine goes_ Try.func115 (by kernel_rfl) rfl #[.slice A1 l1.length k1, .slice A2 l2.length k2] (by rfl) rfl rfl (by simp only [List.map_toArray, List.map_cons, List.map_nil]; rfl) ?_
  with_reducible refine (gangplankref09_merge.calls (2 * (l1.length + l2.length) + 2) A1 k1 l1 A2 k2 l2 _ w2 HC3.out HK1.out HC2.out HK2.out HM.out).mono ?_
  rintro e w3 ⟨v3, rfl, hv3, hb3⟩
  refine ⟨_, rfl, ?_⟩
  have HV3 := Lib.hid (Kd.R_lower hv3 HB2.out.size)
  have HB3 := Lib.hid (HB2.out.trans (hb3.mono HB2.out.size))
  clear hv3 hb3
  refine hK.out _ _ trivial (fun hHeld => ?_)
  clear hK K
  refine norm_ (a' := ?_) ?_ ?_
  rotate_left
  · show Act.put _ (some 19) _ = _
    simp only [Act.put, List.setIfInBounds_toArray, List.set_cons_zero, List.set_cons_succ, i64_w, i32_w]
    rfl
  refine pure_ (i := 9) (N := some 2) (v := ?_) (a' := ?_) #[true, true, true, true, true, true, true, true, true, true] rfl rfl (by kernel_rfl) (fun _ _ _ h => h) (Or.inl ⟨by rfl, ?_⟩) ?_ ?_
  rotate_left
  · intro w'
    go_simp
    with_reducible rfl
  rotate_left
  · simp only [Act.put, List.setIfInBounds_toArray, List.set_cons_zero, List.set_cons_succ, i64_w, i32_w]
    rfl
  refine done_ (by kernel_rfl) ?_
  go_wp2
  go_ret
  exact ⟨_, rfl, .inr HV3.out, HB3.out⟩
theorem sort_any : ∀ (f : Nat) (l : List S124), l.length ≤ f + 1 → l.length ≤ 100000000 → ∀ (A : Option Addr) (c : Nat), l.length ≤ c → ∀ w : World, Kd.C k124 w A l.length l →
    Calls Try.prog 92 #[.slice A l.length c] w (SortBack l (srtF f l) A c w)
  | 0, l, hf, _, A, c, _, w, _ => sort_base l (by omega) A c w
  | f + 1, l, hf, hl, A, c, hc, w, hC => by
    by_cases h2 : l.length < 2
    · rw [show srtF (f + 1) l = l from by unfold srtF; rw [if_pos h2]]
      exact sort_base l h2 A c w
    · rw [srtF_step f l h2]
      have e1 : (l.take (l.length / 2)).length = l.length / 2 := by rw [List.length_take]; omega
      have e2 : (l.drop (l.length / 2)).length = l.length - l.length / 2 := List.length_drop
      refine sort_step l (by omega) hl A c hc w hC (l.length / 2) rfl _ _ _ _ _ rfl rfl rfl (by rw [srtF_len, e1]; omega) (by rw [srtF_len, e2]; omega) (fun W hW => ?_) (fun W hW => ?_)
      · exact (sort_any f _ (by omega) (by omega) A c (by omega) W hW).mono fun e w' h => h.reads hW (by omega)
      · exact (sort_any f _ (by omega) (by omega) _ _ (by omega) W hW).mono fun e w' h => h.reads hW (by omega)
def gangplankref09_sort.f (l0 : List S124) : Option (List S124) := if l0.length ≤ 100000000 then some (srtF l0.length l0) else none
theorem gangplankref09_sort.calls (P0_ : Nat → Prop) (A0 : Option Addr) (c0 : Nat) (l0 : List S124) (r : List S124) (w : World) (hs0 : Kd.V k124 124 w w.heap.size (fun k_ => P0_ k_) (.slice A0 l0.length c0) l0) (h : gangplankref09_sort.f l0 = some r) :
    Calls Try.prog 92 #[.slice A0 l0.length c0] w fun e w' => ∃ v0_ : Value, e = .returned v0_ ∧ Kd.V k124 124 w' w.heap.size (fun k_ => (P0_ k_ ∨ w.heap.size ≤ k_)) v0_ r ∧ Below w.heap.size w w' := by
  unfold gangplankref09_sort.f at h
  by_cases hl : l0.length ≤ 100000000
  · rw [if_pos hl] at h
    obtain rfl := Option.some.inj h
    obtain ⟨_, hcap, hC⟩ := Kd.V_reads' hs0
    refine (sort_any l0.length l0 (by omega) hl A0 c0 hcap w hC).mono ?_
    rintro e w' ⟨v, rfl, hv, hb⟩
    rcases hv with ⟨rfl, rfl, hr⟩ | hv
    · rw [hr]
      exact ⟨_, rfl, Kd.V_mono hs0 (fun k hk => .inl hk), hb⟩
    · exact ⟨_, rfl, Kd.V_mono (Kd.R_V (base' := w.heap.size) (Kd.R_bound hv)) (fun k hk => .inr hk.2.1), hb⟩
  · rw [if_neg hl] at h
    exact absurd h (by simp)
end

/-! ### gangplankref09_Of: function 76 -/
mutual
def gangplankref09_Of.l0 : Nat → List (S56) → List (S124) → Int → Option ((List (S124)))
  | 0, _, _, _ => none
  | k + 1, x0, x3, x4 => if x4 < (x0.length : Int) then (gangplankref09_Of.l1 k x0 x3 x4 0) else ((gangplankref09_sort.f x3).bind fun t183 => (some t183))
def gangplankref09_Of.l1 : Nat → List (S56) → List (S124) → Int → Int → Option ((List (S124)))
  | 0, _, _, _, _ => none
  | k + 1, x0, x3, x4, x5 => if 0 ≤ x4 then (if x4 < (x0.length : Int) then (if x5 < (8 * (mx 0 (mn ((rd_T56 x0 x4).f1) 16))) then ((gangplankref09_Hash.f k ((rd_T56 x0 x4).f0) x5).bind fun t188 => (if x3.length < 8796093022208 then (gangplankref09_Of.l1 k x0 (x3 ++ [(⟨t188, (rd_T56 x0 x4).f0⟩ : S124)]) x4 (wrap64 (x5 + 1))) else (none))) else (gangplankref09_Of.l0 k x0 x3 (wrap64 (x4 + 1)))) else (none)) else (none)
end
def gangplankref09_Of.f (k : Nat) (l0 : List (S56)) : Option ((List (S124))) := gangplankref09_Of.l0 k l0 ([] : List (S124)) 0
theorem gangplankref09_Of.mono_l : ∀ k, (∀ y0 y1 y2, LeO (gangplankref09_Of.l0 k y0 y1 y2) (gangplankref09_Of.l0 (k + 1) y0 y1 y2)) ∧ (∀ y0 y1 y2 y3, LeO (gangplankref09_Of.l1 k y0 y1 y2 y3) (gangplankref09_Of.l1 (k + 1) y0 y1 y2 y3))
  | 0 => ⟨fun _ _ _ r h => by simp [gangplankref09_Of.l0] at h, fun _ _ _ _ r h => by simp [gangplankref09_Of.l1] at h⟩
  | k + 1 => by
    obtain ⟨ih0, ih1⟩ := gangplankref09_Of.mono_l k
    refine ⟨?_, ?_⟩
    · intro y0 y1 y2
      unfold gangplankref09_Of.l0
      repeat' first
      | (with_reducible exact ih0 _ _ _)
      | (with_reducible exact ih1 _ _ _ _)
      | (with_reducible exact gangplankref09_Hash.mono _ _ _)
      | (with_reducible exact LeO.refl _)
      | (with_reducible exact LeO.none _)
      | (with_reducible refine LeO.ite ?_ ?_)
      | (with_reducible refine LeO.bind ?_ (fun _ => ?_))
      | exact ih0 _ _ _
      | exact ih1 _ _ _ _
      | exact gangplankref09_Hash.mono _ _ _
      | exact LeO.none _
      | refine LeO.ite ?_ ?_
      | refine LeO.bind ?_ (fun _ => ?_)
    · intro y0 y1 y2 y3
      unfold gangplankref09_Of.l1
      repeat' first
      | (with_reducible exact ih0 _ _ _)
      | (with_reducible exact ih1 _ _ _ _)
      | (with_reducible exact gangplankref09_Hash.mono _ _ _)
      | (with_reducible exact LeO.refl _)
      | (with_reducible exact LeO.none _)
      | (with_reducible refine LeO.ite ?_ ?_)
      | (with_reducible refine LeO.bind ?_ (fun _ => ?_))
      | exact ih0 _ _ _
      | exact ih1 _ _ _ _
      | exact gangplankref09_Hash.mono _ _ _
      | exact LeO.none _
      | refine LeO.ite ?_ ?_
      | refine LeO.bind ?_ (fun _ => ?_)
theorem gangplankref09_Of.mono : ∀ a0 k, LeO (gangplankref09_Of.f k a0) (gangplankref09_Of.f (k + 1) a0) := by
  intro a0 k
  obtain ⟨ih0, ih1⟩ := gangplankref09_Of.mono_l k
  unfold gangplankref09_Of.f
  repeat' first
      | (with_reducible exact ih0 _ _ _)
      | (with_reducible exact ih1 _ _ _ _)
      | (with_reducible exact gangplankref09_Hash.mono _ _ _)
      | (with_reducible exact LeO.refl _)
      | (with_reducible exact LeO.none _)
      | (with_reducible refine LeO.ite ?_ ?_)
      | (with_reducible refine LeO.bind ?_ (fun _ => ?_))
      | exact ih0 _ _ _
      | exact ih1 _ _ _ _
      | exact gangplankref09_Hash.mono _ _ _
      | exact LeO.none _
      | refine LeO.ite ?_ ?_
      | refine LeO.bind ?_ (fun _ => ?_)
def gangplankref09_Of.T8 : Bool × List (List Nat × List Nat) := (true, [([], []), ([], []), ([], []), ([1, 2], [1, 2]), ([3], [3]), ([4], [4]), ([], []), ([5, 6], [5, 6]), ([], []), ([], []), ([8, 9], [8, 9]), ([10], [10]), ([11], [11]), ([7, 12], [7, 12]), ([13], [13]), ([0, 14, 7], [0, 14]), ([15, 15, 0, 1, 2, 3, 4, 5, 6, 7, 8, 9, 10, 11, 12, 13, 14, 15], [0, 15])])
def gangplankref09_Of.B8 : List Nat := [0, 0, 0, 6, 14, 30, 0, 126, 0, 0, 768, 1792, 3840, 8190, 16382, 32767, 65535]
theorem gangplankref09_Of.tab8 : rtab .any (opsOf Try.f76 8) = gangplankref09_Of.T8 := by kernel_rfl
theorem gangplankref09_Of.bits8 : waitsOk gangplankref09_Of.T8.2 gangplankref09_Of.B8 = true := by kernel_rfl
set_option maxHeartbeats 8000000 in
set_option maxRecDepth 100000 in
theorem gangplankref09_Of.calls (k : Nat) (A0 : Option Addr) (c0 : Nat) (l0 : List (S56)) (r : List (S124)) (w : World) (hr0 : Kd.C k56 w A0 l0.length l0) (hc0 : l0.length ≤ c0) (h : gangplankref09_Of.f k l0 = some r) :
    Calls Try.prog 76 #[.slice A0 l0.length c0] w fun e w' => ∃ v0_ : Value, e = .returned (v0_) ∧ Kd.V k124 124 w' w.heap.size (fun k_ => (w.heap.size ≤ k_)) v0_ r ∧ Below w.heap.size w w' := by
  have hu124 := Try.underlying124
  have HR0 := Aside0.mk hr0
  have HC0 := Aside0.mk hc0
  clear hr0 hc0
  have HB := Aside0.mk (Below.refl w.heap.size w)
  have H : (gangplankref09_Of.l0 k l0 ([] : List (S124)) 0) = some r := h
  clear h
  have H' := Aside0.mk H
  clear H
  go_enter Try.func76, Try.ntmps76
  go_wp2
  go_loopg [3, 4] k (fun kq v3 v4 w' => ∃ (x3_1 : List (S124)) (x4_1 : Int), v4 = .int .i64 x4_1 ∧ Aside0 (gangplankref09_Of.l0 kq l0 x3_1 x4_1 = some r) ∧ Aside0 (kq ≤ k) ∧ Aside0 (Kd.R k124 124 w' w.heap.size (fun k_ => (w.heap.size ≤ k_)) v3 x3_1) ∧ Aside0 (Below w.heap.size w w'))
  case atStart => exact ⟨(([] : List (S124))), (0), (by first | rfl | (simp; done) | (simp [*]; done)), H', ⟨Nat.le_refl _⟩, ⟨by first | exact Kd.R_nil _ _ _ _ _ | exact Kd.N_nil _ _ _ _ _ | exact Kd.V_nil _ _ _ _ _ | exact Kd.Q_nil _ _ _ _ _ | exact Kd.S_nil _ _ _ _ _⟩, ⟨by repeat (first | (with_reducible first | exact HB.out | apply below_alloc | apply pw_below_drewN | apply below_drew1) | exact HB.out)⟩⟩
  case round =>
    clear H'
    obtain ⟨x3_1, x4_1, rfl, HA, HK1, HO_3, HB⟩ := hrel
    cases gk with
    | zero => exact absurd HA.out (by simp [gangplankref09_Of.l0])
    | succ k1 =>
      have H := HA.out
      clear HA
      simp only [gangplankref09_Of.l0] at H
      by_cases c2 : x4_1 < (l0.length : Int)
      · rw [if_pos c2] at H
        have c2b0 : decide (x4_1 < (l0.length : Int)) = true := decide_eq_true c2
        clear c2
        have H' := Aside0.mk H
        clear H
        go_wp2
        go_loopg [3, 5] k1 (fun kq v3 v5 w' => ∃ (x3_2 : List (S124)) (x5_2 : Int), v5 = .int .i64 x5_2 ∧ Aside0 (gangplankref09_Of.l1 kq l0 x3_2 x4_1 x5_2 = some r) ∧ Aside0 (kq ≤ k1) ∧ Aside0 (Kd.R k124 124 w' w.heap.size (fun k_ => (w.heap.size ≤ k_)) v3 x3_2) ∧ Aside0 (Below w.heap.size w w'))
        case atStart => exact ⟨(x3_1), (0), (by first | rfl | (simp; done) | (simp [*]; done)), H', ⟨Nat.le_refl _⟩, ⟨by (with_reducible repeat (first | apply Kd.R_alloc | apply Kd.R_drewN | apply Kd.R_drew)); exact HO_3.out⟩, ⟨by repeat (first | (with_reducible first | exact HB.out | apply below_alloc | apply pw_below_drewN | apply below_drew1) | exact HB.out)⟩⟩
        case round =>
          clear H'
          try clear c2
          try clear c2b0
          try clear p2
          obtain ⟨x3_2, x5_2, rfl, HA, HK2, HO_3, HB⟩ := hrel
          cases gk with
          | zero => exact absurd HA.out (by simp [gangplankref09_Of.l1])
          | succ k2 =>
            have H := HA.out
            clear HA
            simp only [gangplankref09_Of.l1] at H
            by_cases c3 : 0 ≤ x4_1
            · rw [if_pos c3] at H
              have c3b0 : decide (0 ≤ x4_1) = true := decide_eq_true c3
              clear c3
              by_cases c4 : x4_1 < (l0.length : Int)
              · rw [if_pos c4] at H
                have c4b0 : decide (x4_1 < (l0.length : Int)) = true := decide_eq_true c4
                clear c4
                obtain ⟨ji5, hji5⟩ : ∃ j_ : Int, (mn ((rd_T56 l0 x4_1).f1) 16) = j_ := ⟨_, rfl⟩
                replace H : (if x5_2 < (8 * (mx 0 (ji5))) then ((gangplankref09_Hash.f k2 ((rd_T56 l0 x4_1).f0) x5_2).bind fun t188 => (if x3_2.length < 8796093022208 then (gangplankref09_Of.l1 k2 l0 (x3_2 ++ [(⟨t188, (rd_T56 l0 x4_1).f0⟩ : S124)]) x4_1 (wrap64 (x5_2 + 1))) else (none))) else (gangplankref09_Of.l0 k2 l0 x3_2 (wrap64 (x4_1 + 1)))) = some r := by first | (rw [hji5] at H; exact H) | (simp only [hji5] at H ⊢; exact H)
                have hji5_ : (if 16 < ((rd_T56 l0 x4_1).f1) then 16 else ((rd_T56 l0 x4_1).f1)) = ji5 := hji5
                obtain ⟨ji6, hji6⟩ : ∃ j_ : Int, (mx 0 (ji5)) = j_ := ⟨_, rfl⟩
                replace H : (if x5_2 < (8 * (ji6)) then ((gangplankref09_Hash.f k2 ((rd_T56 l0 x4_1).f0) x5_2).bind fun t188 => (if x3_2.length < 8796093022208 then (gangplankref09_Of.l1 k2 l0 (x3_2 ++ [(⟨t188, (rd_T56 l0 x4_1).f0⟩ : S124)]) x4_1 (wrap64 (x5_2 + 1))) else (none))) else (gangplankref09_Of.l0 k2 l0 x3_2 (wrap64 (x4_1 + 1)))) = some r := by first | (rw [hji6] at H; exact H) | (simp only [hji6] at H ⊢; exact H)
                have hji6_ : (if 0 < (ji5) then (ji5) else 0) = ji6 := hji6
                by_cases c7 : x5_2 < (8 * (ji6))
                · rw [if_pos c7] at H
                  have c7b0 : decide (x5_2 < (8 * (ji6))) = true := decide_eq_true c7
                  clear c7
                  replace H := Option.bind_eq_some_iff.mp H
                  obtain ⟨t188, A80, H⟩ := H
                  replace H : (if x3_2.length < 8796093022208 then (gangplankref09_Of.l1 k2 l0 (x3_2 ++ [(⟨t188, (rd_T56 l0 x4_1).f0⟩ : S124)]) x4_1 (wrap64 (x5_2 + 1))) else (none)) = some r := H
                  have A8 := Aside0.mk A80
                  clear A80
                  by_cases c9 : x3_2.length < 8796093022208
                  · rw [if_pos c9] at H
                    have LMc9 := Aside0.mk c9
                    clear c9
                    obtain ⟨y190, hy190⟩ : ∃ y_ : List (S124), y_ = (x3_2 ++ [(⟨t188, (rd_T56 l0 x4_1).f0⟩ : S124)]) := ⟨_, rfl⟩
                    replace H : (gangplankref09_Of.l1 k2 l0 y190 x4_1 (wrap64 (x5_2 + 1))) = some r := by first | (rw [hy190]; with_reducible exact H) | (have H2_ := (Option.bind_some _ _).symm.trans H; rw [hy190]; with_reducible exact H2_) | (have H2_ := (Option.bind_some _ _).symm.trans H; with_reducible exact H2_) | with_reducible exact H | (rw [hy190]; exact H) | exact H
                    have Ny190 := Aside0.mk hy190
                    clear hy190
                    have H' := Aside0.mk H
                    clear H
                    have p186 : 0 ≤ (x4_1 : Int) := of_decide_eq_true (by first | (with_reducible assumption) | assumption)
                    have q186 : x4_1 < (l0.length : Int) := of_decide_eq_true (by first | (with_reducible assumption) | assumption)
                    obtain ⟨ad186, e186, hx186_0, hx186_1⟩ := at_T56 HR0.out x4_1 p186 q186
                    cases e186
                    replace hx186_0 := (HB.out.cell (World.block_lt_of_cell? w _ hx186_0)).trans hx186_0
                    replace hx186_1 := (HB.out.cell (World.block_lt_of_cell? w _ hx186_1)).trans hx186_1
                    replace p186 := eq_true p186
                    replace q186 := eq_true q186
                    try go_wp2
                    have n0_ := Aside0.mk (Kd.R_drew HO_3.out)
                    have n1_ := Aside0.mk (below_drew1 HB.out)
                    clear HO_3
                    clear HB
                    have HO_3 := n0_
                    have HB := n1_
                    clear n0_ n1_
                    have p187 : 0 ≤ (x4_1 : Int) := of_decide_eq_true (by first | (with_reducible assumption) | assumption)
                    have q187 : x4_1 < (l0.length : Int) := of_decide_eq_true (by first | (with_reducible assumption) | assumption)
                    obtain ⟨ad187, e187, hx187_0, hx187_1⟩ := at_T56 HR0.out x4_1 p187 q187
                    have hw187_1 := hx187_1
                    have hw187_0 := hx187_0
                    obtain rfl : ad186 = ad187 := (by injection e187)
                    replace hx187_0 := (HB.out.cell (World.block_lt_of_cell? w _ hx187_0)).trans hx187_0
                    replace hx187_1 := (HB.out.cell (World.block_lt_of_cell? w _ hx187_1)).trans hx187_1
                    replace p187 := eq_true p187
                    replace q187 := eq_true q187
                    have p189 : 0 ≤ (x4_1 : Int) := of_decide_eq_true (by first | (with_reducible assumption) | assumption)
                    have q189 : x4_1 < (l0.length : Int) := of_decide_eq_true (by first | (with_reducible assumption) | assumption)
                    obtain ⟨ad189, e189, hx189_0, hx189_1⟩ := at_T56 HR0.out x4_1 p189 q189
                    have hw189_1 := hx189_1
                    have hw189_0 := hx189_0
                    obtain rfl : ad186 = ad189 := (by injection e189)
                    replace hx189_0 := (HB.out.cell (World.block_lt_of_cell? w _ hx189_0)).trans hx189_0
                    replace hx189_1 := (HB.out.cell (World.block_lt_of_cell? w _ hx189_1)).trans hx189_1
                    replace p189 := eq_true p189
                    replace q189 := eq_true q189
                    refine start_ (n := 17) (S := fun w' => w'.cell? (ad186.add ((x4_1).toNat * 2)) = some (.int .i64 ((rd_T56 l0 x4_1).f0)) ∧ w'.cell? ⟨(ad186.add ((x4_1).toNat * 2)).block, (ad186.add ((x4_1).toNat * 2)).off + 1, none⟩ = some (.int .i64 ((rd_T56 l0 x4_1).f1)) ∧ w'.cell? (ad186.add ((x4_1).toNat * 2)) = some (.int .i64 ((rd_T56 l0 x4_1).f0)) ∧ w'.cell? ⟨(ad186.add ((x4_1).toNat * 2)).block, (ad186.add ((x4_1).toNat * 2)).off + 1, none⟩ = some (.int .i64 ((rd_T56 l0 x4_1).f1))) (ds := []) #[false, false, false, false, false, false, false, false, false, false, false, false, false, false, false, false, false] (by kernel_rfl) rfl rfl ⟨((HB.out.cell (World.block_lt_of_cell? w _ hw187_0)).trans hw187_0), ((HB.out.cell (World.block_lt_of_cell? w _ hw187_1)).trans hw187_1), ((HB.out.cell (World.block_lt_of_cell? w _ hw189_0)).trans hw189_0), ((HB.out.cell (World.block_lt_of_cell? w _ hw189_1)).trans hw189_1)⟩ (fun hHeld => ?_); refine with_tabW gangplankref09_Of.tab8 gangplankref09_Of.bits8 (fun HT_ HW_ => ?_)
                    generalize wr.drew = w10 at HO_3 HB hx187_0 hx187_1 hx189_0 hx189_1 hHeld ⊢
                    refine pure_ (i := 0) (N := some 24) (v := ?_) (a' := ?_) #[true, false, false, false, false, false, false, false, false, false, false, false, false, false, false, false, false] rfl rfl (any_of HT_.out (by kernel_rfl)) (fun _ _ _ h => h) (Or.inl ⟨by rfl, ?_⟩) ?_ ?_
                    rotate_left
                    · intro w'
                      go_simp
                      with_reducible rfl
                    rotate_left
                    · simp only [Act.put, List.setIfInBounds_toArray, List.set_cons_zero, List.set_cons_succ, i64_w, i32_w]
                      rfl
                    refine pure_ (i := 1) (N := some 25) (v := ?_) (a' := ?_) #[true, true, false, false, false, false, false, false, false, false, false, false, false, false, false, false, false] rfl rfl (any_of HT_.out (by kernel_rfl)) (fun _ _ _ h => h) (Or.inl ⟨by rfl, ?_⟩) ?_ ?_
                    rotate_left
                    · intro w'
                      go_simp
                      with_reducible rfl
                    rotate_left
                    · simp only [Act.put, List.setIfInBounds_toArray, List.set_cons_zero, List.set_cons_succ, i64_w, i32_w]
                      rfl
                    refine pure_ (i := 2) (N := some 26) (v := ?_) (a' := ?_) #[true, true, true, false, false, false, false, false, false, false, false, false, false, false, false, false, false] rfl rfl (any_of HT_.out (by kernel_rfl)) (fun _ _ _ h => h) (Or.inl ⟨by rfl, ?_⟩) ?_ ?_
                    rotate_left
                    · intro w'
                      go_simp
                      with_reducible rfl
                    rotate_left
                    · simp only [Act.put, List.setIfInBounds_toArray, List.set_cons_zero, List.set_cons_succ, i64_w, i32_w]
                      rfl
                    refine pure_ (i := 3) (N := some 27) (v := ?_) (a' := ?_) #[true, true, true, true, false, false, false, false, false, false, false, false, false, false, false, false, false] rfl rfl (any_of HT_.out (by kernel_rfl)) (fun _ _ _ h => h) (Or.inl ⟨by rfl, ?_⟩) ?_ ?_
                    rotate_left
                    · intro w'
                      go_simp
                      with_reducible rfl
                    rotate_left
                    · simp only [Act.put, List.setIfInBounds_toArray, List.set_cons_zero, List.set_cons_succ, i64_w, i32_w]
                      rfl
                    refine pure_ (i := 4) (N := some 28) (v := ?_) (a' := ?_) #[true, true, true, true, true, false, false, false, false, false, false, false, false, false, false, false, false] rfl rfl (any_of HT_.out (by kernel_rfl)) (fun _ _ _ h => h) (Or.inl ⟨by rfl, ?_⟩) ?_ ?_
                    rotate_left
                    · intro w'
                      go_simp
                      with_reducible rfl
                    rotate_left
                    · simp only [Act.put, List.setIfInBounds_toArray, List.set_cons_zero, List.set_cons_succ, i64_w, i32_w]
                      rfl
                    refine pure_ (i := 6) (N := some 30) (v := ?_) (a' := ?_) #[true, true, true, true, true, false, true, false, false, false, false, false, false, false, false, false, false] rfl rfl (any_of HT_.out (by kernel_rfl)) (fun _ _ _ h => h) (Or.inl ⟨by rfl, ?_⟩) ?_ ?_
                    rotate_left
                    · intro w'
                      go_simp
                      with_reducible rfl
                    rotate_left
                    · simp only [Act.put, List.setIfInBounds_toArray, List.set_cons_zero, List.set_cons_succ, i64_w, i32_w]
                      rfl
                    refine pure_ (i := 8) (N := some 32) (v := ?_) (a' := ?_) #[true, true, true, true, true, false, true, false, true, false, false, false, false, false, false, false, false] rfl rfl (any_of HT_.out (by kernel_rfl)) (fun _ _ _ h => h) (Or.inl ⟨by rfl, ?_⟩) ?_ ?_
                    rotate_left
                    · intro w'
                      go_simp
                      with_reducible rfl
                    rotate_left
                    · simp only [Act.put, List.setIfInBounds_toArray, List.set_cons_zero, List.set_cons_succ, i64_w, i32_w]
                      rfl
                    refine pure_ (i := 9) (N := some 33) (v := ?_) (a' := ?_) #[true, true, true, true, true, false, true, false, true, true, false, false, false, false, false, false, false] rfl rfl (any_of HT_.out (by kernel_rfl)) (fun _ _ _ h => h) (Or.inl ⟨by rfl, ?_⟩) ?_ ?_
                    rotate_left
                    · intro w'
                      go_simp
                      with_reducible rfl
                    rotate_left
                    · simp only [Act.put, List.setIfInBounds_toArray, List.set_cons_zero, List.set_cons_succ, i64_w, i32_w]
                      rfl
                    refine pure_ (i := 10) (N := some 34) (v := ?_) (a' := ?_) #[true, true, true, true, true, false, true, false, true, true, true, false, false, false, false, false, false] rfl rfl (any_of HT_.out (by kernel_rfl)) (fun _ _ _ h => h) (Or.inl ⟨by rfl, ?_⟩) ?_ ?_
                    rotate_left
                    · intro w'
                      go_simp
                      with_reducible rfl
                    rotate_left
                    · simp only [Act.put, List.setIfInBounds_toArray, List.set_cons_zero, List.set_cons_succ, i64_w, i32_w]
                      rfl
                    refine pure_ (i := 11) (N := some 35) (v := ?_) (a' := ?_) #[true, true, true, true, true, false, true, false, true, true, true, true, false, false, false, false, false] rfl rfl (any_of HT_.out (by kernel_rfl)) (fun _ _ _ h => h) (Or.inl ⟨by rfl, ?_⟩) ?_ ?_
                    rotate_left
                    · intro w'
                      go_simp
                      with_reducible rfl
                    rotate_left
                    · simp only [Act.put, List.setIfInBounds_toArray, List.set_cons_zero, List.set_cons_succ, i64_w, i32_w]
                      rfl
                    refine take_ (i := 5) (N := some 29) (v := ?_) (a' := ?_) #[true, true, true, true, true, true, true, false, true, true, true, true, false, false, false, false, false] rfl rfl (take_ofW HT_.out HW_.out (by kernel_rfl)) (fun _ _ _ h => h) (Or.inl ⟨by rfl, ?_⟩) hHeld ?_ ?_
                    rotate_left
                    · rintro w' ⟨s0, s1, s2, s3⟩
                      go_simp
                      with_reducible rfl
                    rotate_left
                    · simp only [Act.put, List.setIfInBounds_toArray, List.set_cons_zero, List.set_cons_succ, i64_w, i32_w]
                      rfl
                    refine take_ (i := 12) (N := some 36) (v := ?_) (a' := ?_) #[true, true, true, true, true, true, true, false, true, true, true, true, true, false, false, false, false] rfl rfl (take_ofW HT_.out HW_.out (by kernel_rfl)) (fun _ _ _ h => h) (Or.inl ⟨by rfl, ?_⟩) hHeld ?_ ?_
                    rotate_left
                    · rintro w' ⟨s0, s1, s2, s3⟩
                      go_simp
                      with_reducible rfl
                    rotate_left
                    · simp only [Act.put, List.setIfInBounds_toArray, List.set_cons_zero, List.set_cons_succ, i64_w, i32_w]
                      rfl
                    refine one_ (i := 7) (N := some 31) #[true, true, true, true, true, true, true, true, true, true, true, true, true, false, false, false, false] rfl rfl (one_of HT_.out (by kernel_rfl)) (by decide) (fun K hK => ?_)
                    refine goes_ Try.func91 (by kernel_rfl) rfl #[.int .i64 ((rd_T56 l0 x4_1).f0), .int .i64 x5_2] (by rfl) rfl rfl (by (try simp only [List.map_toArray, List.map_cons, List.map_nil]); first | done | rfl | (simp only [List.length_drop, List.length_take]; rfl)) ?_
                    with_reducible refine (gangplankref09_Hash.calls k2 ((rd_T56 l0 x4_1).f0) x5_2 t188 _ A8.out).mono ?_
                    rintro e w11 ⟨rfl, hb⟩
                    refine ⟨_, rfl, ?_⟩
                    have n0_ := Aside0.mk (Kd.R_below (by (with_reducible repeat (first | apply Kd.R_alloc | apply Kd.R_drewN | apply Kd.R_drew)); exact HO_3.out) hb)
                    have n1_ := Aside0.mk (below_step (by repeat (first | (with_reducible first | exact HB.out | apply below_alloc | apply pw_below_drewN | apply below_drew1) | exact HB.out)) hb)
                    clear HO_3
                    clear HB
                    have HO_3 := n0_
                    have HB := n1_
                    clear n0_ n1_
                    (try clear hb)
                    (try clear hb2)
                    (try clear hk)
                    (try clear hi)
                    refine hK.out _ _ ⟨((HB.out.cell (World.block_lt_of_cell? w _ hw187_0)).trans hw187_0), ((HB.out.cell (World.block_lt_of_cell? w _ hw187_1)).trans hw187_1), ((HB.out.cell (World.block_lt_of_cell? w _ hw189_0)).trans hw189_0), ((HB.out.cell (World.block_lt_of_cell? w _ hw189_1)).trans hw189_1)⟩ (fun hHeld => ?_)
                    clear hK K
                    refine norm_ (a' := ?_) ?_ ?_
                    rotate_left
                    · show Act.put _ (some 31) _ = _
                      simp only [Act.put, List.setIfInBounds_toArray, List.set_cons_zero, List.set_cons_succ, i64_w, i32_w]
                      rfl
                    refine pure_ (i := 13) (N := some 37) (v := ?_) (a' := ?_) #[true, true, true, true, true, true, true, true, true, true, true, true, true, true, false, false, false] rfl rfl (any_of HT_.out (by kernel_rfl)) (fun _ _ _ h => h) (Or.inl ⟨by rfl, ?_⟩) ?_ ?_
                    rotate_left
                    · intro w'
                      go_simp
                      with_reducible rfl
                    rotate_left
                    · simp only [Act.put, List.setIfInBounds_toArray, List.set_cons_zero, List.set_cons_succ, i64_w, i32_w]
                      rfl
                    refine one_ (i := 14) (N := some 38) #[true, true, true, true, true, true, true, true, true, true, true, true, true, true, true, false, false] rfl rfl (one_of HT_.out (by kernel_rfl)) (by decide) (fun K hK => ?_)
                    refine value_ (w1 := ?_) (v := ?_) (by rfl) rfl ?_ ?_
                    rotate_left 2
                    · go_simp
                      constructor
                      · rfl
                      · rfl
                    refine hK.out _ _ ⟨(World.cell?_alloc_lt _ _ _ (World.block_lt_of_cell? _ _ (((HB.out.cell (World.block_lt_of_cell? w _ hw187_0)).trans hw187_0)))).trans (((HB.out.cell (World.block_lt_of_cell? w _ hw187_0)).trans hw187_0)), (World.cell?_alloc_lt _ _ _ (World.block_lt_of_cell? _ _ (((HB.out.cell (World.block_lt_of_cell? w _ hw187_1)).trans hw187_1)))).trans (((HB.out.cell (World.block_lt_of_cell? w _ hw187_1)).trans hw187_1)), (World.cell?_alloc_lt _ _ _ (World.block_lt_of_cell? _ _ (((HB.out.cell (World.block_lt_of_cell? w _ hw189_0)).trans hw189_0)))).trans (((HB.out.cell (World.block_lt_of_cell? w _ hw189_0)).trans hw189_0)), (World.cell?_alloc_lt _ _ _ (World.block_lt_of_cell? _ _ (((HB.out.cell (World.block_lt_of_cell? w _ hw189_1)).trans hw189_1)))).trans (((HB.out.cell (World.block_lt_of_cell? w _ hw189_1)).trans hw189_1))⟩ (fun hHeld => ?_)
                    clear hK K
                    refine norm_ (a' := ?_) ?_ ?_
                    rotate_left
                    · show Act.put _ (some 38) _ = _
                      simp only [Act.put, List.setIfInBounds_toArray, List.set_cons_zero, List.set_cons_succ, i64_w, i32_w]
                      rfl
                    refine one_ (i := 15) (N := some 39) #[true, true, true, true, true, true, true, true, true, true, true, true, true, true, true, true, false] rfl rfl (one_of HT_.out (by kernel_rfl)) (by decide) (fun K hK => ?_)
                    refine Kd.R_append_step k124 (w0 := w) w.heap.size (by rfl) (.tmp 24) (.tmp 38) 77 124 (.agg #[(.int .u64 0), (.int .i64 0)]) 16 rfl Try.underlying77 info124 rfl (by decide) (by omega) u3 x3_2 (⟨t188, (rd_T56 l0 x4_1).f0⟩ : S124) [.int .u64 t188, .int .i64 ((rd_T56 l0 x4_1).f0)] (fun k_ => (w.heap.size ≤ k_)) (fun _ => False) rfl rfl ?aP (fun _ hk => hk.elim) ?aF ?aO ?aB ?aS ?aL ?_
                    (case aP => exact k124_mkM _ _ _ (⟨t188, (rd_T56 l0 x4_1).f0⟩ : S124))
                    (case aB => exact (by repeat (first | (with_reducible first | exact HB.out | apply below_alloc | apply pw_below_drewN | apply below_drew1) | exact HB.out)))
                    (case aF => exact (fun k_ hk => (Nat.le_trans (below_size (by repeat (first | (with_reducible first | exact HB.out | apply below_alloc | apply pw_below_drewN | apply below_drew1) | exact HB.out))) hk)))
                    (case aO => exact (by (with_reducible repeat (first | apply Kd.R_alloc | apply Kd.R_drewN | apply Kd.R_drew)); exact HO_3.out))
                    (case aS => exact (below_size (by repeat (first | (with_reducible first | exact HB.out | apply below_alloc | apply pw_below_drewN | apply below_drew1) | exact HB.out))))
                    (case aL => have := LMc9.out; omega)
                    intro v191 w12 ho hb hg hat
                    rw [← Ny190.out] at ho
                    have n0_ := Aside0.mk (hb)
                    have n1_ := Aside0.mk (ho)
                    clear HB
                    clear HO_3
                    have HB := n0_
                    have HO192 := n1_
                    clear n0_ n1_
                    clear ho hb hg hat
                    refine hK.out _ _ ⟨((HB.out.cell (World.block_lt_of_cell? w _ hw187_0)).trans hw187_0), ((HB.out.cell (World.block_lt_of_cell? w _ hw187_1)).trans hw187_1), ((HB.out.cell (World.block_lt_of_cell? w _ hw189_0)).trans hw189_0), ((HB.out.cell (World.block_lt_of_cell? w _ hw189_1)).trans hw189_1)⟩ (fun hHeld => ?_)
                    clear hK K
                    refine norm_ (a' := ?_) ?_ ?_
                    rotate_left
                    · show Act.put _ (some 39) _ = _
                      simp only [Act.put, List.setIfInBounds_toArray, List.set_cons_zero, List.set_cons_succ, i64_w, i32_w]
                      rfl
                    refine pure_ (i := 16) (N := some 3) (v := ?_) (a' := ?_) #[true, true, true, true, true, true, true, true, true, true, true, true, true, true, true, true, true] rfl rfl (any_of HT_.out (by kernel_rfl)) (fun _ _ _ h => h) (Or.inl ⟨by rfl, ?_⟩) ?_ ?_
                    rotate_left
                    · intro w'
                      go_simp
                      with_reducible rfl
                    rotate_left
                    · simp only [Act.put, List.setIfInBounds_toArray, List.set_cons_zero, List.set_cons_succ, i64_w, i32_w]
                      rfl
                    refine done_ (done_of HT_.out (by kernel_rfl)) ?_
                    try go_wp2
                    go_roundg k2
                    case measure => have := HK1.out; have := HK2.out; omega
                    case rel => exact ⟨(y190), (wrap64 (x5_2 + 1)), (by first | rfl | (simp; done) | (simp [*]; done)), H', ⟨by have := HK1.out; have := HK2.out; omega⟩, ⟨by (with_reducible repeat (first | apply Kd.R_alloc | apply Kd.R_drewN | apply Kd.R_drew)); exact HO192.out⟩, ⟨by repeat (first | (with_reducible first | exact HB.out | apply below_alloc | apply pw_below_drewN | apply below_drew1) | exact HB.out)⟩⟩
                  · rw [if_neg c9] at H
                    exact absurd H (by simp)
                · rw [if_neg c7] at H
                  have c7b0 : decide (x5_2 < (8 * (ji6))) = false := decide_eq_false c7
                  clear c7
                  have H' := Aside0.mk H
                  clear H
                  have p186 : 0 ≤ (x4_1 : Int) := of_decide_eq_true (by first | (with_reducible assumption) | assumption)
                  have q186 : x4_1 < (l0.length : Int) := of_decide_eq_true (by first | (with_reducible assumption) | assumption)
                  obtain ⟨ad186, e186, hx186_0, hx186_1⟩ := at_T56 HR0.out x4_1 p186 q186
                  cases e186
                  replace hx186_0 := (HB.out.cell (World.block_lt_of_cell? w _ hx186_0)).trans hx186_0
                  replace hx186_1 := (HB.out.cell (World.block_lt_of_cell? w _ hx186_1)).trans hx186_1
                  replace p186 := eq_true p186
                  replace q186 := eq_true q186
                  go_wp2
                  go_roundg k2
                  case measure => have := HK1.out; have := HK2.out; omega
                  case rel => exact ⟨(x3_2), (wrap64 (x4_1 + 1)), (by first | rfl | (simp; done) | (simp [*]; done)), H', ⟨by have := HK1.out; have := HK2.out; omega⟩, ⟨by (with_reducible repeat (first | apply Kd.R_alloc | apply Kd.R_drewN | apply Kd.R_drew)); exact HO_3.out⟩, ⟨by repeat (first | (with_reducible first | exact HB.out | apply below_alloc | apply pw_below_drewN | apply below_drew1) | exact HB.out)⟩⟩
              · rw [if_neg c4] at H
                exact absurd H (by simp)
            · rw [if_neg c3] at H
              exact absurd H (by simp)
      · rw [if_neg c2] at H
        have c2b0 : decide (x4_1 < (l0.length : Int)) = false := decide_eq_false c2
        clear c2
        replace H := Option.bind_eq_some_iff.mp H
        obtain ⟨t183, A130, H⟩ := H
        replace H : (some t183) = some r := H
        have A13 := Aside0.mk A130
        clear A130
        obtain rfl := Option.some.inj H
        obtain ⟨Ao14, co14, eo14⟩ := Kd.R_slice HO_3.out
        subst eo14
        go_wp2_with (first | ((with_reducible refine gate_callee (f := 92) rfl ?_); refine goesL_ (some 41) rfl rfl Try.func92 (by kernel_rfl) rfl #[.slice Ao14 x3_1.length co14] rfl (by (try simp only [List.map_toArray, List.map_cons, List.map_nil]); first | done | rfl | (simp only [List.length_drop, List.length_take]; rfl)) ?_; (with_reducible refine (gangplankref09_sort.calls (fun k_ => some k_ = (.slice Ao14 x3_1.length co14 : Value).ownBlock) _ _ x3_1 t183 _ ?side1 A13.out).mono ?_); (case side1 => exact Kd.R_V (Kd.R_tight rfl (HO_3.out))); (try clear A13); rintro e w15 ⟨v184, rfl, ho0, hb⟩; refine ⟨_, rfl, ?_⟩; have n0_ := Aside0.mk (Kd.R_below (by (with_reducible repeat (first | apply Kd.R_alloc | apply Kd.R_drewN | apply Kd.R_drew)); exact HO_3.out) hb); have n1_ := Aside0.mk (Kd.V_lower (Kd.V_mono (ok' := fun k_ => (w.heap.size ≤ k_)) ho0 (fun k_ hk_ => Or.elim hk_ (fun hs_ => ((HO_3.out).1 k_ hs_.symm)) (fun hn_ => (Nat.le_trans (below_size (by repeat (first | (with_reducible first | exact HB.out | apply below_alloc | apply pw_below_drewN | apply below_drew1) | exact HB.out))) hn_)))) (below_size (by repeat (first | (with_reducible first | exact HB.out | apply below_alloc | apply pw_below_drewN | apply below_drew1) | exact HB.out)))); have n2_ := Aside0.mk (below_step (by repeat (first | (with_reducible first | exact HB.out | apply below_alloc | apply pw_below_drewN | apply below_drew1) | exact HB.out)) hb); clear HO_3; clear HB; have HO_3 := n0_; have HO185 := n1_; have HB := n2_; clear n0_ n1_ n2_; (try clear hb); (try clear hb2); (try clear hk); (try clear hi); (try clear ho0)))
        go_ret
        exact ⟨_, by first | rfl | (simp [errW_none, errW_some] <;> rfl) | (simp [*, errW_none, errW_some] <;> rfl), by (with_reducible repeat (first | apply Kd.V_alloc | apply Kd.V_drewN | apply Kd.V_drew)); exact HO185.out, by repeat (first | (with_reducible first | exact HB.out | apply below_alloc | apply pw_below_drewN | apply below_drew1) | exact HB.out)⟩

/-! ### gangplankref10_Pick: function 53 -/
def gangplankref10_Pick.f (k : Nat) (l0 : List (S56)) (a1 : Int) : Option (Int) := (gangplankref09_Of.f k l0).bind fun t193 => ((gangplankref10_Succ.f k t193 a1).bind fun t196 => (some t196))
theorem gangplankref10_Pick.mono : ∀ a0 a1 k, LeO (gangplankref10_Pick.f k a0 a1) (gangplankref10_Pick.f (k + 1) a0 a1) := by
  intro a0 a1 k
  unfold gangplankref10_Pick.f
  repeat' first
      | (with_reducible exact gangplankref09_Of.mono _ _)
      | (with_reducible exact gangplankref10_Succ.mono _ _ _)
      | (with_reducible exact LeO.refl _)
      | (with_reducible exact LeO.none _)
      | (with_reducible refine LeO.ite ?_ ?_)
      | (with_reducible refine LeO.bind ?_ (fun _ => ?_))
      | exact gangplankref09_Of.mono _ _
      | exact gangplankref10_Succ.mono _ _ _
      | exact LeO.none _
      | refine LeO.ite ?_ ?_
      | refine LeO.bind ?_ (fun _ => ?_)
set_option maxHeartbeats 8000000 in
set_option maxRecDepth 100000 in
theorem gangplankref10_Pick.calls (k : Nat) (A0 : Option Addr) (c0 : Nat) (l0 : List (S56)) (a1 : Int) (r : Int) (w : World) (hr0 : Kd.C k56 w A0 l0.length l0) (hc0 : l0.length ≤ c0) (h : gangplankref10_Pick.f k l0 a1 = some r) :
    Calls Try.prog 53 #[.slice A0 l0.length c0, .int .u64 a1] w fun e w' => e = .returned (.int .i64 r) ∧ Below w.heap.size w w' := by
  have HR0 := Aside0.mk hr0
  have HC0 := Aside0.mk hc0
  clear hr0 hc0
  have HB := Aside0.mk (Below.refl w.heap.size w)
  have H : ((gangplankref09_Of.f k l0).bind fun t193 => ((gangplankref10_Succ.f k t193 a1).bind fun t196 => (some t196))) = some r := h
  clear h
  replace H := Option.bind_eq_some_iff.mp H
  obtain ⟨t193, A30, H⟩ := H
  replace H : ((gangplankref10_Succ.f k t193 a1).bind fun t196 => (some t196)) = some r := H
  have A3 := Aside0.mk A30
  clear A30
  replace H := Option.bind_eq_some_iff.mp H
  obtain ⟨t196, A40, H⟩ := H
  replace H : (some t196) = some r := H
  have A4 := Aside0.mk A40
  clear A40
  obtain rfl := Option.some.inj H
  go_enter Try.func53, Try.ntmps53
  go_wp2_with (first | ((with_reducible refine gate_callee (f := 76) rfl ?_); refine goesL_ (some 6) rfl rfl Try.func76 (by kernel_rfl) rfl #[.slice A0 l0.length c0] rfl (by (try simp only [List.map_toArray, List.map_cons, List.map_nil]); first | done | rfl | (simp only [List.length_drop, List.length_take]; rfl)) ?_; (with_reducible refine (gangplankref09_Of.calls k _ _ l0 t193 _ ?side1 ?side2 A3.out).mono ?_); (case side1 => repeat (first | exact HR0.out | (with_reducible refine Kd.C_alloc ?_ _) | (with_reducible refine Kd.C_drewN ?_ _) | (with_reducible refine Kd.C_drew ?_))); (case side2 => exact HC0.out); (try clear A3); rintro e w5 ⟨v194, rfl, ho0, hb⟩; refine ⟨_, rfl, ?_⟩; have n0_ := Aside0.mk (Kd.V_lower (Kd.V_mono (ok' := fun k_ => True) ho0 (fun k_ hk_ => trivial)) (below_size (by repeat (first | (with_reducible first | exact HB.out | apply below_alloc | apply pw_below_drewN | apply below_drew1) | exact HB.out)))); have n1_ := Aside0.mk (below_step (by repeat (first | (with_reducible first | exact HB.out | apply below_alloc | apply pw_below_drewN | apply below_drew1) | exact HB.out)) hb); clear HB; have HO195 := n0_; have HB := n1_; clear n0_ n1_; (try clear hb); (try clear hb2); (try clear hk); (try clear hi); (try clear ho0); obtain ⟨Ao6, co6, eo6⟩ := Kd.V_slice HO195.out; subst eo6) | ((with_reducible refine gate_callee (f := 75) rfl ?_); refine goesL_ (some 8) rfl rfl Try.func75 (by kernel_rfl) rfl #[.slice Ao6 t193.length co6, .int .u64 a1] rfl (by (try simp only [List.map_toArray, List.map_cons, List.map_nil]); first | done | rfl | (simp only [List.length_drop, List.length_take]; rfl)) ?_; (with_reducible refine (gangplankref10_Succ.calls k _ _ t193 a1 t196 _ ?side1 ?side2 A4.out).mono ?_); (case side1 => repeat (first | exact (Kd.V_reads' HO195.out).2.2 | (with_reducible refine Kd.C_alloc ?_ _) | (with_reducible refine Kd.C_drewN ?_ _) | (with_reducible refine Kd.C_drew ?_))); (case side2 => exact (Kd.V_reads' HO195.out).2.1); (try clear A4); rintro e w' ⟨rfl, ⟨nd, rfl⟩⟩; refine ⟨_, rfl, ?_⟩))
  go_ret
  exact ⟨by first | rfl | (simp [errW_none, errW_some] <;> rfl) | (simp [*, errW_none, errW_some] <;> rfl), by repeat (first | (with_reducible first | exact HB.out | apply below_alloc | apply pw_below_drewN | apply below_drew1) | exact HB.out)⟩

end Go.Proofs.Ytklngklmeanhcaa.P
