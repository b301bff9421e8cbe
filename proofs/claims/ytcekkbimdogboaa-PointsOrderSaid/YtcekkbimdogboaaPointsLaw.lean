/- The points of pools, as plain lists: hashes, one order, the reference's sort, comparisons: laws with no program in sight. -/
import Derived.Test.YtcekkbimdogboaaPx3
import Derived.Test.YtcekkbimdogboaaPx8
import Derived.Test.YtcekkbimdogboaaPx2
import Derived.Test.YtcekkbimdogboaaPx6
import Derived.Test.YtcekkbimdogboaaPx4
import Derived.Test.YtcekkbimdogboaaHashLaw
import Derived.Laws.BytesArg
set_option linter.unusedVariables false
set_option linter.unusedSimpArgs false
namespace Go.Proofs.Ytcekkbimdogboaa.PointsLaw
open Go.RowKit Go.Proofs.Ytcekkbimdogboaa.P Go.Proofs.YtcekkbimdogboaaW.PrintWords Go.Proofs.YtcekkbimdogboaaW.PrintLast Go.Proofs.Ytcekkbimdogboaa.Hand

abbrev Bk := S39
abbrev Pt := S30
abbrev Pl := S61
/-! ### bytes of a number -/
theorem strOf_cons (a : Int) (l : List Int) : strOfNums [a] ++ strOfNums l = strOfNums (a :: l) := by
  refine ByteArray.ext ?_
  rw [ByteArray.data_append]
  exact Array.ext' (by simp [strOfNums])
theorem put_step (v n : Int) (h0 : 0 ≤ v) (h1 : v < 18446744073709551616) (l : List Int) (hl : l.length ≤ 8) (i : Int) (hi0 : 0 ≤ i) (hi : i < n) (hn : n ≤ 8) (k : Nat) :
    gangplankref01_Put.l0 (k + 1) v n (strOfNums l) i = gangplankref01_Put.l0 k (v / 256) n (strOfNums (v % 256 :: l)) (i + 1) := by
  simp only [gangplankref01_Put.l0]
  have w : wrap64 (i + 1) = i + 1 := by unfold wrap64; omega
  have e1 : Int.tmod v 256 % 256 = v % 256 := by rw [Int.tmod_eq_emod_of_nonneg h0]; omega
  have e2 : IntKind.u64.wrap (Int.tdiv v 256) = v / 256 := by
    rw [Int.tdiv_eq_ediv_of_nonneg h0]
    simp [IntKind.wrap, IntKind.bits, IntKind.signed]
    omega
  rw [if_pos hi, Option.bind_some, e1, e2, w]
  have hsz : (strOfNums [v % 256]).size + (strOfNums l).size ≤ 9223372036854775807 := by rw [Go.strOfNums_size, Go.strOfNums_size]; simp; omega
  rw [if_pos hsz, strOf_cons]
theorem put_end (v n : Int) (l : ByteArray) (k : Nat) : gangplankref01_Put.l0 (k + 1) v n l n = some l := by
  simp only [gangplankref01_Put.l0]
  rw [if_neg (by omega)]
theorem u64_rng (x : Int) : 0 ≤ IntKind.u64.wrap x ∧ IntKind.u64.wrap x < 18446744073709551616 := by simp [IntKind.wrap, IntKind.bits, IntKind.signed]; omega
theorem byteAt_shift (v : Int) (n i : Nat) (s : Nat) (hs : shiftOf n i = (s : Int)) (h : s ≤ 64) : byteAt v n i = (v / 2 ^ s) % 256 := by
  unfold byteAt
  rw [hs, Int.toNat_natCast, Nat.min_eq_left h, Int.fdiv_eq_ediv_of_nonneg _ (by have := Int.pow_pos (n := 2) (by omega : (0 : Int) < 2) (m := s); omega)]
  simp [IntKind.wrap, IntKind.bits, IntKind.signed]
theorem ref_put4 (v : Int) (h0 : 0 ≤ v) (h1 : v < 18446744073709551616) (k : Nat) : gangplankref01_Put.f (k + 6) v 4 = some (strOfNums (putL v 4)) := by
  unfold gangplankref01_Put.f
  rw [if_neg (by decide), show decide ((4 : Int) > 8) = false from by decide]
  simp only [gangplankref01_Put.j0]
  rw [if_neg (by decide), show (⟨#[]⟩ : ByteArray) = strOfNums [] from rfl, put_step v 4 h0 h1 [] (by simp) 0 (by omega) (by omega) (by omega),
    put_step (v / 256) 4 (by omega) (by omega) _ (by simp) (0 + 1) (by omega) (by omega) (by omega),
    put_step (v / 256 / 256) 4 (by omega) (by omega) _ (by simp) (0 + 1 + 1) (by omega) (by omega) (by omega),
    put_step (v / 256 / 256 / 256) 4 (by omega) (by omega) _ (by simp) (0 + 1 + 1 + 1) (by omega) (by omega) (by omega),
    show (0 + 1 + 1 + 1 + 1 : Int) = 4 from rfl, put_end]
  have e : putL v 4 = [byteAt v 4 0, byteAt v 4 1, byteAt v 4 2, byteAt v 4 3] := rfl
  rw [e, byteAt_shift v 4 0 24 (by decide) (by omega), byteAt_shift v 4 1 16 (by decide) (by omega), byteAt_shift v 4 2 8 (by decide) (by omega), byteAt_shift v 4 3 0 (by decide) (by omega)]
  congr 2
  have a1 : v / 256 / 256 / 256 = v / 2 ^ 24 := by rw [Int.ediv_ediv_of_nonneg (by omega), Int.ediv_ediv_of_nonneg (by omega)]; rfl
  have a2 : v / 256 / 256 = v / 2 ^ 16 := by rw [Int.ediv_ediv_of_nonneg (by omega)]; rfl
  rw [a1, a2]
  simp
theorem ref_put2 (v : Int) (h0 : 0 ≤ v) (h1 : v < 18446744073709551616) (k : Nat) : gangplankref01_Put.f (k + 4) v 2 = some (strOfNums (putL v 2)) := by
  unfold gangplankref01_Put.f
  rw [if_neg (by decide), show decide ((2 : Int) > 8) = false from by decide]
  simp only [gangplankref01_Put.j0]
  rw [if_neg (by decide), show (⟨#[]⟩ : ByteArray) = strOfNums [] from rfl, put_step v 2 h0 h1 [] (by simp) 0 (by omega) (by omega) (by omega),
    put_step (v / 256) 2 (by omega) (by omega) _ (by simp) (0 + 1) (by omega) (by omega) (by omega),
    show (0 + 1 + 1 : Int) = 2 from rfl, put_end]
  have e : putL v 2 = [byteAt v 2 0, byteAt v 2 1] := rfl
  rw [e, byteAt_shift v 2 0 8 (by decide) (by omega), byteAt_shift v 2 1 0 (by decide) (by omega)]
  simp
/-! ### hashes -/
theorem refnext_some (h : Int) (b : UInt8) : gangplankref02_Next.f h (b.toNat : Int) = some (hstep h b) := rfl
theorem refjoin_loop (s : ByteArray) (hs : s.size ≤ 140737488351232) (d : Nat) : ∀ (k i : Nat) (h : Int), s.size - i = d → i ≤ s.size → d < k →
    gangplankref02_Join.l0 k h s (i : Int) = some (hjoin h (s.data.toList.drop i)) := by
  induction d with
  | zero =>
    intro k i h hd hi hk
    obtain ⟨k, rfl⟩ : ∃ m, k = m + 1 := ⟨k - 1, by omega⟩
    simp only [gangplankref02_Join.l0]
    rw [if_neg (by omega), List.drop_of_length_le (by simp; omega)]
    rfl
  | succ d ih =>
    intro k i h hd hi hk
    obtain ⟨k, rfl⟩ : ∃ m, k = m + 1 := ⟨k - 1, by omega⟩
    simp only [gangplankref02_Join.l0]
    have hlt : i < s.size := by omega
    have e : bt s (i : Int) = (s[i].toNat : Int) := by simp [bt, hlt]
    have w : wrap64 ((i : Int) + 1) = ((i + 1 : Nat) : Int) := by unfold wrap64; omega
    rw [if_pos (by omega), if_pos (by omega), e, refnext_some]
    simp only [Option.bind_some]
    have ed : s.data.toList.drop i = s[i] :: s.data.toList.drop (i + 1) := List.drop_eq_getElem_cons (by simpa using hlt)
    rw [w, ih k (i + 1) _ (by omega) (by omega) (by omega), ed]
    rfl
theorem refsum_some (s : ByteArray) (hs : s.size ≤ 140737488351232) (k : Nat) (hk : s.size < k) : gangplankref02_Sum.f k s = some (hjoin 14695981039346656037 s.data.toList) := by
  unfold gangplankref02_Sum.f gangplankref02_Join.f
  have := refjoin_loop s hs s.size k 0 14695981039346656037 (by omega) (by omega) hk
  rw [show ((0 : Nat) : Int) = 0 from rfl, List.drop_zero] at this
  rw [this]
  rfl
theorem join_some (h : Int) (s : ByteArray) (hs : s.size ≤ 140737488351232) : fnv_Join.f h s = some (hjoin h s.data.toList) := if_pos hs
theorem putL_size (v : Int) (n : Nat) : (strOfNums (putL v n)).size = n := by rw [Go.strOfNums_size]; unfold putL; rw [upto_length]
theorem put_some (v n : Int) (h1 : 0 ≤ v) (h2 : v < 18446744073709551616) (h3 : 1 ≤ n) (h4 : n ≤ 8) : octet_Put.f v n = some (strOfNums (putL v n.toNat)) := if_pos ⟨h1, h2, h3, h4⟩
theorem hash_val (a b : Int) : hashV a b = hjoin 14695981039346656037 ((strOfNums (putL (IntKind.u64.wrap a) 4)).data.toList ++ ((strOfNums (putL (IntKind.u64.wrap b) 2)).data.toList ++ [0, 0, 0, 0])) := by
  have h := hashV_eq a b
  have ha := u64_rng a
  have hb := u64_rng b
  unfold points_Hash.f at h
  rw [put_some _ 4 ha.1 ha.2 (by omega) (by omega), Option.bind_some] at h
  unfold fnv_Sum.f at h
  rw [join_some _ _ (by rw [putL_size]; decide), Option.bind_some, Option.bind_some, put_some _ 2 hb.1 hb.2 (by omega) (by omega), Option.bind_some, put_some 0 4 (by omega) (by omega) (by omega) (by omega), Option.bind_some] at h
  have s2 := putL_size (IntKind.u64.wrap b) (Int.toNat 2)
  have s4 := putL_size 0 (Int.toNat 4)
  rw [if_pos (by rw [s2, s4]; decide), join_some _ _ (by rw [ByteArray.size_append, s2, s4]; decide), Option.bind_some] at h
  rw [← Option.some.inj h, hjoin_append, hjoin_append]
  rw [ByteArray.data_append, Array.toList_append, hjoin_append]
  rfl
theorem refhash (a b : Int) (k : Nat) (hk : 20 ≤ k) : gangplankref09_Hash.f k a b = some (hashV a b) := by
  obtain ⟨m, rfl⟩ : ∃ m, k = m + 6 := ⟨k - 6, by omega⟩
  have ha := u64_rng a
  have hb := u64_rng b
  unfold gangplankref09_Hash.f
  have p2 : gangplankref01_Put.f (m + 6) (IntKind.u64.wrap b) 2 = _ := ref_put2 (IntKind.u64.wrap b) hb.1 hb.2 (m + 2)
  have s4 := putL_size (IntKind.u64.wrap a) 4
  have s2 := putL_size (IntKind.u64.wrap b) 2
  rw [ref_put4 _ ha.1 ha.2 m, Option.bind_some, p2, Option.bind_some, if_pos (by rw [s4, s2]; decide), if_pos (by rw [ByteArray.size_append, s4, s2]; decide)]
  have hs : ((strOfNums (putL (IntKind.u64.wrap a) 4) ++ strOfNums (putL (IntKind.u64.wrap b) 2)) ++ (⟨#[0, 0, 0, 0]⟩ : ByteArray)).size = 10 := by rw [ByteArray.size_append, ByteArray.size_append, s4, s2]; rfl
  rw [refsum_some _ (by rw [hs]; decide) _ (by rw [hs]; omega), Option.bind_some, hash_val, ByteArray.data_append, ByteArray.data_append, Array.toList_append, Array.toList_append, List.append_assoc]
/-! ### one order -/
theorem Pt_ext {x y : Pt} (h1 : x.f0 = y.f0) (h2 : x.f1 = y.f1) : x = y := by cases x; cases y; simp at h1 h2; subst h1; subst h2; rfl
theorem lessP_iff (x y : Pt) : lessP x y = true ↔ x.f0 < y.f0 ∨ (x.f0 = y.f0 ∧ x.f1 < y.f1) := by unfold lessP; simp
theorem leP_iff (x y : Pt) : leP x y = true ↔ ¬ (y.f0 < x.f0 ∨ (y.f0 = x.f0 ∧ y.f1 < x.f1)) := by unfold leP; rw [Bool.not_eq_true', ← Bool.not_eq_true, lessP_iff]
theorem leP_anti (x y : Pt) (h1 : leP x y = true) (h2 : leP y x = true) : x = y := by
  rw [leP_iff] at h1 h2
  exact Pt_ext (by omega) (by omega)
theorem leP_trans (x y z : Pt) (h1 : leP x y = true) (h2 : leP y z = true) : leP x z = true := by rw [leP_iff] at *; omega
theorem leP_total (x y : Pt) : (leP x y || leP y x) = true := by
  rw [Bool.or_eq_true, leP_iff, leP_iff]; omega
theorem srtF_perm : ∀ (f : Nat) (l : List Pt), (srtF f l).Perm l
  | 0, l => List.Perm.refl _
  | f + 1, l => by
    by_cases h : l.length < 2
    · rw [show srtF (f + 1) l = l from by unfold srtF; rw [if_pos h]]
    · rw [srtF_step f l h]
      refine (List.merge_perm_append _).trans (((srtF_perm f _).append (srtF_perm f _)).trans ?_)
      rw [List.take_append_drop]
theorem srtF_sorted : ∀ (f : Nat) (l : List Pt), l.length ≤ f + 1 → (srtF f l).Pairwise (fun x y => leP x y = true)
  | 0, l, h => by
    match l, h with
    | [], _ => exact List.Pairwise.nil
    | [x], _ => simp [srtF]
    | _ :: _ :: _, h => simp at h
  | f + 1, l, hl => by
    by_cases h : l.length < 2
    · rw [show srtF (f + 1) l = l from by unfold srtF; rw [if_pos h]]
      match l, h with
      | [], _ => exact List.Pairwise.nil
      | [x], _ => simp
      | _ :: _ :: _, h => simp at h; omega
    · rw [srtF_step f l h]
      exact List.pairwise_merge leP_trans leP_total _ _ (srtF_sorted f _ (by rw [List.length_take]; omega)) (srtF_sorted f _ (by rw [List.length_drop]; omega))
theorem ofL_perm (ps : List Bk) : (ofL ps).Perm ((ptsT ps).map ptOf) := (List.mergeSort_perm _ _).map _
theorem ofL_sorted (ps : List Bk) : (ofL ps).Pairwise (fun x y => leP x y = true) := by
  unfold ofL srtL
  rw [List.pairwise_map]
  have h := List.pairwise_mergeSort (le := fun x y : Pl => !(ltOf ordI y x)) (fun a b c h1 h2 => by rw [Bool.not_eq_true'] at *; rw [ltOrd] at *; simp at *; omega) (fun a b => by rw [Bool.or_eq_true, Bool.not_eq_true', Bool.not_eq_true', ltOrd, ltOrd]; simp; omega) (ptsT ps)
  refine h.imp ?_
  intro a b hab
  rw [Bool.not_eq_true', ltOrd] at hab
  rw [leP_iff]
  simpa [ptOf] using hab
/-- A list that rises and holds the same is it. -/
theorem ofL_unique (ps : List Bk) (l : List Pt) (hp : l.Perm ((ptsT ps).map ptOf)) (hs : l.Pairwise (fun x y => leP x y = true)) : l = ofL ps :=
  List.Perm.eq_of_pairwise (le := fun x y => leP x y = true) (fun a b _ _ h1 h2 => leP_anti a b h1 h2) hs (ofL_sorted ps) (hp.trans (ofL_perm ps).symm)
theorem srtF_ofL (ps : List Bk) : srtF ((ptsT ps).map ptOf).length ((ptsT ps).map ptOf) = ofL ps := ofL_unique ps _ (srtF_perm _ _) (srtF_sorted _ _ (by omega))
theorem ofL_length (ps : List Bk) : (ofL ps).length = (ptsT ps).length := by rw [(ofL_perm ps).length_eq, List.length_map]
theorem of_some (ps : List Bk) (h : ps.length ≤ 100000) : points_Of.f ps = some (ofL ps) := if_pos h
/-! ### the reference's points -/
theorem mxn (x : Int) : (8 * (mx 0 (mn x 16))) = ((8 * max 0 (min x 16)).toNat : Int) := by unfold mx mn; split <;> split <;> omega
theorem ref_in (ps : List Bk) (hps : ps.length ≤ 100000) (i : Nat) (hi : i < ps.length) (r : List Pt) : ∀ (d j : Nat) (out : List Pt), cntL ps[i] - j = d → j ≤ cntL ps[i] → out.length + d ≤ 8796093022207 →
    Ev (fun k => gangplankref09_Of.l0 k ps (out ++ ((ptsL ps[i]).drop j).map ptOf) ((i + 1 : Nat) : Int)) r → Ev (fun k => gangplankref09_Of.l1 k ps out (i : Int) (j : Int)) r
  | 0, j, out, hd, hj, ho, h => by
    have hl : cntL ps[i] ≤ 128 := cntL_le _
    refine Ev.step (f := fun k => gangplankref09_Of.l0 k ps out ((i + 1 : Nat) : Int)) (fun k => ?_) ?_
    · simp only [gangplankref09_Of.l1]
      have e : rd_T39 ps (i : Int) = ps[i] := by unfold rd_T39; simp [hi]
      have ec : (cntL ps[i] : Int) = 8 * max 0 (min ps[i].f1 16) := (cntL_int _).symm
      have w : wrap64 ((i : Int) + 1) = ((i + 1 : Nat) : Int) := by unfold wrap64; omega
      rw [if_pos (by omega), if_pos (by omega), e, mxn, if_neg (by omega), w]
    · rw [List.drop_of_length_le (by rw [ptsL_length]; omega), List.map_nil, List.append_nil] at h
      exact h
  | d + 1, j, out, hd, hj, ho, h => by
    have hl : cntL ps[i] ≤ 128 := cntL_le _
    have hlt : j < (ptsL ps[i]).length := by rw [ptsL_length]; omega
    have hx : (ptsL ps[i])[j] = ⟨hashV ps[i].f0 (j : Int), ps[i].f0⟩ := by simp [ptsL]
    have hd2 : (ptsL ps[i]).drop j = ⟨hashV ps[i].f0 (j : Int), ps[i].f0⟩ :: (ptsL ps[i]).drop (j + 1) := by rw [List.drop_eq_getElem_cons hlt, hx]
    refine Ev.step (f := fun k => (gangplankref09_Hash.f k ps[i].f0 (j : Int)).bind fun t => if out.length < 8796093022208 then gangplankref09_Of.l1 k ps (out ++ [⟨t, ps[i].f0⟩]) (i : Int) ((j + 1 : Nat) : Int) else none) (fun k => ?_) ?_
    · simp only [gangplankref09_Of.l1]
      have e : rd_T39 ps (i : Int) = ps[i] := by unfold rd_T39; simp [hi]
      have ec : (cntL ps[i] : Int) = 8 * max 0 (min ps[i].f1 16) := (cntL_int _).symm
      have w : wrap64 ((j : Int) + 1) = ((j + 1 : Nat) : Int) := by unfold wrap64; omega
      rw [if_pos (by omega), if_pos (by omega), e, mxn, if_pos (by omega), w]
    · refine Ev.bind (a := hashV ps[i].f0 (j : Int)) ⟨20, fun k hk => refhash _ _ k hk⟩ ?_
      simp only [if_pos (show out.length < 8796093022208 by omega)]
      refine ref_in ps hps i hi r d (j + 1) _ (by omega) (by omega) (by rw [List.length_append, List.length_singleton]; omega) ?_
      rw [hd2, List.map_cons] at h
      rw [List.append_assoc]
      exact h
theorem ref_out (ps : List Bk) (hps : ps.length ≤ 100000) : ∀ (d i : Nat), ps.length - i = d → i ≤ ps.length → Ev (fun k => gangplankref09_Of.l0 k ps ((ptsT (ps.take i)).map ptOf) (i : Int)) (ofL ps)
  | 0, i, hd, hi => by
    have hpl : (ptsT ps).length ≤ 128 * ps.length := ptsT_len ps
    refine Ev.step (f := fun _ => some (ofL ps)) (fun k => ?_) (Ev.now _)
    simp only [gangplankref09_Of.l0]
    rw [if_neg (by omega), show ps.take i = ps from List.take_of_length_le (by omega)]
    rw [show gangplankref09_sort.f ((ptsT ps).map ptOf) = some (ofL ps) from by
      unfold gangplankref09_sort.f
      rw [if_pos (by rw [List.length_map]; omega), srtF_ofL]]
    rfl
  | d + 1, i, hd, hi => by
    have hlt : i < ps.length := by omega
    have hpl := ptsT_len (ps.take i)
    have hln : (ps.take i).length = i := by rw [List.length_take]; omega
    refine Ev.step (f := fun k => gangplankref09_Of.l1 k ps ((ptsT (ps.take i)).map ptOf) (i : Int) 0) (fun k => ?_) ?_
    · simp only [gangplankref09_Of.l0]
      rw [if_pos (by omega)]
    · refine ref_in ps hps i hlt (ofL ps) (cntL ps[i]) 0 _ (by omega) (Nat.zero_le _) (by rw [List.length_map]; have := cntL_le ps[i]; omega) ?_
      have h := ref_out ps hps d (i + 1) (by omega) (by omega)
      have e : ps.getD i z39 = ps[i] := by simp [hlt]
      rw [ptsT_take ps i hlt, e, List.map_append] at h
      rw [List.drop_zero]
      exact h
theorem ref_of (ps : List Bk) (hps : ps.length ≤ 100000) : Ev (fun k => gangplankref09_Of.f k ps) (ofL ps) := by
  have h := ref_out ps hps ps.length 0 (by omega) (Nat.zero_le _)
  simpa [gangplankref09_Of.f, ptsT] using h
/-! ### are lists alike -/
def eqP (x y : Pt) : Bool := (x.f0 == y.f0) && (x.f1 == y.f1)
def sameP (a b : List Pt) : Bool := decide (a.length = b.length) && (a.zip b).all fun p => eqP p.1 p.2
theorem eqP_iff (x y : Pt) : eqP x y = true ↔ x = y := by
  unfold eqP
  rw [Bool.and_eq_true, beq_iff_eq, beq_iff_eq]
  exact ⟨fun h => Pt_ext h.1 h.2, fun h => by subst h; exact ⟨rfl, rfl⟩⟩
theorem sameP_iff (a b : List Pt) : sameP a b = true ↔ a = b := by
  unfold sameP
  rw [Bool.and_eq_true, decide_eq_true_eq, List.all_eq_true]
  constructor
  · rintro ⟨hl, h⟩
    refine List.ext_getElem hl fun i h1 h2 => ?_
    exact (eqP_iff _ _).1 (h (a[i], b[i]) (List.mem_iff_getElem.2 ⟨i, by rw [List.length_zip]; omega, by simp⟩))
  · rintro rfl
    refine ⟨rfl, fun p hp => ?_⟩
    obtain ⟨i, hi, rfl⟩ := List.mem_iff_getElem.1 hp
    simp [eqP]
theorem rdPt (xs : List Pt) (i : Nat) (h : i < xs.length) : rd_T30 xs (i : Int) = xs[i] := by unfold rd_T30; simp [h]
theorem neP (x y : Pt) : (!((x.f0) == (y.f0)) || (!((x.f1) == (y.f1)))) = !eqP x y := by unfold eqP; rw [Bool.not_and]
theorem refsame_loop (a b : List Pt) (hl : a.length = b.length) (hm : a.length ≤ 4611686018427387904) : ∀ (d i k : Nat), a.length - i = d → i ≤ a.length → d < k →
    gangplankref09_Same.l0 k a b (i : Int) = some (((a.zip b).drop i).all fun p => eqP p.1 p.2)
  | d, i, k, hd, hi, hk => by
    obtain ⟨k, rfl⟩ : ∃ m, k = m + 1 := ⟨k - 1, by omega⟩
    simp only [gangplankref09_Same.l0]
    have hz : (a.zip b).length = a.length := by rw [List.length_zip]; omega
    by_cases h : i < a.length
    · obtain ⟨d, rfl⟩ : ∃ m, d = m + 1 := ⟨d - 1, by omega⟩
      have w : wrap64 ((i : Int) + 1) = ((i + 1 : Nat) : Int) := by unfold wrap64; omega
      have ed : (a.zip b).drop i = (a[i], b[i]) :: (a.zip b).drop (i + 1) := by rw [List.drop_eq_getElem_cons (by omega)]; simp
      rw [if_pos (by omega), if_pos (by omega), if_pos (by omega), rdPt a i h, rdPt b i (by omega), neP, w, refsame_loop a b hl hm d (i + 1) k (by omega) (by omega) (by omega), ed, List.all_cons]
      cases eqP a[i] b[i] <;> simp
    · rw [if_neg (by omega), List.drop_of_length_le (by omega)]
      rfl
theorem refsame (a b : List Pt) (hm : a.length ≤ 4611686018427387904) (k : Nat) (hk : a.length < k) : gangplankref09_Same.f k a b = some (sameP a b) := by
  unfold gangplankref09_Same.f sameP
  by_cases h : a.length = b.length
  · rw [if_pos (by omega)]
    have h2 := refsame_loop a b h hm a.length 0 k (by omega) (by omega) hk
    rw [show ((0 : Nat) : Int) = 0 from rfl, List.drop_zero] at h2
    rw [h2, decide_eq_true h, Bool.true_and]
  · rw [if_neg (by omega), decide_eq_false h, Bool.false_and]
theorem same_loop (a b : List Pt) (hl : a.length = b.length) (hm : a.length ≤ 4611686018427387904) : ∀ (d i k : Nat), a.length - i = d → i ≤ a.length → d < k →
    api_Point.l0 k a b (a.length : Int) (i : Int) = some (((a.zip b).drop i).all fun p => eqP p.1 p.2)
  | d, i, k, hd, hi, hk => by
    obtain ⟨k, rfl⟩ : ∃ m, k = m + 1 := ⟨k - 1, by omega⟩
    simp only [api_Point.l0]
    have hz : (a.zip b).length = a.length := by rw [List.length_zip]; omega
    by_cases h : i < a.length
    · obtain ⟨d, rfl⟩ : ∃ m, d = m + 1 := ⟨d - 1, by omega⟩
      have w : wrap64 ((i : Int) + 1) = ((i + 1 : Nat) : Int) := by unfold wrap64; omega
      have ed : (a.zip b).drop i = (a[i], b[i]) :: (a.zip b).drop (i + 1) := by rw [List.drop_eq_getElem_cons (by omega)]; simp
      rw [if_pos (by omega), if_pos (by omega), if_pos (by omega), if_pos (by omega), rdPt a i h, rdPt b i (by omega), neP, w, same_loop a b hl hm d (i + 1) k (by omega) (by omega) (by omega), ed, List.all_cons]
      cases eqP a[i] b[i] <;> simp
    · rw [if_neg (by omega), List.drop_of_length_le (by omega)]
      rfl
theorem same (a b : List Pt) (hm : a.length ≤ 4611686018427387904) (k : Nat) (hk : a.length < k) : points_Same.f k a b = some (sameP a b) := by
  unfold points_Same.f api_Point.f sameP
  by_cases h : a.length = b.length
  · rw [if_pos (by omega)]
    have h2 := same_loop a b h hm a.length 0 k (by omega) (by omega) hk
    rw [show ((0 : Nat) : Int) = 0 from rfl, List.drop_zero] at h2
    rw [h2, decide_eq_true h, Bool.true_and]
    rfl
  · rw [if_neg (by omega), decide_eq_false h, Bool.false_and]
    rfl
theorem order_ev (a b c d : Int) (k : Nat) (hk : 3 ≤ k) : points_place_order.f k a b c d = some (ordI ⟨a, b⟩ ⟨c, d⟩) := by
  unfold points_place_order.f
  rw [cmpI_u64, Option.bind_some, cmpI_int, Option.bind_some, at_rounds (g := fun k => cmp_Or_int.f k [cmpI a c, cmpI b d]) (fun k => cmp_Or_int.mono _ k) hk (orI_eq _ _)]
  rfl
theorem less (x y : Pt) (k : Nat) (hk : 3 ≤ k) : points_Less.f k x.f0 x.f1 y.f0 y.f1 = some (lessP x y) := by
  unfold points_Less.f
  rw [order_ev _ _ _ _ k hk, Option.bind_some]
  congr 1
  exact decide_eq_decide.2 (ordI_neg ⟨x.f0, x.f1⟩ ⟨y.f0, y.f1⟩)
/-! ### the document's example -/
theorem ofL_ids (ps : List Bk) (x : Pt) (hx : x ∈ ofL ps) : ∃ b ∈ ps, ∃ n : Nat, n < cntL b ∧ x = ⟨hashV b.f0 n, b.f0⟩ := by
  obtain ⟨y, hy, rfl⟩ := List.mem_map.1 ((ofL_perm ps).mem_iff.1 hx)
  obtain ⟨b, hb, hy⟩ := List.mem_flatMap.1 hy
  obtain ⟨n, hn, rfl⟩ := List.mem_map.1 hy
  exact ⟨b, hb, n, List.mem_range.1 hn, rfl⟩
theorem ofL_rises (ps : List Bk) (i : Nat) (h0 : 0 < i) (h : i < (ofL ps).length) : lessP (ofL ps)[i] (ofL ps)[i - 1] = false := by
  have h1 := List.pairwise_iff_getElem.1 (ofL_sorted ps) (i - 1) i (by omega) h (by omega)
  simpa [leP] using h1
theorem works_loop (l : List Pt) (h7 : ∀ x ∈ l, x.f1 = 7) (hr : ∀ (i : Nat) (h : i < l.length), 0 < i → lessP l[i] l[i - 1] = false) (hl : l.length = 16) : ∀ (d i k : Nat), 16 - i = d → i ≤ 16 → d + 30 ≤ k → gangplanklaw09_works.l0 k l (i : Int) = some true
  | d, i, k, hd, hi, hk => by
    obtain ⟨k, rfl⟩ : ∃ m, k = m + 1 := ⟨k - 1, by omega⟩
    simp only [gangplanklaw09_works.l0]
    by_cases h : i < 16
    · obtain ⟨d, rfl⟩ : ∃ m, d = m + 1 := ⟨d - 1, by omega⟩
      have w : wrap64 ((i : Int) + 1) = ((i + 1 : Nat) : Int) := by unfold wrap64; omega
      rw [if_pos (by omega), if_pos (by omega), rdPt l i (by omega), if_pos (h7 _ (List.getElem_mem _))]
      by_cases h0 : 0 < i
      · have w2 : wrap64 ((i : Int) - 1) = ((i - 1 : Nat) : Int) := by unfold wrap64; omega
        rw [if_pos (by omega), w2, if_pos (by omega), if_pos (by omega), rdPt l (i - 1) (by omega), less _ _ k (by omega), hr i (by omega) h0, Option.bind_some, if_neg (by decide), w]
        exact works_loop l h7 hr hl d (i + 1) k (by omega) (by omega) (by omega)
      · rw [if_neg (by omega), w]
        exact works_loop l h7 hr hl d (i + 1) k (by omega) (by omega) (by omega)
    · have e0 : ofL [] = [] := by simp [ofL, srtL, ptsT]
      rw [if_neg (by omega), of_some [] (by simp), Option.bind_some, e0, if_pos (show (([] : List Pt).length : Int) = 0 from rfl), less ⟨1, 0⟩ ⟨1, 1⟩ k (by omega), Option.bind_some, if_pos (by decide), less ⟨0, 0⟩ ⟨0, 0⟩ k (by omega), Option.bind_some, if_neg (by decide), same l l (by omega) k (by omega), Option.bind_some, if_pos ((sameP_iff _ _).2 rfl), same l [] (by omega) k (by omega), Option.bind_some]
      have : sameP l [] = false := by
        rw [← Bool.not_eq_true, sameP_iff]
        intro h
        rw [h] at hl
        simp at hl
      rw [this]
      rfl
theorem works (k : Nat) (hk : 60 ≤ k) : gangplanklaw09_works.f k = some true := by
  unfold gangplanklaw09_works.f
  rw [of_some _ (by simp), Option.bind_some]
  have hl : (ofL [⟨7, 2⟩]).length = 16 := by rw [ofL_length]; simp [ptsT, ptsL, cntL]; decide
  rw [if_pos (by rw [hl]; rfl)]
  refine works_loop _ (fun x hx => ?_) (fun i h h0 => ofL_rises _ i h0 h) hl 16 0 k (by omega) (by omega) (by omega)
  obtain ⟨b, hb, n, _, rfl⟩ := ofL_ids _ x hx
  simp at hb
  subst hb
  rfl
end Go.Proofs.Ytcekkbimdogboaa.PointsLaw
