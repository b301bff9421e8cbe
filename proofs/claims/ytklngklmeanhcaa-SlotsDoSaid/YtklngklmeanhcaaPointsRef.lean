/- The points of pools, as plain lists: hashes, one order, the reference's sort, comparisons: laws with no program in sight. -/
import Derived.Test.YtklngklmeanhcaaPx8
import Derived.Test.YtklngklmeanhcaaPx6
import Derived.Test.YtklngklmeanhcaaPointsBase
import Derived.Laws.BytesArg
set_option linter.unusedVariables false
set_option linter.unusedSimpArgs false
namespace Go.Proofs.Ytklngklmeanhcaa.PointsLaw
open Go.RowKit Go.Proofs.Ytklngklmeanhcaa.P Go.Proofs.YtklngklmeanhcaaW.PrintWords Go.Proofs.YtklngklmeanhcaaW.PrintLast Go.Proofs.Ytklngklmeanhcaa.Hand

/-! ### bytes of a number -/
theorem strOf_cons (a : Int) (l : List Int) : strOfNums [a] ++ strOfNums l = strOfNums (a :: l) := by
  refine ByteArray.ext ?_
  rw [ByteArray.data_append]
  exact Array.ext' (by simp [strOfNums])
theorem put_step (v n : Int) (h0 : 0 ≤ v) (h1 : v < 18446744073709551616) (l : List Int) (hl : l.length ≤ 8) (i : Int) (hi0 : 0 ≤ i) (hi : i < n) (hn : n ≤ 8) (k : Nat) :
    gangplankref01_Put.l0 (k + 1) v n (strOfNums l) i = gangplankref01_Put.l0 k (v / 256) n (strOfNums (v % 256 :: l)) (i + 1) := by
  simp only [gangplankref01_Put.l0]
  have w : wrap64 (i + 1) = i + 1 := by unfold wrap64; omega
  have e1 : Int.tmod v 256 % 256 = v % 256 := by rw [Int.tmod_eq_emod_of_nonneg h0]; omega
  have e2 : IntKind.u64.wrap (Int.tdiv v 256) = v / 256 := by
    rw [Int.tdiv_eq_ediv_of_nonneg h0]
    simp [IntKind.wrap, IntKind.bits, IntKind.signed]
    omega
  rw [if_pos hi, Option.bind_some, e1, e2, w]
  have hsz : (strOfNums [v % 256]).size + (strOfNums l).size ≤ 9223372036854775807 := by rw [Go.strOfNums_size, Go.strOfNums_size]; simp; omega
  rw [if_pos hsz, strOf_cons]
theorem put_end (v n : Int) (l : ByteArray) (k : Nat) : gangplankref01_Put.l0 (k + 1) v n l n = some l := by
  simp only [gangplankref01_Put.l0]
  rw [if_neg (by omega)]
theorem u64_rng (x : Int) : 0 ≤ IntKind.u64.wrap x ∧ IntKind.u64.wrap x < 18446744073709551616 := by simp [IntKind.wrap, IntKind.bits, IntKind.signed]; omega
theorem byteAt_shift (v : Int) (n i : Nat) (s : Nat) (hs : shiftOf n i = (s : Int)) (h : s ≤ 64) : byteAt v n i = (v / 2 ^ s) % 256 := by
  unfold byteAt
  rw [hs, Int.toNat_natCast, Nat.min_eq_left h, Int.fdiv_eq_ediv_of_nonneg _ (by have := Int.pow_pos (n := 2) (by omega : (0 : Int) < 2) (m := s); omega)]
  simp [IntKind.wrap, IntKind.bits, IntKind.signed]
theorem ref_put4 (v : Int) (h0 : 0 ≤ v) (h1 : v < 18446744073709551616) (k : Nat) : gangplankref01_Put.f (k + 6) v 4 = some (strOfNums (putL v 4)) := by
  unfold gangplankref01_Put.f
  rw [if_neg (by decide), show decide ((4 : Int) > 8) = false from by decide]
  simp only [gangplankref01_Put.j0]
  rw [if_neg (by decide), show (⟨#[]⟩ : ByteArray) = strOfNums [] from rfl, put_step v 4 h0 h1 [] (by simp) 0 (by omega) (by omega) (by omega),
    put_step (v / 256) 4 (by omega) (by omega) _ (by simp) (0 + 1) (by omega) (by omega) (by omega),
    put_step (v / 256 / 256) 4 (by omega) (by omega) _ (by simp) (0 + 1 + 1) (by omega) (by omega) (by omega),
    put_step (v / 256 / 256 / 256) 4 (by omega) (by omega) _ (by simp) (0 + 1 + 1 + 1) (by omega) (by omega) (by omega),
    show (0 + 1 + 1 + 1 + 1 : Int) = 4 from rfl, put_end]
  have e : putL v 4 = [byteAt v 4 0, byteAt v 4 1, byteAt v 4 2, byteAt v 4 3] := rfl
  rw [e, byteAt_shift v 4 0 24 (by decide) (by omega), byteAt_shift v 4 1 16 (by decide) (by omega), byteAt_shift v 4 2 8 (by decide) (by omega), byteAt_shift v 4 3 0 (by decide) (by omega)]
  congr 2
  have a1 : v / 256 / 256 / 256 = v / 2 ^ 24 := by rw [Int.ediv_ediv_of_nonneg (by omega), Int.ediv_ediv_of_nonneg (by omega)]; rfl
  have a2 : v / 256 / 256 = v / 2 ^ 16 := by rw [Int.ediv_ediv_of_nonneg (by omega)]; rfl
  rw [a1, a2]
  simp
theorem ref_put2 (v : Int) (h0 : 0 ≤ v) (h1 : v < 18446744073709551616) (k : Nat) : gangplankref01_Put.f (k + 4) v 2 = some (strOfNums (putL v 2)) := by
  unfold gangplankref01_Put.f
  rw [if_neg (by decide), show decide ((2 : Int) > 8) = false from by decide]
  simp only [gangplankref01_Put.j0]
  rw [if_neg (by decide), show (⟨#[]⟩ : ByteArray) = strOfNums [] from rfl, put_step v 2 h0 h1 [] (by simp) 0 (by omega) (by omega) (by omega),
    put_step (v / 256) 2 (by omega) (by omega) _ (by simp) (0 + 1) (by omega) (by omega) (by omega),
    show (0 + 1 + 1 : Int) = 2 from rfl, put_end]
  have e : putL v 2 = [byteAt v 2 0, byteAt v 2 1] := rfl
  rw [e, byteAt_shift v 2 0 8 (by decide) (by omega), byteAt_shift v 2 1 0 (by decide) (by omega)]
  simp
/-! ### hashes -/
theorem refnext_some (h : Int) (b : UInt8) : gangplankref02_Next.f h (b.toNat : Int) = some (hstep h b) := rfl
theorem refjoin_loop (s : ByteArray) (hs : s.size ≤ 140737488351232) (d : Nat) : ∀ (k i : Nat) (h : Int), s.size - i = d → i ≤ s.size → d < k →
    gangplankref02_Join.l0 k h s (i : Int) = some (hjoin h (s.data.toList.drop i)) := by
  induction d with
  | zero =>
    intro k i h hd hi hk
    obtain ⟨k, rfl⟩ : ∃ m, k = m + 1 := ⟨k - 1, by omega⟩
    simp only [gangplankref02_Join.l0]
    rw [if_neg (by omega), List.drop_of_length_le (by simp; omega)]
    rfl
  | succ d ih =>
    intro k i h hd hi hk
    obtain ⟨k, rfl⟩ : ∃ m, k = m + 1 := ⟨k - 1, by omega⟩
    simp only [gangplankref02_Join.l0]
    have hlt : i < s.size := by omega
    have e : bt s (i : Int) = (s[i].toNat : Int) := by simp [bt, hlt]
    have w : wrap64 ((i : Int) + 1) = ((i + 1 : Nat) : Int) := by unfold wrap64; omega
    rw [if_pos (by omega), if_pos (by omega), e, refnext_some]
    simp only [Option.bind_some]
    have ed : s.data.toList.drop i = s[i] :: s.data.toList.drop (i + 1) := List.drop_eq_getElem_cons (by simpa using hlt)
    rw [w, ih k (i + 1) _ (by omega) (by omega) (by omega), ed]
    rfl
theorem refsum_some (s : ByteArray) (hs : s.size ≤ 140737488351232) (k : Nat) (hk : s.size < k) : gangplankref02_Sum.f k s = some (hjoin 14695981039346656037 s.data.toList) := by
  unfold gangplankref02_Sum.f gangplankref02_Join.f
  have := refjoin_loop s hs s.size k 0 14695981039346656037 (by omega) (by omega) hk
  rw [show ((0 : Nat) : Int) = 0 from rfl, List.drop_zero] at this
  rw [this]
  rfl
theorem join_some (h : Int) (s : ByteArray) (hs : s.size ≤ 140737488351232) : fnv_Join.f h s = some (hjoin h s.data.toList) := if_pos hs
theorem putL_size (v : Int) (n : Nat) : (strOfNums (putL v n)).size = n := by rw [Go.strOfNums_size]; unfold putL; rw [upto_length]
theorem put_some (v n : Int) (h1 : 0 ≤ v) (h2 : v < 18446744073709551616) (h3 : 1 ≤ n) (h4 : n ≤ 8) : octet_Put.f v n = some (strOfNums (putL v n.toNat)) := if_pos ⟨h1, h2, h3, h4⟩
theorem hash_val (a b : Int) : hashV a b = hjoin 14695981039346656037 ((strOfNums (putL (IntKind.u64.wrap a) 4)).data.toList ++ ((strOfNums (putL (IntKind.u64.wrap b) 2)).data.toList ++ [0, 0, 0, 0])) := by
  have h := hashV_eq a b
  have ha := u64_rng a
  have hb := u64_rng b
  unfold points_Hash.f at h
  rw [put_some _ 4 ha.1 ha.2 (by omega) (by omega), Option.bind_some] at h
  unfold fnv_Sum.f at h
  rw [join_some _ _ (by rw [putL_size]; decide), Option.bind_some, Option.bind_some, put_some _ 2 hb.1 hb.2 (by omega) (by omega), Option.bind_some, put_some 0 4 (by omega) (by omega) (by omega) (by omega), Option.bind_some] at h
  have s2 := putL_size (IntKind.u64.wrap b) (Int.toNat 2)
  have s4 := putL_size 0 (Int.toNat 4)
  rw [if_pos (by rw [s2, s4]; decide), join_some _ _ (by rw [ByteArray.size_append, s2, s4]; decide), Option.bind_some] at h
  rw [← Option.some.inj h, hjoin_append, hjoin_append]
  rw [ByteArray.data_append, Array.toList_append, hjoin_append]
  rfl
theorem refhash (a b : Int) (k : Nat) (hk : 20 ≤ k) : gangplankref09_Hash.f k a b = some (hashV a b) := by
  obtain ⟨m, rfl⟩ : ∃ m, k = m + 6 := ⟨k - 6, by omega⟩
  have ha := u64_rng a
  have hb := u64_rng b
  unfold gangplankref09_Hash.f
  have p2 : gangplankref01_Put.f (m + 6) (IntKind.u64.wrap b) 2 = _ := ref_put2 (IntKind.u64.wrap b) hb.1 hb.2 (m + 2)
  have s4 := putL_size (IntKind.u64.wrap a) 4
  have s2 := putL_size (IntKind.u64.wrap b) 2
  rw [ref_put4 _ ha.1 ha.2 m, Option.bind_some, p2, Option.bind_some, if_pos (by rw [s4, s2]; decide), if_pos (by rw [ByteArray.size_append, s4, s2]; decide)]
  have hs : ((strOfNums (putL (IntKind.u64.wrap a) 4) ++ strOfNums (putL (IntKind.u64.wrap b) 2)) ++ (⟨#[0, 0, 0, 0]⟩ : ByteArray)).size = 10 := by rw [ByteArray.size_append, ByteArray.size_append, s4, s2]; rfl
  rw [refsum_some _ (by rw [hs]; decide) _ (by rw [hs]; omega), Option.bind_some, hash_val, ByteArray.data_append, ByteArray.data_append, Array.toList_append, Array.toList_append, List.append_assoc]
theorem srtF_perm : ∀ (f : Nat) (l : List Pt), (srtF f l).Perm l
  | 0, l => List.Perm.refl _
  | f + 1, l => by
    by_cases h : l.length < 2
    · rw [show srtF (f + 1) l = l from by unfold srtF; rw [if_pos h]]
    · rw [srtF_step f l h]
      refine (List.merge_perm_append _).trans (((srtF_perm f _).append (srtF_perm f _)).trans ?_)
      rw [List.take_append_drop]
theorem srtF_sorted : ∀ (f : Nat) (l : List Pt), l.length ≤ f + 1 → (srtF f l).Pairwise (fun x y => leP x y = true)
  | 0, l, h => by
    match l, h with
    | [], _ => exact List.Pairwise.nil
    | [x], _ => simp [srtF]
    | _ :: _ :: _, h => simp at h
  | f + 1, l, hl => by
    by_cases h : l.length < 2
    · rw [show srtF (f + 1) l = l from by unfold srtF; rw [if_pos h]]
      match l, h with
      | [], _ => exact List.Pairwise.nil
      | [x], _ => simp
      | _ :: _ :: _, h => simp at h; omega
    · rw [srtF_step f l h]
      exact List.pairwise_merge leP_trans leP_total _ _ (srtF_sorted f _ (by rw [List.length_take]; omega)) (srtF_sorted f _ (by rw [List.length_drop]; omega))
theorem srtF_ofL (ps : List Bk) : srtF ((ptsT ps).map ptOf).length ((ptsT ps).map ptOf) = ofL ps := ofL_unique ps _ (srtF_perm _ _) (srtF_sorted _ _ (by omega))
/-! ### the reference's points -/
theorem mxn (x : Int) : (8 * (mx 0 (mn x 16))) = ((8 * max 0 (min x 16)).toNat : Int) := by unfold mx mn; split <;> split <;> omega
theorem ref_in (ps : List Bk) (hps : ps.length ≤ 100000) (i : Nat) (hi : i < ps.length) (r : List Pt) : ∀ (d j : Nat) (out : List Pt), cntL ps[i] - j = d → j ≤ cntL ps[i] → out.length + d ≤ 8796093022207 →
    Ev (fun k => gangplankref09_Of.l0 k ps (out ++ ((ptsL ps[i]).drop j).map ptOf) ((i + 1 : Nat) : Int)) r → Ev (fun k => gangplankref09_Of.l1 k ps out (i : Int) (j : Int)) r
  | 0, j, out, hd, hj, ho, h => by
    have hl : cntL ps[i] ≤ 128 := cntL_le _
    refine Ev.step (f := fun k => gangplankref09_Of.l0 k ps out ((i + 1 : Nat) : Int)) (fun k => ?_) ?_
    · simp only [gangplankref09_Of.l1]
      have e : rd_T56 ps (i : Int) = ps[i] := by unfold rd_T56; simp [hi]
      have ec : (cntL ps[i] : Int) = 8 * max 0 (min ps[i].f1 16) := (cntL_int _).symm
      have w : wrap64 ((i : Int) + 1) = ((i + 1 : Nat) : Int) := by unfold wrap64; omega
      rw [if_pos (by omega), if_pos (by omega), e, mxn, if_neg (by omega), w]
    · rw [List.drop_of_length_le (by rw [ptsL_length]; omega), List.map_nil, List.append_nil] at h
      exact h
  | d + 1, j, out, hd, hj, ho, h => by
    have hl : cntL ps[i] ≤ 128 := cntL_le _
    have hlt : j < (ptsL ps[i]).length := by rw [ptsL_length]; omega
    have hx : (ptsL ps[i])[j] = ⟨hashV ps[i].f0 (j : Int), ps[i].f0⟩ := by simp [ptsL]
    have hd2 : (ptsL ps[i]).drop j = ⟨hashV ps[i].f0 (j : Int), ps[i].f0⟩ :: (ptsL ps[i]).drop (j + 1) := by rw [List.drop_eq_getElem_cons hlt, hx]
    refine Ev.step (f := fun k => (gangplankref09_Hash.f k ps[i].f0 (j : Int)).bind fun t => if out.length < 8796093022208 then gangplankref09_Of.l1 k ps (out ++ [⟨t, ps[i].f0⟩]) (i : Int) ((j + 1 : Nat) : Int) else none) (fun k => ?_) ?_
    · simp only [gangplankref09_Of.l1]
      have e : rd_T56 ps (i : Int) = ps[i] := by unfold rd_T56; simp [hi]
      have ec : (cntL ps[i] : Int) = 8 * max 0 (min ps[i].f1 16) := (cntL_int _).symm
      have w : wrap64 ((j : Int) + 1) = ((j + 1 : Nat) : Int) := by unfold wrap64; omega
      rw [if_pos (by omega), if_pos (by omega), e, mxn, if_pos (by omega), w]
    · refine Ev.bind (a := hashV ps[i].f0 (j : Int)) ⟨20, fun k hk => refhash _ _ k hk⟩ ?_
      simp only [if_pos (show out.length < 8796093022208 by omega)]
      refine ref_in ps hps i hi r d (j + 1) _ (by omega) (by omega) (by rw [List.length_append, List.length_singleton]; omega) ?_
      rw [hd2, List.map_cons] at h
      rw [List.append_assoc]
      exact h
theorem ref_out (ps : List Bk) (hps : ps.length ≤ 100000) : ∀ (d i : Nat), ps.length - i = d → i ≤ ps.length → Ev (fun k => gangplankref09_Of.l0 k ps ((ptsT (ps.take i)).map ptOf) (i : Int)) (ofL ps)
  | 0, i, hd, hi => by
    have hpl : (ptsT ps).length ≤ 128 * ps.length := ptsT_len ps
    refine Ev.step (f := fun _ => some (ofL ps)) (fun k => ?_) (Ev.now _)
    simp only [gangplankref09_Of.l0]
    rw [if_neg (by omega), show ps.take i = ps from List.take_of_length_le (by omega)]
    rw [show gangplankref09_sort.f ((ptsT ps).map ptOf) = some (ofL ps) from by
      unfold gangplankref09_sort.f
      rw [if_pos (by rw [List.length_map]; omega), srtF_ofL]]
    rfl
  | d + 1, i, hd, hi => by
    have hlt : i < ps.length := by omega
    have hpl := ptsT_len (ps.take i)
    have hln : (ps.take i).length = i := by rw [List.length_take]; omega
    refine Ev.step (f := fun k => gangplankref09_Of.l1 k ps ((ptsT (ps.take i)).map ptOf) (i : Int) 0) (fun k => ?_) ?_
    · simp only [gangplankref09_Of.l0]
      rw [if_pos (by omega)]
    · refine ref_in ps hps i hlt (ofL ps) (cntL ps[i]) 0 _ (by omega) (Nat.zero_le _) (by rw [List.length_map]; have := cntL_le ps[i]; omega) ?_
      have h := ref_out ps hps d (i + 1) (by omega) (by omega)
      have e : ps.getD i z56 = ps[i] := by simp [hlt]
      rw [ptsT_take ps i hlt, e, List.map_append] at h
      rw [List.drop_zero]
      exact h
theorem ref_of (ps : List Bk) (hps : ps.length ≤ 100000) : Ev (fun k => gangplankref09_Of.f k ps) (ofL ps) := by
  have h := ref_out ps hps ps.length 0 (by omega) (Nat.zero_le _)
  simpa [gangplankref09_Of.f, ptsT] using h
end Go.Proofs.Ytklngklmeanhcaa.PointsLaw
