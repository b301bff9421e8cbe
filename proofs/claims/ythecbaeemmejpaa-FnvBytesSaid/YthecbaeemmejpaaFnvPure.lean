/- The six statements of the hash of bytes, over numbers and lists. -/
import Derived.Test.YthecbaeemmejpaaHashLaw
import Derived.Test.YthecbaeemmejpaaPx2
set_option linter.unusedVariables false
set_option linter.unusedSimpArgs false
namespace Go.Proofs.Ythecbaeemmejpaa.Pure
open Go.RowKit Go.Proofs.Ythecbaeemmejpaa.P Go.Proofs.YthecbaeemmejpaaW.PrintWords Go.Proofs.YthecbaeemmejpaaW.PrintLast Go.Proofs.Ythecbaeemmejpaa.Hand

theorem works_fnv : gangplanklaw02_works.f = some true := by decide +kernel

theorem join_some (h : Int) (s : ByteArray) (hs : s.size ≤ 140737488351232) : fnv_Join.f h s = some (hjoin h s.data.toList) := if_pos hs
theorem sum_some (s : ByteArray) (hs : s.size ≤ 140737488351232) : fnv_Sum.f s = some (hjoin 14695981039346656037 s.data.toList) := by
  unfold fnv_Sum.f; rw [join_some _ _ hs]; rfl
theorem next_some (h : Int) (b : UInt8) : fnv_Next.f h (b.toNat : Int) = some (hstep h b) := rfl
theorem refnext_some (h : Int) (b : UInt8) : gangplankref02_Next.f h (b.toNat : Int) = some (hstep h b) := rfl

theorem refjoin_loop (s : ByteArray) (hs : s.size ≤ 140737488351232) (d : Nat) : ∀ (k i : Nat) (h : Int), s.size - i = d → i ≤ s.size → d < k →
    gangplankref02_Join.l0 k h s (i : Int) = some (hjoin h (s.data.toList.drop i)) := by
  induction d with
  | zero =>
    intro k i h hd hi hk
    obtain ⟨k, rfl⟩ : ∃ m, k = m + 1 := ⟨k - 1, by omega⟩
    simp only [gangplankref02_Join.l0]
    rw [if_neg (by omega), List.drop_of_length_le (by simp; omega)]
    rfl
  | succ d ih =>
    intro k i h hd hi hk
    obtain ⟨k, rfl⟩ : ∃ m, k = m + 1 := ⟨k - 1, by omega⟩
    simp only [gangplankref02_Join.l0]
    have hlt : i < s.size := by omega
    have e : bt s (i : Int) = (s[i].toNat : Int) := by simp [bt, hlt]
    have w : wrap64 ((i : Int) + 1) = ((i + 1 : Nat) : Int) := by unfold wrap64; omega
    rw [if_pos (by omega), if_pos (by omega), e, refnext_some]
    simp only [Option.bind_some]
    have ed : s.data.toList.drop i = s[i] :: s.data.toList.drop (i + 1) := List.drop_eq_getElem_cons (by simpa using hlt)
    rw [w, ih k (i + 1) _ (by omega) (by omega) (by omega), ed]
    rfl

theorem refjoin_some (h : Int) (s : ByteArray) (hs : s.size ≤ 140737488351232) (k : Nat) (hk : s.size < k) : gangplankref02_Join.f k h s = some (hjoin h s.data.toList) := by
  have := refjoin_loop s hs s.size k 0 h (by omega) (by omega) hk
  unfold gangplankref02_Join.f
  simpa using this
theorem refsum_some (s : ByteArray) (hs : s.size ≤ 140737488351232) (k : Nat) (hk : s.size < k) : gangplankref02_Sum.f k s = some (hjoin 14695981039346656037 s.data.toList) := by
  unfold gangplankref02_Sum.f; rw [refjoin_some _ _ hs k hk]; rfl

theorem FnvTells : gangplanklaw02_FnvTells.Pure := by
  intro h b s _ hb hs
  obtain ⟨b, rfl⟩ := u8_wf hb
  refine ⟨s.size + 1, ?_⟩
  unfold gangplanklaw02_FnvTells.f
  rw [works_fnv]; simp only [Option.bind_some, if_true]
  by_cases c : (s.size : Int) > 300
  · rw [if_pos c]
  · rw [if_neg c]
    refine bind_of (next_some h b) (bind_of (refnext_some h b) ?_)
    rw [if_pos rfl]
    refine bind_of (join_some _ _ hs) (bind_of (refjoin_some _ _ hs _ (by omega)) ?_)
    rw [if_pos rfl]
    refine bind_of (sum_some _ hs) (bind_of (refsum_some _ hs _ (by omega)) ?_)
    rw [beq_self_eq_true]

theorem FnvJoins : gangplanklaw02_FnvJoins.Pure := by
  intro h a b _ ha hb
  refine ⟨1, ?_⟩
  unfold gangplanklaw02_FnvJoins.f
  rw [works_fnv]; simp only [Option.bind_some, if_true]
  by_cases c : (a.size : Int) > 300
  · rw [if_pos c]; simp [gangplanklaw02_FnvJoins.j0]
  · rw [if_neg c]
    by_cases c2 : (b.size : Int) > 300
    · rw [decide_eq_true c2]; simp [gangplanklaw02_FnvJoins.j0]
    · rw [decide_eq_false c2]
      simp only [gangplanklaw02_FnvJoins.j0]
      have hab : (a ++ b).size ≤ 140737488351232 := by rw [ByteArray.size_append]; omega
      rw [if_neg (by decide), if_pos (by trivial), join_some _ _ ha, join_some _ _ hab, sum_some _ ha, sum_some _ hab]
      simp only [Option.bind_some]
      rw [join_some _ _ hb, join_some _ _ hb, join_some _ _ (by decide)]
      simp only [Option.bind_some]
      rw [if_pos (by omega)]
      simp [hjoin_append]
      simp [hjoin]

theorem FnvApart : gangplanklaw02_FnvApart.Pure := by
  intro h k s hh hk hs
  obtain ⟨h0, h1⟩ := u64_wf hh
  obtain ⟨k0, k1⟩ := u64_wf hk
  unfold gangplanklaw02_FnvApart.f
  rw [works_fnv]; simp only [Option.bind_some, if_true]
  by_cases c : (s.size : Int) > 300
  · rw [if_pos c]
  · rw [if_neg c, join_some _ _ hs, join_some _ _ hs]
    simp only [Option.bind_some]
    have e : (hjoin h s.data.toList = hjoin k s.data.toList) ↔ h = k := by
      constructor
      · intro e
        rw [hjoin_bv _ _ h0 h1, hjoin_bv _ _ k0 k1] at e
        have e2 := bjoin_inj _ _ _ (BitVec.eq_of_toNat_eq (Int.ofNat_inj.1 e))
        have e3 := congrArg BitVec.toNat e2
        simp [BitVec.toNat_ofInt] at e3
        omega
      · intro e; rw [e]
    simp only [Option.some.injEq, beq_iff_eq]
    rw [Bool.eq_iff_iff]
    simp [e]

theorem FnvBytes : gangplanklaw02_FnvBytes.Pure := by
  intro h b c s hh hb hc hs
  obtain ⟨b, rfl⟩ := u8_wf hb
  obtain ⟨c, rfl⟩ := u8_wf hc
  unfold gangplanklaw02_FnvBytes.f
  rw [works_fnv]; simp only [Option.bind_some, if_true]
  by_cases q : (s.size : Int) > 300
  · rw [if_pos q]
  · rw [if_neg q, next_some, next_some]
    simp only [Option.bind_some]
    rw [join_some _ _ hs, join_some _ _ hs]
    simp only [Option.bind_some]
    have e : (hjoin (hstep h b) s.data.toList = hjoin (hstep h c) s.data.toList) ↔ (b.toNat : Int) = (c.toNat : Int) := by
      constructor
      · intro e
        have r : ∀ b : UInt8, 0 ≤ hstep h b ∧ hstep h b < 18446744073709551616 := fun b => by
          rw [hstep_bv]; have := (bstep (BitVec.ofInt 64 h) b).isLt; omega
        rw [hjoin_bv _ _ (r b).1 (r b).2, hjoin_bv _ _ (r c).1 (r c).2] at e
        have e2 := bjoin_inj _ _ _ (BitVec.eq_of_toNat_eq (Int.ofNat_inj.1 e))
        rw [hstep_bv, hstep_bv, ofInt_toNat, ofInt_toNat] at e2
        rw [bstep_byte e2]
      · intro e; rw [UInt8.toNat_inj.1 (Int.ofNat_inj.1 e)]
    simp only [Option.some.injEq, beq_iff_eq]
    rw [Bool.eq_iff_iff]
    simp [e]

theorem bits_or_u64 (x y : Int) : Go.bits .or .u64 x y = ((BitVec.ofInt 64 x ||| BitVec.ofInt 64 y : BitVec 64).toNat : Int) := by
  show IntKind.u64.wrap ((BitVec.ofInt 64 x ||| BitVec.ofInt 64 y : BitVec 64).toNat : Int) = _
  rw [wrap_u64, ofInt_toNat]
theorem low_of (h k : Int) (h0 : 0 ≤ h) (h1 : h < 18446744073709551616) :
    (BitVec.ofInt 64 h).setWidth 8 = (BitVec.ofInt 64 (Go.bits .or .u64 (IntKind.u64.wrap (k * 256)) (Int.tmod h 256))).setWidth 8 := by
  have hm : Int.tmod h 256 = h % 256 := Int.tmod_eq_emod_of_nonneg h0
  rw [hm, bits_or_u64, wrap_u64, ofInt_toNat, ofInt_toNat, BitVec.setWidth_or]
  have a : (BitVec.ofInt 64 (k * 256)).setWidth 8 = 0#8 := by
    apply BitVec.eq_of_toNat_eq
    simp [BitVec.toNat_ofInt]
    omega
  have b : (BitVec.ofInt 64 (h % 256)).setWidth 8 = (BitVec.ofInt 64 h).setWidth 8 := by
    apply BitVec.eq_of_toNat_eq
    simp [BitVec.toNat_ofInt]
    omega
  rw [a, b]
  simp

theorem or_range (k : Int) (h : Int) : 0 ≤ Go.bits .or .u64 k h ∧ Go.bits .or .u64 k h < 18446744073709551616 := by
  rw [bits_or_u64]
  have := (BitVec.ofInt 64 k ||| BitVec.ofInt 64 h : BitVec 64).isLt
  omega

theorem FnvLow : gangplanklaw02_FnvLow.Pure := by
  intro h k s hh hk hs
  obtain ⟨h0, h1⟩ := u64_wf hh
  unfold gangplanklaw02_FnvLow.f
  rw [works_fnv]; simp only [Option.bind_some, if_true]
  by_cases q : (s.size : Int) > 300
  · rw [if_pos q]
  · rw [if_neg q, join_some _ _ hs, join_some _ _ hs]
    simp only [Option.bind_some]
    obtain ⟨o0, o1⟩ := or_range (IntKind.u64.wrap (k * 256)) (Int.tmod h 256)
    have e := congrArg BitVec.toNat (bjoin_low s.data.toList _ _ (low_of h k h0 h1))
    rw [hjoin_bv _ _ h0 h1, hjoin_bv _ _ o0 o1]
    simp only [BitVec.toNat_setWidth] at e
    rw [Int.tmod_eq_emod_of_nonneg (by omega), Int.tmod_eq_emod_of_nonneg (by omega)]
    simp only [Option.some.injEq, beq_iff_eq]
    omega

theorem zeros_loop (h : Int) (s : ByteArray) (n : Int) (hs : s.size ≤ 300) (hn : n ≤ 60) (h0 : 0 ≤ h) (h1 : h < 18446744073709551616) (d : Nat) : ∀ (k i : Nat) (z : ByteArray), n - i = d → i ≤ 60 → z.size = i → d < k →
    gangplanklaw02_FnvZeros.l0 k h s n true z (hjoin h (s ++ z).data.toList) (i : Int) = some true := by
  induction d with
  | zero =>
    intro k i z hd hi hz hk
    obtain ⟨k, rfl⟩ : ∃ m, k = m + 1 := ⟨k - 1, by omega⟩
    simp only [gangplanklaw02_FnvZeros.l0]
    rw [if_neg (by omega), if_pos (by trivial), if_pos (by omega), join_some _ _ (by rw [ByteArray.size_append]; omega)]
    simp
  | succ d ih =>
    intro k i z hd hi hz hk
    obtain ⟨k, rfl⟩ : ∃ m, k = m + 1 := ⟨k - 1, by omega⟩
    simp only [gangplanklaw02_FnvZeros.l0]
    have w : wrap64 ((i : Int) + 1) = ((i + 1 : Nat) : Int) := by unfold wrap64; omega
    rw [if_pos (by omega), if_pos (by omega), w]
    have e : IntKind.u64.wrap (hjoin h (s ++ z).data.toList * 1099511628211) = hjoin h (s ++ (z ++ (⟨#[0]⟩ : ByteArray))).data.toList := by
      obtain ⟨a, b⟩ := hjoin_range h (s ++ z).data.toList h0 h1
      have l : (s ++ (z ++ (⟨#[0]⟩ : ByteArray))).data.toList = (s ++ z).data.toList ++ [0] := by simp [ByteArray.data_append]
      rw [l, hjoin_snoc, hstep_zero _ a b]
    rw [e]
    exact ih k (i + 1) _ (by omega) (by omega) (by rw [ByteArray.size_append, hz]; rfl) (by omega)

theorem FnvZeros : gangplanklaw02_FnvZeros.Pure := by
  intro h s n hh hs hn
  obtain ⟨h0, h1⟩ := u64_wf hh
  refine ⟨63, ?_⟩
  unfold gangplanklaw02_FnvZeros.f
  rw [works_fnv]; simp only [Option.bind_some, if_true]
  by_cases c : (s.size : Int) > 300
  · rw [if_pos c]; simp [gangplanklaw02_FnvZeros.j0]
  · rw [if_neg c]
    by_cases c2 : n < 0
    · rw [if_pos c2]; simp [gangplanklaw02_FnvZeros.j0]
    · rw [if_neg c2]
      by_cases c3 : n > 60
      · rw [decide_eq_true c3]; simp [gangplanklaw02_FnvZeros.j0]
      · rw [decide_eq_false c3]
        simp only [gangplanklaw02_FnvZeros.j0]
        rw [if_neg (by decide), join_some _ _ hs]
        simp only [Option.bind_some]
        have := zeros_loop h s n (by omega) (by omega) h0 h1 n.toNat 62 0 ⟨#[]⟩ (by omega) (by omega) rfl (by omega)
        have e : s ++ (⟨#[]⟩ : ByteArray) = s := by apply ByteArray.ext; simp [ByteArray.data_append]
        rw [e] at this
        exact this

end Go.Proofs.Ythecbaeemmejpaa.Pure
