/- The hash of bytes, as plain numbers: a step is a bijection of words of 64 bits, its lowest eight bits hang on the lowest eight alone; folds over lists joined. -/
import Derived.Test.YtbbgeobnjdgpfaaGreatFnv
set_option linter.unusedVariables false
set_option linter.unusedSimpArgs false
namespace Go.Proofs.YtbbgeobnjdgpfaaGreat.Hand
open Go.RowKit

theorem bind_of {α β : Type} {o : Option α} {a : α} {f : α → Option β} {r : Option β} (h : o = some a) (k : f a = r) : o.bind f = r := by rw [h]; exact k

def P64 : BitVec 64 := 1099511628211#64
def Q64 : BitVec 64 := 14886173955864302971#64
theorem PQ : P64 * Q64 = 1#64 := by decide

theorem wrap_u64 (z : Int) : IntKind.u64.wrap z = ((BitVec.ofInt 64 z).toNat : Int) := by
  simp [IntKind.wrap, IntKind.bits, IntKind.signed, BitVec.toNat_ofInt]
  omega

def bstep (h : BitVec 64) (b : UInt8) : BitVec 64 := (h ^^^ BitVec.ofNat 64 b.toNat) * P64

theorem ofInt_toNat (x : BitVec 64) : BitVec.ofInt 64 (x.toNat : Int) = x := by
  rw [BitVec.ofInt_natCast, BitVec.ofNat_toNat]; simp

theorem hstep_bv (h : Int) (b : UInt8) : hstep h b = ((bstep (BitVec.ofInt 64 h) b).toNat : Int) := by
  unfold hstep bstep
  rw [wrap_u64]
  simp only [Go.bits, wrap_u64, IntKind.bits, BitVec.ofInt_mul, ofInt_toNat]
  rfl

def bjoin (h : BitVec 64) (l : List UInt8) : BitVec 64 := l.foldl bstep h

theorem hjoin_bv (l : List UInt8) : ∀ h : Int, 0 ≤ h → h < 18446744073709551616 → hjoin h l = ((bjoin (BitVec.ofInt 64 h) l).toNat : Int) := by
  induction l with
  | nil =>
    intro h h0 h1
    simp [hjoin, bjoin, BitVec.toNat_ofInt]
    omega
  | cons b l ih =>
    intro h h0 h1
    have e : hjoin h (b :: l) = hjoin (hstep h b) l := rfl
    rw [e, hstep_bv, ih _ (by omega) (by have := (bstep (BitVec.ofInt 64 h) b).isLt; omega), ofInt_toNat]
    rfl

theorem bstep_inj {x y : BitVec 64} {b c : UInt8} (h : bstep x b = bstep y c) : x ^^^ BitVec.ofNat 64 b.toNat = y ^^^ BitVec.ofNat 64 c.toNat := by
  have k : ∀ z : BitVec 64, z * P64 * Q64 = z := fun z => by rw [BitVec.mul_assoc, PQ]; simp
  rw [← k (x ^^^ BitVec.ofNat 64 b.toNat), ← k (y ^^^ BitVec.ofNat 64 c.toNat)]
  unfold bstep at h
  rw [h]

theorem bjoin_inj (l : List UInt8) : ∀ x y : BitVec 64, bjoin x l = bjoin y l → x = y := by
  induction l with
  | nil => intro x y h; exact h
  | cons b l ih =>
    intro x y h
    have e := bstep_inj (ih _ _ h)
    have k : ∀ z w : BitVec 64, z ^^^ w ^^^ w = z := fun z w => by rw [BitVec.xor_assoc]; simp
    rw [← k x (BitVec.ofNat 64 b.toNat), e, k]

theorem ofNat_u8_inj {b c : UInt8} (h : BitVec.ofNat 64 b.toNat = BitVec.ofNat 64 c.toNat) : b = c := by
  have e := congrArg BitVec.toNat h
  simp only [BitVec.toNat_ofNat] at e
  have := b.toNat_lt; have := c.toNat_lt
  exact UInt8.toNat_inj.1 (by omega)

theorem bstep_byte {x : BitVec 64} {b c : UInt8} (h : bstep x b = bstep x c) : b = c := by
  have e := bstep_inj h
  have k : ∀ z w : BitVec 64, z ^^^ (z ^^^ w) = w := fun z w => by rw [← BitVec.xor_assoc]; simp
  exact ofNat_u8_inj (by rw [← k x (BitVec.ofNat 64 b.toNat), e, k])

theorem bstep_low {x y : BitVec 64} (b : UInt8) (h : x.setWidth 8 = y.setWidth 8) : (bstep x b).setWidth 8 = (bstep y b).setWidth 8 := by
  unfold bstep
  rw [BitVec.setWidth_mul _ _ (by decide), BitVec.setWidth_mul _ _ (by decide), BitVec.setWidth_xor, BitVec.setWidth_xor, h]

theorem bjoin_low (l : List UInt8) : ∀ x y : BitVec 64, x.setWidth 8 = y.setWidth 8 → (bjoin x l).setWidth 8 = (bjoin y l).setWidth 8 := by
  induction l with
  | nil => intro x y h; exact h
  | cons b l ih => intro x y h; exact ih _ _ (bstep_low b h)

theorem hjoin_append (h : Int) (a b : List UInt8) : hjoin h (a ++ b) = hjoin (hjoin h a) b := by simp [hjoin]

theorem hjoin_range (h : Int) (l : List UInt8) (h0 : 0 ≤ h) (h1 : h < 18446744073709551616) : 0 ≤ hjoin h l ∧ hjoin h l < 18446744073709551616 := by
  rw [hjoin_bv l h h0 h1]
  have := (bjoin (BitVec.ofInt 64 h) l).isLt
  omega

theorem hstep_zero (h : Int) (h0 : 0 ≤ h) (h1 : h < 18446744073709551616) : hstep h 0 = IntKind.u64.wrap (h * 1099511628211) := by
  rw [hstep_bv, wrap_u64, BitVec.ofInt_mul]
  have e : BitVec.ofInt 64 h ^^^ BitVec.ofNat 64 (0 : UInt8).toNat = BitVec.ofInt 64 h := by simp
  have p : P64 = BitVec.ofInt 64 1099511628211 := by decide
  unfold bstep
  rw [e, p]

theorem u64_wf {h : Int} (w : (Lit.int .u64 h).wf = true) : 0 ≤ h ∧ h < 18446744073709551616 := by
  simp [Lit.wf, IntKind.min, IntKind.max, IntKind.signed, IntKind.bits] at w
  omega
theorem u8_wf {h : Int} (w : (Lit.int .u8 h).wf = true) : ∃ b : UInt8, h = (b.toNat : Int) := by
  simp [Lit.wf, IntKind.min, IntKind.max, IntKind.signed, IntKind.bits] at w
  exact ⟨UInt8.ofNat h.toNat, by simp; omega⟩
theorem i64_wf {h : Int} (w : (Lit.int .i64 h).wf = true) : -9223372036854775808 ≤ h ∧ h < 9223372036854775808 := by
  simp [Lit.wf, IntKind.min, IntKind.max, IntKind.signed, IntKind.bits] at w
  omega

end Go.Proofs.YtbbgeobnjdgpfaaGreat.Hand
