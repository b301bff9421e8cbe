/- Each Go function that the laws reach, as a plain function, with the proof that the machine's call comes to what it says; of a law: its row. Made by a program of this seat (wip/hp.py, over the print). -/
import Derived.Test.YtklngklmeanhcaaPx0
namespace Go.Proofs.Ytklngklmeanhcaa.P
open Go.RowKit Go.Proofs.YtklngklmeanhcaaW.PrintWords Go.Proofs.YtklngklmeanhcaaW.PrintLast Go.Proofs.YtklngklmeanhcaaW.PrintMore
attribute [local go_sem] max2_int min2_int max_two min_two max_three min_three max_four min_four   -- for this text's walks alone
set_option linter.unusedVariables false
set_option linter.unusedSimpArgs false

/-! ### api_Backend_101: function 101 -/
section
open Go.Shelf Go.RowKit Go.Lib Go.Sort Go.Proofs.Ytklngklmeanhcaa.Hand
variable {P : Program} {α : Type} [Inhabited α] {k : Nat}
structure StbLays (P : Program) (k : Nat) : Prop where
  mixed : P.follows .mixedOrders = true
  fSwap : P.funcs[150]? = some Try.f150
  fRot : P.funcs[142]? = some Try.f142
  fSym : P.funcs[123]? = some Try.f123
  fStb : P.funcs[101]? = some Try.f101
  t0 : P.underlying 0 = some (TypeDesc.tuple #[])
  a0 : ∀ w, (isAgg 0).run P w = .ok false w
  z0 : ∀ w, (Go.sizeOf 0).run P w = .ok 1 w
  v0 : ∀ w, (zeroValue 0).run P w = .ok (Value.tuple #[]) w
  t3 : P.underlying 3 = some (TypeDesc.int IntKind.i64)
  a3 : ∀ w, (isAgg 3).run P w = .ok false w
  z3 : ∀ w, (Go.sizeOf 3).run P w = .ok 1 w
  v3 : ∀ w, (zeroValue 3).run P w = .ok (Value.int IntKind.i64 0) w
  t4 : P.underlying 4 = some (TypeDesc.bool)
  a4 : ∀ w, (isAgg 4).run P w = .ok false w
  z4 : ∀ w, (Go.sizeOf 4).run P w = .ok 1 w
  v4 : ∀ w, (zeroValue 4).run P w = .ok (Value.bool false) w
  t31 : P.underlying 31 = some (TypeDesc.slice 56)
  a31 : ∀ w, (isAgg 31).run P w = .ok false w
  z31 : ∀ w, (Go.sizeOf 31).run P w = .ok 1 w
  v31 : ∀ w, (zeroValue 31).run P w = .ok (Value.slice none 0 0) w
  t105 : P.underlying 105 = some (TypeDesc.func #[56, 56] #[3] false)
  a105 : ∀ w, (isAgg 105).run P w = .ok false w
  z105 : ∀ w, (Go.sizeOf 105).run P w = .ok 1 w
  v105 : ∀ w, (zeroValue 105).run P w = .ok (Value.nilFunc) w
  t129 : P.underlying 129 = some (TypeDesc.int IntKind.u64)
  a129 : ∀ w, (isAgg 129).run P w = .ok false w
  z129 : ∀ w, (Go.sizeOf 129).run P w = .ok 1 w
  v129 : ∀ w, (zeroValue 129).run P w = .ok (Value.int IntKind.u64 0) w
  aE : ∀ w, (isAgg 56).run P w = .ok true w
  zE : ∀ w, (Go.sizeOf 56).run P w = .ok k w
theorem stbLays : StbLays Try.prog 2 := {
  mixed := by kernel_rfl
  fSwap := Try.func150
  fRot := Try.func142
  fSym := Try.func123
  fStb := Try.func101
  t0 := Try.underlying0
  a0 := Try.isAgg0
  z0 := Try.sizeOf0
  v0 := Try.zeroValue0
  t3 := Try.underlying3
  a3 := Try.isAgg3
  z3 := Try.sizeOf3
  v3 := Try.zeroValue3
  t4 := Try.underlying4
  a4 := Try.isAgg4
  z4 := Try.sizeOf4
  v4 := Try.zeroValue4
  t31 := Try.underlying31
  a31 := Try.isAgg31
  z31 := Try.sizeOf31
  v31 := Try.zeroValue31
  t105 := Try.underlying105
  a105 := Try.isAgg105
  z105 := Try.sizeOf105
  v105 := Try.zeroValue105
  t129 := Try.underlying129
  a129 := Try.isAgg129
  z129 := Try.sizeOf129
  v129 := Try.zeroValue129
  aE := Try.isAgg56
  zE := Try.sizeOf56
}
set_option maxHeartbeats 4000000 in
set_option maxRecDepth 1000000 in
/-- slices.swapRangeCmpFunc. -/
theorem swapRange_w (L : StbLays P k) (enc : α → List Value) (cf : α → α → Int) (g : Nat) (cb : Array Value) (blk off cap : Nat) (a b n : Nat) (d0 d : Array α) (w0 w : World) (R : RowK enc k w0 blk off d0) (hs : d0.size = d.size) (S : SWK enc k w0 blk off d w) (ha : a + n ≤ d.size) (hb : b + n ≤ d.size) (hsz : d.size < 4611686018427387904) :
    Calls P 150 #[.slice (some ⟨blk, off, none⟩) d.size cap, .int .i64 a, .int .i64 b, .int .i64 n, .func (.func g) #[] cb] w fun e w' => e = .returned (.tuple #[]) ∧ SWK enc k w0 blk off (swapsR a b n 0 d) w' := by
  have mixed := L.mixed; have aE := L.aE; have zE := L.zE; have t0 := L.t0; have a0 := L.a0; have z0 := L.z0; have v0 := L.v0; have t3 := L.t3; have a3 := L.a3; have z3 := L.z3; have v3 := L.v3; have t4 := L.t4; have a4 := L.a4; have z4 := L.z4; have v4 := L.v4; have t31 := L.t31; have a31 := L.a31; have z31 := L.z31; have v31 := L.v31; have t105 := L.t105; have a105 := L.a105; have z105 := L.z105; have v105 := L.v105
  have SS0 : Aside (SWK enc k w0 blk off d w) := S
  clear S
  go_enter L.fSwap, Try.ntmps150
  go_wp2
  go_loopg [10] n (fun kx s10 wr => ∃ (i : Nat) (dk : Array α), s10 = .int .i64 i ∧ i ≤ n ∧ n - i ≤ kx ∧ dk.size = d.size ∧ Aside (SWK enc k w0 blk off dk wr) ∧ Hid (swapsR a b (n - i) i dk = swapsR a b n 0 d))
  case atStart => exact ⟨0, d, rfl, Nat.zero_le _, Nat.le_refl _, rfl, SS0, rfl⟩
  case round =>
    clear SS0
    obtain ⟨i, dk, rfl, hin, hkx, hds, SS1, HE⟩ := hrel
    by_cases hlt : i < n
    · have hltz : (i : Int) < (n : Int) := by omega
      have HE2 : Hid (swapsR a b (n - (i + 1)) (i + 1) (swp dk (a + i) (b + i)) = swapsR a b n 0 d) := by
        have h := HE.out
        rw [show n - i = (n - (i + 1)) + 1 by omega] at h
        exact h
      clear HE
      go_wp2_with fail
      have ea1 : ((a : Int) + (i : Int)).toNat = a + i := by omega
      have pa1 : (0 : Int) ≤ (a : Int) + (i : Int) := by omega
      have ba1 : (a : Int) + (i : Int) < (d.size : Int) := by omega
      have ra1 : IntKind.i64.wrap ((a : Int) + (i : Int)) = (a : Int) + (i : Int) := by rw [IntKind.wrap_i64]; omega
      have ec1 : ((b : Int) + (i : Int)).toNat = b + i := by omega
      have pc1 : (0 : Int) ≤ (b : Int) + (i : Int) := by omega
      have bc1 : (b : Int) + (i : Int) < (d.size : Int) := by omega
      have rc1 : IntKind.i64.wrap ((b : Int) + (i : Int)) = (b : Int) + (i : Int) := by rw [IntKind.wrap_i64]; omega
      have SS2 : Aside (SWK enc k w0 blk off (swp dk (a + i) (b + i)) ((wr.drew.setCells blk (off + (a + i) * k) (enc dk[b + i]!)).setCells blk (off + (b + i) * k) (enc dk[a + i]!))) := SS1.out.swapped R (a + i) (b + i) (by omega) (by omega)
      have la1 := SS1.out.ld1 R (by omega) P (a + i) (by omega)
      have lb1 := SS1.out.ld1 R (by omega) P (b + i) (by omega)
      have sa1 := SS1.out.st1 R (by omega) P (a + i) (by omega) dk[b + i]!
      have sb1 := SS1.out.st2 R (by omega) P (a + i) (b + i) (by omega) (by omega) dk[b + i]! dk[a + i]!
      have na1 : (enc dk[a + i]!).length = k := R.hk _
      have nb1 : (enc dk[b + i]!).length = k := R.hk _
      generalize enc dk[a + i]! = cI1 at SS2 la1 sb1 na1
      generalize enc dk[b + i]! = cJ1 at SS2 lb1 sa1 sb1 nb1
      clear SS1
      go_wp2_with fail
      go_big_region_o
      clear la1 lb1 sa1 sb1
      generalize (wr.drew.setCells blk (off + (a + i) * k) cJ1).setCells blk (off + (b + i) * k) cI1 = w2 at SS2 ⊢
      go_wp2
      go_roundg (n - (i + 1))
      case measure => omega
      case rel => exact ⟨i + 1, swp dk (a + i) (b + i), by go_num, by omega, Nat.le_refl _, by rw [size_swp]; exact hds, SS2, HE2⟩
    · obtain rfl : i = n := by omega
      have hltz : ¬ (i : Int) < (i : Int) := by omega
      go_wp2
      go_end0
      refine ⟨rfl, ?_⟩
      have h := HE.out
      rw [Nat.sub_self] at h
      rw [← h]
      exact SS1.out
theorem rot_gt (dk : Array α) (Pp X Y Q : List α) (h : dk.toList = Pp ++ (X ++ (Y ++ Q))) (hl : Y.length ≤ X.length) : (swapsR Pp.length (Pp.length + X.length) Y.length 0 dk).toList = (Pp ++ Y) ++ (X.drop Y.length ++ (X.take Y.length ++ Q)) := by
  have e : dk.toList = Pp ++ (X.take Y.length ++ (X.drop Y.length ++ (Y ++ Q))) := by rw [h, ← List.append_assoc (X.take Y.length), List.take_append_drop]
  have hx : (X.take Y.length).length = Y.length := by rw [List.length_take]; omega
  have h2 := swaps_apart dk Pp (X.take Y.length) (X.drop Y.length) Y Q hx e
  rw [hx, List.length_drop, show Pp.length + Y.length + (X.length - Y.length) = Pp.length + X.length by omega] at h2
  rw [h2, List.append_assoc]
theorem rot_lt (dk : Array α) (Pp X Y Q : List α) (h : dk.toList = Pp ++ (X ++ (Y ++ Q))) (hl : X.length ≤ Y.length) : (swapsR Pp.length (Pp.length + Y.length) X.length 0 dk).toList = Pp ++ (Y.drop (Y.length - X.length) ++ (Y.take (Y.length - X.length) ++ (X ++ Q))) := by
  have e : dk.toList = Pp ++ (X ++ (Y.take (Y.length - X.length) ++ (Y.drop (Y.length - X.length) ++ Q))) := by rw [h, ← List.append_assoc (Y.take _), List.take_append_drop]
  have hx : X.length = (Y.drop (Y.length - X.length)).length := by rw [List.length_drop]; omega
  have h2 := swaps_apart dk Pp X (Y.take (Y.length - X.length)) (Y.drop (Y.length - X.length)) Q hx e
  rw [List.length_take, show Pp.length + X.length + min (Y.length - X.length) Y.length = Pp.length + Y.length by omega] at h2
  exact h2
theorem rot_eq (dk : Array α) (Pp X Y Q : List α) (h : dk.toList = Pp ++ (X ++ (Y ++ Q))) (hl : X.length = Y.length) : (swapsR Pp.length (Pp.length + X.length) X.length 0 dk).toList = Pp ++ (Y ++ (X ++ Q)) := by
  have h2 := swaps_apart dk Pp X [] Y Q hl (by rw [h]; rfl)
  simpa using h2
/-- The same, at numbers as the walk spells them. -/
theorem swapRange_z (L : StbLays P k) (enc : α → List Value) (cf : α → α → Int) (g : Nat) (cb : Array Value) (blk off cap : Nat) (a b n : Nat) (az bz nz : Int) (haz : az = (a : Int)) (hbz : bz = (b : Int)) (hnz : nz = (n : Int)) (d0 d : Array α) (w0 w : World) (sz : Nat) (R : RowK enc k w0 blk off d0) (hs : d0.size = d.size) (hsz' : d.size = sz) (S : SWK enc k w0 blk off d w) (ha : a + n ≤ sz) (hb : b + n ≤ sz) (hsz : sz < 4611686018427387904) :
    Calls P 150 #[.slice (some ⟨blk, off, none⟩) sz cap, .int .i64 az, .int .i64 bz, .int .i64 nz, .func (.func g) #[] cb] w fun e w' => e = .returned (.tuple #[]) ∧ SWK enc k w0 blk off (swapsR a b n 0 d) w' := by
  subst haz; subst hbz; subst hnz; subst hsz'
  exact swapRange_w L enc cf g cb blk off cap a b n d0 d w0 w R hs S ha hb hsz
set_option maxHeartbeats 4000000 in
set_option maxRecDepth 1000000 in
/-- slices.rotateCmpFunc: two stretches, side by side, change places. -/
theorem rotate_w (L : StbLays P k) (enc : α → List Value) (cf : α → α → Int) (g : Nat) (cb : Array Value) (blk off cap : Nat) (a m b : Nat) (d0 d : Array α) (w0 w : World) (R : RowK enc k w0 blk off d0) (hs : d0.size = d.size) (S : SWK enc k w0 blk off d w) (P1 X1 Y1 Q1 : List α) (hd : d.toList = P1 ++ (X1 ++ (Y1 ++ Q1))) (ha : P1.length = a) (hm : a + X1.length = m) (hb : m + Y1.length = b) (hx : 0 < X1.length) (hy : 0 < Y1.length) (hsz : d.size < 4611686018427387904) :
    Calls P 142 #[.slice (some ⟨blk, off, none⟩) d.size cap, .int .i64 a, .int .i64 m, .int .i64 b, .func (.func g) #[] cb] w fun e w' => e = .returned (.tuple #[]) ∧ ∃ d' : Array α, d'.toList = P1 ++ (Y1 ++ (X1 ++ Q1)) ∧ SWK enc k w0 blk off d' w' := by
  have mixed := L.mixed; have aE := L.aE; have zE := L.zE; have t0 := L.t0; have a0 := L.a0; have z0 := L.z0; have v0 := L.v0; have t3 := L.t3; have a3 := L.a3; have z3 := L.z3; have v3 := L.v3; have t4 := L.t4; have a4 := L.a4; have z4 := L.z4; have v4 := L.v4; have t31 := L.t31; have a31 := L.a31; have z31 := L.z31; have v31 := L.v31; have t105 := L.t105; have a105 := L.a105; have z105 := L.z105; have v105 := L.v105
  have eSwap : ∀ args w, (callFunc 150 args).run P w = .ok (.enter 150 args) w := enters_of L.fSwap (by kernel_rfl) rfl
  have SS0 : Aside (SWK enc k w0 blk off d w) := S
  have HD : Hid (d.toList = P1 ++ (X1 ++ (Y1 ++ Q1))) := hd
  have hbs : b ≤ d.size := by
    have := congrArg List.length hd
    simp only [List.length_append, Array.length_toList] at this
    omega
  have LX : Hid (X1.length = m - a) := show _ = _ by omega
  have LY : Hid (Y1.length = b - m) := show _ = _ by omega
  have LP : Hid (P1.length = a) := ha
  have ham : a < m := by omega
  have hmb : m < b := by omega
  clear S hd ha hm hb hx hy
  go_enter L.fRot, Try.ntmps142
  go_wp2
  go_loopg [10, 11] (b - a) (fun kx s10 s11 wr => ∃ (i j : Nat) (Pp X Y Q : List α) (dk : Array α), s10 = .int .i64 i ∧ s11 = .int .i64 j ∧ 0 < i ∧ 0 < j ∧ i ≤ m ∧ m + j ≤ b ∧ i + j ≤ kx ∧ Hid (X.length = i) ∧ Hid (Y.length = j) ∧ Hid (Pp.length = m - i) ∧ Hid (dk.toList = Pp ++ (X ++ (Y ++ Q))) ∧ Hid (Pp ++ (Y ++ (X ++ Q)) = P1 ++ (Y1 ++ (X1 ++ Q1))) ∧ Hid (dk.size = d.size) ∧ Aside (SWK enc k w0 blk off dk wr))
  case atStart => exact ⟨m - a, b - m, P1, X1, Y1, Q1, d, by go_num, by go_num, by omega, by omega, by omega, by omega, by omega, LX, LY, (show _ = _ by rw [LP.out]; omega), HD, rfl, rfl, SS0⟩
  case round =>
    clear SS0 HD LX LY LP
    obtain ⟨i, j, Pp, X, Y, Q, dk, rfl, rfl, hi, hj, him, hjb, hkx, LX, LY, LP, HD, HG, HS, SS1⟩ := hrel
    rcases Nat.lt_trichotomy i j with hij | hij | hij
    · have q1 : ¬ ((i : Int) = (j : Int)) := by omega
      have q2 : ¬ ((j : Int) < (i : Int)) := by omega
      have hc := swapRange_z L enc cf g cb blk off cap (m - i) (m + j - i) i ((m : Int) - (i : Int)) ((m : Int) + (j : Int) - (i : Int)) (i : Int) (by omega) (by omega) rfl d0 dk w0 wr d.size R (hs.trans HS.out.symm) HS.out SS1.out (by omega) (by omega) hsz
      have hl := rot_lt dk Pp X Y Q HD.out (by rw [LX.out, LY.out]; omega)
      rw [LX.out, LY.out, LP.out, show m - i + j = m + j - i by omega] at hl
      have HL := Lib.hid hl
      have HCC := Lib.hid hc
      have HSZ := Lib.hid (swapsR_size (m - i) (m + j - i) i 0 dk)
      clear hl hc SS1
      go_wp2_with (go_at_fn 150; refine HCC.out.mono ?_; rintro e w1 ⟨rfl, hw1⟩; have SS2 : Aside (SWK enc k w0 blk off _ w1) := hw1; clear hw1)
      go_roundg (i + (j - i))
      case measure => omega
      case rel => exact ⟨i, j - i, Pp, Y.drop (j - i), Y.take (j - i), X ++ Q, _, rfl, by go_num, hi, by omega, him, by omega, Nat.le_refl _, (show _ = _ by rw [List.length_drop, LY.out]; omega), (show _ = _ by rw [List.length_take, LY.out]; omega), LP, HL, (show _ = _ by rw [← HG.out, ← List.append_assoc (Y.take _), List.take_append_drop]), (show _ = _ from HSZ.out.trans HS.out), SS2⟩
    · subst hij
      have q1 : ((i : Int) = (i : Int)) := rfl
      have hc := swapRange_z L enc cf g cb blk off cap (m - i) m i ((m : Int) - (i : Int)) (m : Int) (i : Int) (by omega) rfl rfl d0 dk w0 wr d.size R (hs.trans HS.out.symm) HS.out SS1.out (by omega) (by omega) hsz
      have hl := rot_eq dk Pp X Y Q HD.out (by rw [LX.out, LY.out])
      rw [LX.out, LP.out, show m - i + i = m by omega, HG.out] at hl
      have HL := Lib.hid hl
      have HCC := Lib.hid hc
      clear hl hc SS1 q1
      go_wp2_with (go_at_fn 150; refine HCC.out.mono ?_; rintro e w1 ⟨rfl, hw1⟩; have SS2 : Aside (SWK enc k w0 blk off _ w1) := hw1; clear hw1)
      go_end0
      exact ⟨rfl, _, HL.out, SS2.out⟩
    · have q1 : ¬ ((i : Int) = (j : Int)) := by omega
      have q2 : ((j : Int) < (i : Int)) := by omega
      have hc := swapRange_z L enc cf g cb blk off cap (m - i) m j ((m : Int) - (i : Int)) (m : Int) (j : Int) (by omega) rfl rfl d0 dk w0 wr d.size R (hs.trans HS.out.symm) HS.out SS1.out (by omega) (by omega) hsz
      have hl := rot_gt dk Pp X Y Q HD.out (by rw [LX.out, LY.out]; omega)
      rw [LX.out, LY.out, LP.out, show m - i + i = m by omega] at hl
      have HL := Lib.hid hl
      have HCC := Lib.hid hc
      have HSZ := Lib.hid (swapsR_size (m - i) m j 0 dk)
      clear hl hc SS1
      go_wp2_with (go_at_fn 150; refine HCC.out.mono ?_; rintro e w1 ⟨rfl, hw1⟩; have SS2 : Aside (SWK enc k w0 blk off _ w1) := hw1; clear hw1)
      go_roundg (i - j + j)
      case measure => omega
      case rel => exact ⟨i - j, j, Pp ++ Y, X.drop j, X.take j, Q, _, by go_num, rfl, by omega, hj, by omega, hjb, Nat.le_refl _, (show _ = _ by rw [List.length_drop, LX.out]), (show _ = _ by rw [List.length_take, LX.out]; omega), (show _ = _ by rw [List.length_append, LP.out, LY.out]; omega), HL, (show _ = _ by rw [← HG.out, List.append_assoc, ← List.append_assoc (X.take _), List.take_append_drop]), (show _ = _ from HSZ.out.trans HS.out), SS2⟩
theorem half_nums (i j h n : Nat) (hh : (i + j) / 2 = h) (hij : i < j) (hj : j ≤ n) (hn : n < 4611686018427387904) : wrap64 (IntKind.u64.wrap (wrap64 ((i : Int) + (j : Int))) / 2) = (h : Int) ∧ wrap64 (IntKind.u64.wrap ((i : Int) + (j : Int)) / 2) = (h : Int) ∧ ((i : Int) + (j : Int)) / 2 = (h : Int) ∧ i ≤ h ∧ h < j := by
  have e0 : wrap64 ((i : Int) + (j : Int)) = (i : Int) + (j : Int) := by unfold wrap64; omega
  have e : IntKind.u64.wrap ((i : Int) + (j : Int)) = (i : Int) + (j : Int) := by simp [IntKind.wrap, IntKind.bits, IntKind.signed]; omega
  have e2 : wrap64 (((i : Int) + (j : Int)) / 2) = (h : Int) := by unfold wrap64; omega
  exact ⟨by rw [e0, e, e2], by rw [e, e2], by omega, by omega, by omega⟩
variable {key : α → Int}
set_option maxHeartbeats 4000000 in
set_option maxRecDepth 1000000 in
/-- slices.symMergeCmpFunc, one element on the left. -/
theorem symMerge_l (L : StbLays P k) (enc : α → List Value) (cf : α → α → Int) (g : Nat) (cb : Array Value) (blk off cap : Nat) (hlt : ∀ x y, ltOf cf x y = true ↔ key x < key y) (eg : ∀ args w, (callFunc g args).run P w = .ok (.enter g args) w) (a m b : Nat) (d0 d : Array α) (w0 w : World) (hcmp : CmpLays P g cb enc k cf blk off d0.size w0) (R : RowK enc k w0 blk off d0) (hs : d0.size = d.size) (S : SWK enc k w0 blk off d w) (P1 Y1 Q1 : List α) (x1 : α) (hd : d.toList = P1 ++ ([x1] ++ (Y1 ++ Q1))) (ha : P1.length = a) (hm : a + 1 = m) (hb : m + Y1.length = b) (hY : Rise key Y1) (hy : 0 < Y1.length) (hsz : d.size < 4611686018427387904) :
    Calls P 123 #[.slice (some ⟨blk, off, none⟩) d.size cap, .int .i64 a, .int .i64 m, .int .i64 b, .func (.func g) #[] cb] w fun e w' => e = .returned (.tuple #[]) ∧ ∃ (d' : Array α) (R1 : List α), d'.toList = P1 ++ (R1 ++ Q1) ∧ Stb key R1 ([x1] ++ Y1) ∧ SWK enc k w0 blk off d' w' := by
  have mixed := L.mixed; have aE := L.aE; have zE := L.zE; have t0 := L.t0; have a0 := L.a0; have z0 := L.z0; have v0 := L.v0; have t3 := L.t3; have a3 := L.a3; have z3 := L.z3; have v3 := L.v3; have t4 := L.t4; have a4 := L.a4; have z4 := L.z4; have v4 := L.v4; have t31 := L.t31; have a31 := L.a31; have z31 := L.z31; have v31 := L.v31; have t105 := L.t105; have a105 := L.a105; have z105 := L.z105; have v105 := L.v105; have t129 := L.t129; have a129 := L.a129; have z129 := L.z129; have v129 := L.v129
  have HC : Aside _ := hcmp
  have SS0 : Aside (SWK enc k w0 blk off d w) := S
  have HSL : Hid (∀ i, m ≤ i → i ≤ b → (m < i → key d[i - 1]! < key d[a]!) → (i < b → key d[a]! ≤ key d[i]!) → ∃ R, Stb key R ([x1] ++ Y1) ∧ (pushR (i - m) a d).toList = P1 ++ (R ++ Q1)) := fun i h1 h2 h3 h4 => sym_left d P1 Y1 Q1 x1 hd hY a m b i ha hm hb h1 h2 h3 h4
  have hbs : b ≤ d.size := by
    have := congrArg List.length hd
    simp only [List.length_append, Array.length_toList, List.length_singleton] at this
    omega
  have hmb : m < b := by omega
  have q1 : ((m : Int) - (a : Int) == 1) = true := by rw [beq_iff_eq]; omega
  have HM : Hid (a + 1 = m) := hm
  have ham : a < m := by omega
  have HLT : Hid (∀ x y, ltOf cf x y = true ↔ key x < key y) := hlt
  clear S hd ha hm hb hY hy hcmp hlt
  go_enter L.fSym, Try.ntmps123
  go_wp2
  go_loopg [10, 11] (b - m) (fun kx s10 s11 wr => ∃ (i j : Nat), s10 = .int .i64 i ∧ s11 = .int .i64 j ∧ m ≤ i ∧ i ≤ j ∧ j ≤ b ∧ j - i ≤ kx ∧ Aside (SWK enc k w0 blk off d wr) ∧ Hid (m < i → ltOf cf d[i - 1]! d[a]! = true) ∧ Hid (j < b → ltOf cf d[j]! d[a]! = false))
  case atStart => exact ⟨m, b, rfl, rfl, Nat.le_refl _, by omega, Nat.le_refl _, Nat.le_refl _, SS0, (show _ → _ from fun h => absurd h (Nat.lt_irrefl _)), (show _ → _ from fun h => absurd h (Nat.lt_irrefl _))⟩
  case round =>
    clear SS0
    obtain ⟨i, j, rfl, rfl, hmi, hij, hjb, hkx, SS1, H1, H2⟩ := hrel
    by_cases hlt : i < j
    · have hltz : (i : Int) < (j : Int) := by omega
      obtain ⟨h, hh⟩ : ∃ h, (i + j) / 2 = h := ⟨_, rfl⟩
      obtain ⟨v1, v2, v3, hih, hhj⟩ := half_nums i j h b hh hlt hjb (by omega)
      have V1 := Lib.hid v1
      have V2 := Lib.hid v2
      have V3 := Lib.hid v3
      clear hh v1 v2 v3
      cases hL : ltOf cf d[h]! d[a]! with
      | true =>
        have H3 : Hid (m < h + 1 → ltOf cf d[h + 1 - 1]! d[a]! = true) := fun _ => hL
        have ea3 : ((h : Int)).toNat = h := by omega
        have pa3 : (0 : Int) ≤ (h : Int) := by omega
        have ba3 : (h : Int) < (d.size : Int) := by omega
        have ra3 : IntKind.i64.wrap ((h : Int)) = (h : Int) := by rw [IntKind.wrap_i64]; omega
        have ec3 : ((a : Int)).toNat = a := by omega
        have pc3 : (0 : Int) ≤ (a : Int) := by omega
        have bc3 : (a : Int) < (d.size : Int) := by omega
        have rc3 : IntKind.i64.wrap ((a : Int)) = (a : Int) := by rw [IntKind.wrap_i64]; omega
        obtain ⟨x3, hx3⟩ : ∃ x, x = d[h]! := ⟨_, rfl⟩
        obtain ⟨y3, hy3⟩ : ∃ x, x = d[a]! := ⟨_, rfl⟩
        have la3 := SS1.out.ld R (by omega) P (h) (by omega)
        have lb3 := SS1.out.ld R (by omega) P (a) (by omega)
        rw [← hx3] at la3
        rw [← hy3] at lb3
        have hc3 := SS1.out.cmp HC.out (by omega) x3 y3
        have hv3 : cf x3 y3 < 0 := by rw [hx3, hy3]; exact of_decide_eq_true hL
        have hd3 : decide (cf x3 y3 < 0) = true := decide_eq_true hv3
        clear hx3 hy3
        have v3 := V3.out
        go_wp2_with fail
        go_quiet_grown (first | (go_at_fn g; refine Calls.grown_of (hc3 _ _)))
        have SS2 : Aside (SWK enc k w0 blk off d (grow (wr.drewN nq) osq)) := SS1.out.grown nq osq
        clear la3 lb3 hc3 SS1
        generalize grow (wr.drewN nq) osq = w2 at SS2 ⊢
        clear nq osq
        clear v3
        go_wp2
        go_roundg (j - (h + 1))
        case measure => omega
        case rel => exact ⟨h + 1, j, by go_num, rfl, by omega, by omega, hjb, Nat.le_refl _, SS2, H3, H2⟩
      | false =>
        have H3 : Hid (h < b → ltOf cf d[h]! d[a]! = false) := fun _ => hL
        have ea4 : ((h : Int)).toNat = h := by omega
        have pa4 : (0 : Int) ≤ (h : Int) := by omega
        have ba4 : (h : Int) < (d.size : Int) := by omega
        have ra4 : IntKind.i64.wrap ((h : Int)) = (h : Int) := by rw [IntKind.wrap_i64]; omega
        have ec4 : ((a : Int)).toNat = a := by omega
        have pc4 : (0 : Int) ≤ (a : Int) := by omega
        have bc4 : (a : Int) < (d.size : Int) := by omega
        have rc4 : IntKind.i64.wrap ((a : Int)) = (a : Int) := by rw [IntKind.wrap_i64]; omega
        obtain ⟨x4, hx4⟩ : ∃ x, x = d[h]! := ⟨_, rfl⟩
        obtain ⟨y4, hy4⟩ : ∃ x, x = d[a]! := ⟨_, rfl⟩
        have la4 := SS1.out.ld R (by omega) P (h) (by omega)
        have lb4 := SS1.out.ld R (by omega) P (a) (by omega)
        rw [← hx4] at la4
        rw [← hy4] at lb4
        have hc4 := SS1.out.cmp HC.out (by omega) x4 y4
        have hv4 : ¬ cf x4 y4 < 0 := by rw [hx4, hy4]; exact of_decide_eq_false hL
        have hd4 : decide (cf x4 y4 < 0) = false := decide_eq_false hv4
        clear hx4 hy4
        have v3 := V3.out
        go_wp2_with fail
        go_quiet_grown (first | (go_at_fn g; refine Calls.grown_of (hc4 _ _)))
        have SS2 : Aside (SWK enc k w0 blk off d (grow (wr.drewN nq) osq)) := SS1.out.grown nq osq
        clear la4 lb4 hc4 SS1
        generalize grow (wr.drewN nq) osq = w2 at SS2 ⊢
        clear nq osq
        clear v3
        go_wp2
        go_roundg (h - i)
        case measure => omega
        case rel => exact ⟨i, h, rfl, rfl, hmi, hih, by omega, Nat.le_refl _, SS2, H1, H3⟩
    · obtain rfl : i = j := by omega
      have hltz : ¬ (i : Int) < (i : Int) := by omega
      obtain ⟨R1, hR1, hR2⟩ := HSL.out i hmi hjb (fun h => (HLT.out _ _).1 (H1.out h)) (fun h => by
        have h3 := H2.out h
        have h4 : ¬ key d[i]! < key d[a]! := fun h5 => by rw [(HLT.out _ _).2 h5] at h3; cases h3
        omega)
      have HR1 := Lib.hid hR1
      have HR2 := Lib.hid hR2
      clear hR1 hR2 H1 H2 HSL HLT
      go_wp2
      go_loopg [13] (i - m) (fun kx s13 wr2 => ∃ (t : Nat) (dk : Array α), s13 = .int .i64 t ∧ a ≤ t ∧ t + 1 ≤ i ∧ i - 1 - t ≤ kx ∧ dk.size = d.size ∧ Aside (SWK enc k w0 blk off dk wr2) ∧ Hid (pushR (i - 1 - t) t dk = pushR (i - m) a d))
      case atStart => exact ⟨a, d, rfl, Nat.le_refl _, by omega, by have := HM.out; omega, rfl, SS1, (show _ = _ by rw [show i - 1 - a = i - m from by have := HM.out; omega])⟩
      case round =>
        clear SS1
        obtain ⟨t, dk, rfl, hat, hti, hkx2, hds, SS1, HE⟩ := hrel
        by_cases hlt : t + 1 < i
        · have hltz : (t : Int) < (i : Int) - 1 := by omega
          have HE2 : Hid (pushR (i - 1 - (t + 1)) (t + 1) (swp dk t (t + 1)) = pushR (i - m) a d) := by
            have h := HE.out
            rw [show i - 1 - t = (i - 1 - (t + 1)) + 1 by omega] at h
            exact h
          clear HE
          go_wp2_with fail
          have ea2 : ((t : Int)).toNat = t := by omega
          have pa2 : (0 : Int) ≤ (t : Int) := by omega
          have ba2 : (t : Int) < (d.size : Int) := by omega
          have ra2 : IntKind.i64.wrap ((t : Int)) = (t : Int) := by rw [IntKind.wrap_i64]; omega
          have ec2 : ((t : Int) + 1).toNat = t + 1 := by omega
          have pc2 : (0 : Int) ≤ (t : Int) + 1 := by omega
          have bc2 : (t : Int) + 1 < (d.size : Int) := by omega
          have rc2 : IntKind.i64.wrap ((t : Int) + 1) = (t : Int) + 1 := by rw [IntKind.wrap_i64]; omega
          have SS2 : Aside (SWK enc k w0 blk off (swp dk (t) (t + 1)) ((wr.drew.setCells blk (off + (t) * k) (enc dk[t + 1]!)).setCells blk (off + (t + 1) * k) (enc dk[t]!))) := SS1.out.swapped R (t) (t + 1) (by omega) (by omega)
          have la2 := SS1.out.ld1 R (by omega) P (t) (by omega)
          have lb2 := SS1.out.ld1 R (by omega) P (t + 1) (by omega)
          have sa2 := SS1.out.st1 R (by omega) P (t) (by omega) dk[t + 1]!
          have sb2 := SS1.out.st2 R (by omega) P (t) (t + 1) (by omega) (by omega) dk[t + 1]! dk[t]!
          have na2 : (enc dk[t]!).length = k := R.hk _
          have nb2 : (enc dk[t + 1]!).length = k := R.hk _
          generalize enc dk[t]! = cI2 at SS2 la2 sb2 na2
          generalize enc dk[t + 1]! = cJ2 at SS2 lb2 sa2 sb2 nb2
          clear SS1
          go_wp2_with fail
          go_big_region_o
          clear la2 lb2 sa2 sb2
          generalize (wr.drew.setCells blk (off + (t) * k) cJ2).setCells blk (off + (t + 1) * k) cI2 = w3 at SS2 ⊢
          go_wp2
          go_roundg (i - 1 - (t + 1))
          case measure => omega
          case rel => exact ⟨t + 1, swp dk t (t + 1), by go_num, by omega, by omega, Nat.le_refl _, by rw [size_swp]; exact hds, SS2, HE2⟩
        · have hltz : ¬ (t : Int) < (i : Int) - 1 := by omega
          have he : dk = pushR (i - m) a d := by
            have h := HE.out
            rw [show i - 1 - t = 0 by omega] at h
            exact h
          have HDK := Lib.hid (show dk.toList = P1 ++ (R1 ++ Q1) by rw [he]; exact HR2.out)
          clear he HE
          go_wp2
          (try simp only [Exit.inBlock, Exit.then]); refine bodyPost_ret (results_none rfl _ _ _) rfl ?_
          exact ⟨rfl, dk, R1, HDK.out, HR1.out, SS1.out⟩
set_option maxHeartbeats 4000000 in
set_option maxRecDepth 1000000 in
/-- slices.symMergeCmpFunc, one element on the right, more on the left. -/
theorem symMerge_r (L : StbLays P k) (enc : α → List Value) (cf : α → α → Int) (g : Nat) (cb : Array Value) (blk off cap : Nat) (hlt : ∀ x y, ltOf cf x y = true ↔ key x < key y) (eg : ∀ args w, (callFunc g args).run P w = .ok (.enter g args) w) (a m b : Nat) (d0 d : Array α) (w0 w : World) (hcmp : CmpLays P g cb enc k cf blk off d0.size w0) (R : RowK enc k w0 blk off d0) (hs : d0.size = d.size) (S : SWK enc k w0 blk off d w) (P1 X1 Q1 : List α) (y1 : α) (hd : d.toList = P1 ++ (X1 ++ ([y1] ++ Q1))) (ha : P1.length = a) (hm : a + X1.length = m) (hb : m + 1 = b) (hX : Rise key X1) (hx : 2 ≤ X1.length) (hsz : d.size < 4611686018427387904) :
    Calls P 123 #[.slice (some ⟨blk, off, none⟩) d.size cap, .int .i64 a, .int .i64 m, .int .i64 b, .func (.func g) #[] cb] w fun e w' => e = .returned (.tuple #[]) ∧ ∃ (d' : Array α) (R1 : List α), d'.toList = P1 ++ (R1 ++ Q1) ∧ Stb key R1 (X1 ++ [y1]) ∧ SWK enc k w0 blk off d' w' := by
  have mixed := L.mixed; have aE := L.aE; have zE := L.zE; have t0 := L.t0; have a0 := L.a0; have z0 := L.z0; have v0 := L.v0; have t3 := L.t3; have a3 := L.a3; have z3 := L.z3; have v3 := L.v3; have t4 := L.t4; have a4 := L.a4; have z4 := L.z4; have v4 := L.v4; have t31 := L.t31; have a31 := L.a31; have z31 := L.z31; have v31 := L.v31; have t105 := L.t105; have a105 := L.a105; have z105 := L.z105; have v105 := L.v105; have t129 := L.t129; have a129 := L.a129; have z129 := L.z129; have v129 := L.v129
  have HC : Aside _ := hcmp
  have SS0 : Aside (SWK enc k w0 blk off d w) := S
  have HSL : Hid (∀ i, a ≤ i → i ≤ m → (a < i → key d[i - 1]! ≤ key d[m]!) → (i < m → key d[m]! < key d[i]!) → ∃ R, Stb key R (X1 ++ [y1]) ∧ (pullL (m - i) m d).toList = P1 ++ (R ++ Q1)) := fun i h1 h2 h3 h4 => sym_right d P1 X1 Q1 y1 hd hX a m i ha hm h1 h2 h3 h4
  have hbs : m < d.size := by
    have := congrArg List.length hd
    simp only [List.length_append, Array.length_toList, List.length_singleton] at this
    omega
  have ham : a + 1 < m := by omega
  have q0 : ((m : Int) - (a : Int) == 1) = false := by rw [beq_eq_false_iff_ne]; omega
  have q1 : ((b : Int) - (m : Int) == 1) = true := by rw [beq_iff_eq]; omega
  have hmb : m < b := by omega
  have hbs2 : b ≤ d.size := by omega
  have HB : Hid (m + 1 = b) := hb
  have HLT : Hid (∀ x y, ltOf cf x y = true ↔ key x < key y) := hlt
  clear S hd ha hm hb hX hx hcmp hlt
  go_enter L.fSym, Try.ntmps123
  go_wp2
  go_loopg [14, 15] (m - a) (fun kx s10 s11 wr => ∃ (i j : Nat), s10 = .int .i64 i ∧ s11 = .int .i64 j ∧ a ≤ i ∧ i ≤ j ∧ j ≤ m ∧ j - i ≤ kx ∧ Aside (SWK enc k w0 blk off d wr) ∧ Hid (a < i → ltOf cf d[m]! d[i - 1]! = false) ∧ Hid (j < m → ltOf cf d[m]! d[j]! = true))
  case atStart => exact ⟨a, m, rfl, rfl, Nat.le_refl _, by omega, Nat.le_refl _, Nat.le_refl _, SS0, (show _ → _ from fun h => absurd h (Nat.lt_irrefl _)), (show _ → _ from fun h => absurd h (Nat.lt_irrefl _))⟩
  case round =>
    clear SS0
    obtain ⟨i, j, rfl, rfl, hai, hij, hjm, hkx, SS1, H1, H2⟩ := hrel
    by_cases hlt : i < j
    · have hltz : (i : Int) < (j : Int) := by omega
      obtain ⟨h, hh⟩ : ∃ h, (i + j) / 2 = h := ⟨_, rfl⟩
      obtain ⟨v1, v2, v3, hih, hhj⟩ := half_nums i j h m hh hlt hjm (by omega)
      have V1 := Lib.hid v1
      have V2 := Lib.hid v2
      have V3 := Lib.hid v3
      clear hh v1 v2 v3
      cases hL : ltOf cf d[m]! d[h]! with
      | false =>
        have H3 : Hid (a < h + 1 → ltOf cf d[m]! d[h + 1 - 1]! = false) := fun _ => hL
        have ea6 : ((m : Int)).toNat = m := by omega
        have pa6 : (0 : Int) ≤ (m : Int) := by omega
        have ba6 : (m : Int) < (d.size : Int) := by omega
        have ra6 : IntKind.i64.wrap ((m : Int)) = (m : Int) := by rw [IntKind.wrap_i64]; omega
        have ec6 : ((h : Int)).toNat = h := by omega
        have pc6 : (0 : Int) ≤ (h : Int) := by omega
        have bc6 : (h : Int) < (d.size : Int) := by omega
        have rc6 : IntKind.i64.wrap ((h : Int)) = (h : Int) := by rw [IntKind.wrap_i64]; omega
        obtain ⟨x6, hx6⟩ : ∃ x, x = d[m]! := ⟨_, rfl⟩
        obtain ⟨y6, hy6⟩ : ∃ x, x = d[h]! := ⟨_, rfl⟩
        have la6 := SS1.out.ld R (by omega) P (m) (by omega)
        have lb6 := SS1.out.ld R (by omega) P (h) (by omega)
        rw [← hx6] at la6
        rw [← hy6] at lb6
        have hc6 := SS1.out.cmp HC.out (by omega) x6 y6
        have hv6 : ¬ cf x6 y6 < 0 := by rw [hx6, hy6]; exact of_decide_eq_false hL
        have hd6 : decide (cf x6 y6 < 0) = false := decide_eq_false hv6
        clear hx6 hy6
        have v3 := V3.out
        go_wp2_with fail
        go_quiet_grown (first | (go_at_fn g; refine Calls.grown_of (hc6 _ _)))
        have SS2 : Aside (SWK enc k w0 blk off d (grow (wr.drewN nq) osq)) := SS1.out.grown nq osq
        clear la6 lb6 hc6 SS1
        generalize grow (wr.drewN nq) osq = w2 at SS2 ⊢
        clear nq osq
        clear v3
        go_wp2
        go_roundg (j - (h + 1))
        case measure => omega
        case rel => exact ⟨h + 1, j, by go_num, rfl, by omega, by omega, hjm, Nat.le_refl _, SS2, H3, H2⟩
      | true =>
        have H3 : Hid (h < m → ltOf cf d[m]! d[h]! = true) := fun _ => hL
        have ea7 : ((m : Int)).toNat = m := by omega
        have pa7 : (0 : Int) ≤ (m : Int) := by omega
        have ba7 : (m : Int) < (d.size : Int) := by omega
        have ra7 : IntKind.i64.wrap ((m : Int)) = (m : Int) := by rw [IntKind.wrap_i64]; omega
        have ec7 : ((h : Int)).toNat = h := by omega
        have pc7 : (0 : Int) ≤ (h : Int) := by omega
        have bc7 : (h : Int) < (d.size : Int) := by omega
        have rc7 : IntKind.i64.wrap ((h : Int)) = (h : Int) := by rw [IntKind.wrap_i64]; omega
        obtain ⟨x7, hx7⟩ : ∃ x, x = d[m]! := ⟨_, rfl⟩
        obtain ⟨y7, hy7⟩ : ∃ x, x = d[h]! := ⟨_, rfl⟩
        have la7 := SS1.out.ld R (by omega) P (m) (by omega)
        have lb7 := SS1.out.ld R (by omega) P (h) (by omega)
        rw [← hx7] at la7
        rw [← hy7] at lb7
        have hc7 := SS1.out.cmp HC.out (by omega) x7 y7
        have hv7 : cf x7 y7 < 0 := by rw [hx7, hy7]; exact of_decide_eq_true hL
        have hd7 : decide (cf x7 y7 < 0) = true := decide_eq_true hv7
        clear hx7 hy7
        have v3 := V3.out
        go_wp2_with fail
        go_quiet_grown (first | (go_at_fn g; refine Calls.grown_of (hc7 _ _)))
        have SS2 : Aside (SWK enc k w0 blk off d (grow (wr.drewN nq) osq)) := SS1.out.grown nq osq
        clear la7 lb7 hc7 SS1
        generalize grow (wr.drewN nq) osq = w2 at SS2 ⊢
        clear nq osq
        clear v3
        go_wp2
        go_roundg (h - i)
        case measure => omega
        case rel => exact ⟨i, h, rfl, rfl, hai, hih, by omega, Nat.le_refl _, SS2, H1, H3⟩
    · obtain rfl : i = j := by omega
      have hltz : ¬ (i : Int) < (i : Int) := by omega
      obtain ⟨R1, hR1, hR2⟩ := HSL.out i hai hjm (fun h => by
        have h3 := H1.out h
        have h4 : ¬ key d[m]! < key d[i - 1]! := fun h5 => by rw [(HLT.out _ _).2 h5] at h3; cases h3
        omega) (fun h => (HLT.out _ _).1 (H2.out h))
      have HR1 := Lib.hid hR1
      have HR2 := Lib.hid hR2
      clear hR1 hR2 H1 H2 HSL HLT
      go_wp2
      go_loopg [17] (m - i) (fun kx s13 wr2 => ∃ (t : Nat) (dk : Array α), s13 = .int .i64 t ∧ i ≤ t ∧ t ≤ m ∧ t - i ≤ kx ∧ dk.size = d.size ∧ Aside (SWK enc k w0 blk off dk wr2) ∧ Hid (pullL (t - i) t dk = pullL (m - i) m d))
      case atStart => exact ⟨m, d, rfl, hjm, Nat.le_refl _, Nat.le_refl _, rfl, SS1, rfl⟩
      case round =>
        clear SS1
        obtain ⟨t, dk, rfl, hit, htm, hkx2, hds, SS1, HE⟩ := hrel
        by_cases hlt : i < t
        · have hltz : (i : Int) < (t : Int) := by omega
          have HE2 : Hid (pullL (t - 1 - i) (t - 1) (swp dk t (t - 1)) = pullL (m - i) m d) := by
            have h := HE.out
            rw [show t - i = (t - 1 - i) + 1 by omega] at h
            exact h
          clear HE
          go_wp2_with fail
          have ea5 : ((t : Int)).toNat = t := by omega
          have pa5 : (0 : Int) ≤ (t : Int) := by omega
          have ba5 : (t : Int) < (d.size : Int) := by omega
          have ra5 : IntKind.i64.wrap ((t : Int)) = (t : Int) := by rw [IntKind.wrap_i64]; omega
          have ec5 : ((t : Int) - 1).toNat = t - 1 := by omega
          have pc5 : (0 : Int) ≤ (t : Int) - 1 := by omega
          have bc5 : (t : Int) - 1 < (d.size : Int) := by omega
          have rc5 : IntKind.i64.wrap ((t : Int) - 1) = (t : Int) - 1 := by rw [IntKind.wrap_i64]; omega
          have SS2 : Aside (SWK enc k w0 blk off (swp dk (t) (t - 1)) ((wr.drew.setCells blk (off + (t) * k) (enc dk[t - 1]!)).setCells blk (off + (t - 1) * k) (enc dk[t]!))) := SS1.out.swapped R (t) (t - 1) (by omega) (by omega)
          have la5 := SS1.out.ld1 R (by omega) P (t) (by omega)
          have lb5 := SS1.out.ld1 R (by omega) P (t - 1) (by omega)
          have sa5 := SS1.out.st1 R (by omega) P (t) (by omega) dk[t - 1]!
          have sb5 := SS1.out.st2 R (by omega) P (t) (t - 1) (by omega) (by omega) dk[t - 1]! dk[t]!
          have na5 : (enc dk[t]!).length = k := R.hk _
          have nb5 : (enc dk[t - 1]!).length = k := R.hk _
          generalize enc dk[t]! = cI5 at SS2 la5 sb5 na5
          generalize enc dk[t - 1]! = cJ5 at SS2 lb5 sa5 sb5 nb5
          clear SS1
          go_wp2_with fail
          go_big_region_o
          clear la5 lb5 sa5 sb5
          generalize (wr.drew.setCells blk (off + (t) * k) cJ5).setCells blk (off + (t - 1) * k) cI5 = w3 at SS2 ⊢
          go_wp2
          go_roundg (t - 1 - i)
          case measure => omega
          case rel => exact ⟨t - 1, swp dk t (t - 1), by go_num, by omega, by omega, Nat.le_refl _, by rw [size_swp]; exact hds, SS2, HE2⟩
        · have hltz : ¬ (i : Int) < (t : Int) := by omega
          have he : dk = pullL (m - i) m d := by
            have h := HE.out
            rw [show t - i = 0 by omega] at h
            exact h
          have HDK := Lib.hid (show dk.toList = P1 ++ (R1 ++ Q1) by rw [he]; exact HR2.out)
          clear he HE
          go_wp2
          (try simp only [Exit.inBlock, Exit.then]); refine bodyPost_ret (results_none rfl _ _ _) rfl ?_
          exact ⟨rfl, dk, R1, HDK.out, HR1.out, SS1.out⟩
set_option maxHeartbeats 8000000 in
set_option maxRecDepth 1000000 in
/-- slices.symMergeCmpFunc, two elements or more on each side. -/
theorem symMerge_g (L : StbLays P k) (enc : α → List Value) (cf : α → α → Int) (g : Nat) (cb : Array Value) (blk off cap : Nat) (hlt : ∀ x y, ltOf cf x y = true ↔ key x < key y) (eg : ∀ args w, (callFunc g args).run P w = .ok (.enter g args) w) (a m b : Nat) (d0 d : Array α) (w0 w : World) (hcmp : CmpLays P g cb enc k cf blk off d0.size w0) (R : RowK enc k w0 blk off d0) (hs : d0.size = d.size) (S : SWK enc k w0 blk off d w) (P1 X1 Y1 Q1 : List α) (hd : d.toList = P1 ++ (X1 ++ (Y1 ++ Q1))) (ha : P1.length = a) (hm : a + X1.length = m) (hb : m + Y1.length = b) (hX : Rise key X1) (hY : Rise key Y1) (hx : 2 ≤ X1.length) (hy : 2 ≤ Y1.length) (hsz : d.size < 4611686018427387904)
    (ih : ∀ (a' m' b' : Nat) (d' : Array α) (w' : World) (P' X' Y' Q' : List α), b' - a' < b - a → d'.size = d.size → SWK enc k w0 blk off d' w' → d'.toList = P' ++ (X' ++ (Y' ++ Q')) → P'.length = a' → a' + X'.length = m' → m' + Y'.length = b' → Rise key X' → Rise key Y' → 0 < X'.length → 0 < Y'.length →
      Calls P 123 #[.slice (some ⟨blk, off, none⟩) d.size cap, .int .i64 a', .int .i64 m', .int .i64 b', .func (.func g) #[] cb] w' fun e w'' => e = .returned (.tuple #[]) ∧ ∃ (d'' : Array α) (R1 : List α), d''.toList = P' ++ (R1 ++ Q') ∧ Stb key R1 (X' ++ Y') ∧ SWK enc k w0 blk off d'' w'') :
    Calls P 123 #[.slice (some ⟨blk, off, none⟩) d.size cap, .int .i64 a, .int .i64 m, .int .i64 b, .func (.func g) #[] cb] w fun e w' => e = .returned (.tuple #[]) ∧ ∃ (d' : Array α) (R1 : List α), d'.toList = P1 ++ (R1 ++ Q1) ∧ Stb key R1 (X1 ++ Y1) ∧ SWK enc k w0 blk off d' w' := by
  have mixed := L.mixed; have aE := L.aE; have zE := L.zE; have t0 := L.t0; have a0 := L.a0; have z0 := L.z0; have v0 := L.v0; have t3 := L.t3; have a3 := L.a3; have z3 := L.z3; have v3 := L.v3; have t4 := L.t4; have a4 := L.a4; have z4 := L.z4; have v4 := L.v4; have t31 := L.t31; have a31 := L.a31; have z31 := L.z31; have v31 := L.v31; have t105 := L.t105; have a105 := L.a105; have z105 := L.z105; have v105 := L.v105; have t129 := L.t129; have a129 := L.a129; have z129 := L.z129; have v129 := L.v129
  have eRot : ∀ args w, (callFunc 142 args).run P w = .ok (.enter 142 args) w := enters_of L.fRot (by kernel_rfl) rfl
  have eSym : ∀ args w, (callFunc 123 args).run P w = .ok (.enter 123 args) w := enters_of L.fSym (by kernel_rfl) rfl
  have HC : Aside _ := hcmp
  have HIH := Lib.hid ih
  have SS0 : Aside (SWK enc k w0 blk off d w) := S
  have HSP : Hid (∀ s e, a ≤ s → s ≤ m → m ≤ e → e ≤ b → (s < m → m < e → key d[e - 1]! < key d[s]!) → (a < s → e < b → key d[s - 1]! ≤ key d[e]!) → ∃ A B C D : List α, (A.length = s - a ∧ B.length = m - s ∧ C.length = e - m ∧ D.length = b - e) ∧ (Rise key A ∧ Rise key B ∧ Rise key C ∧ Rise key D) ∧ d.toList = P1 ++ (A ++ (B ++ (C ++ (D ++ Q1)))) ∧ (∀ r1 r2, Stb key r1 (A ++ C) → Stb key r2 (B ++ D) → Stb key (r1 ++ r2) (X1 ++ Y1))) := fun s e h1 h2 h3 h4 h5 h6 => sym_parts d P1 X1 Y1 Q1 hd hX hY a m b s e ha hm hb h1 h2 h3 h4 h5 h6
  have hbs : b ≤ d.size := by
    have := congrArg List.length hd
    simp only [List.length_append, Array.length_toList] at this
    omega
  have ham : a + 2 ≤ m := by omega
  have hmb : m + 2 ≤ b := by omega
  have q0 : ((m : Int) - (a : Int) == 1) = false := by rw [beq_eq_false_iff_ne]; omega
  have q1 : ((b : Int) - (m : Int) == 1) = false := by rw [beq_eq_false_iff_ne]; omega
  obtain ⟨mid, hmid⟩ : ∃ mid, (a + b) / 2 = mid := ⟨_, rfl⟩
  have V0 := Lib.hid (show ((a : Int) + (b : Int)) / 2 = (mid : Int) from by omega)
  have hmi1 : 2 * mid ≤ a + b := by omega
  have hmi2 : a + b ≤ 2 * mid + 1 := by omega
  have HP1 := Lib.hid ha
  have HLT : Hid (∀ x y, ltOf cf x y = true ↔ key x < key y) := hlt
  have HS0 := Lib.hid hs
  clear S hd ha hm hb hX hY hx hy hcmp hlt hmid ih
  go_enter L.fSym, Try.ntmps123
  have v0 := V0.out
  go_upto_if 140 with (fail)
  clear v0
  go_cut [20, 21] from 25 (fun s20 s21 wc => ∃ (s0 r0 : Nat), s20 = .int .i64 s0 ∧ s21 = .int .i64 r0 ∧ a ≤ s0 ∧ s0 ≤ r0 ∧ r0 ≤ m ∧ r0 ≤ mid ∧ mid + m ≤ s0 + b ∧ Hid (r0 = m ∨ r0 = mid) ∧ Hid (s0 = a ∨ s0 + b = mid + m) ∧ Aside (SWK enc k w0 blk off d wc))
  case first =>
    by_cases c : mid < m
    · have cz : (mid : Int) < (m : Int) := by omega
      go_wp2_with fail
      go_meet
      case rel => exact ⟨mid + m - b, mid, congrArg (Value.int .i64) (by omega), rfl, by omega, by omega, by omega, by omega, by omega, .inr rfl, (show _ ∨ _ from .inr (by omega)), SS0⟩
    · have cz : ¬ (mid : Int) < (m : Int) := by omega
      go_wp2_with fail
      go_meet
      case rel => exact ⟨a, m, rfl, rfl, by omega, by omega, by omega, by omega, by omega, .inl rfl, .inl rfl, SS0⟩
  case rest =>
    clear SS0
    obtain ⟨s0, r0, rfl, rfl, has0, hsr0, hrm, hrmid, hsb, HR0, HSS, SS0⟩ := hcut
    obtain ⟨p, hp⟩ : ∃ p, mid + m - 1 = p := ⟨_, rfl⟩
    have v6 : (mid : Int) + (m : Int) - 1 = (p : Int) := by omega
    have hp1 : p + 1 ≤ mid + m := by omega
    have hp2 : mid + m ≤ p + 1 := by omega
    clear hp
    go_wp2
    clear v6
    go_loopg [20, 21] (r0 - s0) (fun kx s20 s21 wr => ∃ (s r : Nat), s20 = .int .i64 s ∧ s21 = .int .i64 r ∧ s0 ≤ s ∧ s ≤ r ∧ r ≤ r0 ∧ r - s ≤ kx ∧ Aside (SWK enc k w0 blk off d wr) ∧ Hid (s0 < s → ltOf cf d[p - (s - 1)]! d[s - 1]! = false) ∧ Hid (r < r0 → ltOf cf d[p - r]! d[r]! = true))
    case atStart => exact ⟨s0, r0, rfl, rfl, Nat.le_refl _, hsr0, Nat.le_refl _, Nat.le_refl _, SS0, (show _ → _ from fun h => absurd h (Nat.lt_irrefl _)), (show _ → _ from fun h => absurd h (Nat.lt_irrefl _))⟩
    case round =>
      clear SS0
      obtain ⟨s, r, rfl, rfl, hss, hsr, hrr, hkx, SS1, H1, H2⟩ := hrel
      by_cases hlt : s < r
      · have hltz : (s : Int) < (r : Int) := by omega
        obtain ⟨c, hh⟩ : ∃ c, (s + r) / 2 = c := ⟨_, rfl⟩
        obtain ⟨v1, v2, v3, hsc, hcr⟩ := half_nums s r c m hh hlt (by omega) (by omega)
        have V3 := Lib.hid v3
        clear hh v1 v2 v3
        obtain ⟨q, hq⟩ : ∃ q, p - c = q := ⟨_, rfl⟩
        have V7 := Lib.hid (show (p : Int) - (c : Int) = (q : Int) from by omega)
        have V8 := Lib.hid (show IntKind.i64.wrap ((p : Int) - (c : Int)) = (q : Int) from by rw [IntKind.wrap_i64]; omega)
        have HQ := Lib.hid hq
        have hq1 : q ≤ p := by omega
        have hqd : q < d.size := by omega
        clear hq
        cases hL : ltOf cf d[q]! d[c]! with
        | false =>
          have H3 : Hid (s0 < c + 1 → ltOf cf d[p - (c + 1 - 1)]! d[c + 1 - 1]! = false) := fun _ => by rw [show p - (c + 1 - 1) = q from HQ.out]; exact hL
          have ea8 : ((q : Int)).toNat = q := by omega
          have pa8 : (0 : Int) ≤ (q : Int) := by omega
          have ba8 : (q : Int) < (d.size : Int) := by omega
          have ra8 : IntKind.i64.wrap ((q : Int)) = (q : Int) := by rw [IntKind.wrap_i64]; omega
          have ec8 : ((c : Int)).toNat = c := by omega
          have pc8 : (0 : Int) ≤ (c : Int) := by omega
          have bc8 : (c : Int) < (d.size : Int) := by omega
          have rc8 : IntKind.i64.wrap ((c : Int)) = (c : Int) := by rw [IntKind.wrap_i64]; omega
          obtain ⟨x8, hx8⟩ : ∃ x, x = d[q]! := ⟨_, rfl⟩
          obtain ⟨y8, hy8⟩ : ∃ x, x = d[c]! := ⟨_, rfl⟩
          have la8 := SS1.out.ld R (by omega) P (q) (by omega)
          have lb8 := SS1.out.ld R (by omega) P (c) (by omega)
          rw [← hx8] at la8
          rw [← hy8] at lb8
          have hc8 := SS1.out.cmp HC.out (by omega) x8 y8
          have hv8 : ¬ cf x8 y8 < 0 := by rw [hx8, hy8]; exact of_decide_eq_false hL
          have hd8 : decide (cf x8 y8 < 0) = false := decide_eq_false hv8
          clear hx8 hy8
          have v3 := V3.out
          have v7 := V7.out
          have v8 := V8.out
          go_wp2_with fail
          go_quiet_grown (first | (go_at_fn g; refine Calls.grown_of (hc8 _ _)))
          have SS2 : Aside (SWK enc k w0 blk off d (grow (wr.drewN nq) osq)) := SS1.out.grown nq osq
          clear la8 lb8 hc8 SS1
          generalize grow (wr.drewN nq) osq = w2 at SS2 ⊢
          clear nq osq
          clear v3
          clear v7 v8
          go_wp2
          go_roundg (r - (c + 1))
          case measure => omega
          case rel => exact ⟨c + 1, r, by go_num, rfl, by omega, by omega, hrr, Nat.le_refl _, SS2, H3, H2⟩
        | true =>
          have H3 : Hid (c < r0 → ltOf cf d[p - c]! d[c]! = true) := fun _ => by rw [show p - c = q from HQ.out]; exact hL
          have ea9 : ((q : Int)).toNat = q := by omega
          have pa9 : (0 : Int) ≤ (q : Int) := by omega
          have ba9 : (q : Int) < (d.size : Int) := by omega
          have ra9 : IntKind.i64.wrap ((q : Int)) = (q : Int) := by rw [IntKind.wrap_i64]; omega
          have ec9 : ((c : Int)).toNat = c := by omega
          have pc9 : (0 : Int) ≤ (c : Int) := by omega
          have bc9 : (c : Int) < (d.size : Int) := by omega
          have rc9 : IntKind.i64.wrap ((c : Int)) = (c : Int) := by rw [IntKind.wrap_i64]; omega
          obtain ⟨x9, hx9⟩ : ∃ x, x = d[q]! := ⟨_, rfl⟩
          obtain ⟨y9, hy9⟩ : ∃ x, x = d[c]! := ⟨_, rfl⟩
          have la9 := SS1.out.ld R (by omega) P (q) (by omega)
          have lb9 := SS1.out.ld R (by omega) P (c) (by omega)
          rw [← hx9] at la9
          rw [← hy9] at lb9
          have hc9 := SS1.out.cmp HC.out (by omega) x9 y9
          have hv9 : cf x9 y9 < 0 := by rw [hx9, hy9]; exact of_decide_eq_true hL
          have hd9 : decide (cf x9 y9 < 0) = true := decide_eq_true hv9
          clear hx9 hy9
          have v3 := V3.out
          have v7 := V7.out
          have v8 := V8.out
          go_wp2_with fail
          go_quiet_grown (first | (go_at_fn g; refine Calls.grown_of (hc9 _ _)))
          have SS2 : Aside (SWK enc k w0 blk off d (grow (wr.drewN nq) osq)) := SS1.out.grown nq osq
          clear la9 lb9 hc9 SS1
          generalize grow (wr.drewN nq) osq = w2 at SS2 ⊢
          clear nq osq
          clear v3
          clear v7 v8
          go_wp2
          go_roundg (c - s)
          case measure => omega
          case rel => exact ⟨s, c, rfl, rfl, hss, hsc, by omega, Nat.le_refl _, SS2, H1, H3⟩
      · obtain rfl : s = r := by omega
        have hltz : ¬ (s : Int) < (s : Int) := by omega
        obtain ⟨e, he⟩ : ∃ e, mid + m - s = e := ⟨_, rfl⟩
        have V5 := Lib.hid (show (mid : Int) + (m : Int) - (s : Int) = (e : Int) from by omega)
        have hes1 : e + s ≤ mid + m := by omega
        have hes2 : mid + m ≤ e + s := by omega
        obtain ⟨A, B, C, D, ⟨lA, lB, lC, lD⟩, ⟨rA, rB, rC, rD⟩, hd4, hjoin⟩ := HSP.out s e (by omega) (by omega) (by omega) (by omega) (fun h1 h2 => (HLT.out _ _).1 (by
            have h3 := H2.out (by have := HR0.out; omega)
            rw [show p - s = e - 1 by omega] at h3
            exact h3)) (fun h1 h2 => by
            have h3 := H1.out (by have := HSS.out; omega)
            rw [show p - (s - 1) = e by omega] at h3
            have h4 : ¬ key d[e]! < key d[s - 1]! := fun h5 => by rw [(HLT.out _ _).2 h5] at h3; cases h3
            omega)
        have LA := Lib.hid lA
        have LB := Lib.hid lB
        have LC := Lib.hid lC
        have LD := Lib.hid lD
        have RA := Lib.hid rA
        have RB := Lib.hid rB
        have RC := Lib.hid rC
        have RD := Lib.hid rD
        have HD4 := Lib.hid hd4
        have HJ := Lib.hid hjoin
        clear he lA lB lC lD rA rB rC rD hd4 hjoin H1 H2 HSP HLT HR0 HSS
        have v5 := V5.out
        go_upto_region 39 with (fail)
        clear v5
        go_cut [185] from 178 (fun sb wc => sb = .bool (decide (s < m ∧ m < e)) ∧ Aside (SWK enc k w0 blk off d wc))
        case first =>
          by_cases c1 : s < m
          · have z1 : (s : Int) < (m : Int) := by omega
            by_cases c2 : m < e
            · have z2 : (m : Int) < (e : Int) := by omega
              go_wp2_with fail
              go_meet
              case rel => exact ⟨congrArg Value.bool (decide_eq_true (And.intro c1 c2)).symm, SS1⟩
            · have z2 : ¬ (m : Int) < (e : Int) := by omega
              go_wp2_with fail
              go_meet
              case rel => exact ⟨congrArg Value.bool (decide_eq_false (fun h : s < m ∧ m < e => c2 h.2)).symm, SS1⟩
          · have z1 : ¬ (s : Int) < (m : Int) := by omega
            go_wp2_with fail
            go_meet
            case rel => exact ⟨congrArg Value.bool (decide_eq_false (fun h : s < m ∧ m < e => c1 h.1)).symm, SS1⟩
        case rest =>
          clear SS1
          obtain ⟨rfl, SS1⟩ := hcut
          obtain ⟨bq, hbq⟩ : ∃ bq, decide (s < m ∧ m < e) = bq := ⟨_, rfl⟩
          rw [hbq]
          have HBQ := Lib.hid hbq
          clear hbq
          go_upto_if 185 with (fail)
          go_cut [] from 25 (fun wc => ∃ d1 : Array α, Hid (d1.toList = P1 ++ (A ++ (C ++ (B ++ (D ++ Q1))))) ∧ Aside (SWK enc k w0 blk off d1 wc))
          case first =>
            cases bq with
            | true =>
              have h12 := of_decide_eq_true HBQ.out
              have HCC := Lib.hid (rotate_w L enc cf g cb blk off cap s m e d0 d w0 wc R hs SS1.out (P1 ++ A) B C (D ++ Q1) (by rw [HD4.out]; simp) (by rw [List.length_append, HP1.out, LA.out]; omega) (by rw [LB.out]; omega) (by rw [LC.out]; omega) (by rw [LB.out]; omega) (by rw [LC.out]; omega) hsz)
              clear h12
              go_wp2_with (go_at_fn 142; refine HCC.out.mono ?_; rintro e1 w1 ⟨rfl, d1, hd1, hw1⟩; have SS2 : Aside (SWK enc k w0 blk off d1 w1) := hw1; have HD1 := Lib.hid hd1; clear hw1 hd1)
              go_meet
              case rel => exact ⟨d1, (show _ = _ by rw [HD1.out]; simp), SS2⟩
            | false =>
              have h12 := of_decide_eq_false HBQ.out
              have HZ := Lib.hid (show B.length = 0 ∨ C.length = 0 by rw [LB.out, LC.out]; omega)
              clear h12
              go_wp2_with fail
              go_meet
              case rel => exact ⟨d, (show _ = _ by rw [HD4.out]; exact app_swap P1 A B C _ HZ.out), SS1⟩
          case rest =>
            clear SS1 HBQ
            obtain ⟨d1, HD1, SS2⟩ := hcut
            have HSZ1 : Hid (d1.size = d.size) := by
              show _ = _
              rw [← Array.length_toList (xs := d1), ← Array.length_toList (xs := d), HD1.out, HD4.out]
              simp only [List.length_append]
              omega
            go_upto_region 41 with (fail)
            go_cut [199] from 192 (fun sb wc => sb = .bool (decide (a < s ∧ s < mid)) ∧ Aside (SWK enc k w0 blk off d1 wc))
            case first =>
              by_cases c1 : a < s
              · have z1 : (a : Int) < (s : Int) := by omega
                by_cases c2 : s < mid
                · have z2 : (s : Int) < (mid : Int) := by omega
                  go_wp2_with fail
                  go_meet
                  case rel => exact ⟨congrArg Value.bool (decide_eq_true (And.intro c1 c2)).symm, SS2⟩
                · have z2 : ¬ (s : Int) < (mid : Int) := by omega
                  go_wp2_with fail
                  go_meet
                  case rel => exact ⟨congrArg Value.bool (decide_eq_false (fun h : a < s ∧ s < mid => c2 h.2)).symm, SS2⟩
              · have z1 : ¬ (a : Int) < (s : Int) := by omega
                go_wp2_with fail
                go_meet
                case rel => exact ⟨congrArg Value.bool (decide_eq_false (fun h : a < s ∧ s < mid => c1 h.1)).symm, SS2⟩
            case rest =>
              clear SS2
              obtain ⟨rfl, SS2⟩ := hcut
              obtain ⟨bq, hbq⟩ : ∃ bq, decide (a < s ∧ s < mid) = bq := ⟨_, rfl⟩
              rw [hbq]
              have HBQ := Lib.hid hbq
              clear hbq
              go_upto_if 199 with (fail)
              go_cut [] from 25 (fun wc => ∃ (d2 : Array α) (R1 : List α), Hid (d2.toList = P1 ++ (R1 ++ (B ++ (D ++ Q1)))) ∧ Hid (Stb key R1 (A ++ C)) ∧ Aside (SWK enc k w0 blk off d2 wc))
              case first =>
                cases bq with
                | true =>
                  have h12 := of_decide_eq_true HBQ.out
                  have HCC := Lib.hid (HIH.out a s mid d1 wc P1 A C (B ++ (D ++ Q1)) (by omega) HSZ1.out SS2.out HD1.out HP1.out (by rw [LA.out]; omega) (by rw [LC.out]; omega) RA.out RC.out (by rw [LA.out]; omega) (by rw [LC.out]; omega))
                  clear h12
                  go_wp2_with (go_at_fn 123; refine HCC.out.mono ?_; rintro e1 w1 ⟨rfl, d2, R1, hd2, hr1, hw2⟩; have SS3 : Aside (SWK enc k w0 blk off d2 w1) := hw2; have HD2 := Lib.hid hd2; have HR1 := Lib.hid hr1; clear hw2 hd2 hr1)
                  go_meet
                  case rel => exact ⟨d2, R1, HD2, HR1, SS3⟩
                | false =>
                  have h12 := of_decide_eq_false HBQ.out
                  have HZ := Lib.hid (show A.length = 0 ∨ C.length = 0 by rw [LA.out, LC.out]; omega)
                  clear h12
                  go_wp2_with fail
                  go_meet
                  case rel => exact ⟨d1, A ++ C, (show _ = _ by rw [HD1.out]; simp), stb_none RA.out RC.out HZ.out, SS2⟩
              case rest =>
                clear SS2 HBQ
                obtain ⟨d2, R1, HD2, HR1, SS3⟩ := hcut
                have HL1 : Hid (R1.length = (s - a) + (e - m)) := by
                  show _ = _
                  rw [HR1.out.len, List.length_append, LA.out, LC.out]
                have HSZ2 : Hid (d2.size = d.size) := by
                  show _ = _
                  rw [← Array.length_toList (xs := d2), ← Array.length_toList (xs := d), HD2.out, HD4.out]
                  simp only [List.length_append]
                  have h1 := HL1.out; have h2 := LA.out; have h3 := LC.out
                  omega
                by_cases c1 : mid < e
                · have z1 : (mid : Int) < (e : Int) := by omega
                  by_cases c2 : e < b
                  · have z2 : (e : Int) < (b : Int) := by omega
                    have HCC := Lib.hid (HIH.out mid e b d2 wc (P1 ++ R1) B D Q1 (by omega) HSZ2.out SS3.out (by rw [HD2.out]; simp) (by rw [List.length_append, HP1.out, HL1.out]; omega) (by rw [LB.out]; omega) (by rw [LD.out]; omega) RB.out RD.out (by rw [LB.out]; omega) (by rw [LD.out]; omega))
                    go_wp2_with (go_at_fn 123; refine HCC.out.mono ?_; rintro e1 w1 ⟨rfl, d3, R2, hd3, hr2, hw2⟩; have SS4 : Aside (SWK enc k w0 blk off d3 w1) := hw2; have HD3 := Lib.hid hd3; have HR2 := Lib.hid hr2; clear hw2 hd3 hr2)
                    go_end0
                    exact ⟨rfl, d3, R1 ++ R2, by rw [HD3.out]; simp, HJ.out R1 R2 HR1.out HR2.out, SS4.out⟩
                  · have z2 : ¬ (e : Int) < (b : Int) := by omega
                    go_wp2
                    go_end0
                    exact ⟨rfl, d2, R1 ++ (B ++ D), by rw [HD2.out]; simp, HJ.out R1 (B ++ D) HR1.out (stb_none RB.out RD.out (.inr (by rw [LD.out]; omega))), SS3.out⟩
                · have z1 : ¬ (mid : Int) < (e : Int) := by omega
                  go_wp2
                  go_end0
                  exact ⟨rfl, d2, R1 ++ (B ++ D), by rw [HD2.out]; simp, HJ.out R1 (B ++ D) HR1.out (stb_none RB.out RD.out (.inl (by rw [LB.out]; omega))), SS3.out⟩
/-- slices.symMergeCmpFunc: two stretches that rise become one, equals left in their order. -/
theorem symMerge_any (L : StbLays P k) (enc : α → List Value) (cf : α → α → Int) (g : Nat) (cb : Array Value) (blk off cap : Nat) (hlt : ∀ x y, ltOf cf x y = true ↔ key x < key y) (eg : ∀ args w, (callFunc g args).run P w = .ok (.enter g args) w) (d0 : Array α) (w0 : World) (hcmp : CmpLays P g cb enc k cf blk off d0.size w0) (R : RowK enc k w0 blk off d0) (sz : Nat) (hs : d0.size = sz) (hsz : sz < 4611686018427387904) :
    ∀ (N a m b : Nat) (d : Array α) (w : World) (P1 X1 Y1 Q1 : List α), b - a < N → d.size = sz → SWK enc k w0 blk off d w → d.toList = P1 ++ (X1 ++ (Y1 ++ Q1)) → P1.length = a → a + X1.length = m → m + Y1.length = b → Rise key X1 → Rise key Y1 → 0 < X1.length → 0 < Y1.length →
      Calls P 123 #[.slice (some ⟨blk, off, none⟩) sz cap, .int .i64 a, .int .i64 m, .int .i64 b, .func (.func g) #[] cb] w fun e w' => e = .returned (.tuple #[]) ∧ ∃ (d' : Array α) (R1 : List α), d'.toList = P1 ++ (R1 ++ Q1) ∧ Stb key R1 (X1 ++ Y1) ∧ SWK enc k w0 blk off d' w' := by
  intro N
  induction N with
  | zero => intro a m b d w P1 X1 Y1 Q1 h; exact absurd h (Nat.not_lt_zero _)
  | succ N ih =>
    intro a m b d w P1 X1 Y1 Q1 hN hds S hd ha hm hb hX hY hx hy
    subst hds
    by_cases h1 : X1.length = 1
    · obtain ⟨x1, rfl⟩ := List.length_eq_one_iff.1 h1
      exact symMerge_l L enc cf g cb blk off cap hlt eg a m b d0 d w0 w hcmp R hs S P1 Y1 Q1 x1 hd ha (by simpa using hm) hb hY hy hsz
    · by_cases h2 : Y1.length = 1
      · obtain ⟨y1, rfl⟩ := List.length_eq_one_iff.1 h2
        exact symMerge_r L enc cf g cb blk off cap hlt eg a m b d0 d w0 w hcmp R hs S P1 X1 Q1 y1 hd ha hm (by simpa using hb) hX (by omega) hsz
      · exact symMerge_g L enc cf g cb blk off cap hlt eg a m b d0 d w0 w hcmp R hs S P1 X1 Y1 Q1 hd ha hm hb hX hY (by omega) (by omega) hsz (fun a' m' b' d' w' P' X' Y' Q' h3 h4 h5 h6 h7 h8 h9 h10 h11 h12 h13 => ih a' m' b' d' w' P' X' Y' Q' (by omega) h4 h5 h6 h7 h8 h9 h10 h11 h12 h13)
theorem symMerge_z (L : StbLays P k) (enc : α → List Value) (cf : α → α → Int) (g : Nat) (cb : Array Value) (blk off cap : Nat) (hlt : ∀ x y, ltOf cf x y = true ↔ key x < key y) (eg : ∀ args w, (callFunc g args).run P w = .ok (.enter g args) w) (d0 : Array α) (w0 : World) (hcmp : CmpLays P g cb enc k cf blk off d0.size w0) (R : RowK enc k w0 blk off d0) (sz : Nat) (hs : d0.size = sz) (hsz : sz < 4611686018427387904) (az mz bz : Int) (a m b : Nat) (haz : az = (a : Int)) (hmz : mz = (m : Int)) (hbz : bz = (b : Int)) (d : Array α) (w : World) (P1 X1 Y1 Q1 : List α) (hd : d.size = sz) (S : SWK enc k w0 blk off d w) (h1 : d.toList = P1 ++ (X1 ++ (Y1 ++ Q1))) (h2 : P1.length = a) (h3 : a + X1.length = m) (h4 : m + Y1.length = b) (h5 : Rise key X1) (h6 : Rise key Y1) (h7 : 0 < X1.length) (h8 : 0 < Y1.length) :
    Calls P 123 #[.slice (some ⟨blk, off, none⟩) sz cap, .int .i64 az, .int .i64 mz, .int .i64 bz, .func (.func g) #[] cb] w fun e w' => e = .returned (.tuple #[]) ∧ ∃ (d' : Array α) (R1 : List α), d'.toList = P1 ++ (R1 ++ Q1) ∧ Stb key R1 (X1 ++ Y1) ∧ SWK enc k w0 blk off d' w' := by
  subst haz; subst hmz; subst hbz
  exact symMerge_any L enc cf g cb blk off cap hlt eg d0 w0 hcmp R sz hs hsz (b - a + 1) a m b d w P1 X1 Y1 Q1 (Nat.lt_succ_self _) hd S h1 h2 h3 h4 h5 h6 h7 h8
/-- What the insertion sort of a stretch tells. -/
def InsTells (P : Program) (cap : Nat) (enc : α → List Value) (k g : Nat) (cb : Array Value) (blk off : Nat) (w0 : World) (sz : Nat) (key : α → Int) : Prop :=
  ∀ (az bz : Int) (a b : Nat) (d : Array α) (w : World) (P1 X1 Q1 : List α), az = (a : Int) → bz = (b : Int) → d.size = sz → SWK enc k w0 blk off d w → d.toList = P1 ++ (X1 ++ Q1) → P1.length = a → a + X1.length = b →
    Calls P 122 #[.slice (some ⟨blk, off, none⟩) sz cap, .int .i64 az, .int .i64 bz, .func (.func g) #[] cb] w fun e w' => e = .returned (.tuple #[]) ∧ ∃ (d' : Array α) (R1 : List α), d'.toList = P1 ++ (R1 ++ Q1) ∧ Stb key R1 X1 ∧ SWK enc k w0 blk off d' w'
theorem list_split3 {β : Type} (r : List β) (a c : Nat) : r = r.take a ++ ((r.drop a).take c ++ r.drop (a + c)) := by
  rw [← List.drop_drop, List.take_append_drop, List.take_append_drop]
set_option maxHeartbeats 8000000 in
set_option maxRecDepth 1000000 in
/-- slices.stableCmpFunc: the row is sorted, equals left in their order. -/
theorem stable_w (L : StbLays P k) (enc : α → List Value) (cf : α → α → Int) (g : Nat) (cb : Array Value) (blk off cap : Nat) (hlt : ∀ x y, ltOf cf x y = true ↔ key x < key y) (eg : ∀ args w, (callFunc g args).run P w = .ok (.enter g args) w) (d0 : Array α) (w0 : World) (hcmp : CmpLays P g cb enc k cf blk off d0.size w0) (R : RowK enc k w0 blk off d0) (sz : Nat) (hs : d0.size = sz) (hsz : sz ≤ 1000000000) (hIN : InsTells P cap enc k g cb blk off w0 sz key)
    (eIns : ∀ args w, (callFunc 122 args).run P w = .ok (.enter 122 args) w) (w : World) (S : SWK enc k w0 blk off d0 w) :
    Calls P 101 #[.slice (some ⟨blk, off, none⟩) sz cap, .int .i64 sz, .func (.func g) #[] cb] w fun e w' => e = .returned (.tuple #[]) ∧ ∃ d' : Array α, Stb key d'.toList d0.toList ∧ SWK enc k w0 blk off d' w' := by
  have mixed := L.mixed; have aE := L.aE; have zE := L.zE; have t0 := L.t0; have a0 := L.a0; have z0 := L.z0; have v0 := L.v0; have t3 := L.t3; have a3 := L.a3; have z3 := L.z3; have v3 := L.v3; have t4 := L.t4; have a4 := L.a4; have z4 := L.z4; have v4 := L.v4; have t31 := L.t31; have a31 := L.a31; have z31 := L.z31; have v31 := L.v31; have t105 := L.t105; have a105 := L.a105; have z105 := L.z105; have v105 := L.v105
  have eSym : ∀ args w, (callFunc 123 args).run P w = .ok (.enter 123 args) w := enters_of L.fSym (by kernel_rfl) rfl
  have HIN := Lib.hid hIN
  obtain ⟨l, hl⟩ : ∃ l, d0.toList = l := ⟨_, rfl⟩
  rw [hl]
  have hll : l.length = sz := by rw [← hl, Array.length_toList, hs]
  have HLL := Lib.hid hll
  have HM : Hid (∀ (az mz bz : Int) (a m b : Nat) (haz : az = (a : Int)) (hmz : mz = (m : Int)) (hbz : bz = (b : Int)) (d : Array α) (w : World) (P1 X1 Y1 Q1 : List α) (hd : d.size = sz) (S : SWK enc k w0 blk off d w) (h1 : d.toList = P1 ++ (X1 ++ (Y1 ++ Q1))) (h2 : P1.length = a) (h3 : a + X1.length = m) (h4 : m + Y1.length = b) (h5 : Rise key X1) (h6 : Rise key Y1) (h7 : 0 < X1.length) (h8 : 0 < Y1.length),
    Calls P 123 #[.slice (some ⟨blk, off, none⟩) sz cap, .int .i64 az, .int .i64 mz, .int .i64 bz, .func (.func g) #[] cb] w fun e w' => e = .returned (.tuple #[]) ∧ ∃ (d' : Array α) (R1 : List α), d'.toList = P1 ++ (R1 ++ Q1) ∧ Stb key R1 (X1 ++ Y1) ∧ SWK enc k w0 blk off d' w') := symMerge_z L enc cf g cb blk off cap hlt eg d0 w0 hcmp R sz hs (by omega)
  have SS0 : Aside (SWK enc k w0 blk off d0 w) := S
  have HD0 : Hid (d0.toList = l) := hl
  clear S hIN hl hll hlt hcmp R hs eg
  go_enter L.fStb, Try.ntmps101
  go_wp2
  go_loopg [7, 8] sz (fun kx s7 s8 wr => ∃ (i : Nat) (dk : Array α), s7 = .int .i64 (20 * (i : Int)) ∧ s8 = .int .i64 (20 * (i : Int) + 20) ∧ 20 * i ≤ sz ∧ sz - 20 * i ≤ kx ∧ Hid (Part key 20 i dk.toList l l) ∧ Aside (SWK enc k w0 blk off dk wr))
  case atStart => exact ⟨0, d0, rfl, rfl, by omega, by omega, (show Part _ _ _ _ _ _ from by rw [HD0.out]; exact part_start 20 l l rfl), SS0⟩
  case round =>
    clear SS0
    obtain ⟨i, dk, rfl, rfl, hi, hkx, HP, SS1⟩ := hrel
    by_cases hlt : 20 * i + 20 ≤ sz
    · have z1 : 20 * (i : Int) + 20 ≤ (sz : Int) := by omega
      have hsz1 : dk.size = sz := by rw [← Array.length_toList, HP.out.1, HLL.out]
      have hc := HIN.out (20 * (i : Int)) (20 * (i : Int) + 20) (20 * i) (20 * i + 20) dk wr (dk.toList.take (20 * i)) ((dk.toList.drop (20 * i)).take 20) (dk.toList.drop (20 * i + 20)) (by omega) (by omega) hsz1 SS1.out (list_split3 _ _ _) (by rw [List.length_take, Array.length_toList]; omega) (by rw [List.length_take, List.length_drop, Array.length_toList]; omega)
      have hx : (dk.toList.drop (20 * i)).take 20 = Go.Proofs.Ytklngklmeanhcaa.Hand.blk 20 i l := by unfold Go.Proofs.Ytklngklmeanhcaa.Hand.blk; rw [← HP.out.2.2, Nat.mul_comm i 20]
      rw [hx] at hc
      have HCC := Lib.hid hc
      clear hc hx hsz1 SS1
      go_wp2_with (go_at_fn 122; refine HCC.out.mono ?_; rintro e1 w1 ⟨rfl, d1, R1, hd1, hr1, hw1⟩; have SS2 : Aside (SWK enc k w0 blk off d1 w1) := hw1; have HD1 := Lib.hid hd1; have HR1 := Lib.hid hr1; clear hw1 hd1 hr1)
      go_roundg (sz - 20 * (i + 1))
      case measure => omega
      case rel => exact ⟨i + 1, d1, congrArg (Value.int .i64) (by omega), congrArg (Value.int .i64) (by omega), by omega, Nat.le_refl _, (show Part _ _ _ _ _ _ from by
        have h := part_step HP.out (by rw [HLL.out]; omega) HR1.out
        rw [Nat.mul_comm i 20] at h
        rw [HD1.out]; exact h), SS2⟩
    · have z1 : ¬ 20 * (i : Int) + 20 ≤ (sz : Int) := by omega
      have hsz1 : dk.size = sz := by rw [← Array.length_toList, HP.out.1, HLL.out]
      have hc := HIN.out (20 * (i : Int)) (sz : Int) (20 * i) sz dk wr (dk.toList.take (20 * i)) (dk.toList.drop (20 * i)) [] (by omega) rfl hsz1 SS1.out (by rw [List.append_nil, List.take_append_drop]) (by rw [List.length_take, Array.length_toList]; omega) (by rw [List.length_drop, Array.length_toList]; omega)
      have hx : dk.toList.drop (20 * i) = Go.Proofs.Ytklngklmeanhcaa.Hand.blk 20 i l := by unfold Go.Proofs.Ytklngklmeanhcaa.Hand.blk; rw [← HP.out.2.2, Nat.mul_comm i 20, List.take_of_length_le (by rw [List.length_drop, Array.length_toList]; omega)]
      rw [hx] at hc
      have HCC := Lib.hid hc
      clear hc hx hsz1 SS1
      go_wp2_with (go_at_fn 122; refine HCC.out.mono ?_; rintro e1 w1 ⟨rfl, d1, R1, hd1, hr1, hw1⟩; have SS2 : Aside (SWK enc k w0 blk off d1 w1) := hw1; have HD1 := Lib.hid hd1; have HR1 := Lib.hid hr1; clear hw1 hd1 hr1)
      have HB1 : Hid (Blks key 20 d1.toList l) := (show Blks _ _ _ _ from by
        have h := part_last HP.out (by rw [HLL.out]; omega) (by rw [HLL.out]; omega) HR1.out
        rw [Nat.mul_comm i 20] at h
        rw [HD1.out, List.append_nil]; exact h)
      clear HP HD1 HR1 HIN HCC
      go_loopg [6] sz (fun kx s6 wr => ∃ (bs : Nat) (dk : Array α), s6 = .int .i64 bs ∧ 20 ≤ bs ∧ bs ≤ 2 * sz + 20 ∧ sz - bs ≤ kx ∧ Hid (Blks key bs dk.toList l) ∧ Aside (SWK enc k w0 blk off dk wr))
      case atStart => exact ⟨20, d1, rfl, Nat.le_refl _, by omega, by omega, HB1, SS2⟩
      case round =>
        clear SS2 HB1
        obtain ⟨bs, prev, rfl, hb20, hbm, hkx2, HB, SS1⟩ := hrel
        by_cases hlt : bs < sz
        · have z2 : (bs : Int) < (sz : Int) := by omega
          go_wp2
          go_loopg [7, 8] sz (fun kx s7 s8 wr => ∃ (i a : Nat) (dk : Array α), s7 = .int .i64 a ∧ s8 = .int .i64 ((a : Int) + 2 * (bs : Int)) ∧ a ≤ sz ∧ sz - a ≤ kx ∧ Hid (a = i * (2 * bs)) ∧ Hid (Part key (2 * bs) i dk.toList prev.toList l) ∧ Aside (SWK enc k w0 blk off dk wr))
          case atStart => exact ⟨0, 0, prev, rfl, congrArg (Value.int .i64) (by omega), Nat.zero_le _, Nat.le_refl _, (show _ = _ from (Nat.zero_mul _).symm), (show Part _ _ _ _ _ _ from part_start (2 * bs) prev.toList l HB.out.1), SS1⟩
          case round =>
            clear SS1
            obtain ⟨i, a, dk, rfl, rfl, ha, hkx3, HA, HP, SS1⟩ := hrel
            obtain ⟨h1, h2, h3, h4⟩ := part_two HB.out HP.out
            rw [← HA.out] at h1
            have hsz1 : dk.size = sz := by rw [← Array.length_toList, HP.out.1, HLL.out]
            have hpl : prev.toList.length = sz := by rw [HB.out.1, HLL.out]
            have hab : 2 * i * bs = a := by rw [HA.out, ← Nat.mul_assoc, Nat.mul_comm i 2]
            have hl1 : (Go.Proofs.Ytklngklmeanhcaa.Hand.blk bs (2 * i) prev.toList).length = min bs (sz - a) := by rw [blk_len, hpl, hab]
            have hl2 : (Go.Proofs.Ytklngklmeanhcaa.Hand.blk bs (2 * i + 1) prev.toList).length = min bs (sz - (a + bs)) := by rw [blk_len, hpl, Nat.add_mul, Nat.one_mul, hab]
            have ht : dk.toList = dk.toList.take a ++ (Go.Proofs.Ytklngklmeanhcaa.Hand.blk bs (2 * i) prev.toList ++ (Go.Proofs.Ytklngklmeanhcaa.Hand.blk bs (2 * i + 1) prev.toList ++ dk.toList.drop (a + 2 * bs))) := by
              conv => lhs; rw [← List.take_append_drop a dk.toList, h1]
            have htl : (dk.toList.take a).length = a := by rw [List.length_take, Array.length_toList]; omega
            have HL1 := Lib.hid hl1
            have HL2 := Lib.hid hl2
            have HT := Lib.hid ht
            have HTL := Lib.hid htl
            have HSZ := Lib.hid hsz1
            have HK := Lib.hid h2
            have HR3 := Lib.hid h3
            have HR4 := Lib.hid h4
            clear h1 h2 h3 h4 hsz1 hpl hab hl1 hl2 ht htl
            by_cases hlt2 : a + 2 * bs ≤ sz
            · have z3 : (a : Int) + 2 * (bs : Int) ≤ (sz : Int) := by omega
              have HCC := Lib.hid (HM.out (a : Int) ((a : Int) + (bs : Int)) ((a : Int) + 2 * (bs : Int)) a (a + bs) (a + 2 * bs) rfl (by omega) (by omega) dk wr (dk.toList.take a) (Go.Proofs.Ytklngklmeanhcaa.Hand.blk bs (2 * i) prev.toList) (Go.Proofs.Ytklngklmeanhcaa.Hand.blk bs (2 * i + 1) prev.toList) (dk.toList.drop (a + 2 * bs)) HSZ.out SS1.out HT.out HTL.out (by rw [HL1.out]; omega) (by rw [HL2.out]; omega) HR3.out HR4.out (by rw [HL1.out]; omega) (by rw [HL2.out]; omega))
              go_wp2_with (go_at_fn 123; refine HCC.out.mono ?_; rintro e1 w1 ⟨rfl, d2, R1, hd1, hr1, hw1⟩; have SS2 : Aside (SWK enc k w0 blk off d2 w1) := hw1; have HD1 := Lib.hid hd1; have HR1 := Lib.hid hr1; clear hw1 hd1 hr1)
              go_roundg (sz - (a + 2 * bs))
              case measure => omega
              case rel => exact ⟨i + 1, a + 2 * bs, d2, congrArg (Value.int .i64) (by omega), congrArg (Value.int .i64) (by omega), hlt2, Nat.le_refl _, (show _ = _ by rw [HA.out, Nat.add_mul, Nat.one_mul]), (show Part _ _ _ _ _ _ from by
                have h := part_step HP.out (by rw [HLL.out, ← HA.out]; omega) (HR1.out.trans HK.out)
                rw [← HA.out] at h
                rw [HD1.out]; exact h), SS2⟩
            · have z3 : ¬ (a : Int) + 2 * (bs : Int) ≤ (sz : Int) := by omega
              by_cases hlt3 : a + bs < sz
              · have z4 : (a : Int) + (bs : Int) < (sz : Int) := by omega
                have hdr : dk.toList.drop (a + 2 * bs) = [] := List.drop_of_length_le (by rw [Array.length_toList, HSZ.out]; omega)
                have hc := HM.out (a : Int) ((a : Int) + (bs : Int)) (sz : Int) a (a + bs) sz rfl (by omega) rfl dk wr (dk.toList.take a) (Go.Proofs.Ytklngklmeanhcaa.Hand.blk bs (2 * i) prev.toList) (Go.Proofs.Ytklngklmeanhcaa.Hand.blk bs (2 * i + 1) prev.toList) (dk.toList.drop (a + 2 * bs)) HSZ.out SS1.out HT.out HTL.out (by rw [HL1.out]; omega) (by rw [HL2.out]; omega) HR3.out HR4.out (by rw [HL1.out]; omega) (by rw [HL2.out]; omega)
                rw [hdr] at hc
                have HCC := Lib.hid hc
                clear hc hdr
                go_wp2_with (go_at_fn 123; refine HCC.out.mono ?_; rintro e1 w1 ⟨rfl, d2, R1, hd1, hr1, hw1⟩; have SS2 : Aside (SWK enc k w0 blk off d2 w1) := hw1; have HD1 := Lib.hid hd1; have HR1 := Lib.hid hr1; clear hw1 hd1 hr1)
                go_roundg (sz - 2 * bs)
                case measure => omega
                case rel => exact ⟨2 * bs, d2, congrArg (Value.int .i64) (by omega), by omega, by omega, Nat.le_refl _, (show Blks _ _ _ _ from by
                  have h := part_last HP.out (by rw [HLL.out, ← HA.out]; omega) (by rw [HLL.out, ← HA.out]; omega) (HR1.out.trans HK.out)
                  rw [← HA.out] at h
                  rw [HD1.out, List.append_nil]; exact h), SS2⟩
              · have z4 : ¬ (a : Int) + (bs : Int) < (sz : Int) := by omega
                have he : Go.Proofs.Ytklngklmeanhcaa.Hand.blk bs (2 * i + 1) prev.toList = [] := List.eq_nil_of_length_eq_zero (by rw [HL2.out]; omega)
                have hdr : dk.toList.drop (a + 2 * bs) = [] := List.drop_of_length_le (by rw [Array.length_toList, HSZ.out]; omega)
                have hst : Stb key (Go.Proofs.Ytklngklmeanhcaa.Hand.blk bs (2 * i) prev.toList) (Go.Proofs.Ytklngklmeanhcaa.Hand.blk (2 * bs) i l) := by
                  have h0 : ∀ k, ofKey key k (Go.Proofs.Ytklngklmeanhcaa.Hand.blk bs (2 * i) prev.toList) = ofKey key k (Go.Proofs.Ytklngklmeanhcaa.Hand.blk (2 * bs) i l) := fun k => by
                    have h := HK.out k
                    rw [he, List.append_nil] at h
                    exact h
                  exact (Stb.refl HR3.out).trans h0
                have hbl : Blks key (2 * bs) dk.toList l := by
                  have h := part_last HP.out (by rw [HLL.out, ← HA.out]; omega) (by rw [HLL.out, ← HA.out]; omega) hst
                  rw [← HA.out] at h
                  rw [HT.out, he, hdr, List.nil_append, List.append_nil]; exact h
                have HBL := Lib.hid hbl
                clear he hdr hst hbl
                go_wp2
                go_roundg (sz - 2 * bs)
                case measure => omega
                case rel => exact ⟨2 * bs, dk, congrArg (Value.int .i64) (by omega), by omega, by omega, Nat.le_refl _, HBL, SS1⟩
        · have z2 : ¬ (bs : Int) < (sz : Int) := by omega
          have HST := Lib.hid (blks_whole HB.out (by rw [HLL.out]; omega))
          go_wp2
          go_end0
          exact ⟨rfl, prev, HST.out, SS1.out⟩
end

end Go.Proofs.Ytklngklmeanhcaa.P
