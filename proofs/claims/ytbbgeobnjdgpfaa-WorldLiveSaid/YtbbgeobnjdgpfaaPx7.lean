/- Each Go function that the laws reach, as a plain function, with the proof that the machine's call comes to what it says; of a law: its row. Made by a program of this seat (wip/hp.py, over the print). -/
import Derived.Test.YtbbgeobnjdgpfaaPx0
import Derived.Test.YtbbgeobnjdgpfaaPx1
import Derived.Test.YtbbgeobnjdgpfaaPx2
import Derived.Test.YtbbgeobnjdgpfaaPx3
import Derived.Test.YtbbgeobnjdgpfaaPx4
import Derived.Test.YtbbgeobnjdgpfaaPx5
import Derived.Test.YtbbgeobnjdgpfaaPx6
namespace Go.Proofs.Ytbbgeobnjdgpfaa.P
open Go.RowKit Go.Proofs.YtbbgeobnjdgpfaaW.PrintWords Go.Proofs.YtbbgeobnjdgpfaaW.PrintLast Go.Proofs.YtbbgeobnjdgpfaaW.PrintMore
attribute [local go_sem] max2_int min2_int max_two min_two max_three min_three max_four min_four   -- for this text's walks alone
set_option linter.unusedVariables false
set_option linter.unusedSimpArgs false

/-! ### gangplanklaw18_WorldLive: function 6 -/
section
open Go.Shelf Go.Proofs.Ytbbgeobnjdgpfaa.Hand
def keyOf (l : List S95) : List ByteArray := (gangplankref12_Keys.f 1000 l).getD []
def lvGo (n : Int) (ks : List ByteArray) (sh : List Int) : Nat → Nat → List (List S95) → List (List S95) → Option (Option (List (List S95) × List (List S95)))
  | 0, _, ts, rs => some (some (ts, rs))
  | d + 1, i, ts, rs => if 60 < (ks.getD i ⟨#[]⟩).size ∨ sh.getD i 0 < 0 ∨ n ≤ sh.getD i 0 then some none else
    (flows_Put.f (ts.getD (sh.getD i 0).toNat []) (ks.getD i ⟨#[]⟩) 1 1).bind fun p => (gangplankref12_Put.f 1000 (rs.getD (sh.getD i 0).toNat []) (ks.getD i ⟨#[]⟩) 1 1).bind fun q => lvGo n ks sh d (i + 1) (ts.set (sh.getD i 0).toNat p.1) (rs.set (sh.getD i 0).toNat q.1)
def lvEnd : Option (List (List S95) × List (List S95)) → Option Bool
  | none => some true
  | some (ts, rs) => if rs.all (fun l => (gangplankref12_Keys.f 1000 l).isSome) = true ∧ ts.all (fun l => decide (l.length ≤ 1000000)) = true ∧ (keysT ts).length ≤ 1000000 ∧ (rs.flatMap keyOf).length ≤ 1000000 then gangplankref12_Texts.f 1000 (keysT ts) (rs.flatMap keyOf) else none
def Free (gt rt q b1 b2 rl k : Nat) : Prop := k ≠ gt ∧ k ≠ rt ∧ k ≠ q ∧ k ≠ b1 ∧ k ≠ b2 ∧ k ≠ rl
structure LvNe (M B p g q b1 b2 gt rt rl : Nat) : Prop where
  lo : M ≤ p ∧ M ≤ g ∧ M ≤ q ∧ M ≤ b1 ∧ M ≤ b2 ∧ M ≤ gt ∧ M ≤ rt ∧ M ≤ rl
  n1 : p ≠ gt ∧ p ≠ rt ∧ p ≠ rl ∧ g ≠ gt ∧ g ≠ rt ∧ g ≠ rl
  n2 : gt ≠ rt ∧ gt ≠ q ∧ gt ≠ b1 ∧ gt ≠ b2 ∧ gt ≠ rl
  n3 : rt ≠ q ∧ rt ≠ b1 ∧ rt ≠ b2 ∧ rt ≠ rl
  n4 : rl ≠ q ∧ rl ≠ b1 ∧ rl ≠ b2
  n6 : B ≠ gt ∧ B ≠ rt ∧ B ≠ rl ∧ B ≠ q ∧ B ≠ b1 ∧ B ≠ b2
  n5 : p ≠ q ∧ p ≠ b1 ∧ p ≠ b2 ∧ g ≠ q ∧ g ≠ b1 ∧ g ≠ b2
structure LvSt (W0 W : World) (lp lg lc : List Value) (B p g q b1 b2 gt rt rl n cl : Nat) (s : CS) (ts rs : List (List S95)) (lks : List Int) : Prop where
  hc : Blk W B 23 lc
  hp : Blk W p 38 lp
  hg : Blk W g 43 lg
  hh : Held W q b1 b2 s
  t1 : Tab W (Free gt rt q b1 b2 rl) gt ts
  t2 : Tab W (Free gt rt q b1 b2 rl) rt rs
  hl : Kd.R (Kd.int .i64) 3 W 0 (fun k => k = rl) (.slice (some ⟨rl, 0, none⟩) n cl) lks
  hb : Below W0.heap.size W0 W
section
variable {W0 W W' : World} {lp lg lc : List Value} {B p g q b1 b2 gt rt rl n cl : Nat} {s s' : CS} {ts rs : List (List S95)} {lks : List Int}
theorem LvSt.below (h : LvSt W0 W lp lg lc B p g q b1 b2 gt rt rl n cl s ts rs lks) (hb : Below W.heap.size W W') : LvSt W0 W' lp lg lc B p g q b1 b2 gt rt rl n cl s ts rs lks :=
  ⟨h.hc.below hb, h.hp.below hb, h.hg.below hb, h.hh.below hb, h.t1.below hb, h.t2.below hb, Kd.R_below h.hl hb, h.hb.trans (hb.mono h.hb.size)⟩
theorem LvSt.put1 (h : LvSt W0 W lp lg lc B p g q b1 b2 gt rt rl n cl s ts rs lks) (hn : LvNe W0.heap.size B p g q b1 b2 gt rt rl) (k : Nat) (hk : k < ts.length) (v : Value) (l : List S95) (hv : Kd.V k95 95 W 0 (Free gt rt q b1 b2 rl) v l) : LvSt W0 (W.setCell ⟨gt, k, none⟩ v) lp lg lc B p g q b1 b2 gt rt rl n cl s (ts.set k l) rs lks :=
  ⟨h.hc.far _ hn.n6.1.symm _, h.hp.far _ hn.n1.1.symm _, h.hg.far _ hn.n1.2.2.2.1.symm _, h.hh.other _ hn.n2.2.1 hn.n2.2.2.1 hn.n2.2.2.2.1 _, h.t1.set (fun _ hk => hk.1) k hk v l hv, h.t2.step (Below.heap_setCell _ _ _ _ hn.n2.1.symm) (fun i hi _ => Below.heap_setCell _ _ _ _ hi.1), Kd.R_far h.hl (fun i hi => by subst hi; exact hn.n2.2.2.2.2.symm) _, h.hb.setCell hn.lo.2.2.2.2.2.1 _⟩
theorem LvSt.put2 (h : LvSt W0 W lp lg lc B p g q b1 b2 gt rt rl n cl s ts rs lks) (hn : LvNe W0.heap.size B p g q b1 b2 gt rt rl) (k : Nat) (hk : k < rs.length) (v : Value) (l : List S95) (hv : Kd.V k95 95 W 0 (Free gt rt q b1 b2 rl) v l) : LvSt W0 (W.setCell ⟨rt, k, none⟩ v) lp lg lc B p g q b1 b2 gt rt rl n cl s ts (rs.set k l) lks :=
  ⟨h.hc.far _ hn.n6.2.1.symm _, h.hp.far _ hn.n1.2.1.symm _, h.hg.far _ hn.n1.2.2.2.2.1.symm _, h.hh.other _ hn.n3.1 hn.n3.2.1 hn.n3.2.2.1 _, h.t1.step (Below.heap_setCell _ _ _ _ hn.n2.1) (fun i hi _ => Below.heap_setCell _ _ _ _ hi.2.1), h.t2.set (fun _ hk => hk.2.1) k hk v l hv, Kd.R_far h.hl (fun i hi => by subst hi; exact hn.n3.2.2.2.symm) _, h.hb.setCell hn.lo.2.2.2.2.2.2.1 _⟩
theorem LvSt.lock (h : LvSt W0 W lp lg lc B p g q b1 b2 gt rt rl n cl s ts rs lks) (hn : LvNe W0.heap.size B p g q b1 b2 gt rt rl) (hh : Held W' q b1 b2 s') (ht : Touch W W' q b1 b2) : LvSt W0 W' lp lg lc B p g q b1 b2 gt rt rl n cl s' ts rs lks := by
  obtain ⟨v1, hv1⟩ := h.t1.blk
  obtain ⟨v2, hv2⟩ := h.t2.blk
  exact ⟨ht.blk h.hc hn.n6.2.2.2.1 hn.n6.2.2.2.2.1 hn.n6.2.2.2.2.2, ht.blk h.hp hn.n5.1 hn.n5.2.1 hn.n5.2.2.1, ht.blk h.hg hn.n5.2.2.2.1 hn.n5.2.2.2.2.1 hn.n5.2.2.2.2.2, hh, h.t1.step (ht.far _ hv1.lt hn.n2.2.1 hn.n2.2.2.1 hn.n2.2.2.2.1) (fun i hi hl => ht.far i hl hi.2.2.1 hi.2.2.2.1 hi.2.2.2.2.1), h.t2.step (ht.far _ hv2.lt hn.n3.1 hn.n3.2.1 hn.n3.2.2.1) (fun i hi hl => ht.far i hl hi.2.2.1 hi.2.2.2.1 hi.2.2.2.2.1), Kd.R_step h.hl (fun i hi hl => by subst hi; exact ht.far _ hl hn.n4.1 hn.n4.2.1 hn.n4.2.2), h.hb.trans (ht.below _ hn.lo.2.2.1 hn.lo.2.2.2.1 hn.lo.2.2.2.2.1 h.hb.size)⟩
theorem LvSt.own (h : LvSt W0 W lp lg lc B p g q b1 b2 gt rt rl n cl s ts rs lks) (hn : LvNe W0.heap.size B p g q b1 b2 gt rt rl) (k : Nat) (x : Int) : LvSt W0 (W.setCell ⟨rl, k, none⟩ (.int .i64 x)) lp lg lc B p g q b1 b2 gt rt rl n cl s ts rs (lks.set k x) :=
  ⟨h.hc.far _ hn.n6.2.2.1.symm _, h.hp.far _ hn.n1.2.2.1.symm _, h.hg.far _ hn.n1.2.2.2.2.2.symm _, h.hh.other _ hn.n4.1 hn.n4.2.1 hn.n4.2.2 _, h.t1.step (Below.heap_setCell _ _ _ _ hn.n2.2.2.2.2) (fun i hi _ => Below.heap_setCell _ _ _ _ hi.2.2.2.2.2), h.t2.step (Below.heap_setCell _ _ _ _ hn.n3.2.2.2) (fun i hi _ => Below.heap_setCell _ _ _ _ hi.2.2.2.2.2), Kd.R_putn h.hl (k : Int) x, h.hb.setCell hn.lo.2.2.2.2.2.2.2 _⟩
theorem LvSt.new_free (h : LvSt W0 W lp lg lc B p g q b1 b2 gt rt rl n cl s ts rs lks) (k : Nat) (hk : W.heap.size ≤ k) : Free gt rt q b1 b2 rl k := by
  obtain ⟨v1, hv1⟩ := h.t1.blk
  obtain ⟨v2, hv2⟩ := h.t2.blk
  have h1 := hv1.lt
  have h2 := hv2.lt
  have h3 := h.hh.hp.lt
  have h4 := h.hh.h1.lt
  have h5 := h.hh.h2.lt
  have h6 := Kd.R_lt h.hl rl (by simp [Value.ownBlock])
  exact ⟨by omega, by omega, by omega, by omega, by omega, by omega⟩
end
theorem vBase {α : Type} {d : Kd α} {e b b' : Nat} {W : World} {ok : Nat → Prop} {v : Value} {xs : List α} (h : Kd.V d e W b ok v xs) : Kd.V d e W b' ok v xs := h
theorem lock_owners (s : CS) (k : Nat) (i : Int) (hk : k < s.owners.length) (hi : 0 ≤ i) : (s.lock k i).2.owners = if s.owners.getD k 0 = -1 then s.owners.set k i else s.owners := by
  unfold CS.lock CS.turn
  rw [if_pos ⟨by omega, by omega⟩, Int.toNat_natCast]
  by_cases h : s.owners.getD k 0 = -1
  · rw [if_pos ⟨hi, h⟩, if_pos h]
  · rw [if_neg (fun x => h x.2), if_neg h]
theorem ref_fs3 (c e : Int) (hc : 1 ≤ c ∧ c ≤ 64) (he : 2 ≤ e ∧ e ≤ 8) : gangplankref12_New.f c = some (List.replicate c.toNat z95) ∧ (∃ sl, gangplankref16_New.f e = some sl) ∧ (∃ kl, gangplankref15_New.f e = some kl) := by
  refine ⟨?_, ?_, ?_⟩
  · have hm : mx 0 (mn c 64) = c := by unfold mx mn; split <;> split <;> omega
    unfold gangplankref12_New.f
    rw [hm, if_pos (by omega), if_pos (by omega)]
  · have hm : mx 0 (mn e 8) = e := by unfold mx mn; split <;> split <;> omega
    unfold gangplankref16_New.f
    rw [hm, if_pos (by omega), if_pos (by omega)]
    exact ⟨_, rfl⟩
  · have hm : mx 0 (mn e 8) = e := by unfold mx mn; split <;> split <;> omega
    unfold gangplankref15_New.f
    rw [hm, if_pos (by omega), if_pos (by omega)]
    exact ⟨_, rfl⟩
theorem ints_loop (a : List Int) (ha : a.length ≤ 900) (d : Nat) : ∀ (k i : Nat), a.length - i = d → i ≤ a.length → d < k → gangplankref08_Ints.l0 k a a (i : Int) = some true := by
  induction d with
  | zero =>
    intro k i hd hi hk
    obtain ⟨k, rfl⟩ : ∃ m, k = m + 1 := ⟨k - 1, by omega⟩
    simp only [gangplankref08_Ints.l0]
    rw [if_neg (by omega)]
  | succ d ih =>
    intro k i hd hi hk
    obtain ⟨k, rfl⟩ : ∃ m, k = m + 1 := ⟨k - 1, by omega⟩
    simp only [gangplankref08_Ints.l0]
    rw [if_pos (by omega), if_pos (by omega), if_pos (by omega), if_pos (by trivial), show wrap64 ((i : Int) + 1) = ((i + 1 : Nat) : Int) by unfold wrap64; omega]
    exact ih k (i + 1) (by omega) (by omega) (by omega)
theorem ints_same (a : List Int) (ha : a.length ≤ 900) : gangplankref08_Ints.f 1000 a a = some true := by
  unfold gangplankref08_Ints.f
  rw [if_pos rfl]
  exact ints_loop a ha a.length 1000 0 (by omega) (by omega) (by omega)
theorem atInt3 {w : World} {A : Option Addr} {n : Nat} {xs : List Int} (h : Kd.C (Kd.int .i64) w A n xs) (i : Nat) (h1 : i < n) : ∃ ad, A = some ad ∧ w.cell? (ad.add i) = some (.int .i64 (xs.getD i 0)) := by
  obtain ⟨ad, c, e, _, hK, hc⟩ := Kd.C_get h 0 (i : Int) (by omega) (by omega)
  have hK' : c = [.int .i64 (xs.getD (i : Int).toNat 0)] := hK
  subst hK'
  have h2 : w.cell? (ad.add ((i : Int).toNat * 1 + 0)) = some (.int .i64 (xs.getD (i : Int).toNat 0)) := hc 0 _ rfl
  rw [Int.toNat_natCast, Nat.mul_one, Nat.add_zero] at h2
  exact ⟨ad, e, h2⟩
theorem atStr {w : World} {A : Option Addr} {n : Nat} {xs : List ByteArray} (h : Kd.C Kd.string w A n xs) (i : Nat) (h1 : i < n) : ∃ ad, A = some ad ∧ w.cell? (ad.add i) = some (.string (xs.getD i ⟨#[]⟩)) := by
  obtain ⟨ad, c, e, _, hK, hc⟩ := Kd.C_get h (⟨#[]⟩ : ByteArray) (i : Int) (by omega) (by omega)
  have hK' : c = [.string (xs.getD (i : Int).toNat ⟨#[]⟩)] := hK
  subst hK'
  have h2 : w.cell? (ad.add ((i : Int).toNat * 1 + 0)) = some (.string (xs.getD (i : Int).toNat ⟨#[]⟩)) := hc 0 _ rfl
  rw [Int.toNat_natCast, Nat.mul_one, Nat.add_zero] at h2
  exact ⟨ad, e, h2⟩
theorem upto_owner (s : CS) : upto (fun i => s.owner i) s.owners.length = s.owners := by
  apply List.ext_getElem?
  intro j
  unfold upto
  rw [List.getElem?_map]
  by_cases hj : j < s.owners.length
  · rw [List.getElem?_range hj]
    simp only [Option.map_some]
    unfold CS.owner
    rw [if_pos ⟨by omega, by omega⟩, Int.toNat_natCast, List.getD_eq_getElem?_getD, List.getElem?_eq_getElem hj]
    rfl
  · rw [List.getElem?_eq_none (by simpa using hj), List.getElem?_eq_none (by omega)]
    rfl
def gangplanklaw18_WorldLive.f (a b c d e : Int) (l1 : List ByteArray) (l2 : List Int) : Option Bool :=
  (gangplankref17_Small.f a b c d e).bind fun sm => if sm = false ∨ 30 < (l1.length : Int) ∨ (l2.length : Int) < (l1.length : Int) then some true else if chk a b c d e ≠ 0 then some true else
    (lvGo b l1 l2 l1.length 0 (List.replicate b.toNat (List.replicate c.toNat z95)) (List.replicate b.toNat (List.replicate c.toNat z95))).bind lvEnd
set_option maxRecDepth 100000 in
set_option maxHeartbeats 16000000 in
theorem gangplanklaw18_WorldLive.calls (a b c d e : Int) (A1 : Option Addr) (c1 : Nat) (l1 : List ByteArray) (A2 : Option Addr) (c2 : Nat) (l2 : List Int) (r : Bool) (W : World) (hr1 : Kd.C Kd.string W A1 l1.length l1) (hc1 : l1.length ≤ c1) (hr2 : Kd.C (Kd.int .i64) W A2 l2.length l2) (hc2 : l2.length ≤ c2) (h : gangplanklaw18_WorldLive.f a b c d e l1 l2 = some r) :
    Calls Try.prog 6 #[.agg #[.int .i64 a, .int .i64 b, .int .i64 c, .int .i64 d, .int .i64 e], .slice A1 l1.length c1, .slice A2 l2.length c2] W fun e w' => e = .returned (.bool r) ∧ Below W.heap.size W w' := by
  unfold gangplanklaw18_WorldLive.f at h
  obtain ⟨sm, hsm, h⟩ := Option.bind_eq_some_iff.mp h
  have HA1 := Lib.hid hr1
  have HA2 := Lib.hid hr2
  have HH := Lib.hid h
  clear hr1 hr2 hc1 hc2 h
  have HSM := Lib.hid hsm
  clear hsm
  have b0 := Blk.new W 23 [.int .i64 a, .int .i64 b, .int .i64 c, .int .i64 d, .int .i64 e]
  have l0 := below_alloc (Below.refl _ W) (.cells #[.int .i64 a, .int .i64 b, .int .i64 c, .int .i64 d, .int .i64 e] 23)
  have HK := Lib.hid b0
  have HB := Lib.hid l0
  clear b0 l0
  go_enter Try.func6, Try.ntmps6
  go_wp2_with fail
  go_at_call 7
  refine (works18_any _).mono ?_
  rintro e1 w1 ⟨rfl, hb⟩
  have n0 := Lib.hid (show Blk w1 W.heap.size 23 [.int .i64 a, .int .i64 b, .int .i64 c, .int .i64 d, .int .i64 e] from HK.out.below hb)
  have n1 := Lib.hid (show Below W.heap.size W w1 from HB.out.trans (hb.mono HB.out.size))
  clear HK HB hb
  have HK := n0
  have HB := n1
  clear n0 n1
  have y0 : w1.cell? ⟨W.heap.size, 0, none⟩ = some (.int .i64 a) := HK.out.cell 0
  have y1 : w1.cell? ⟨W.heap.size, 1, none⟩ = some (.int .i64 b) := HK.out.cell 1
  have y2 : w1.cell? ⟨W.heap.size, 2, none⟩ = some (.int .i64 c) := HK.out.cell 2
  have y3 : w1.cell? ⟨W.heap.size, 3, none⟩ = some (.int .i64 d) := HK.out.cell 3
  have y4 : w1.cell? ⟨W.heap.size, 4, none⟩ = some (.int .i64 e) := HK.out.cell 4
  go_wp2_with fail
  go_at_call 8
  refine (gangplankref17_Small.calls a b c d e sm _ HSM.out).mono ?_
  rintro e2 w2 ⟨rfl, hb⟩
  clear y0 y1 y2 y3 y4
  have n0 := Lib.hid (show Blk w2 W.heap.size 23 [.int .i64 a, .int .i64 b, .int .i64 c, .int .i64 d, .int .i64 e] from HK.out.below hb)
  have n1 := Lib.hid (show Below W.heap.size W w2 from HB.out.trans (hb.mono HB.out.size))
  clear HK HB hb
  have HK := n0
  have HB := n1
  clear n0 n1
  have y0 : w2.cell? ⟨W.heap.size, 0, none⟩ = some (.int .i64 a) := HK.out.cell 0
  have y1 : w2.cell? ⟨W.heap.size, 1, none⟩ = some (.int .i64 b) := HK.out.cell 1
  have y2 : w2.cell? ⟨W.heap.size, 2, none⟩ = some (.int .i64 c) := HK.out.cell 2
  have y3 : w2.cell? ⟨W.heap.size, 3, none⟩ = some (.int .i64 d) := HK.out.cell 3
  have y4 : w2.cell? ⟨W.heap.size, 4, none⟩ = some (.int .i64 e) := HK.out.cell 4
  cases sm
  · have h := HH.out
    rw [if_pos (.inl rfl)] at h
    obtain rfl : true = r := Option.some.inj h
    go_wp2
    go_ret
    exact ⟨rfl, HB.out⟩
  by_cases g1 : 30 < (l1.length : Int)
  · have h := HH.out
    rw [if_pos (.inr (.inl g1))] at h
    obtain rfl : true = r := Option.some.inj h
    have q0 : decide (30 < (l1.length : Int)) = true := decide_eq_true g1
    go_wp2
    go_ret
    exact ⟨rfl, HB.out⟩
  have q0 : decide (30 < (l1.length : Int)) = false := decide_eq_false g1
  by_cases g2 : (l2.length : Int) < (l1.length : Int)
  · have h := HH.out
    rw [if_pos (.inr (.inr g2))] at h
    obtain rfl : true = r := Option.some.inj h
    have q1 : decide ((l2.length : Int) < (l1.length : Int)) = true := decide_eq_true g2
    have q1n : (l2.length < l1.length) = True := eq_true (by omega)
    go_wp2
    go_ret
    exact ⟨rfl, HB.out⟩
  have q1 : decide ((l2.length : Int) < (l1.length : Int)) = false := decide_eq_false g2
  have q1n : (l2.length < l1.length) = False := eq_false (by omega)
  by_cases hck : chk a b c d e ≠ 0
  · have h := HH.out
    rw [if_neg (fun x => x.elim (fun y => by cases y) (fun y => y.elim g1 g2)), if_pos hck] at h
    obtain rfl : true = r := Option.some.inj h
    go_wp2_with fail
    go_at_call 9
    refine (New_bad a b c d e hck _).mono ?_
    rintro e3 w3 ⟨rfl, hb⟩
    have n0 := Lib.hid (show Blk w3 W.heap.size 23 [.int .i64 a, .int .i64 b, .int .i64 c, .int .i64 d, .int .i64 e] from HK.out.below hb)
    have n1 := Lib.hid (show Below W.heap.size W w3 from HB.out.trans (hb.mono HB.out.size))
    clear HK HB hb
    have HK := n0
    have HB := n1
    clear n0 n1
    obtain ⟨x, hx⟩ : ∃ x, chk a b c d e = x := ⟨_, rfl⟩
    rw [hx] at hck ⊢
    have q : (x != 0) = true := bne_iff_ne.mpr hck
    have q2 : (x == 0) = false := beq_eq_false_iff_ne.mpr hck
    have q3 : decide (x = 0) = false := decide_eq_false hck
    have q4 : (x = 0) = False := eq_false hck
    clear hx hck HH
    go_wp2_with fail
    refine wp_region_noPanic ?_
    refine start_ (n := 23) (S := fun w' => True) (ds := []) #[false, false, false, false, false, false, false, false, false, false, false, false, false, false, false, false, false, false, false, false, false, false, false] (by kernel_rfl) rfl rfl trivial (fun hHeld => ?_)
    refine pure_ (i := 0) (N := some 41) (v := ?_) (a' := ?_) #[true, false, false, false, false, false, false, false, false, false, false, false, false, false, false, false, false, false, false, false, false, false, false] rfl rfl (by kernel_rfl) (fun _ _ _ h => h) (Or.inl ⟨by rfl, ?_⟩) ?_ ?_
    rotate_left
    · intro w'
      go_simp
      with_reducible rfl
    rotate_left
    · simp only [Act.put, List.setIfInBounds_toArray, List.set_cons_zero, List.set_cons_succ, i64_w, i32_w]
      rfl
    refine pure_ (i := 1) (N := some 42) (v := ?_) (a' := ?_) #[true, true, false, false, false, false, false, false, false, false, false, false, false, false, false, false, false, false, false, false, false, false, false] rfl rfl (by kernel_rfl) (fun _ _ _ h => h) (Or.inl ⟨by rfl, ?_⟩) ?_ ?_
    rotate_left
    · intro w'
      go_simp
      with_reducible rfl
    rotate_left
    · simp only [Act.put, List.setIfInBounds_toArray, List.set_cons_zero, List.set_cons_succ, i64_w, i32_w]
      rfl
    refine pure_ (i := 2) (N := some 43) (v := ?_) (a' := ?_) #[true, true, true, false, false, false, false, false, false, false, false, false, false, false, false, false, false, false, false, false, false, false, false] rfl rfl (by kernel_rfl) (fun _ _ _ h => h) (Or.inl ⟨by rfl, ?_⟩) ?_ ?_
    rotate_left
    · intro w'
      go_simp
      with_reducible rfl
    rotate_left
    · simp only [Act.put, List.setIfInBounds_toArray, List.set_cons_zero, List.set_cons_succ, i64_w, i32_w]
      rfl
    refine pure_ (i := 3) (N := some 44) (v := undef) (a' := ?_) #[true, true, true, true, false, false, false, false, false, false, false, false, false, false, false, false, false, false, false, false, false, false, false] rfl rfl (by kernel_rfl) (fun _ _ _ h => h) (Or.inr ⟨by rfl, rfl⟩) ?_ ?_
    rotate_left
    · simp only [Act.put, List.setIfInBounds_toArray, List.set_cons_zero, List.set_cons_succ, i64_w, i32_w]
      rfl
    refine pure_ (i := 4) (N := some 45) (v := undef) (a' := ?_) #[true, true, true, true, true, false, false, false, false, false, false, false, false, false, false, false, false, false, false, false, false, false, false] rfl rfl (by kernel_rfl) (fun _ _ _ h => h) (Or.inr ⟨by rfl, rfl⟩) ?_ ?_
    rotate_left
    · simp only [Act.put, List.setIfInBounds_toArray, List.set_cons_zero, List.set_cons_succ, i64_w, i32_w]
      rfl
    refine pure_ (i := 5) (N := some 46) (v := ?_) (a' := ?_) #[true, true, true, true, true, true, false, false, false, false, false, false, false, false, false, false, false, false, false, false, false, false, false] rfl rfl (by kernel_rfl) (fun _ _ _ h => h) (Or.inl ⟨by rfl, ?_⟩) ?_ ?_
    rotate_left
    · intro w'
      go_simp
      with_reducible rfl
    rotate_left
    · simp only [Act.put, List.setIfInBounds_toArray, List.set_cons_zero, List.set_cons_succ, i64_w, i32_w]
      rfl
    refine pure_ (i := 6) (N := some 47) (v := ?_) (a' := ?_) #[true, true, true, true, true, true, true, false, false, false, false, false, false, false, false, false, false, false, false, false, false, false, false] rfl rfl (by kernel_rfl) (fun _ _ _ h => h) (Or.inl ⟨by rfl, ?_⟩) ?_ ?_
    rotate_left
    · intro w'
      go_simp
      with_reducible rfl
    rotate_left
    · simp only [Act.put, List.setIfInBounds_toArray, List.set_cons_zero, List.set_cons_succ, i64_w, i32_w]
      rfl
    refine pure_ (i := 7) (N := some 48) (v := undef) (a' := ?_) #[true, true, true, true, true, true, true, true, false, false, false, false, false, false, false, false, false, false, false, false, false, false, false] rfl rfl (by kernel_rfl) (fun _ _ _ h => h) (Or.inr ⟨by rfl, rfl⟩) ?_ ?_
    rotate_left
    · simp only [Act.put, List.setIfInBounds_toArray, List.set_cons_zero, List.set_cons_succ, i64_w, i32_w]
      rfl
    refine pure_ (i := 8) (N := some 49) (v := undef) (a' := ?_) #[true, true, true, true, true, true, true, true, true, false, false, false, false, false, false, false, false, false, false, false, false, false, false] rfl rfl (by kernel_rfl) (fun _ _ _ h => h) (Or.inr ⟨by rfl, rfl⟩) ?_ ?_
    rotate_left
    · simp only [Act.put, List.setIfInBounds_toArray, List.set_cons_zero, List.set_cons_succ, i64_w, i32_w]
      rfl
    refine pure_ (i := 9) (N := some 50) (v := undef) (a' := ?_) #[true, true, true, true, true, true, true, true, true, true, false, false, false, false, false, false, false, false, false, false, false, false, false] rfl rfl (by kernel_rfl) (fun _ _ _ h => h) (Or.inr ⟨by rfl, rfl⟩) ?_ ?_
    rotate_left
    · simp only [Act.put, List.setIfInBounds_toArray, List.set_cons_zero, List.set_cons_succ, i64_w, i32_w]
      rfl
    refine pure_ (i := 10) (N := some 51) (v := undef) (a' := ?_) #[true, true, true, true, true, true, true, true, true, true, true, false, false, false, false, false, false, false, false, false, false, false, false] rfl rfl (by kernel_rfl) (fun _ _ _ h => h) (Or.inr ⟨by rfl, rfl⟩) ?_ ?_
    rotate_left
    · simp only [Act.put, List.setIfInBounds_toArray, List.set_cons_zero, List.set_cons_succ, i64_w, i32_w]
      rfl
    refine pure_ (i := 11) (N := some 52) (v := undef) (a' := ?_) #[true, true, true, true, true, true, true, true, true, true, true, true, false, false, false, false, false, false, false, false, false, false, false] rfl rfl (by kernel_rfl) (fun _ _ _ h => h) (Or.inr ⟨by rfl, rfl⟩) ?_ ?_
    rotate_left
    · simp only [Act.put, List.setIfInBounds_toArray, List.set_cons_zero, List.set_cons_succ, i64_w, i32_w]
      rfl
    refine pure_ (i := 12) (N := some 53) (v := undef) (a' := ?_) #[true, true, true, true, true, true, true, true, true, true, true, true, true, false, false, false, false, false, false, false, false, false, false] rfl rfl (by kernel_rfl) (fun _ _ _ h => h) (Or.inr ⟨by rfl, rfl⟩) ?_ ?_
    rotate_left
    · simp only [Act.put, List.setIfInBounds_toArray, List.set_cons_zero, List.set_cons_succ, i64_w, i32_w]
      rfl
    refine pure_ (i := 13) (N := some 54) (v := undef) (a' := ?_) #[true, true, true, true, true, true, true, true, true, true, true, true, true, true, false, false, false, false, false, false, false, false, false] rfl rfl (by kernel_rfl) (fun _ _ _ h => h) (Or.inr ⟨by rfl, rfl⟩) ?_ ?_
    rotate_left
    · simp only [Act.put, List.setIfInBounds_toArray, List.set_cons_zero, List.set_cons_succ, i64_w, i32_w]
      rfl
    refine pure_ (i := 14) (N := some 55) (v := undef) (a' := ?_) #[true, true, true, true, true, true, true, true, true, true, true, true, true, true, true, false, false, false, false, false, false, false, false] rfl rfl (by kernel_rfl) (fun _ _ _ h => h) (Or.inr ⟨by rfl, rfl⟩) ?_ ?_
    rotate_left
    · simp only [Act.put, List.setIfInBounds_toArray, List.set_cons_zero, List.set_cons_succ, i64_w, i32_w]
      rfl
    refine pure_ (i := 15) (N := some 56) (v := ?_) (a' := ?_) #[true, true, true, true, true, true, true, true, true, true, true, true, true, true, true, true, false, false, false, false, false, false, false] rfl rfl (by kernel_rfl) (fun _ _ _ h => h) (Or.inl ⟨by rfl, ?_⟩) ?_ ?_
    rotate_left
    · intro w'
      go_simp
      with_reducible rfl
    rotate_left
    · simp only [Act.put, List.setIfInBounds_toArray, List.set_cons_zero, List.set_cons_succ, i64_w, i32_w]
      rfl
    refine pure_ (i := 16) (N := some 57) (v := ?_) (a' := ?_) #[true, true, true, true, true, true, true, true, true, true, true, true, true, true, true, true, true, false, false, false, false, false, false] rfl rfl (by kernel_rfl) (fun _ _ _ h => h) (Or.inl ⟨by rfl, ?_⟩) ?_ ?_
    rotate_left
    · intro w'
      go_simp
      with_reducible rfl
    rotate_left
    · simp only [Act.put, List.setIfInBounds_toArray, List.set_cons_zero, List.set_cons_succ, i64_w, i32_w]
      rfl
    refine pure_ (i := 17) (N := some 58) (v := undef) (a' := ?_) #[true, true, true, true, true, true, true, true, true, true, true, true, true, true, true, true, true, true, false, false, false, false, false] rfl rfl (by kernel_rfl) (fun _ _ _ h => h) (Or.inr ⟨by rfl, rfl⟩) ?_ ?_
    rotate_left
    · simp only [Act.put, List.setIfInBounds_toArray, List.set_cons_zero, List.set_cons_succ, i64_w, i32_w]
      rfl
    refine pure_ (i := 18) (N := some 59) (v := undef) (a' := ?_) #[true, true, true, true, true, true, true, true, true, true, true, true, true, true, true, true, true, true, true, false, false, false, false] rfl rfl (by kernel_rfl) (fun _ _ _ h => h) (Or.inr ⟨by rfl, rfl⟩) ?_ ?_
    rotate_left
    · simp only [Act.put, List.setIfInBounds_toArray, List.set_cons_zero, List.set_cons_succ, i64_w, i32_w]
      rfl
    refine pure_ (i := 19) (N := some 60) (v := undef) (a' := ?_) #[true, true, true, true, true, true, true, true, true, true, true, true, true, true, true, true, true, true, true, true, false, false, false] rfl rfl (by kernel_rfl) (fun _ _ _ h => h) (Or.inr ⟨by rfl, rfl⟩) ?_ ?_
    rotate_left
    · simp only [Act.put, List.setIfInBounds_toArray, List.set_cons_zero, List.set_cons_succ, i64_w, i32_w]
      rfl
    refine pure_ (i := 20) (N := some 61) (v := undef) (a' := ?_) #[true, true, true, true, true, true, true, true, true, true, true, true, true, true, true, true, true, true, true, true, true, false, false] rfl rfl (by kernel_rfl) (fun _ _ _ h => h) (Or.inr ⟨by rfl, rfl⟩) ?_ ?_
    rotate_left
    · simp only [Act.put, List.setIfInBounds_toArray, List.set_cons_zero, List.set_cons_succ, i64_w, i32_w]
      rfl
    refine pure_ (i := 21) (N := some 62) (v := undef) (a' := ?_) #[true, true, true, true, true, true, true, true, true, true, true, true, true, true, true, true, true, true, true, true, true, true, false] rfl rfl (by kernel_rfl) (fun _ _ _ h => h) (Or.inr ⟨by rfl, rfl⟩) ?_ ?_
    rotate_left
    · simp only [Act.put, List.setIfInBounds_toArray, List.set_cons_zero, List.set_cons_succ, i64_w, i32_w]
      rfl
    refine pure_ (i := 22) (N := some 63) (v := ?_) (a' := ?_) #[true, true, true, true, true, true, true, true, true, true, true, true, true, true, true, true, true, true, true, true, true, true, true] rfl rfl (by kernel_rfl) (fun _ _ _ h => h) (Or.inl ⟨by rfl, ?_⟩) ?_ ?_
    rotate_left
    · intro w'
      go_simp
      with_reducible rfl
    rotate_left
    · simp only [Act.put, List.setIfInBounds_toArray, List.set_cons_zero, List.set_cons_succ, i64_w, i32_w]
      rfl
    refine done_ (by kernel_rfl) ?_
    refine NoPanic.normal ?_
    go_wp2
    go_ret
    exact ⟨rfl, below_drew HB.out⟩
  have h := HH.out
  rw [if_neg (fun x => x.elim (fun y => by cases y) (fun y => y.elim g1 g2)), if_neg hck] at h
  obtain ⟨o0, hgo, hend⟩ := Option.bind_eq_some_iff.mp h
  replace hck : chk a b c d e = 0 := Classical.not_not.mp hck
  obtain ⟨⟨ha0, ha1⟩, ⟨hb0, hb1⟩, hcc, _, hee⟩ := chk_zero hck
  obtain ⟨n, hn⟩ : ∃ n : Nat, b = (n : Int) := ⟨b.toNat, by omega⟩
  subst hn
  rw [Int.toNat_natCast] at hgo
  have HGO := Lib.hid hgo
  have HEND := Lib.hid hend
  have HLN := Lib.hid (And.intro g1 g2)
  clear HH h hgo hend g1 g2
  go_wp2_with fail
  go_at_call 9
  refine (New_good a n c d e hck _).mono ?_
  rintro e3 w3 ⟨p, q, b1, b2, qs, ss, qk, tv, pv, rfl, hw, hb⟩
  rw [Int.toNat_natCast] at hw
  have HW := Lib.hid (hw.lower HB.out.size)
  clear y0 y1 y2 y3 y4 hw hck
  have n0 := Lib.hid (show Blk w3 W.heap.size 23 [.int .i64 a, .int .i64 (n : Int), .int .i64 c, .int .i64 d, .int .i64 e] from HK.out.below hb)
  have n1 := Lib.hid (show Below W.heap.size W w3 from HB.out.trans (hb.mono HB.out.size))
  clear HK HB hb
  have HK := n0
  have HB := n1
  clear n0 n1
  have hdr := below_drew (Below.refl w3.heap.size w3)
  obtain ⟨gt, ct, htv, hC⟩ := HW.out.tabsG (by rw [List.length_replicate]; omega)
  obtain ⟨Ap, cp, hpv⟩ := HW.out.hv
  rw [List.length_replicate] at htv
  subst htv
  subst hpv
  have n0 := Lib.hid (HW.out.below hdr)
  have n2 := Lib.hid (show Blk w3.drew W.heap.size _ _ from HK.out.below hdr)
  have n3 := Lib.hid (below_drew HB.out)
  have x1 : w3.drew.cell? ⟨p, 8, none⟩ = some (.slice (some ⟨gt, 0, none⟩) n ct) := HW.out.hp.cell 8
  have x2 : w3.drew.cell? ⟨W.heap.size, 1, none⟩ = some (.int .i64 (n : Int)) := HK.out.cell 1
  have x3 : w3.drew.cell? ⟨p, 5, none⟩ = some (.pointer (some ⟨q, 0, none⟩)) := HW.out.hp.cell 5
  clear HW HK HB hdr hC
  have HW := n0
  have HK := n2
  have HB := n3
  clear n0 n2 n3
  go_wp2_with fail
  refine wp_region_noPanic ?_
  refine start_ (n := 23) (S := fun w' => w'.cell? ⟨p, 8, none⟩ = some (.slice (some ⟨gt, 0, none⟩) n ct) ∧ w'.cell? ⟨W.heap.size, 1, none⟩ = some (.int .i64 (n : Int)) ∧ w'.cell? ⟨p, 5, none⟩ = some (.pointer (some ⟨q, 0, none⟩))) (ds := []) #[false, false, false, false, false, false, false, false, false, false, false, false, false, false, false, false, false, false, false, false, false, false, false] (by kernel_rfl) rfl rfl ⟨x1, x2, x3⟩ (fun hHeld => ?_)
  refine pure_ (i := 0) (N := some 41) (v := ?_) (a' := ?_) #[true, false, false, false, false, false, false, false, false, false, false, false, false, false, false, false, false, false, false, false, false, false, false] rfl rfl (by kernel_rfl) (fun _ _ _ h => h) (Or.inl ⟨by rfl, ?_⟩) ?_ ?_
  rotate_left
  · intro w'
    go_simp
    with_reducible rfl
  rotate_left
  · simp only [Act.put, List.setIfInBounds_toArray, List.set_cons_zero, List.set_cons_succ, i64_w, i32_w]
    rfl
  refine pure_ (i := 1) (N := some 42) (v := ?_) (a' := ?_) #[true, true, false, false, false, false, false, false, false, false, false, false, false, false, false, false, false, false, false, false, false, false, false] rfl rfl (by kernel_rfl) (fun _ _ _ h => h) (Or.inl ⟨by rfl, ?_⟩) ?_ ?_
  rotate_left
  · intro w'
    go_simp
    with_reducible rfl
  rotate_left
  · simp only [Act.put, List.setIfInBounds_toArray, List.set_cons_zero, List.set_cons_succ, i64_w, i32_w]
    rfl
  refine pure_ (i := 2) (N := some 43) (v := ?_) (a' := ?_) #[true, true, true, false, false, false, false, false, false, false, false, false, false, false, false, false, false, false, false, false, false, false, false] rfl rfl (by kernel_rfl) (fun _ _ _ h => h) (Or.inl ⟨by rfl, ?_⟩) ?_ ?_
  rotate_left
  · intro w'
    go_simp
    with_reducible rfl
  rotate_left
  · simp only [Act.put, List.setIfInBounds_toArray, List.set_cons_zero, List.set_cons_succ, i64_w, i32_w]
    rfl
  refine pure_ (i := 3) (N := some 44) (v := ?_) (a' := ?_) #[true, true, true, true, false, false, false, false, false, false, false, false, false, false, false, false, false, false, false, false, false, false, false] rfl rfl (by kernel_rfl) (fun _ _ _ h => h) (Or.inl ⟨by rfl, ?_⟩) ?_ ?_
  rotate_left
  · intro w'
    go_simp
    with_reducible rfl
  rotate_left
  · simp only [Act.put, List.setIfInBounds_toArray, List.set_cons_zero, List.set_cons_succ, i64_w, i32_w]
    rfl
  refine pure_ (i := 4) (N := some 45) (v := ?_) (a' := ?_) #[true, true, true, true, true, false, false, false, false, false, false, false, false, false, false, false, false, false, false, false, false, false, false] rfl rfl (by kernel_rfl) (fun _ _ _ h => h) (Or.inl ⟨by rfl, ?_⟩) ?_ ?_
  rotate_left
  · intro w'
    go_simp
    with_reducible rfl
  rotate_left
  · simp only [Act.put, List.setIfInBounds_toArray, List.set_cons_zero, List.set_cons_succ, i64_w, i32_w]
    rfl
  refine pure_ (i := 5) (N := some 46) (v := ?_) (a' := ?_) #[true, true, true, true, true, true, false, false, false, false, false, false, false, false, false, false, false, false, false, false, false, false, false] rfl rfl (by kernel_rfl) (fun _ _ _ h => h) (Or.inl ⟨by rfl, ?_⟩) ?_ ?_
  rotate_left
  · intro w'
    go_simp
    with_reducible rfl
  rotate_left
  · simp only [Act.put, List.setIfInBounds_toArray, List.set_cons_zero, List.set_cons_succ, i64_w, i32_w]
    rfl
  refine pure_ (i := 6) (N := some 47) (v := ?_) (a' := ?_) #[true, true, true, true, true, true, true, false, false, false, false, false, false, false, false, false, false, false, false, false, false, false, false] rfl rfl (by kernel_rfl) (fun _ _ _ h => h) (Or.inl ⟨by rfl, ?_⟩) ?_ ?_
  rotate_left
  · intro w'
    go_simp
    with_reducible rfl
  rotate_left
  · simp only [Act.put, List.setIfInBounds_toArray, List.set_cons_zero, List.set_cons_succ, i64_w, i32_w]
    rfl
  refine pure_ (i := 7) (N := some 48) (v := ?_) (a' := ?_) #[true, true, true, true, true, true, true, true, false, false, false, false, false, false, false, false, false, false, false, false, false, false, false] rfl rfl (by kernel_rfl) (fun _ _ _ h => h) (Or.inl ⟨by rfl, ?_⟩) ?_ ?_
  rotate_left
  · intro w'
    go_simp
    with_reducible rfl
  rotate_left
  · simp only [Act.put, List.setIfInBounds_toArray, List.set_cons_zero, List.set_cons_succ, i64_w, i32_w]
    rfl
  refine pure_ (i := 8) (N := some 49) (v := ?_) (a' := ?_) #[true, true, true, true, true, true, true, true, true, false, false, false, false, false, false, false, false, false, false, false, false, false, false] rfl rfl (by kernel_rfl) (fun _ _ _ h => h) (Or.inl ⟨by rfl, ?_⟩) ?_ ?_
  rotate_left
  · intro w'
    go_simp
    with_reducible rfl
  rotate_left
  · simp only [Act.put, List.setIfInBounds_toArray, List.set_cons_zero, List.set_cons_succ, i64_w, i32_w]
    rfl
  refine pure_ (i := 9) (N := some 50) (v := ?_) (a' := ?_) #[true, true, true, true, true, true, true, true, true, true, false, false, false, false, false, false, false, false, false, false, false, false, false] rfl rfl (by kernel_rfl) (fun _ _ _ h => h) (Or.inl ⟨by rfl, ?_⟩) ?_ ?_
  rotate_left
  · intro w'
    go_simp
    with_reducible rfl
  rotate_left
  · simp only [Act.put, List.setIfInBounds_toArray, List.set_cons_zero, List.set_cons_succ, i64_w, i32_w]
    rfl
  refine pure_ (i := 12) (N := some 53) (v := ?_) (a' := ?_) #[true, true, true, true, true, true, true, true, true, true, false, false, true, false, false, false, false, false, false, false, false, false, false] rfl rfl (by kernel_rfl) (fun _ _ _ h => h) (Or.inl ⟨by rfl, ?_⟩) ?_ ?_
  rotate_left
  · intro w'
    go_simp
    with_reducible rfl
  rotate_left
  · simp only [Act.put, List.setIfInBounds_toArray, List.set_cons_zero, List.set_cons_succ, i64_w, i32_w]
    rfl
  refine take_ (i := 10) (N := some 51) (v := ?_) (a' := ?_) #[true, true, true, true, true, true, true, true, true, true, true, false, true, false, false, false, false, false, false, false, false, false, false] rfl rfl (by kernel_rfl) (fun _ _ _ h => h) (Or.inl ⟨by rfl, ?_⟩) hHeld ?_ ?_
  rotate_left
  · rintro w' ⟨s0, s1, s2⟩
    go_simp
    with_reducible rfl
  rotate_left
  · simp only [Act.put, List.setIfInBounds_toArray, List.set_cons_zero, List.set_cons_succ, i64_w, i32_w]
    rfl
  refine pure_ (i := 11) (N := some 52) (v := ?_) (a' := ?_) #[true, true, true, true, true, true, true, true, true, true, true, true, true, false, false, false, false, false, false, false, false, false, false] rfl rfl (by kernel_rfl) (fun _ _ _ h => h) (Or.inl ⟨by rfl, ?_⟩) ?_ ?_
  rotate_left
  · intro w'
    go_simp
    with_reducible rfl
  rotate_left
  · simp only [Act.put, List.setIfInBounds_toArray, List.set_cons_zero, List.set_cons_succ, i64_w, i32_w]
    rfl
  refine take_ (i := 13) (N := some 54) (v := ?_) (a' := ?_) #[true, true, true, true, true, true, true, true, true, true, true, true, true, true, false, false, false, false, false, false, false, false, false] rfl rfl (by kernel_rfl) (fun _ _ _ h => h) (Or.inl ⟨by rfl, ?_⟩) hHeld ?_ ?_
  rotate_left
  · rintro w' ⟨s0, s1, s2⟩
    go_simp
    with_reducible rfl
  rotate_left
  · simp only [Act.put, List.setIfInBounds_toArray, List.set_cons_zero, List.set_cons_succ, i64_w, i32_w]
    rfl
  refine pure_ (i := 14) (N := some 55) (v := ?_) (a' := ?_) #[true, true, true, true, true, true, true, true, true, true, true, true, true, true, true, false, false, false, false, false, false, false, false] rfl rfl (by kernel_rfl) (fun _ _ _ h => h) (Or.inl ⟨by rfl, ?_⟩) ?_ ?_
  rotate_left
  · intro w'
    go_simp
    with_reducible rfl
  rotate_left
  · simp only [Act.put, List.setIfInBounds_toArray, List.set_cons_zero, List.set_cons_succ, i64_w, i32_w]
    rfl
  refine pure_ (i := 15) (N := some 56) (v := ?_) (a' := ?_) #[true, true, true, true, true, true, true, true, true, true, true, true, true, true, true, true, false, false, false, false, false, false, false] rfl rfl (by kernel_rfl) (fun _ _ _ h => h) (Or.inl ⟨by rfl, ?_⟩) ?_ ?_
  rotate_left
  · intro w'
    go_simp
    with_reducible rfl
  rotate_left
  · simp only [Act.put, List.setIfInBounds_toArray, List.set_cons_zero, List.set_cons_succ, i64_w, i32_w]
    rfl
  refine pure_ (i := 16) (N := some 57) (v := ?_) (a' := ?_) #[true, true, true, true, true, true, true, true, true, true, true, true, true, true, true, true, true, false, false, false, false, false, false] rfl rfl (by kernel_rfl) (fun _ _ _ h => h) (Or.inl ⟨by rfl, ?_⟩) ?_ ?_
  rotate_left
  · intro w'
    go_simp
    with_reducible rfl
  rotate_left
  · simp only [Act.put, List.setIfInBounds_toArray, List.set_cons_zero, List.set_cons_succ, i64_w, i32_w]
    rfl
  refine pure_ (i := 17) (N := some 58) (v := ?_) (a' := ?_) #[true, true, true, true, true, true, true, true, true, true, true, true, true, true, true, true, true, true, false, false, false, false, false] rfl rfl (by kernel_rfl) (fun _ _ _ h => h) (Or.inl ⟨by rfl, ?_⟩) ?_ ?_
  rotate_left
  · intro w'
    go_simp
    with_reducible rfl
  rotate_left
  · simp only [Act.put, List.setIfInBounds_toArray, List.set_cons_zero, List.set_cons_succ, i64_w, i32_w]
    rfl
  refine pure_ (i := 18) (N := some 59) (v := ?_) (a' := ?_) #[true, true, true, true, true, true, true, true, true, true, true, true, true, true, true, true, true, true, true, false, false, false, false] rfl rfl (by kernel_rfl) (fun _ _ _ h => h) (Or.inl ⟨by rfl, ?_⟩) ?_ ?_
  rotate_left
  · intro w'
    go_simp
    with_reducible rfl
  rotate_left
  · simp only [Act.put, List.setIfInBounds_toArray, List.set_cons_zero, List.set_cons_succ, i64_w, i32_w]
    rfl
  refine pure_ (i := 19) (N := some 60) (v := ?_) (a' := ?_) #[true, true, true, true, true, true, true, true, true, true, true, true, true, true, true, true, true, true, true, true, false, false, false] rfl rfl (by kernel_rfl) (fun _ _ _ h => h) (Or.inl ⟨by rfl, ?_⟩) ?_ ?_
  rotate_left
  · intro w'
    go_simp
    with_reducible rfl
  rotate_left
  · simp only [Act.put, List.setIfInBounds_toArray, List.set_cons_zero, List.set_cons_succ, i64_w, i32_w]
    rfl
  refine take_ (i := 20) (N := some 61) (v := ?_) (a' := ?_) #[true, true, true, true, true, true, true, true, true, true, true, true, true, true, true, true, true, true, true, true, true, false, false] rfl rfl (by kernel_rfl) (fun _ _ _ h => h) (Or.inl ⟨by rfl, ?_⟩) hHeld ?_ ?_
  rotate_left
  · rintro w' ⟨s0, s1, s2⟩
    go_simp
    with_reducible rfl
  rotate_left
  · simp only [Act.put, List.setIfInBounds_toArray, List.set_cons_zero, List.set_cons_succ, i64_w, i32_w]
    rfl
  refine pure_ (i := 21) (N := some 62) (v := ?_) (a' := ?_) #[true, true, true, true, true, true, true, true, true, true, true, true, true, true, true, true, true, true, true, true, true, true, false] rfl rfl (by kernel_rfl) (fun _ _ _ h => h) (Or.inl ⟨by rfl, ?_⟩) ?_ ?_
  rotate_left
  · intro w'
    go_simp
    with_reducible rfl
  rotate_left
  · simp only [Act.put, List.setIfInBounds_toArray, List.set_cons_zero, List.set_cons_succ, i64_w, i32_w]
    rfl
  refine pure_ (i := 22) (N := some 63) (v := ?_) (a' := ?_) #[true, true, true, true, true, true, true, true, true, true, true, true, true, true, true, true, true, true, true, true, true, true, true] rfl rfl (by kernel_rfl) (fun _ _ _ h => h) (Or.inl ⟨by rfl, ?_⟩) ?_ ?_
  rotate_left
  · intro w'
    go_simp
    with_reducible rfl
  rotate_left
  · simp only [Act.put, List.setIfInBounds_toArray, List.set_cons_zero, List.set_cons_succ, i64_w, i32_w]
    rfl
  refine done_ (by kernel_rfl) ?_
  refine NoPanic.normal ?_
  obtain ⟨wd, hwd⟩ : ∃ wd, w3.drew = wd := ⟨_, rfl⟩
  rw [hwd] at HW HK HB ⊢
  clear hwd x1 x2 x3
  have y0 : wd.cell? ⟨W.heap.size, 0, none⟩ = some (.int .i64 a) := HK.out.cell 0
  have y1 : wd.cell? ⟨W.heap.size, 1, none⟩ = some (.int .i64 (n : Int)) := HK.out.cell 1
  have y2 : wd.cell? ⟨W.heap.size, 2, none⟩ = some (.int .i64 c) := HK.out.cell 2
  have y3 : wd.cell? ⟨W.heap.size, 3, none⟩ = some (.int .i64 d) := HK.out.cell 3
  have y4 : wd.cell? ⟨W.heap.size, 4, none⟩ = some (.int .i64 e) := HK.out.cell 4
  obtain ⟨rf1, ⟨sl, rf2⟩, ⟨kl, rf3⟩⟩ := ref_fs3 c e hcc hee
  have hr := ref18New_any a c d e n c.toNat (a + 1).toNat sl kl (by unfold wrap64; omega) (by omega) (by omega) rf1 rf2 rf3 wd
  have HRN := Lib.hid hr
  have HBN := Lib.hid (And.intro hb0 hb1)
  clear hr ha0 ha1 hb0 hb1 hcc hee rf1 rf2 rf3
  go_wp2_with fail
  go_at_call 10
  refine HRN.out.mono ?_
  rintro e3 w5 ⟨g, N, pins, places, lv, tv2, sv, kv, rfl, hg, ht2, hl2, hgN, hNN, hb⟩
  obtain ⟨rt, cr, rfl, hrt, hrt2, crt, hcrt⟩ := Kd.R_form ht2 (by rw [List.length_replicate]; have := HBN.out; omega)
  obtain ⟨rl, cl, rfl, hrl, hrl2, crl, hcrl⟩ := Kd.R_form hl2 (by rw [List.length_replicate]; have := HBN.out; omega)
  simp only [List.length_replicate] at hg ht2 hl2
  have hn1 : 0 < n := by have := HBN.out; omega
  have w5d := HW.out.below hb
  have hkc : Blk w5 W.heap.size 23 [.int .i64 a, .int .i64 (n : Int), .int .i64 c, .int .i64 d, .int .i64 e] := HK.out.below hb
  obtain ⟨cgt, hcgt⟩ := Kd.R_typed w5d.ht gt (by simp [Value.ownBlock])
  have hgtlt := Kd.R_lt HW.out.ht gt (by simp [Value.ownBlock])
  have hgtlo := Kd.R_base HW.out.ht gt (by simp [Value.ownBlock])
  have hb1lt := HW.out.hh.h1.lt
  have hb2lt := HW.out.hh.h2.lt
  have hsz := HB.out.size
  have hne : LvNe W.heap.size W.heap.size p g q b1 b2 gt rt rl := by
    have e1 := show w5.heap[p]? = _ from w5d.hp
    have e2 := show w5.heap[g]? = _ from hg
    have e3 := show w5.heap[q]? = _ from w5d.hh.hp
    have e4 := show w5.heap[b1]? = _ from w5d.hh.h1
    have e5 := show w5.heap[b2]? = _ from w5d.hh.h2
    have e6 := show w5.heap[W.heap.size]? = _ from hkc
    have hlo := w5d.lo
    exact ⟨⟨hlo.1, by omega, hlo.2.1, hlo.2.2.1, hlo.2.2.2.1, hgtlo, by omega, by omega⟩,
      ⟨blk_ne e1 hcgt (by decide), blk_ne e1 hcrt (by decide), blk_ne e1 hcrl (by decide), blk_ne e2 hcgt (by decide), blk_ne e2 hcrt (by decide), blk_ne e2 hcrl (by decide)⟩,
      ⟨by omega, blk_ne hcgt e3 (by decide), blk_ne hcgt e4 (by decide), blk_ne hcgt e5 (by decide), blk_ne hcgt hcrl (by decide)⟩,
      ⟨blk_ne hcrt e3 (by decide), blk_ne hcrt e4 (by decide), blk_ne hcrt e5 (by decide), blk_ne hcrt hcrl (by decide)⟩,
      ⟨blk_ne hcrl e3 (by decide), by omega, by omega⟩,
      ⟨blk_ne e6 hcgt (by decide), blk_ne e6 hcrt (by decide), blk_ne e6 hcrl (by decide), blk_ne e6 e3 (by decide), blk_ne e6 e4 (by decide), blk_ne e6 e5 (by decide)⟩,
      ⟨blk_ne e1 e3 (by decide), blk_ne e1 e4 (by decide), blk_ne e1 e5 (by decide), blk_ne e2 e3 (by decide), blk_ne e2 e4 (by decide), blk_ne e2 e5 (by decide)⟩⟩
  have hfree : ∀ k cells, w5.heap[k]? = some (.cells cells 95 (0, 0)) → Free gt rt q b1 b2 rl k := fun k cells hk =>
    ⟨blk_ne hk hcgt (by decide), blk_ne hk hcrt (by decide), blk_ne hk (show w5.heap[q]? = _ from w5d.hh.hp) (by decide), blk_ne hk (show w5.heap[b1]? = _ from w5d.hh.h1) (by decide), blk_ne hk (show w5.heap[b2]? = _ from w5d.hh.h2) (by decide), blk_ne hk hcrl (by decide)⟩
  have hst : LvSt W w5 [.int .i64 a, .int .i64 (n : Int), .int .i64 c, .int .i64 d, .int .i64 e, .pointer (some ⟨q, 0, none⟩), .pointer (some ⟨qs, 0, none⟩), .pointer (some ⟨qk, 0, none⟩), .slice (some ⟨gt, 0, none⟩) n ct, .slice Ap n cp, .int .i64 0] [.int .i64 a, .int .i64 (n : Int), .int .i64 c, .int .i64 d, .int .i64 e, .int .i64 0, .int .i64 0, pins, .slice (some ⟨rl, 0, none⟩) n cl, sv, kv, .slice (some ⟨rt, 0, none⟩) n cr, places, .int .i64 0] [.int .i64 a, .int .i64 (n : Int), .int .i64 c, .int .i64 d, .int .i64 e] W.heap.size p g q b1 b2 gt rt rl n cl ⟨List.replicate (2 + a).toNat 0, List.replicate n (-1), 0⟩ (List.replicate n (List.replicate c.toNat z95)) (List.replicate n (List.replicate c.toNat z95)) (List.replicate n (-1)) :=
    ⟨hkc, w5d.hp, hg, w5d.hh, Tab.of_R w5d.ht (by rw [List.length_replicate]; exact hn1) hfree, Tab.of_R ht2 (by rw [List.length_replicate]; exact hn1) hfree, Kd.R_mono (Kd.R_tight2 rfl (Kd.R_lower hl2 (Nat.zero_le _))) (fun k hk => by have := hk.1; simpa [Value.ownBlock] using this), HB.out.trans (hb.mono HB.out.size)⟩
  have HNE := Lib.hid hne
  have HST := Lib.hid hst
  clear HW HK HB hne hst hfree hkc w5d hcgt hgtlt hgtlo hb1lt hb2lt hsz hg ht2 hl2 hgN hNN hb hrt hrt2 hcrt hrl hrl2 hcrl HRN y0 y1 y2 y3 y4 hn1
  go_wp2
  go_loopw [12] (fun ii wr => ∃ (i : Nat) (s : CS) (ts rs : List (List S95)) (lks : List Int), i ≤ l1.length ∧ ii = .int .i64 i ∧ lvGo (n : Int) l1 l2 (l1.length - i) i ts rs = some o0 ∧ ts.length = n ∧ rs.length = n ∧ s.owners = lks ∧ lks.length = n ∧ (∀ j, -1 ≤ lks.getD j 0) ∧ LvSt W wr [.int .i64 a, .int .i64 (n : Int), .int .i64 c, .int .i64 d, .int .i64 e, .pointer (some ⟨q, 0, none⟩), .pointer (some ⟨qs, 0, none⟩), .pointer (some ⟨qk, 0, none⟩), .slice (some ⟨gt, 0, none⟩) n ct, .slice Ap n cp, .int .i64 0] [.int .i64 a, .int .i64 (n : Int), .int .i64 c, .int .i64 d, .int .i64 e, .int .i64 0, .int .i64 0, pins, .slice (some ⟨rl, 0, none⟩) n cl, sv, kv, .slice (some ⟨rt, 0, none⟩) n cr, places, .int .i64 0] [.int .i64 a, .int .i64 (n : Int), .int .i64 c, .int .i64 d, .int .i64 e] W.heap.size p g q b1 b2 gt rt rl n cl s ts rs lks) (fun ii _ => l1.length - (intOf ii).toNat)
  case atStart => exact ⟨0, _, _, _, _, Nat.zero_le _, rfl, HGO.out, by rw [List.length_replicate], by rw [List.length_replicate], rfl, by rw [List.length_replicate], fun j => by rw [List.getD_eq_getElem?_getD, List.getElem?_replicate]; split <;> simp, HST.out⟩
  case round =>
    obtain ⟨i, s, ts, rs, lks, hi, rfl, hgo, hts, hrs, how, hlk, hge, hS⟩ := hrel
    have HS := Lib.hid hS
    clear HST HGO
    by_cases hlt : i < l1.length
    · obtain ⟨d', hd⟩ : ∃ d', l1.length - i = d' + 1 := ⟨l1.length - i - 1, by omega⟩
      rw [hd] at hgo
      simp only [lvGo] at hgo
      obtain ⟨adk, hAk, zk⟩ := atStr (Kd.C_below HA1.out hS.hb) i hlt
      obtain ⟨ads, hAs, zs⟩ := atInt3 (Kd.C_below HA2.out hS.hb) i (by have := HLN.out; omega)
      subst hAk
      subst hAs
      obtain ⟨key, hkey⟩ : ∃ key, l1.getD i ⟨#[]⟩ = key := ⟨_, rfl⟩
      obtain ⟨kI, hkI⟩ : ∃ kI, l2.getD i 0 = kI := ⟨_, rfl⟩
      rw [hkey] at zk hgo
      rw [hkI] at zs hgo
      have p1 : decide ((i : Int) < (l1.length : Int)) = true := decide_eq_true (by omega)
      have p1n : (i < l1.length) = True := eq_true hlt
      have p2 : (0 : Int) ≤ (i : Int) := by omega
      have p3 : (i : Int) < (l1.length : Int) := by omega
      have p4 : (i : Int) < (l2.length : Int) := by have := HLN.out; omega
      have p4n : (i < l2.length) = True := eq_true (by have := HLN.out; omega)
      have hw : wrap64 ((i : Int) + 1) = ((i + 1 : Nat) : Int) := by have := HLN.out; unfold wrap64; omega
      have wb : wr.cell? ⟨W.heap.size, 1, none⟩ = some (.int .i64 (n : Int)) := hS.hc.cell 1
      have HD := Lib.hid hd
      have HKEY := Lib.hid hkey
      clear hS hd hkey hkI
      by_cases c1 : 60 < key.size
      · rw [if_pos (.inl c1)] at hgo
        obtain rfl := Option.some.inj hgo
        obtain rfl : true = r := Option.some.inj HEND.out
        have f1 : decide (60 < (key.size : Int)) = true := decide_eq_true (by omega)
        have f1n : (60 < key.size) = True := eq_true c1
        clear hgo
        go_wp2
        go_ret
        exact ⟨rfl, HS.out.hb⟩
      have f1 : decide (60 < (key.size : Int)) = false := decide_eq_false (by omega)
      have f1n : (60 < key.size) = False := eq_false c1
      by_cases c2 : kI < 0
      · rw [if_pos (.inr (.inl c2))] at hgo
        obtain rfl := Option.some.inj hgo
        obtain rfl : true = r := Option.some.inj HEND.out
        have f2 : decide (kI < 0) = true := decide_eq_true c2
        clear hgo
        go_wp2
        go_ret
        exact ⟨rfl, HS.out.hb⟩
      have f2 : decide (kI < 0) = false := decide_eq_false c2
      by_cases c3 : (n : Int) ≤ kI
      · rw [if_pos (.inr (.inr c3))] at hgo
        obtain rfl := Option.some.inj hgo
        obtain rfl : true = r := Option.some.inj HEND.out
        have f3 : decide ((n : Int) ≤ kI) = true := decide_eq_true c3
        clear hgo
        go_wp2
        go_ret
        exact ⟨rfl, HS.out.hb⟩
      rw [if_neg (by omega)] at hgo
      obtain ⟨k, hk⟩ : ∃ k : Nat, kI = (k : Int) := ⟨kI.toNat, by omega⟩
      subst hk
      simp only [Int.toNat_natCast] at hgo
      have k3 : (k : Int) < (n : Int) := by omega
      have k2 : (0 : Int) ≤ (k : Int) := by omega
      have k3n : (k < n) = True := eq_true (by omega)
      have f3 : decide ((n : Int) ≤ (k : Int)) = false := decide_eq_false c3
      have f3n : (n ≤ k) = False := eq_false (by omega)
      obtain ⟨⟨u1, u2⟩, hput, hgo⟩ := Option.bind_eq_some_iff.mp hgo
      obtain ⟨⟨g1, g2⟩, hput2, hgo⟩ := Option.bind_eq_some_iff.mp hgo
      dsimp only at hgo
      obtain ⟨A0, c0, z1, hv⟩ := HS.out.t1.at k (by omega)
      obtain ⟨l0, hl0⟩ : ∃ l0, ts.getD k [] = l0 := ⟨_, rfl⟩
      rw [hl0] at z1 hv hput
      have HPUT := Lib.hid hput
      have HPUT2 := Lib.hid hput2
      have HGO := Lib.hid hgo
      have HV := Lib.hid hv
      have x1 : wr.drew.cell? ⟨p, 8, none⟩ = some (.slice (some ⟨gt, 0, none⟩) n ct) := HS.out.hp.cell 8
      have x2 : wr.drew.cell? ⟨gt, k, none⟩ = some (.slice A0 l0.length c0) := z1
      have x3 : wr.drew.cell? (adk.add i) = some (.string key) := zk
      clear hput hput2 hgo hv hl0 c1 c2 c3 z1
      go_wp2_with fail
      refine wp_region_noPanic ?_
      refine start_ (n := 22) (S := fun w' => w'.cell? ⟨p, 8, none⟩ = some (.slice (some ⟨gt, 0, none⟩) n ct) ∧ w'.cell? ⟨gt, k, none⟩ = some (.slice A0 (l0).length c0) ∧ w'.cell? (adk.add i) = some (.string key)) (ds := [21]) #[false, false, false, false, false, false, false, false, false, false, false, false, false, false, false, false, false, false, false, false, false, false] (by kernel_rfl) rfl rfl ⟨x1, x2, x3⟩ (fun hHeld => ?_)
      refine pure_ (i := 0) (N := some 99) (v := ?_) (a' := ?_) #[true, false, false, false, false, false, false, false, false, false, false, false, false, false, false, false, false, false, false, false, false, false] rfl rfl (by kernel_rfl) (fun _ _ _ h => h) (Or.inl ⟨by rfl, ?_⟩) ?_ ?_
      rotate_left
      · intro w'
        go_simp
        with_reducible rfl
      rotate_left
      · simp only [Act.put, List.setIfInBounds_toArray, List.set_cons_zero, List.set_cons_succ, i64_w, i32_w]
        rfl
      refine pure_ (i := 1) (N := some 100) (v := ?_) (a' := ?_) #[true, true, false, false, false, false, false, false, false, false, false, false, false, false, false, false, false, false, false, false, false, false] rfl rfl (by kernel_rfl) (fun _ _ _ h => h) (Or.inl ⟨by rfl, ?_⟩) ?_ ?_
      rotate_left
      · intro w'
        go_simp
        with_reducible rfl
      rotate_left
      · simp only [Act.put, List.setIfInBounds_toArray, List.set_cons_zero, List.set_cons_succ, i64_w, i32_w]
        rfl
      refine pure_ (i := 2) (N := some 101) (v := ?_) (a' := ?_) #[true, true, true, false, false, false, false, false, false, false, false, false, false, false, false, false, false, false, false, false, false, false] rfl rfl (by kernel_rfl) (fun _ _ _ h => h) (Or.inl ⟨by rfl, ?_⟩) ?_ ?_
      rotate_left
      · intro w'
        go_simp
        with_reducible rfl
      rotate_left
      · simp only [Act.put, List.setIfInBounds_toArray, List.set_cons_zero, List.set_cons_succ, i64_w, i32_w]
        rfl
      refine pure_ (i := 4) (N := some 103) (v := ?_) (a' := ?_) #[true, true, true, false, true, false, false, false, false, false, false, false, false, false, false, false, false, false, false, false, false, false] rfl rfl (by kernel_rfl) (fun _ _ _ h => h) (Or.inl ⟨by rfl, ?_⟩) ?_ ?_
      rotate_left
      · intro w'
        go_simp
        with_reducible rfl
      rotate_left
      · simp only [Act.put, List.setIfInBounds_toArray, List.set_cons_zero, List.set_cons_succ, i64_w, i32_w]
        rfl
      refine pure_ (i := 5) (N := some 104) (v := ?_) (a' := ?_) #[true, true, true, false, true, true, false, false, false, false, false, false, false, false, false, false, false, false, false, false, false, false] rfl rfl (by kernel_rfl) (fun _ _ _ h => h) (Or.inl ⟨by rfl, ?_⟩) ?_ ?_
      rotate_left
      · intro w'
        go_simp
        with_reducible rfl
      rotate_left
      · simp only [Act.put, List.setIfInBounds_toArray, List.set_cons_zero, List.set_cons_succ, i64_w, i32_w]
        rfl
      refine pure_ (i := 6) (N := some 105) (v := ?_) (a' := ?_) #[true, true, true, false, true, true, true, false, false, false, false, false, false, false, false, false, false, false, false, false, false, false] rfl rfl (by kernel_rfl) (fun _ _ _ h => h) (Or.inl ⟨by rfl, ?_⟩) ?_ ?_
      rotate_left
      · intro w'
        go_simp
        with_reducible rfl
      rotate_left
      · simp only [Act.put, List.setIfInBounds_toArray, List.set_cons_zero, List.set_cons_succ, i64_w, i32_w]
        rfl
      refine pure_ (i := 7) (N := some 106) (v := ?_) (a' := ?_) #[true, true, true, false, true, true, true, true, false, false, false, false, false, false, false, false, false, false, false, false, false, false] rfl rfl (by kernel_rfl) (fun _ _ _ h => h) (Or.inl ⟨by rfl, ?_⟩) ?_ ?_
      rotate_left
      · intro w'
        go_simp
        with_reducible rfl
      rotate_left
      · simp only [Act.put, List.setIfInBounds_toArray, List.set_cons_zero, List.set_cons_succ, i64_w, i32_w]
        rfl
      refine pure_ (i := 9) (N := some 108) (v := ?_) (a' := ?_) #[true, true, true, false, true, true, true, true, false, true, false, false, false, false, false, false, false, false, false, false, false, false] rfl rfl (by kernel_rfl) (fun _ _ _ h => h) (Or.inl ⟨by rfl, ?_⟩) ?_ ?_
      rotate_left
      · intro w'
        go_simp
        with_reducible rfl
      rotate_left
      · simp only [Act.put, List.setIfInBounds_toArray, List.set_cons_zero, List.set_cons_succ, i64_w, i32_w]
        rfl
      refine pure_ (i := 12) (N := some 111) (v := ?_) (a' := ?_) #[true, true, true, false, true, true, true, true, false, true, false, false, true, false, false, false, false, false, false, false, false, false] rfl rfl (by kernel_rfl) (fun _ _ _ h => h) (Or.inl ⟨by rfl, ?_⟩) ?_ ?_
      rotate_left
      · intro w'
        go_simp
        with_reducible rfl
      rotate_left
      · simp only [Act.put, List.setIfInBounds_toArray, List.set_cons_zero, List.set_cons_succ, i64_w, i32_w]
        rfl
      refine pure_ (i := 13) (N := some 112) (v := ?_) (a' := ?_) #[true, true, true, false, true, true, true, true, false, true, false, false, true, true, false, false, false, false, false, false, false, false] rfl rfl (by kernel_rfl) (fun _ _ _ h => h) (Or.inl ⟨by rfl, ?_⟩) ?_ ?_
      rotate_left
      · intro w'
        go_simp
        with_reducible rfl
      rotate_left
      · simp only [Act.put, List.setIfInBounds_toArray, List.set_cons_zero, List.set_cons_succ, i64_w, i32_w]
        rfl
      refine pure_ (i := 14) (N := some 113) (v := ?_) (a' := ?_) #[true, true, true, false, true, true, true, true, false, true, false, false, true, true, true, false, false, false, false, false, false, false] rfl rfl (by kernel_rfl) (fun _ _ _ h => h) (Or.inl ⟨by rfl, ?_⟩) ?_ ?_
      rotate_left
      · intro w'
        go_simp
        with_reducible rfl
      rotate_left
      · simp only [Act.put, List.setIfInBounds_toArray, List.set_cons_zero, List.set_cons_succ, i64_w, i32_w]
        rfl
      refine take_ (i := 3) (N := some 102) (v := ?_) (a' := ?_) #[true, true, true, true, true, true, true, true, false, true, false, false, true, true, true, false, false, false, false, false, false, false] rfl rfl (by kernel_rfl) (fun _ _ _ h => h) (Or.inl ⟨by rfl, ?_⟩) hHeld ?_ ?_
      rotate_left
      · rintro w' ⟨s0, s1, s2⟩
        go_simp
        with_reducible rfl
      rotate_left
      · simp only [Act.put, List.setIfInBounds_toArray, List.set_cons_zero, List.set_cons_succ, i64_w, i32_w]
        rfl
      refine take_ (i := 8) (N := some 107) (v := ?_) (a' := ?_) #[true, true, true, true, true, true, true, true, true, true, false, false, true, true, true, false, false, false, false, false, false, false] rfl rfl (by kernel_rfl) (fun _ _ _ h => h) (Or.inl ⟨by rfl, ?_⟩) hHeld ?_ ?_
      rotate_left
      · rintro w' ⟨s0, s1, s2⟩
        go_simp
        with_reducible rfl
      rotate_left
      · simp only [Act.put, List.setIfInBounds_toArray, List.set_cons_zero, List.set_cons_succ, i64_w, i32_w]
        rfl
      refine pure_ (i := 10) (N := some 109) (v := ?_) (a' := ?_) #[true, true, true, true, true, true, true, true, true, true, true, false, true, true, true, false, false, false, false, false, false, false] rfl rfl (by kernel_rfl) (fun _ _ _ h => h) (Or.inl ⟨by rfl, ?_⟩) ?_ ?_
      rotate_left
      · intro w'
        go_simp
        with_reducible rfl
      rotate_left
      · simp only [Act.put, List.setIfInBounds_toArray, List.set_cons_zero, List.set_cons_succ, i64_w, i32_w]
        rfl
      refine take_ (i := 11) (N := some 110) (v := ?_) (a' := ?_) #[true, true, true, true, true, true, true, true, true, true, true, true, true, true, true, false, false, false, false, false, false, false] rfl rfl (by kernel_rfl) (fun _ _ _ h => h) (Or.inl ⟨by rfl, ?_⟩) hHeld ?_ ?_
      rotate_left
      · rintro w' ⟨s0, s1, s2⟩
        go_simp
        with_reducible rfl
      rotate_left
      · simp only [Act.put, List.setIfInBounds_toArray, List.set_cons_zero, List.set_cons_succ, i64_w, i32_w]
        rfl
      refine take_ (i := 15) (N := some 114) (v := ?_) (a' := ?_) #[true, true, true, true, true, true, true, true, true, true, true, true, true, true, true, true, false, false, false, false, false, false] rfl rfl (by kernel_rfl) (fun _ _ _ h => h) (Or.inl ⟨by rfl, ?_⟩) hHeld ?_ ?_
      rotate_left
      · rintro w' ⟨s0, s1, s2⟩
        go_simp
        with_reducible rfl
      rotate_left
      · simp only [Act.put, List.setIfInBounds_toArray, List.set_cons_zero, List.set_cons_succ, i64_w, i32_w]
        rfl
      refine one_ (i := 16) (N := some 115) #[true, true, true, true, true, true, true, true, true, true, true, true, true, true, true, true, true, false, false, false, false, false] rfl rfl (by kernel_rfl) (by decide) (fun K hK => ?_)
      refine goes_ Try.func24 (by kernel_rfl) rfl #[.slice A0 (l0).length c0, .string key, .int .i64 1, .int .i64 1] (by rfl) rfl rfl (by simp only [List.map_toArray, List.map_cons, List.map_nil]; rfl) ?_
      with_reducible refine (flows_Put.calls (Free gt rt q b1 b2 rl) A0 c0 l0 key 1 1 u1 u2 _ (show Kd.V k95 95 wr.drew wr.drew.heap.size (Free gt rt q b1 b2 rl) _ _ from vBase (Kd.V_drew HV.out)) HPUT.out).mono ?_
      rintro r w1 ⟨v0, rfl, hv, hb⟩
      refine ⟨_, rfl, ?_⟩
      obtain ⟨A1, c1, rfl⟩ := Kd.V_slice hv
      have hb_ : Below wr.heap.size wr.drew w1 := hb
      have HS1 := Lib.hid (HS.out.below ((below_drew (Below.refl _ wr)).trans hb_))
      have HV1 := Lib.hid (show Kd.V k95 95 w1 0 (Free gt rt q b1 b2 rl) (.slice A1 (u1).length c1) u1 from vBase (Kd.V_mono hv (fun i hi => hi.elim (fun h => h) (fun h => HS.out.new_free i h))))
      have y1 := (HS1.out.hp.cell 8)
      have y2 : w1.cell? ⟨gt, k, none⟩ = some (.slice A0 l0.length c0) := pw_cell_below (w := wr.drew) hb x2
      have y3 : w1.cell? (adk.add i) = some (.string key) := pw_cell_below (w := wr.drew) hb x3
      have yf := (show w1.frozen? ⟨gt, k, none⟩ = false from (HS1.out.t1.blk).elim (fun _ h => h.frozen k))
      clear hb hb_ hv
      refine hK.out _ _ ⟨y1, y2, y3⟩ (fun hHeld => ?_)
      clear hK K
      refine norm_ (a' := ?_) ?_ ?_
      rotate_left
      · show Act.put _ (some 115) _ = _
        simp only [Act.put, List.setIfInBounds_toArray, List.set_cons_zero, List.set_cons_succ, i64_w, i32_w]
        rfl
      refine pure_ (i := 17) (N := some 98) (v := ?_) (a' := ?_) #[true, true, true, true, true, true, true, true, true, true, true, true, true, true, true, true, true, true, false, false, false, false] rfl rfl (by kernel_rfl) (fun _ _ _ h => h) (Or.inl ⟨by rfl, ?_⟩) ?_ ?_
      rotate_left
      · intro w'
        go_simp
        with_reducible rfl
      rotate_left
      · simp only [Act.put, List.setIfInBounds_toArray, List.set_cons_zero, List.set_cons_succ, i64_w, i32_w]
        rfl
      refine pure_ (i := 18) (N := some 116) (v := ?_) (a' := ?_) #[true, true, true, true, true, true, true, true, true, true, true, true, true, true, true, true, true, true, true, false, false, false] rfl rfl (by kernel_rfl) (fun _ _ _ h => h) (Or.inl ⟨by rfl, ?_⟩) ?_ ?_
      rotate_left
      · intro w'
        go_simp
        with_reducible rfl
      rotate_left
      · simp only [Act.put, List.setIfInBounds_toArray, List.set_cons_zero, List.set_cons_succ, i64_w, i32_w]
        rfl
      refine pure_ (i := 19) (N := some 117) (v := ?_) (a' := ?_) #[true, true, true, true, true, true, true, true, true, true, true, true, true, true, true, true, true, true, true, true, false, false] rfl rfl (by kernel_rfl) (fun _ _ _ h => h) (Or.inl ⟨by rfl, ?_⟩) ?_ ?_
      rotate_left
      · intro w'
        go_simp
        with_reducible rfl
      rotate_left
      · simp only [Act.put, List.setIfInBounds_toArray, List.set_cons_zero, List.set_cons_succ, i64_w, i32_w]
        rfl
      refine pure_ (i := 20) (N := some 118) (v := ?_) (a' := ?_) #[true, true, true, true, true, true, true, true, true, true, true, true, true, true, true, true, true, true, true, true, true, false] rfl rfl (by kernel_rfl) (fun _ _ _ h => h) (Or.inl ⟨by rfl, ?_⟩) ?_ ?_
      rotate_left
      · intro w'
        go_simp
        with_reducible rfl
      rotate_left
      · simp only [Act.put, List.setIfInBounds_toArray, List.set_cons_zero, List.set_cons_succ, i64_w, i32_w]
        rfl
      refine last_ (i := 21) (N := none) #[true, true, true, true, true, true, true, true, true, true, true, true, true, true, true, true, true, true, true, true, true, true] rfl rfl (by kernel_rfl) (by decide) (fun K hK => ?_)
      refine skip_ (w1 := ?_) (by rfl) rfl ?_ ?_
      rotate_left
      · go_simp
        rfl
      refine hK.out _ _ ?_
      clear hK K
      refine done_ (by kernel_rfl) ?_
      refine NoPanic.normal ?_
      obtain ⟨W3, hW3⟩ : ∃ W3, w1.setCell ⟨gt, k, none⟩ (.slice A1 u1.length c1) = W3 := ⟨_, rfl⟩
      have n1 := Lib.hid (show LvSt W W3 [.int .i64 a, .int .i64 (n : Int), .int .i64 c, .int .i64 d, .int .i64 e, .pointer (some ⟨q, 0, none⟩), .pointer (some ⟨qs, 0, none⟩), .pointer (some ⟨qk, 0, none⟩), .slice (some ⟨gt, 0, none⟩) n ct, .slice Ap n cp, .int .i64 0] [.int .i64 a, .int .i64 (n : Int), .int .i64 c, .int .i64 d, .int .i64 e, .int .i64 0, .int .i64 0, pins, .slice (some ⟨rl, 0, none⟩) n cl, sv, kv, .slice (some ⟨rt, 0, none⟩) n cr, places, .int .i64 0] [.int .i64 a, .int .i64 (n : Int), .int .i64 c, .int .i64 d, .int .i64 e] W.heap.size p g q b1 b2 gt rt rl n cl s (ts.set k u1) rs lks from hW3 ▸ HS1.out.put1 HNE.out k (by omega) _ _ HV1.out)
      rw [hW3]
      clear hW3 HS HS1 HV HV1 HPUT y1 y2 y3 yf x1 x2 x3 wb
      have HS := n1
      clear n1 zk zs
      obtain ⟨A0, c0, z1, hv⟩ := HS.out.t2.at k (by omega)
      obtain ⟨l0, hl0⟩ : ∃ l0, rs.getD k [] = l0 := ⟨_, rfl⟩
      have hput2 := HPUT2.out
      rw [hl0] at z1 hv hput2
      clear HPUT2
      have HPUT2 := Lib.hid hput2
      have HV := Lib.hid hv
      obtain ⟨adk', hAk, zk⟩ := atStr (Kd.C_below HA1.out HS.out.hb) i hlt
      injection hAk with hAk
      subst hAk
      rw [HKEY.out] at zk
      have x1 : W3.drew.cell? ⟨g, 11, none⟩ = some (.slice (some ⟨rt, 0, none⟩) n cr) := HS.out.hg.cell 11
      have x2 : W3.drew.cell? ⟨rt, k, none⟩ = some (.slice A0 l0.length c0) := z1
      have x3 : W3.drew.cell? (adk.add i) = some (.string key) := zk
      clear hput2 hv hl0 z1
      go_wp2_with fail
      refine wp_region_noPanic ?_
      refine start_ (n := 22) (S := fun w' => w'.cell? ⟨g, 11, none⟩ = some (.slice (some ⟨rt, 0, none⟩) n cr) ∧ w'.cell? ⟨rt, k, none⟩ = some (.slice A0 (l0).length c0) ∧ w'.cell? (adk.add i) = some (.string key)) (ds := [21]) #[false, false, false, false, false, false, false, false, false, false, false, false, false, false, false, false, false, false, false, false, false, false] (by kernel_rfl) rfl rfl ⟨x1, x2, x3⟩ (fun hHeld => ?_)
      refine pure_ (i := 0) (N := some 120) (v := ?_) (a' := ?_) #[true, false, false, false, false, false, false, false, false, false, false, false, false, false, false, false, false, false, false, false, false, false] rfl rfl (by kernel_rfl) (fun _ _ _ h => h) (Or.inl ⟨by rfl, ?_⟩) ?_ ?_
      rotate_left
      · intro w'
        go_simp
        with_reducible rfl
      rotate_left
      · simp only [Act.put, List.setIfInBounds_toArray, List.set_cons_zero, List.set_cons_succ, i64_w, i32_w]
        rfl
      refine pure_ (i := 1) (N := some 121) (v := ?_) (a' := ?_) #[true, true, false, false, false, false, false, false, false, false, false, false, false, false, false, false, false, false, false, false, false, false] rfl rfl (by kernel_rfl) (fun _ _ _ h => h) (Or.inl ⟨by rfl, ?_⟩) ?_ ?_
      rotate_left
      · intro w'
        go_simp
        with_reducible rfl
      rotate_left
      · simp only [Act.put, List.setIfInBounds_toArray, List.set_cons_zero, List.set_cons_succ, i64_w, i32_w]
        rfl
      refine pure_ (i := 2) (N := some 122) (v := ?_) (a' := ?_) #[true, true, true, false, false, false, false, false, false, false, false, false, false, false, false, false, false, false, false, false, false, false] rfl rfl (by kernel_rfl) (fun _ _ _ h => h) (Or.inl ⟨by rfl, ?_⟩) ?_ ?_
      rotate_left
      · intro w'
        go_simp
        with_reducible rfl
      rotate_left
      · simp only [Act.put, List.setIfInBounds_toArray, List.set_cons_zero, List.set_cons_succ, i64_w, i32_w]
        rfl
      refine pure_ (i := 4) (N := some 124) (v := ?_) (a' := ?_) #[true, true, true, false, true, false, false, false, false, false, false, false, false, false, false, false, false, false, false, false, false, false] rfl rfl (by kernel_rfl) (fun _ _ _ h => h) (Or.inl ⟨by rfl, ?_⟩) ?_ ?_
      rotate_left
      · intro w'
        go_simp
        with_reducible rfl
      rotate_left
      · simp only [Act.put, List.setIfInBounds_toArray, List.set_cons_zero, List.set_cons_succ, i64_w, i32_w]
        rfl
      refine pure_ (i := 5) (N := some 125) (v := ?_) (a' := ?_) #[true, true, true, false, true, true, false, false, false, false, false, false, false, false, false, false, false, false, false, false, false, false] rfl rfl (by kernel_rfl) (fun _ _ _ h => h) (Or.inl ⟨by rfl, ?_⟩) ?_ ?_
      rotate_left
      · intro w'
        go_simp
        with_reducible rfl
      rotate_left
      · simp only [Act.put, List.setIfInBounds_toArray, List.set_cons_zero, List.set_cons_succ, i64_w, i32_w]
        rfl
      refine pure_ (i := 6) (N := some 126) (v := ?_) (a' := ?_) #[true, true, true, false, true, true, true, false, false, false, false, false, false, false, false, false, false, false, false, false, false, false] rfl rfl (by kernel_rfl) (fun _ _ _ h => h) (Or.inl ⟨by rfl, ?_⟩) ?_ ?_
      rotate_left
      · intro w'
        go_simp
        with_reducible rfl
      rotate_left
      · simp only [Act.put, List.setIfInBounds_toArray, List.set_cons_zero, List.set_cons_succ, i64_w, i32_w]
        rfl
      refine pure_ (i := 7) (N := some 127) (v := ?_) (a' := ?_) #[true, true, true, false, true, true, true, true, false, false, false, false, false, false, false, false, false, false, false, false, false, false] rfl rfl (by kernel_rfl) (fun _ _ _ h => h) (Or.inl ⟨by rfl, ?_⟩) ?_ ?_
      rotate_left
      · intro w'
        go_simp
        with_reducible rfl
      rotate_left
      · simp only [Act.put, List.setIfInBounds_toArray, List.set_cons_zero, List.set_cons_succ, i64_w, i32_w]
        rfl
      refine pure_ (i := 9) (N := some 129) (v := ?_) (a' := ?_) #[true, true, true, false, true, true, true, true, false, true, false, false, false, false, false, false, false, false, false, false, false, false] rfl rfl (by kernel_rfl) (fun _ _ _ h => h) (Or.inl ⟨by rfl, ?_⟩) ?_ ?_
      rotate_left
      · intro w'
        go_simp
        with_reducible rfl
      rotate_left
      · simp only [Act.put, List.setIfInBounds_toArray, List.set_cons_zero, List.set_cons_succ, i64_w, i32_w]
        rfl
      refine pure_ (i := 12) (N := some 132) (v := ?_) (a' := ?_) #[true, true, true, false, true, true, true, true, false, true, false, false, true, false, false, false, false, false, false, false, false, false] rfl rfl (by kernel_rfl) (fun _ _ _ h => h) (Or.inl ⟨by rfl, ?_⟩) ?_ ?_
      rotate_left
      · intro w'
        go_simp
        with_reducible rfl
      rotate_left
      · simp only [Act.put, List.setIfInBounds_toArray, List.set_cons_zero, List.set_cons_succ, i64_w, i32_w]
        rfl
      refine pure_ (i := 13) (N := some 133) (v := ?_) (a' := ?_) #[true, true, true, false, true, true, true, true, false, true, false, false, true, true, false, false, false, false, false, false, false, false] rfl rfl (by kernel_rfl) (fun _ _ _ h => h) (Or.inl ⟨by rfl, ?_⟩) ?_ ?_
      rotate_left
      · intro w'
        go_simp
        with_reducible rfl
      rotate_left
      · simp only [Act.put, List.setIfInBounds_toArray, List.set_cons_zero, List.set_cons_succ, i64_w, i32_w]
        rfl
      refine pure_ (i := 14) (N := some 134) (v := ?_) (a' := ?_) #[true, true, true, false, true, true, true, true, false, true, false, false, true, true, true, false, false, false, false, false, false, false] rfl rfl (by kernel_rfl) (fun _ _ _ h => h) (Or.inl ⟨by rfl, ?_⟩) ?_ ?_
      rotate_left
      · intro w'
        go_simp
        with_reducible rfl
      rotate_left
      · simp only [Act.put, List.setIfInBounds_toArray, List.set_cons_zero, List.set_cons_succ, i64_w, i32_w]
        rfl
      refine take_ (i := 3) (N := some 123) (v := ?_) (a' := ?_) #[true, true, true, true, true, true, true, true, false, true, false, false, true, true, true, false, false, false, false, false, false, false] rfl rfl (by kernel_rfl) (fun _ _ _ h => h) (Or.inl ⟨by rfl, ?_⟩) hHeld ?_ ?_
      rotate_left
      · rintro w' ⟨s0, s1, s2⟩
        go_simp
        with_reducible rfl
      rotate_left
      · simp only [Act.put, List.setIfInBounds_toArray, List.set_cons_zero, List.set_cons_succ, i64_w, i32_w]
        rfl
      refine take_ (i := 8) (N := some 128) (v := ?_) (a' := ?_) #[true, true, true, true, true, true, true, true, true, true, false, false, true, true, true, false, false, false, false, false, false, false] rfl rfl (by kernel_rfl) (fun _ _ _ h => h) (Or.inl ⟨by rfl, ?_⟩) hHeld ?_ ?_
      rotate_left
      · rintro w' ⟨s0, s1, s2⟩
        go_simp
        with_reducible rfl
      rotate_left
      · simp only [Act.put, List.setIfInBounds_toArray, List.set_cons_zero, List.set_cons_succ, i64_w, i32_w]
        rfl
      refine pure_ (i := 10) (N := some 130) (v := ?_) (a' := ?_) #[true, true, true, true, true, true, true, true, true, true, true, false, true, true, true, false, false, false, false, false, false, false] rfl rfl (by kernel_rfl) (fun _ _ _ h => h) (Or.inl ⟨by rfl, ?_⟩) ?_ ?_
      rotate_left
      · intro w'
        go_simp
        with_reducible rfl
      rotate_left
      · simp only [Act.put, List.setIfInBounds_toArray, List.set_cons_zero, List.set_cons_succ, i64_w, i32_w]
        rfl
      refine take_ (i := 11) (N := some 131) (v := ?_) (a' := ?_) #[true, true, true, true, true, true, true, true, true, true, true, true, true, true, true, false, false, false, false, false, false, false] rfl rfl (by kernel_rfl) (fun _ _ _ h => h) (Or.inl ⟨by rfl, ?_⟩) hHeld ?_ ?_
      rotate_left
      · rintro w' ⟨s0, s1, s2⟩
        go_simp
        with_reducible rfl
      rotate_left
      · simp only [Act.put, List.setIfInBounds_toArray, List.set_cons_zero, List.set_cons_succ, i64_w, i32_w]
        rfl
      refine take_ (i := 15) (N := some 135) (v := ?_) (a' := ?_) #[true, true, true, true, true, true, true, true, true, true, true, true, true, true, true, true, false, false, false, false, false, false] rfl rfl (by kernel_rfl) (fun _ _ _ h => h) (Or.inl ⟨by rfl, ?_⟩) hHeld ?_ ?_
      rotate_left
      · rintro w' ⟨s0, s1, s2⟩
        go_simp
        with_reducible rfl
      rotate_left
      · simp only [Act.put, List.setIfInBounds_toArray, List.set_cons_zero, List.set_cons_succ, i64_w, i32_w]
        rfl
      refine one_ (i := 16) (N := some 136) #[true, true, true, true, true, true, true, true, true, true, true, true, true, true, true, true, true, false, false, false, false, false] rfl rfl (by kernel_rfl) (by decide) (fun K hK => ?_)
      refine goes_ Try.func25 (by kernel_rfl) rfl #[.slice A0 (l0).length c0, .string key, .int .i64 1, .int .i64 1] (by rfl) rfl rfl (by simp only [List.map_toArray, List.map_cons, List.map_nil]; rfl) ?_
      with_reducible refine (gangplankref12_Put.calls 1000 (Free gt rt q b1 b2 rl) A0 c0 l0 key 1 1 g1 g2 _ (show Kd.V k95 95 W3.drew W3.drew.heap.size (Free gt rt q b1 b2 rl) _ _ from vBase (Kd.V_drew HV.out)) HPUT2.out).mono ?_
      rintro r w1 ⟨v0, rfl, hv, hb⟩
      refine ⟨_, rfl, ?_⟩
      obtain ⟨A1, c1, rfl⟩ := Kd.V_slice hv
      have hb_ : Below W3.heap.size W3.drew w1 := hb
      have HS1 := Lib.hid (HS.out.below ((below_drew (Below.refl _ W3)).trans hb_))
      have HV1 := Lib.hid (show Kd.V k95 95 w1 0 (Free gt rt q b1 b2 rl) (.slice A1 (g1).length c1) g1 from vBase (Kd.V_mono hv (fun i hi => hi.elim (fun h => h) (fun h => HS.out.new_free i h))))
      have y1 := (HS1.out.hg.cell 11)
      have y2 : w1.cell? ⟨rt, k, none⟩ = some (.slice A0 l0.length c0) := pw_cell_below (w := W3.drew) hb x2
      have y3 : w1.cell? (adk.add i) = some (.string key) := pw_cell_below (w := W3.drew) hb x3
      have yf := (show w1.frozen? ⟨rt, k, none⟩ = false from (HS1.out.t2.blk).elim (fun _ h => h.frozen k))
      clear hb hb_ hv
      refine hK.out _ _ ⟨y1, y2, y3⟩ (fun hHeld => ?_)
      clear hK K
      refine norm_ (a' := ?_) ?_ ?_
      rotate_left
      · show Act.put _ (some 136) _ = _
        simp only [Act.put, List.setIfInBounds_toArray, List.set_cons_zero, List.set_cons_succ, i64_w, i32_w]
        rfl
      refine pure_ (i := 17) (N := some 119) (v := ?_) (a' := ?_) #[true, true, true, true, true, true, true, true, true, true, true, true, true, true, true, true, true, true, false, false, false, false] rfl rfl (by kernel_rfl) (fun _ _ _ h => h) (Or.inl ⟨by rfl, ?_⟩) ?_ ?_
      rotate_left
      · intro w'
        go_simp
        with_reducible rfl
      rotate_left
      · simp only [Act.put, List.setIfInBounds_toArray, List.set_cons_zero, List.set_cons_succ, i64_w, i32_w]
        rfl
      refine pure_ (i := 18) (N := some 137) (v := ?_) (a' := ?_) #[true, true, true, true, true, true, true, true, true, true, true, true, true, true, true, true, true, true, true, false, false, false] rfl rfl (by kernel_rfl) (fun _ _ _ h => h) (Or.inl ⟨by rfl, ?_⟩) ?_ ?_
      rotate_left
      · intro w'
        go_simp
        with_reducible rfl
      rotate_left
      · simp only [Act.put, List.setIfInBounds_toArray, List.set_cons_zero, List.set_cons_succ, i64_w, i32_w]
        rfl
      refine pure_ (i := 19) (N := some 138) (v := ?_) (a' := ?_) #[true, true, true, true, true, true, true, true, true, true, true, true, true, true, true, true, true, true, true, true, false, false] rfl rfl (by kernel_rfl) (fun _ _ _ h => h) (Or.inl ⟨by rfl, ?_⟩) ?_ ?_
      rotate_left
      · intro w'
        go_simp
        with_reducible rfl
      rotate_left
      · simp only [Act.put, List.setIfInBounds_toArray, List.set_cons_zero, List.set_cons_succ, i64_w, i32_w]
        rfl
      refine pure_ (i := 20) (N := some 139) (v := ?_) (a' := ?_) #[true, true, true, true, true, true, true, true, true, true, true, true, true, true, true, true, true, true, true, true, true, false] rfl rfl (by kernel_rfl) (fun _ _ _ h => h) (Or.inl ⟨by rfl, ?_⟩) ?_ ?_
      rotate_left
      · intro w'
        go_simp
        with_reducible rfl
      rotate_left
      · simp only [Act.put, List.setIfInBounds_toArray, List.set_cons_zero, List.set_cons_succ, i64_w, i32_w]
        rfl
      refine last_ (i := 21) (N := none) #[true, true, true, true, true, true, true, true, true, true, true, true, true, true, true, true, true, true, true, true, true, true] rfl rfl (by kernel_rfl) (by decide) (fun K hK => ?_)
      refine skip_ (w1 := ?_) (by rfl) rfl ?_ ?_
      rotate_left
      · go_simp
        rfl
      refine hK.out _ _ ?_
      clear hK K
      refine done_ (by kernel_rfl) ?_
      refine NoPanic.normal ?_
      obtain ⟨W4, hW4⟩ : ∃ W4, w1.setCell ⟨rt, k, none⟩ (.slice A1 g1.length c1) = W4 := ⟨_, rfl⟩
      have n1 := Lib.hid (show LvSt W W4 [.int .i64 a, .int .i64 (n : Int), .int .i64 c, .int .i64 d, .int .i64 e, .pointer (some ⟨q, 0, none⟩), .pointer (some ⟨qs, 0, none⟩), .pointer (some ⟨qk, 0, none⟩), .slice (some ⟨gt, 0, none⟩) n ct, .slice Ap n cp, .int .i64 0] [.int .i64 a, .int .i64 (n : Int), .int .i64 c, .int .i64 d, .int .i64 e, .int .i64 0, .int .i64 0, pins, .slice (some ⟨rl, 0, none⟩) n cl, sv, kv, .slice (some ⟨rt, 0, none⟩) n cr, places, .int .i64 0] [.int .i64 a, .int .i64 (n : Int), .int .i64 c, .int .i64 d, .int .i64 e] W.heap.size p g q b1 b2 gt rt rl n cl s (ts.set k u1) (rs.set k g1) lks from hW4 ▸ HS1.out.put2 HNE.out k (by omega) _ _ HV1.out)
      rw [hW4]
      clear hW4 HS HS1 HV HV1 HPUT2 y1 y2 y3 yf x1 x2 x3
      have HS := n1
      clear n1 zk
      have zq : W4.cell? ⟨p, 5, none⟩ = some (.pointer (some ⟨q, 0, none⟩)) := HS.out.hp.cell 5
      have hlo := lock_owners s k i (by rw [how, hlk]; omega) (by omega)
      rw [how] at hlo
      go_wp2_with fail
      go_at_call 20
      refine (Lock_any q b1 b2 s k i _ HS.out.hh).mono ?_
      rintro e4 w6 ⟨rfl, hh, ht⟩
      obtain ⟨s2, hs2⟩ : ∃ s2, (s.lock k i).2 = s2 := ⟨_, rfl⟩
      obtain ⟨bl, hbl⟩ : ∃ bl, (s.lock k i).1 = bl := ⟨_, rfl⟩
      rw [hs2] at hh hlo
      rw [hbl]
      have n1 := Lib.hid (show LvSt W w6 [.int .i64 a, .int .i64 (n : Int), .int .i64 c, .int .i64 d, .int .i64 e, .pointer (some ⟨q, 0, none⟩), .pointer (some ⟨qs, 0, none⟩), .pointer (some ⟨qk, 0, none⟩), .slice (some ⟨gt, 0, none⟩) n ct, .slice Ap n cp, .int .i64 0] [.int .i64 a, .int .i64 (n : Int), .int .i64 c, .int .i64 d, .int .i64 e, .int .i64 0, .int .i64 0, pins, .slice (some ⟨rl, 0, none⟩) n cl, sv, kv, .slice (some ⟨rt, 0, none⟩) n cr, places, .int .i64 0] [.int .i64 a, .int .i64 (n : Int), .int .i64 c, .int .i64 d, .int .i64 e] W.heap.size p g q b1 b2 gt rt rl n cl s2 (ts.set k u1) (rs.set k g1) lks from HS.out.lock HNE.out hh ht)
      clear HS hh ht zq hs2 hbl
      have HS := n1
      clear n1
      have z8 : w6.cell? ⟨g, 8, none⟩ = some (.slice (some ⟨rl, 0, none⟩) n cl) := HS.out.hg.cell 8
      obtain ⟨zl, zlf⟩ := Kd.R_celln 0 HS.out.hl (k : Int) (by omega) (by omega)
      rw [show rdOf 0 lks (k : Int) = lks.getD k 0 from by unfold rdOf; rw [Int.toNat_natCast], Int.toNat_natCast] at zl
      rw [Int.toNat_natCast] at zlf
      have hx := hge k
      by_cases hf : lks.getD k 0 = -1
      · rw [hf] at zl
        rw [if_pos hf] at hlo
        clear hx
        go_wp2
        go_roundw
        case rel =>
          refine ⟨i + 1, s2, ts.set k u1, rs.set k g1, lks.set k i, by omega, by rw [hw], ?_, by simpa using hts, by simpa using hrs, hlo, by simpa using hlk, fun j => ?_, HS.out.own HNE.out k i⟩
          · rw [show l1.length - (i + 1) = d' by have := HD.out; omega]
            exact HGO.out
          · by_cases hj : j = k
            · subst hj
              rw [List.getD_eq_getElem?_getD, List.getElem?_set_self (by omega)]
              show (-1 : Int) ≤ (i : Int)
              omega
            · rw [List.getD_eq_getElem?_getD, List.getElem?_set_ne (fun e => hj e.symm), ← List.getD_eq_getElem?_getD]
              exact hge j
        case measure =>
          rw [hw]
          show l1.length - (((i + 1 : Nat) : Int)).toNat < l1.length - ((i : Int)).toNat
          rw [Int.toNat_natCast, Int.toNat_natCast]
          omega
      · rw [if_neg hf] at hlo
        obtain ⟨x, hxx⟩ : ∃ x, lks.getD k 0 = x := ⟨_, rfl⟩
        rw [hxx] at zl hf hx
        have f5 : decide (x < 0) = false := decide_eq_false (by omega)
        clear hxx hf hx
        go_wp2
        go_roundw
        case rel =>
          refine ⟨i + 1, s2, ts.set k u1, rs.set k g1, lks, by omega, by rw [hw], ?_, by simpa using hts, by simpa using hrs, hlo, hlk, hge, HS.out⟩
          rw [show l1.length - (i + 1) = d' by have := HD.out; omega]
          exact HGO.out
        case measure =>
          rw [hw]
          show l1.length - (((i + 1 : Nat) : Int)).toNat < l1.length - ((i : Int)).toNat
          rw [Int.toNat_natCast, Int.toNat_natCast]
          omega
    · obtain rfl : l1.length = i := by omega
      rw [Nat.sub_self] at hgo
      simp only [lvGo] at hgo
      obtain rfl := Option.some.inj hgo
      have hend := HEND.out
      simp only [lvEnd] at hend
      split at hend
      · rename_i hc
        obtain ⟨hc1, hc2, hc3, hc4⟩ := hc
        subst hlk
        have hkey : ∀ l ∈ rs, gangplankref12_Keys.f 1000 l = some (keyOf l) := fun l hl => by
          have h1 := List.all_eq_true.mp hc1 l hl
          unfold keyOf
          cases hh : gangplankref12_Keys.f 1000 l with
          | none => rw [hh] at h1; cases h1
          | some v => rfl
        have hlen : ∀ l ∈ ts, l.length ≤ 1000000 := fun l hl => of_decide_eq_true (List.all_eq_true.mp hc2 l hl)
        have hup : upto (fun i => s.owner i) lks.length = lks := by have h := upto_owner s; rw [how] at h; exact h
        have hints := ints_same lks (by have := HBN.out; omega)
        have wb : wr.cell? ⟨W.heap.size, 1, none⟩ = some (.int .i64 (lks.length : Int)) := hS.hc.cell 1
        have p1 : decide ((l1.length : Int) < (l1.length : Int)) = false := decide_eq_false (by omega)
        obtain ⟨yy, hyy⟩ : ∃ yy, rs.flatMap keyOf = yy := ⟨_, rfl⟩
        obtain ⟨xx, hxx⟩ : ∃ xx, keysT ts = xx := ⟨_, rfl⟩
        rw [hyy, hxx] at hend
        have HYY := Lib.hid hyy
        have HXX := Lib.hid hxx
        have HTX := Lib.hid hend
        have HK1 := Lib.hid hkey
        have HLE := Lib.hid hlen
        have HUP := Lib.hid hup
        have HIN := Lib.hid hints
        have HC3 := Lib.hid hc3
        have HC4 := Lib.hid hc4
        have HTS := Lib.hid hts
        have HRS := Lib.hid hrs
        clear hend hyy hxx hkey hlen hup hints hc1 hc2 hc3 hc4 hts hrs hS hge how HEND
        go_wp2_with fail
        go_at_call 17
        refine (Live_any p _ ct ts (by have := HBN.out; have := HTS.out; omega) HLE.out HC3.out _ HS.out.hp.lt (by rw [HTS.out]; exact HS.out.hp.cell 8) (HS.out.t1.C (by have := HBN.out; have := HTS.out; omega))).mono ?_
        rintro e5 w6 ⟨v1, rfl, hr1, hb⟩
        rw [HXX.out] at hr1
        obtain ⟨X1, cx1, rfl⟩ := Kd.R_slice hr1
        have n1 := Lib.hid (HS.out.below hb)
        have HR1 := Lib.hid hr1
        clear HS hr1 hb wb
        have HS := n1
        clear n1
        go_wp2_with fail
        go_at_call 27
        refine (refLive_any g _ cr 1000 rs keyOf (by have := HBN.out; have := HRS.out; omega) HK1.out HC4.out _ (by rw [HRS.out]; exact HS.out.hg.cell 11) (HS.out.t2.C (by have := HBN.out; have := HRS.out; omega))).mono ?_
        rintro e5 w7 ⟨v2, rfl, hr2, hb⟩
        rw [HYY.out] at hr2
        obtain ⟨X2, cx2, rfl⟩ := Kd.R_slice hr2
        have n1 := Lib.hid (HS.out.below hb)
        have n2 := Lib.hid (Kd.R_below HR1.out hb)
        have HR2 := Lib.hid hr2
        clear HS HR1 hr2 hb
        have HS := n1
        have HR1 := n2
        clear n1 n2
        go_wp2_with fail
        go_at_call 26
        refine (gangplankref12_Texts.calls 1000 X1 cx1 xx X2 cx2 yy r _ (Kd.R_reads' HR1.out).2.2 (Kd.R_reads' HR1.out).2.1 (Kd.R_reads' HR2.out).2.2 (Kd.R_reads' HR2.out).2.1 HTX.out).mono ?_
        rintro e5 w8 ⟨rfl, hd⟩
        have n1 := Lib.hid (HS.out.below (hd.below.trans ((below_drew (Below.refl _ w8)).mono hd.below.size)))
        clear HS HR1 HR2 hd
        have HS := n1
        clear n1
        go_wp2_with fail
        go_region_held3 (fun w' => w'.cell? ⟨g, 8, none⟩ = some (.slice (some ⟨rl, 0, none⟩) lks.length cl))
          (first | exact HS.out.hg.cell 8)
          (first
            | (go_at_call 18; refine (Owners_any p q b1 b2 s _ ct lks.length (by have := HBN.out; omega) _ (HS.out.hp.cell 5) (HS.out.hp.cell 8) HS.out.hh).mono ?_; rintro e5 w9 ⟨ov, rfl, hr, hb⟩; rw [HUP.out] at hr; obtain ⟨Ao, co, rfl⟩ := Kd.R_slice hr; have n1 := Lib.hid (HS.out.below hb); have HOV := Lib.hid hr; clear HS hr hb; have HS := n1; clear n1)
            | (go_at_call 28; refine (gangplankref08_Ints.calls 1000 Ao co lks (some ⟨rl, 0, none⟩) cl lks true _ (Kd.R_reads' HOV.out).2.2 (Kd.R_reads' HOV.out).2.1 (Kd.R_reads' HS.out.hl).2.2 (Kd.R_reads' HS.out.hl).2.1 HIN.out).mono ?_; rintro e5 w10 ⟨rfl, hd⟩; have n1 := Lib.hid (HS.out.below hd.below); clear HS HOV hd; have HS := n1; clear n1))
        clear HTX
        cases r
        all_goals
          go_wp2
          go_ret
          exact ⟨rfl, HS.out.hb⟩
      · cases hend
end

end Go.Proofs.Ytbbgeobnjdgpfaa.P
