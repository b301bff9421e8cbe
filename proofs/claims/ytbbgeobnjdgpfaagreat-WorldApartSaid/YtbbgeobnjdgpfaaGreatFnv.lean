/- The hash of bytes (package fnv): contracts of its inner method, of its iterator over a string's bytes, and of Join: Join is a fold over the bytes. -/
import Derived.Test.YtbbgeobnjdgpfaaGreatRange
import Derived.Test.YtbbgeobnjdgpfaaGreatProg
set_option linter.unusedVariables false
set_option linter.unusedSimpArgs false
namespace Go.Proofs.YtbbgeobnjdgpfaaGreat.Hand
open Go.RowKit Go.Shelf
attribute [local go_sem] Oper.semAt_some

/-- One byte on. -/
def hstep (h : Int) (b : UInt8) : Int := IntKind.u64.wrap ((Go.bits .xor .u64 h (IntKind.u64.wrap (b.toNat : Int))) * 1099511628211)
/-- Some bytes on. -/
def hjoin (h : Int) (l : List UInt8) : Int := l.foldl hstep h
theorem hjoin_snoc (h : Int) (l : List UInt8) (b : UInt8) : hjoin h (l ++ [b]) = hstep (hjoin h l) b := by simp [hjoin]

set_option maxHeartbeats 1000000 in
theorem on_any (h : Int) (b : UInt8) (w : World) :
    Calls Tryz.prog 89 #[.int .u64 h, .int .u8 (b.toNat : Int)] w fun e w' => e = .returned (.int .u64 (hstep h b)) ∧ w' = w := by
  go_enter Tryz.func89, Tryz.ntmps89
  go_wp2
  go_ret
  exact ⟨rfl, rfl⟩

set_option maxRecDepth 100000 in
set_option maxHeartbeats 2000000 in
/-- The iterator over a string's bytes. -/
theorem each1_in (F : Fence) (n : Nat) (hF : F.fn 97) (hro : F.round = none) (hn : 1 ≤ n) (l Bs : Nat) (s : ByteArray) (hs : s.size ≤ 140737488351232) (J Jx : List UInt8 → World → Prop)
    (hY : ∀ pre x W, J pre W → pre.length < s.size → YieldAt F (n - 1) Tryz.prog l #[.int .u8 (x.toNat : Int)] W fun e W' =>
      (e = .returned (.bool true) ∧ J (pre ++ [x]) W' ∧ Keeps (· = ⟨Bs, 0, none⟩) W W') ∨ (e = .returned (.bool false) ∧ Jx (pre ++ [x]) W'))
    (W : World) (hBs : W.cell? ⟨Bs, 0, none⟩ = some (.string s)) (h0 : J [] W) :
    CallsIn F n Tryz.prog 97 #[.func (.yield l) #[] #[], .pointer (some ⟨Bs, 0, none⟩)] W fun e W' => (∃ v, e = .returned v) ∧
      ((∃ ys, ys = s.data.toList ∧ J ys W') ∨ (∃ pre, pre <+: s.data.toList ∧ Jx pre W')) := by
  refine callsIn_of_wp Tryz.func97 rfl hF ?_ hro
  simp only [Tryz.ntmps97, List.size_toArray, List.length_cons, List.length_nil, Nat.reduceAdd, Nat.reduceSub, Array.replicate_succ, Array.replicate_zero, List.push_toArray, List.append_toArray, List.nil_append, List.cons_append]
  gi_wp2
  gi_loopw [6] (fun i wr => ∃ k : Nat, k ≤ s.size ∧ i = .int .i64 k ∧ J (s.data.toList.take k) wr ∧ Keeps (· = ⟨Bs, 0, none⟩) W wr)
    (fun i _ => s.size - (intOf i).toNat)
  case atStart => exact ⟨0, Nat.zero_le _, rfl, h0, Keeps.refl _ _⟩
  case round =>
    obtain ⟨k, hk, rfl, hJs, hnx⟩ := hrel
    have hBs' : wr.cell? ⟨Bs, 0, none⟩ = some (.string s) := hnx _ _ rfl hBs
    by_cases hlt : k < s.size
    · obtain ⟨fn, tmps, assign, body, hy, hR⟩ := hY _ s[k] wr hJs (by simp; omega)
      gi_wp2
      refine hR.mono ?_
      rintro e W3 (⟨rfl, hJ3, hk3⟩ | ⟨rfl, hJx3⟩)
      · gi_wp2
        go_roundw
        case rel => exact ⟨k + 1, by omega, by simp, by rw [List.take_succ_eq_append_getElem (by simpa using hlt)]; exact hJ3, keeps_t hnx hk3⟩
        case measure => simp [intOf]; omega
      · gi_wp2
        refine bodyPost_ret (results_none rfl _ _ _) rfl ?_
        exact ⟨⟨_, rfl⟩, .inr ⟨s.data.toList.take (k + 1), List.take_prefix _ _, by rw [List.take_succ_eq_append_getElem (by simpa using hlt)]; exact hJx3⟩⟩
    · obtain rfl : k = s.size := by omega
      gi_wp2
      go_end0
      exact ⟨⟨_, rfl⟩, .inl ⟨_, rfl, by rw [List.take_of_length_le (by simp)] at hJs; exact hJs⟩⟩

set_option maxHeartbeats 1000000 in
theorem each_any (s : ByteArray) (w : World) :
    Calls Tryz.prog 90 #[.string s] w fun e w' => e = .returned (.func (.func 97) #[] #[.pointer (some ⟨w.heap.size, 0, none⟩)]) ∧ w' = w.alloc (.cells #[.string s] 9) := by
  go_enter Tryz.func90, Tryz.ntmps90
  go_wp2
  go_ret
  exact ⟨rfl, rfl⟩

theorem each_stops (F : Fence) (n : Nat) (hF : F.fn 97) (hro : F.round = none) (hn : 1 ≤ n) (Bs : Nat) (s : ByteArray) (hs : s.size ≤ 140737488351232) (w : World) (hBs : Bs < w.heap.size)
    (hc : w.cell? ⟨Bs, 0, none⟩ = some (.string s)) :
    SeqStopsK F n Tryz.prog 97 #[.pointer (some ⟨Bs, 0, none⟩)] (fun x : UInt8 => #[Value.int .u8 (x.toNat : Int)]) (Keeps (· = ⟨Bs, 0, none⟩)) (fun ys => ys = s.data.toList) (fun pre => pre <+: s.data.toList) s.size w := fun l J Jx W hW _ _ hY h0 =>
  each1_in F n hF hro hn l Bs s hs J Jx hY W ((hW.cell (p := ⟨Bs, 0, none⟩) hBs).trans hc) h0

end Go.Proofs.YtbbgeobnjdgpfaaGreat.Hand
