/- Each Go function that the laws reach, as a plain function, with the proof that the machine's call comes to what it says; of a law: its row. Made by a program of this seat (wip/hp.py, over the print). -/
import Derived.Test.YtcekkbimdogboaaRows
import Derived.Test.YtcekkbimdogboaaOpens
import Derived.Test.YtcekkbimdogboaaPx7
import Derived.Test.YtcekkbimdogboaaPureRingPicks
import Derived.Test.YtcekkbimdogboaaSized
import Derived.Test.YtcekkbimdogboaaClosed
import Derived.WalkKit
import Derived.ProofKit
import Derived.OpenShut
import Derived.ShutString
import Derived.ChangeOld
import Derived.Below
import Derived.SizedLaws
import Derived.Carry
namespace Go.Proofs.Ytcekkbimdogboaa.ringPicks
open Go.ChangeShapes Go.WideShapes Go.ChangeAt Go.RowKit
open Go.ChangeMaps (open_string shut_string)
open Go.Proofs.Ytcekkbimdogboaa.P Go.Proofs.Ytcekkbimdogboaa.Open Go.Proofs.YtcekkbimdogboaaW.PrintWords
set_option linter.unusedVariables false
theorem own : ownKnob Try.prog.godebug = none := by kernel_rfl
theorem laidOut : laidOutB Try.prog = true := by kernel_rfl
set_option maxRecDepth 100000 in
theorem lifted (os : Os) (started : os.Started) (H : Type) (enc : TypeId × Value → H) :
    ReturnsInHanded {} Try.checked os 8 .any (Rows.ringPicksSpec.pre6 enc Try.prog Try.f8 Rows.ringPicksRow.domain false) (Rows.ringPicksSpec.post enc Try.prog Try.f8 false true false false) := by
  refine returnsInHanded_of_change_sized (C := Try.checked) own started (by kernel_rfl) Try.func8
    (ChangeSpec.witness6 (enc := enc) (C := Try.checked) false ⟨#[], #[.slice none 0 0, .slice none 0 0, .int .u64 0, .slice none 0 0], []⟩ 8 (by kernel_rfl) (by kernel_rfl) (by kernel_rfl) (by kernel_rfl)) ?_
  intro W base args ds gs before hval0 hW hcnd hsz0 _
  have hsz : (DataW.weightsEach Try.prog (Try.f8.params.toList ++ Rows.ringPicksSpec.plain.varTypes Try.prog) (ds ++ gs)).all (· ≤ reachBytes) = true := hsz0
  have hval : ∀ (j : Nat) t v, Try.f8.params[j]? = some t → args[j]? = some v → Value.okWide Try.prog W .any base t v := hval0
  have hW' := hW
  obtain ⟨p, q, hA0, hV, rfl, hfz, hnd⟩ := hW
  have hA : DataW.TrodAll enc Try.prog W 0 (fun _ => true) true Try.f8.params.toList args.toList ds p := hA0
  rw [Try.params8] at hA hval hsz
  obtain ⟨v0, vs0, d0, ds0, p0, q0, hargs, rfl, rfl, h0, r0⟩ := trodAll_cons hA
  obtain ⟨v1, vs1, d1, ds1, p1, q1, rfl, rfl, rfl, h1, r1⟩ := trodAll_cons r0
  obtain ⟨v2, vs2, d2, ds2, p2, q2, rfl, rfl, rfl, h2, r2⟩ := trodAll_cons r1
  obtain ⟨v3, vs3, d3, ds3, p3, q3, rfl, rfl, rfl, h3, r3⟩ := trodAll_cons r2
  obtain ⟨rfl, rfl, rfl⟩ := trodAll_nil r3
  obtain rfl : args = #[v0, v1, v2, v3] := by cases args; simp_all
  obtain ⟨rfl, rfl⟩ := trodVars_none hV
  obtain ⟨a0, len0, cap0, rfl⟩ := okWide_slice Try.underlying22 (hval 0 22 v0 rfl rfl)
  have k0 := h0
  have lt0 : ∀ x ∈ p0, x.block < W.heap.size := by obtain ⟨m, hm⟩ := k0; exact DataW.trod_lt m _ _ _ hm
  have sz0 := top_small hsz (j := 0) rfl rfl Try.underlying22 h0
  rw [show Try.prog.bytesOf 39 = 16 from by kernel_rfl] at sz0
  obtain ⟨l0, rfl, hc0, hr0, hm0, hw0⟩ := opens_top z39 Try.underlying22 openS39 (by kernel_rfl) h0
  obtain ⟨a1, len1, cap1, rfl⟩ := okWide_slice Try.underlying22 (hval 1 22 v1 rfl rfl)
  have k1 := h1
  have lt1 : ∀ x ∈ p1, x.block < W.heap.size := by obtain ⟨m, hm⟩ := k1; exact DataW.trod_lt m _ _ _ hm
  have sz1 := top_small hsz (j := 1) rfl rfl Try.underlying22 h1
  rw [show Try.prog.bytesOf 39 = 16 from by kernel_rfl] at sz1
  obtain ⟨l1, rfl, hc1, hr1, hm1, hw1⟩ := opens_top z39 Try.underlying22 openS39 (by kernel_rfl) h1
  obtain ⟨a2, rfl, rfl, rfl, w2⟩ := open_int Try.underlying28 (hval 2 28 v2 rfl rfl) h2
  obtain ⟨a3, len3, cap3, rfl⟩ := okWide_slice Try.underlying44 (hval 3 44 v3 rfl rfl)
  have k3 := h3
  have lt3 : ∀ x ∈ p3, x.block < W.heap.size := by obtain ⟨m, hm⟩ := k3; exact DataW.trod_lt m _ _ _ hm
  have sz3 := top_small hsz (j := 3) rfl rfl Try.underlying44 h3
  rw [show Try.prog.bytesOf 28 = 8 from by kernel_rfl] at sz3
  obtain ⟨l3, rfl, hc3, hr3, hm3, hw3⟩ := opens_top (0 : Int) Try.underlying44 (opens_int Try.underlying28) (by kernel_rfl) h3
  clear hA0 hval0 hsz0 hsz
  obtain ⟨k, hP⟩ := Pure.RingPicks l0 l1 a2 l3 hm0 sz0 hw0 hm1 sz1 hw1 w2 hm3 sz3 hw3
  refine (P.gangplanklaw10_RingPicks.calls k _ _ l0 _ _ l1 a2 _ _ l3 true W hr0 hc0 hr1 hc1 hr3 hc3 hP).mono fun e W' ⟨he, bel0⟩ => ?_
  have bel : Below W.heap.size W W' := bel0
  subst he
  exact ⟨_, rfl, _, _, _, [], _, [], hW', trodAll_mk1 (shut_bool Try.underlying4 _), (trodAll_cons_mk (Below.trod laidOut (by kernel_rfl) (of_decide_eq_true (by kernel_rfl)) k0 bel lt0) (trodAll_cons_mk (Below.trod laidOut (by kernel_rfl) (of_decide_eq_true (by kernel_rfl)) k1 bel lt1) (trodAll_cons_mk (shut_int Try.underlying28 w2) (trodAll_cons_mk (Below.trod laidOut (by kernel_rfl) (of_decide_eq_true (by kernel_rfl)) k3 bel lt3) trodAll_mk0)))), rfl, bel.frame _, fun h => by cases h⟩
theorem closed : joinedFacts Try.prog 8 Try.f8 Rows.ringPicksSpec Rows.ringPicksRow = true := by
  unfold joinedFacts
  rw [Closed.mayEnter, Closed.liftsFinal, Closed.make]
  kernel_rfl
theorem over : Rows.ringPicksRow.holds Try.pinned (OpenSpec.ofChange Rows.ringPicksSpec) :=
  OpenClaim.holds_of_wide 8 Try.f8 rfl rfl rfl rfl rfl rfl rfl ⟨rfl, rfl, rfl, rfl, rfl⟩ rfl rfl rfl rfl rfl (by kernel_rfl) Try.func8 closed
    (of_decide_eq_true (by kernel_rfl)) (by unfold Func.isWrapper; first | (rw [if_pos (by decide +kernel)]; kernel_rfl) | (rw [if_neg (by decide +kernel)]; exact ⟨rfl, rfl⟩))
    (fun os started H enc _ => lifted os started H enc)
theorem proved : Rows.RingPicksSaid := over
#print axioms proved
end Go.Proofs.Ytcekkbimdogboaa.ringPicks
namespace Go.Proofs.Ytcekkbimdogboaa
/-- The row, under a short name, for the claim. -/
theorem ringPicks_holds : Rows.RingPicksSaid := ringPicks.proved
end Go.Proofs.Ytcekkbimdogboaa
