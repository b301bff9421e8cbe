/- The hash of bytes (package fnv): Join is a fold over the bytes: contract. -/
import Derived.Test.YtbbgeobnjdgpfaaGreatFnv
import Derived.Laws.EntriesVeiled
set_option linter.unusedVariables false
set_option linter.unusedSimpArgs false
namespace Go.Proofs.YtbbgeobnjdgpfaaGreat.Hand
open Go.RowKit Go.Shelf
attribute [local go_sem] Oper.semAt_some

set_option maxRecDepth 100000 in
set_option maxHeartbeats 2000000 in
theorem Join_any (h : Int) (s : ByteArray) (hs : s.size ≤ 140737488351232) (w : World) :
    Calls Tryz.prog 71 #[.int .u64 h, .string s] w fun e W' => e = .returned (.int .u64 (hjoin h s.data.toList)) ∧ Below w.heap.size w W' := by
  refine (callsIn_wide (n := 6)).1 ?_
  have hro : Fence.wide.round = none := rfl
  refine callsIn_of_wp_marks Tryz.func71 rfl trivial ?_ hro
  simp only [Tryz.ntmps71, List.size_toArray, List.length_cons, List.length_nil, Nat.reduceAdd, Nat.reduceSub, Array.replicate_succ, Array.replicate_zero, List.push_toArray, List.append_toArray, List.nil_append, List.cons_append]
  gi_wp2_with (refine ⟨trivial, ?_⟩; gi_at_call 90; refine (callsIn_wide.2 (each_any _ _)).mono ?_; rintro e w' ⟨rfl, rfl⟩)
  have bF := Boxed.new w 169 (.func (.func 89) #[] #[])
  have bX := Boxed.new (w.alloc (.cells #[.func (.func 89) #[] #[]] 169)) 171 (.int .u64 h)
  have bN := Boxed.new ((w.alloc (.cells #[.func (.func 89) #[] #[]] 169)).alloc (.cells #[.int .u64 h] 171)) 9 (.string s)
  simp only [World.size_alloc] at bX bN
  have hB0 : Below w.heap.size w (((w.alloc (.cells #[.func (.func 89) #[] #[]] 169)).alloc (.cells #[.int .u64 h] 171)).alloc (.cells #[.string s] 9)) := (((Below.refl _ w).alloc (Nat.le_refl _) _).alloc (by simp) _).alloc (by simp; omega) _
  refine wpIn_rangeFunc_ownG (w := ((w.alloc (.cells #[.func (.func 89) #[] #[]] 169)).alloc (.cells #[.int .u64 h] 171)).alloc (.cells #[.string s] 9)) hro (by omega) (gf := 97) (lb := #[.pointer (some ⟨w.heap.size + 1 + 1, 0, none⟩)]) rfl trivial (enters_of Tryz.func97 (by kernel_rfl) rfl)
    (each_stops Fence.wide (6 - 1) trivial hro (by omega) (w.heap.size + 1 + 1) s hs _ (by simp) bN.cell) keeps_t keeps_b (Below.refl _ _) (fun _ => rfl)
    (fun pre W => (W.cell? ⟨w.heap.size + 1, 0, none⟩ = some (.int .u64 (hjoin h pre)) ∧ W.frozen? ⟨w.heap.size + 1, 0, none⟩ = false ∧ W.cell? ⟨w.heap.size, 0, none⟩ = some (.func (.func 89) #[] #[])) ∧ Below w.heap.size w W ∧ W.cell? ⟨w.heap.size + 1 + 1, 0, none⟩ = some (.string s))
    (fun _ _ _ => False)
    (OwnFrom.and (Own.from (fun s A B row hs hg hr => ⟨cell_kept hs.1 hg hr, (frozen_kept hs.1 hg hr).trans hs.2.1, cell_kept hs.2.2 hg hr⟩) _) (OwnFrom.and (ownFrom_below (Nat.le_refl _) (by simp; omega)) (Own.from (fun s A B row hs hg hr => cell_kept hs hg hr) _)))
    (fun _ _ _ _ _ hs _ _ => hs)
    ⟨⟨(bX.alloc _).cell, (bX.alloc _).frozen, ((bF.alloc _).alloc _).cell⟩, hB0, bN.cell⟩
    (fun x => { tmps := #[.int .u64 h, .string s, undef, undef, .int .u64 0, .pointer (some ⟨w.heap.size, 0, none⟩), .pointer (some ⟨w.heap.size + 1, 0, none⟩), .int .u8 (x.toNat : Int), .int .u64 h, .string s, .func (.func 97) #[] #[.pointer (some ⟨w.heap.size + 1 + 1, 0, none⟩)], .int .u8 (x.toNat : Int), undef, undef, undef, undef, undef], defers := [] }) ?assign ?body ?done ?stop
  case assign =>
    intro l x W K hK
    gi_wp2
    exact hK
  case body =>
    rintro l pre x W ⟨⟨hc, hf, hc0⟩, hB, hcs⟩ _
    gi_wp2_with (refine ⟨trivial, ?_⟩; gi_at_call 89; refine (CallsIn.inRound l (callsIn_wide.2 (on_any _ _ _))).mono ?_; rintro e w' ⟨rfl, rfl⟩)
    exact ⟨(KeepsOthers.setCell _ _ _).from _, fun a v ha hv => by subst ha; rw [World.cell?_setCell_other _ _ _ _ (by simp)]; exact hv, ⟨by rw [hjoin_snoc]; exact World.cell?_setCell_same' _ _ _ (by rw [hc]; rfl), by rw [World.frozen?_setCell]; exact hf, by rw [World.cell?_setCell_other _ _ _ _ (by simp)]; exact hc0⟩, hB.setCell (p := ⟨w.heap.size + 1, 0, none⟩) (by simp) _, by rw [World.cell?_setCell_other _ _ _ _ (by simp)]; exact hcs⟩
  case done =>
    rintro D ys W hD rfl ⟨⟨hc, _, _⟩, hB, _⟩ hK
    gi_wp2
    refine ⟨by simp, .inl ⟨_, _, rfl, run_takeDeferred hK, ?_⟩⟩
    exact ⟨_, results_tmp rfl _ _ _, rfl, hB.trans (belowK_b (w := w) (Nat.le_refl _) W D _ _ (by simp at hD; omega) hK rfl rfl)⟩
  case stop =>
    rintro D c pre W _ _ h _
    exact h.elim
end Go.Proofs.YtbbgeobnjdgpfaaGreat.Hand
