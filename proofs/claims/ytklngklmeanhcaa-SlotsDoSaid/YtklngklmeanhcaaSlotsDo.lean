/- The statement SlotsDo: the walk itself shows it, where of each pool the reference tells what ours does. -/
import Derived.Test.YtklngklmeanhcaaPx10
import Derived.Test.YtklngklmeanhcaaSlotsRef
namespace Go.Proofs.Ytklngklmeanhcaa.Pure
open Go.RowKit Go.Proofs.Ytklngklmeanhcaa.P Go.Proofs.YtklngklmeanhcaaW.PrintWords Go.Proofs.YtklngklmeanhcaaW.PrintLast Go.Proofs.Ytklngklmeanhcaa.Hand
open Go.Proofs.Ytklngklmeanhcaa.PoolLaw Go.Proofs.Ytklngklmeanhcaa.RingLaw
theorem SlotsDo : gangplanklaw16_SlotsDo.Pure := by
  intro a0 l1 a2 a3 a4 _ _ hok _ _ _
  refine if_pos fun k hk => ?_
  have hx : rd_T33 l1 (k : Int) ∈ l1 := by
    unfold rd_T33
    rw [Int.toNat_natCast, List.getD_eq_getElem?_getD, List.getElem?_eq_getElem hk]
    exact List.getElem_mem hk
  refine ⟨List.all_eq_true.2 fun x hx2 => ((hok _ hx).2.2.2 x hx2).1, fun h8 => ?_⟩
  obtain ⟨p, hp⟩ : ∃ p, (rd_T33 l1 (k : Int)).f2 = p := ⟨_, rfl⟩
  rw [hp] at h8 ⊢
  obtain ⟨K, hK⟩ := PointsLaw.ref_of p (by omega)
  have h1 : ∀ k, K ≤ k → gangplankref09_Of.f k p = some (ofL p) := hK
  have l1 : (ofL p).length ≤ 1024 := by have := ptsT_len p; unfold ofL; rw [List.length_map, srtL_len]; omega
  refine ⟨⟨p.length + 501, rcheck p (by omega) _ (Nat.le_refl _)⟩, ⟨p.length + 1, rfind p a3 (by omega) _ (by omega)⟩, K + 3000, ?_⟩
  unfold gangplankref10_Pick.f
  rw [h1 _ (by omega), Option.bind_some, refSucc _ (by omega) _ _ (by omega), Option.bind_some, pick_goes]
end Go.Proofs.Ytklngklmeanhcaa.Pure
