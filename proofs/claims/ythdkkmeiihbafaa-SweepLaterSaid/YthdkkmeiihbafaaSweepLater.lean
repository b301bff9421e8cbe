/- The statement that swept now and later is as swept later, over numbers and lists. -/
import Derived.Test.YthdkkmeiihbafaaSweepBase
import Derived.Test.YthdkkmeiihbafaaPx8
set_option linter.unusedVariables false
set_option linter.unusedSimpArgs false
namespace Go.Proofs.Ythdkkmeiihbafaa.Pure
open Go.RowKit Go.Proofs.Ythdkkmeiihbafaa.P Go.Proofs.YthdkkmeiihbafaaW.PrintWords Go.Proofs.YthdkkmeiihbafaaW.PrintLast Go.Proofs.YthdkkmeiihbafaaW.PrintMore Go.Proofs.Ythdkkmeiihbafaa.Hand Go.Proofs.Ythdkkmeiihbafaa.ProbeLaw
theorem SweepLater : gangplanklaw13_SweepLater.Pure := by
  intro t now later key _ _ _ _ hkey
  refine ⟨302, ?_⟩
  unfold gangplanklaw13_SweepLater.f
  refine bind_of (works13 _ (by omega)) ?_
  rw [if_pos rfl]
  have out : gangplanklaw13_SweepLater.j0 302 t now later key true true = some true := by simp only [gangplanklaw13_SweepLater.j0]; rw [if_pos (by trivial)]
  rcases few_cases2 t 302 (by omega) with h | ⟨h, ht, hks⟩
  · exact bind_of h (by rw [if_neg (by decide)]; exact out)
  · refine bind_of h ?_
    rw [if_pos rfl]
    by_cases c : (key.size : Int) > 60
    · rw [if_pos c]; exact out
    · rw [if_neg c]
      obtain ⟨q, hq, hq2⟩ := right_some (l := t) (by omega) hks
      refine bind_of hq ?_
      cases q
      · rw [if_neg (by decide)]; exact out
      · rw [if_pos rfl]
        have hR := hq2.1 rfl
        by_cases cl : later < now
        · rw [decide_eq_true cl]; exact out
        · rw [decide_eq_false cl]
          clear out
          simp only [gangplanklaw13_SweepLater.j0]
          rw [if_neg (by decide)]
          obtain ⟨hRa, hka, _, _, hca⟩ := left_spec ht hks hR now 0 t.length
          obtain ⟨hRc, hkc, _, _, hcc⟩ := left_spec ht hks hR later 0 t.length
          have ala := all_left ht hks hR now
          have alc := all_left ht hks hR later
          have hla := left_len ht hks now 0 t.length
          have hlc := left_len ht hks later 0 t.length
          have sa := all_some ht hks now
          have sc := all_some ht hks later
          have ga := swp_cnt t now 0 t.length
          have gc := swp_cnt t later 0 t.length
          obtain ⟨a, ha⟩ : ∃ a, settle (swp now t 0 t.length).1 (swp now t 0 t.length).2 = a := ⟨_, rfl⟩
          obtain ⟨cc, hc⟩ : ∃ cc, settle (swp later t 0 t.length).1 (swp later t 0 t.length).2 = cc := ⟨_, rfl⟩
          rw [ha] at sa hRa hka hca ala hla
          rw [hc] at sc hRc hkc hcc alc hlc
          obtain ⟨hRb, hkb, _, _, hcb⟩ := left_spec (by omega) hka hRa later 0 a.length
          have alb := all_left (by omega) hka hRa later
          have hlb := left_len (by omega) hka later 0 a.length
          have sb := all_some (by omega) hka later
          have gb := swp_cnt a later 0 a.length
          obtain ⟨b, hb⟩ : ∃ b, settle (swp later a 0 a.length).1 (swp later a 0 a.length).2 = b := ⟨_, rfl⟩
          rw [hb] at sb hRb hkb hcb alb hlb
          have hbc : ∀ e, Has b e ↔ Has cc e := fun e => by
            rw [alb, ala, alc]
            refine ⟨fun h => ⟨h.1.1, h.2⟩, fun h => ⟨⟨h.1, ?_⟩, h.2⟩⟩
            cases ho : overB now e
            · rfl
            · have := over_live ho
              have := over_of (now := later) this.1 (by omega)
              rw [h.2] at this; exact absurd this (by decide)
          have hcnt := count_same hRc hRb hbc
          have hsf := same_flows hRc hRb (key := key) (fun e _ => hbc e)
          have rb := fnd_range b key
          have rc := fnd_range cc key
          refine bind_of sa (bind_of sb (bind_of sc ?_))
          dsimp only
          refine bind_of (fnd_some hkey (by omega)) (bind_of (fnd_some hkey (by omega)) ?_)
          have hw : wrap64 ((swp now t 0 t.length).2 + (swp later a 0 a.length).2) = (swp later t 0 t.length).2 := by unfold wrap64; omega
          rw [if_neg (by omega), if_neg (by omega), hw]
          by_cases c0 : fnd b key < 0
          · have c1 : fnd cc key < 0 := by
              refine Classical.byContradiction fun hn => ?_
              have := hsf.1.2 (by omega)
              omega
            rw [decide_eq_true c0, decide_eq_true c1, if_neg (by decide), if_pos (by trivial), if_pos (by trivial), if_pos c0]
          · have c1 : ¬ fnd cc key < 0 := fun hn => by
              have := hsf.1.1 (by omega)
              omega
            rw [decide_eq_false c0, decide_eq_false c1, if_neg (by decide), if_pos (by trivial), if_pos (by trivial), if_neg c0, if_pos (by omega), if_pos (by omega), if_pos (by omega), if_pos (by omega)]
            rw [show rd_T31 b (fnd b key) = rd_T31 cc (fnd cc key) from hsf.2 (by omega)]
            simp
end Go.Proofs.Ythdkkmeiihbafaa.Pure
