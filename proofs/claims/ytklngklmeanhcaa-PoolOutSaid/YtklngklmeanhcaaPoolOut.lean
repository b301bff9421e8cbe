/- The statement PoolOut, over lists: what is put in and taken out has changed nothing but what it took the place of. -/
import Derived.Test.YtklngklmeanhcaaPx6
import Derived.Test.YtklngklmeanhcaaPoolBase
set_option linter.unusedVariables false
set_option linter.unusedSimpArgs false
namespace Go.Proofs.Ytklngklmeanhcaa.Pure
open Go.RowKit Go.Proofs.Ytklngklmeanhcaa.P Go.Proofs.YtklngklmeanhcaaW.PrintWords Go.Proofs.YtklngklmeanhcaaW.PrintLast Go.Proofs.Ytklngklmeanhcaa.Hand Go.Proofs.Ytklngklmeanhcaa.PoolLaw
theorem PoolOut : gangplanklaw08_PoolOut.Pure := by
  intro p a b c e _ hok _ _ _ _
  refine ⟨200, ?_⟩
  unfold gangplanklaw08_PoolOut.f gangplanklaw08_works.f
  rw [Option.bind_some, if_pos rfl]
  by_cases h : (p.length : Int) > 60
  · rw [if_pos h]
  · have hp : p.length ≤ 60 := by omega
    have hl := with_len p a b
    have hk := kept_len a p
    have hd : decide (((withL p a b).length : Int) ≤ wrap64 ((p.length : Int) + 1)) = true := decide_eq_true (by unfold wrap64; omega)
    rw [if_neg h, with_some p (by omega), Option.bind_some, without_some _ (by omega), Option.bind_some, without_some p (by omega), Option.bind_some, kept_with, psame_self _ (by omega) _ (by omega), Option.bind_some, if_pos rfl, hd]
    by_cases h1 : a = c
    · subst h1
      have hl2 := with_len p a e
      rw [if_pos rfl, with_some _ (by omega), Option.bind_some, with_some p (by omega), Option.bind_some, with_twice, psame_self _ (by omega) _ (by omega), Option.bind_some, if_pos rfl]
    · rw [if_neg h1]
end Go.Proofs.Ytklngklmeanhcaa.Pure
