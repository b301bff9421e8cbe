/- The statement that what is put and deleted has changed nothing, over numbers and lists. -/
import Derived.Test.YthdkkmeiihbafaaFlowsSet
import Derived.Test.YthdkkmeiihbafaaPx9
set_option linter.unusedVariables false
set_option linter.unusedSimpArgs false
namespace Go.Proofs.Ythdkkmeiihbafaa.Pure
open Go.RowKit Go.Proofs.Ythdkkmeiihbafaa.P Go.Proofs.YthdkkmeiihbafaaW.PrintWords Go.Proofs.YthdkkmeiihbafaaW.PrintLast Go.Proofs.Ythdkkmeiihbafaa.Hand Go.Proofs.Ythdkkmeiihbafaa.ProbeLaw
theorem FlowsBack : gangplanklaw12_FlowsBack.Pure := by
  intro t key b d other _ _ hkey _ _ hother
  refine ⟨202, ?_⟩
  unfold gangplanklaw12_FlowsBack.f
  refine bind_of (works12 _ (by omega)) ?_
  rw [if_pos rfl]
  have out : gangplanklaw12_FlowsBack.j0 202 t key b d other true true = some true := by simp only [gangplanklaw12_FlowsBack.j0]; rw [if_pos (by trivial)]
  rcases few_cases2 t 202 (by omega) with h | ⟨h, ht, hks⟩
  · exact bind_of h (by rw [if_neg (by decide)]; exact out)
  · refine bind_of h ?_
    rw [if_pos rfl]
    by_cases c : (key.size : Int) > 60
    · rw [if_pos c]; exact out
    · rw [if_neg c]
      by_cases c' : (other.size : Int) > 60
      · rw [if_pos c']; exact out
      · rw [if_neg c']
        obtain ⟨q, hq, hq2⟩ := right_some (l := t) (by omega) hks
        refine bind_of hq ?_
        cases q
        · rw [if_neg (by decide)]; exact out
        · have hR := hq2.1 rfl
          rw [if_pos (show true = true from rfl)]
          refine bind_of (fnd_some hkey (by omega)) ?_
          by_cases cf : fnd t key ≥ 0
          · rw [decide_eq_true cf]; exact out
          · rw [decide_eq_false cf]
            clear out
            simp only [gangplanklaw12_FlowsBack.j0]
            rw [if_neg (by decide)]
            obtain ⟨kt, hkt, hktl⟩ := keys_some2 (l := t) (by omega)
            rcases putR_cases t ⟨1, key, b, d⟩ rfl hkey (by omega) with ⟨j, h0, h1, e, hf, hc⟩ | ⟨e, hneg, hall⟩
            · have hRu := right_put (x := (⟨1, key, b, d⟩ : Ent)) hR rfl hkey (by omega)
              rw [e] at hRu
              dsimp only at hf hc hRu
              have hd : (rdE t j).f0 ≠ 1 := hc.elim (fun h => by omega) (fun h => h.2)
              have hhas := fun e => has_set_dead (e := e) (x := (⟨1, key, b, d⟩ : Ent)) h0 h1 hd rfl
              have cp := count_put t j ⟨1, key, b, d⟩ h0 h1
              rw [if_neg hd, if_pos (show (1 : Int) = 1 from rfl)] at cp
              have hku := keys_put (x := (⟨1, key, b, d⟩ : Ent)) h0 h1 hks (show key.size ≤ 60 by omega)
              obtain ⟨u, hu⟩ : ∃ u, t.set j.toNat (⟨1, key, b, d⟩ : Ent) = u := ⟨_, rfl⟩
              have hlen : u.length = t.length := by rw [← hu]; exact List.length_set
              rw [hu] at e hf hRu hhas cp hku
              have ef : flows_Put.f t key b d = some (u, 0) := by rw [fput_some b d hkey (by omega), e]; rfl
              refine bind_of ef ?_
              rw [if_pos (show (0 : Int) = 0 from rfl)]
              dsimp only
              rcases delete_spec (t := u) (by omega) hku hRu hkey with ⟨e2, hneg⟩ | ⟨v, e2, _, hvl, hRv, hkv, hvh, hvc, _⟩
              · omega
              · refine bind_of e2 (bind_of (fnd_some hother (by omega)) (bind_of (fnd_some hother (by dsimp only; omega)) ?_))
                rw [if_pos (show true = true from rfl)]
                dsimp only
                obtain ⟨kv, hkv1, hkvl⟩ := keys_some2 (l := v) (by omega)
                have rt := fnd_range t other
                have rv := fnd_range v other
                have hsf := same_flows hR hRv (key := other) (fun e he => by
                  rw [hvh, hhas]
                  constructor
                  · rintro ⟨h | h, hne⟩
                    · exact h
                    · subst h; exact absurd rfl hne
                  · intro h
                    exact ⟨.inl h, fun hh => by have := (right_has hR h hh).1; omega⟩)
                have ce : kv.length = kt.length := by omega
                rw [if_neg (by omega), if_neg (by omega)]
                by_cases c0 : fnd t other < 0
                · have c1 : fnd v other < 0 := by
                    refine Classical.byContradiction fun hn => ?_
                    have := hsf.1.1 (by omega); omega
                  rw [decide_eq_true c0, decide_eq_true c1]
                  simp only [gangplanklaw12_FlowsBack.j1]
                  rw [if_neg (by decide), if_pos (by trivial), if_pos c0]
                  refine bind_of hkv1 (bind_of hkt ?_)
                  rw [ce]; simp
                · have c1 := hsf.1.2 (by omega)
                  rw [decide_eq_false c0, decide_eq_false (show ¬ fnd v other < 0 by omega)]
                  simp only [gangplanklaw12_FlowsBack.j1]
                  rw [if_neg (by decide), if_pos (by trivial), if_neg c0, if_pos (by omega), if_pos (by omega), if_pos (by omega), if_pos (by omega)]
                  rw [show rd_T31 v (fnd v other) = rd_T31 t (fnd t other) from hsf.2 (by omega)]
                  rw [if_pos (by simp)]
                  refine bind_of hkv1 (bind_of hkt ?_)
                  rw [ce]; simp
            · have ef : flows_Put.f t key b d = some (t, 12) := by rw [fput_some b d hkey (by omega), e]; rfl
              refine bind_of ef ?_
              rw [if_neg (show ¬ (12 : Int) = 0 by decide), if_pos (by trivial)]
              refine bind_of hkt ?_
              rw [hktl, hall]; simp
end Go.Proofs.Ythdkkmeiihbafaa.Pure
