/- A pool in order, as a plain list: what is found stays found, what may be still may. -/
import Derived.Test.YtklngklmeanhcaaPx4
import Derived.Test.YtklngklmeanhcaaPoolBase
import Derived.Test.YtklngklmeanhcaaPoolStb
set_option linter.unusedVariables false
set_option linter.unusedSimpArgs false
namespace Go.Proofs.Ytklngklmeanhcaa.PoolLaw
open Go.RowKit Go.Proofs.Ytklngklmeanhcaa.P Go.Proofs.YtklngklmeanhcaaW.PrintWords Go.Proofs.YtklngklmeanhcaaW.PrintLast Go.Proofs.Ytklngklmeanhcaa.Hand
theorem sorted_some (p : List Bk) (hp : p.length ≤ 1000000) : pool_Sorted.f p = some (sortedL p) := if_pos hp
theorem sorted_rise (p : List Bk) {i j : Nat} (hij : i ≤ j) (hj : j < (sortedL p).length) : (sortedL p)[i].f0 ≤ (sortedL p)[j].f0 := rise_idx (key := keyB) (sortedL_stb p).rise hij hj
theorem find_ofKey (p : List Bk) (id : Int) : (findL p id = -1 ∧ ofKey keyB id p = []) ∨ ∃ k, ∃ h : k < p.length, findL p id = (k : Int) ∧ ∃ t, ofKey keyB id p = p[k] :: t := by
  rcases findL_cases p id with ⟨h1, h2⟩ | ⟨k, hk, h1, h2, h3⟩
  · refine .inl ⟨h1, ?_⟩
    unfold ofKey
    rw [List.filter_eq_nil_iff]
    intro a ha
    exact fun e => h2 a ha (of_decide_eq_true e)
  · refine .inr ⟨k, hk, h1, ?_⟩
    have hd : p = p.take k ++ p[k] :: p.drop (k + 1) := by rw [← List.drop_eq_getElem_cons hk, List.take_append_drop]
    have h0 : ofKey keyB id (p.take k) = [] := by
      unfold ofKey
      rw [List.filter_eq_nil_iff]
      intro a ha
      obtain ⟨j, hj, rfl⟩ := List.mem_take_iff_getElem.1 ha
      exact fun e => h3 j (by omega) (of_decide_eq_true e)
    have hkey : keyB p[k] = id := h2
    refine ⟨ofKey keyB id (p.drop (k + 1)), ?_⟩
    have e := congrArg (ofKey keyB id) hd
    rw [ofKey_append, h0, List.nil_append, ← hkey, ofKey_cons_same, hkey] at e
    exact e
/-- What is found in a pool is found in it in order: the same backend. -/
theorem sorted_find (p : List Bk) (id : Int) : (findL p id = -1 ∧ findL (sortedL p) id = -1) ∨ ∃ i j, ∃ hi : i < p.length, ∃ hj : j < (sortedL p).length, findL p id = (i : Int) ∧ findL (sortedL p) id = (j : Int) ∧ p[i] = (sortedL p)[j] := by
  have hs := (sortedL_stb p).same id
  rcases find_ofKey p id with ⟨h1, h2⟩ | ⟨i, hi, h1, t, h2⟩ <;> rcases find_ofKey (sortedL p) id with ⟨h3, h4⟩ | ⟨j, hj, h3, u, h4⟩
  · exact .inl ⟨h1, h3⟩
  · rw [h2, h4] at hs; cases hs
  · rw [h2, h4] at hs; cases hs
  · rw [h2, h4] at hs
    injection hs with h5 _
    exact .inr ⟨i, j, hi, hj, h1, h3, h5.symm⟩
theorem may_perm {p q : List Bk} (h : p.Perm q) (hp : May p) : May q :=
  ⟨by rw [← h.length_eq]; exact hp.few, fun b hb => hp.ids b (h.mem_iff.2 hb), fun b hb => hp.weights b (h.mem_iff.2 hb), (h.map _).nodup_iff.1 hp.apart⟩
theorem sorted_check (p : List Bk) : checkL (sortedL p) = checkL p := by
  have h : checkL (sortedL p) = 0 ↔ checkL p = 0 := by
    rw [check_zero, check_zero]
    exact ⟨may_perm (sortedL_stb p).perm, may_perm (sortedL_stb p).perm.symm⟩
  rcases check_two (sortedL p) with h1 | h1 <;> rcases check_two p with h2 | h2
  · rw [h1, h2]
  · exact absurd (h.1 h1) (by omega)
  · exact absurd (h.2 h2) (by omega)
  · rw [h1, h2]
theorem sorted_twice (p : List Bk) : sortedL (sortedL p) = sortedL p := (sortedL_stb (sortedL p)).unique (Stb.refl (sortedL_stb p).rise)
theorem sorted_wf (p : List Bk) (hw : idsWf p = true) : idsWf (sortedL p) = true := (idsWf_iff _).2 fun x hx => (idsWf_iff p).1 hw x ((sortedL_stb p).mem.1 hx)
end Go.Proofs.Ytklngklmeanhcaa.PoolLaw
