/- A slice that is handed in takes no more bytes than the row lets in. -/
import Derived.Test.YtcekkbimdogboaaOpen
import Derived.SizedLaws
set_option linter.unusedVariables false
set_option linter.unusedSimpArgs false
namespace Go.Proofs.Ytcekkbimdogboaa.Open
open Go.RowKit Go.ChangeShapes Go.WideShapes Go.Deep
theorem top_small {H : Type} {P : Program} {t e : TypeId} {ts : List TypeId} {ds : List (DataW H)} {enc : TypeId × Value → H} {w : World} {base : Nat} {spare : Nat → Bool} {held : Bool} {A : Option Addr} {len cap : Nat} {dd : DataW H} {ps : List MemPlace}
    (hs : (DataW.weightsEach P ts ds).all (· ≤ reachBytes) = true) {j : Nat} (htj : ts[j]? = some t) (hdj : ds[j]? = some dd) (ht : P.underlying t = some (.slice e)) (h : DataW.Trod enc P w base spare held t (.slice A len cap) dd ps) : len * P.bytesOf e ≤ 140737488351232 := by
  obtain ⟨fuel, hf⟩ := h
  rcases open_slice ht hf with ⟨e1, _⟩ | ⟨a, len', cap', m, n', D, Pl, e1, hb, hl, hm, hmm, hx, hi⟩
  · simp [Value.cells] at e1
    obtain ⟨_, rfl, _⟩ := e1
    simp
  · simp [Value.cells] at e1
    obtain ⟨_, rfl, rfl⟩ := e1
    have hd : dd = .slice ((List.range len).map D) ((List.range (m - len)).map fun j => D (len + j)) := congrArg Prod.fst hx
    rw [hd] at hdj
    have hz := sized_slice hs htj hdj ht
    rw [List.length_map, List.length_range] at hz
    exact Nat.le_trans (Nat.mul_le_mul_right _ (Nat.le_add_right len _)) hz
end Go.Proofs.Ytcekkbimdogboaa.Open
