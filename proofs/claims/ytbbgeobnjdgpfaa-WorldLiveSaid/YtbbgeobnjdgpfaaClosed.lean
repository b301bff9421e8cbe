/- Three facts of the loaded program's head: how it was made, and that it may be entered. -/
import Derived.Test.YtbbgeobnjdgpfaaRows
import Derived.JoinedOf
set_option linter.unusedVariables false
namespace Go.Proofs.Ytbbgeobnjdgpfaa.Closed
theorem words_split : ∀ (w r : List Char), (w.all fun c => decide (c ≠ Char.ofNat 32)) = true → wordsSigns (w ++ Char.ofNat 32 :: r) = w :: wordsSigns r
  | [], _, _ => rfl
  | c :: w, r, h => by
    simp only [List.all_cons, Bool.and_eq_true, decide_eq_true_eq] at h
    have ih := words_split w r h.2
    have hc := h.1
    rw [List.cons_append, wordsSigns.eq_3 c _ (fun e => hc e), ih]
set_option maxRecDepth 100000
theorem ord : Try.prog.initOrder = String.ofList ((List.map Char.ofNat [104, 97, 114, 110, 101, 115, 115]) ++ Char.ofNat 32 :: ((List.map Char.ofNat [52, 55, 53, 97, 51, 98, 100, 55, 97, 101, 49, 98, 52, 55, 52, 100, 102, 100, 99, 53, 49, 56, 98, 54, 53, 54, 52, 54, 56, 52, 55, 100, 102, 97, 49, 52, 55, 49, 51, 100, 57, 55, 100, 50, 50, 49, 99, 97, 52, 97, 100, 97, 52, 49, 102, 100, 98, 49, 55, 57, 101, 101, 100, 57]) ++ Char.ofNat 32 :: ((List.map Char.ofNat [99, 117, 116]) ++ Char.ofNat 32 :: (List.map Char.ofNat [97, 116, 32, 103, 97, 110, 103, 112, 108, 97, 110, 107, 47, 103, 97, 110, 103, 112, 108, 97, 110, 107, 108, 97, 119, 49, 56, 46, 87, 111, 114, 108, 100, 84, 105, 99, 107, 115, 32, 103, 97, 110, 103, 112, 108, 97, 110, 107, 47, 103, 97, 110, 103, 112, 108, 97, 110, 107, 108, 97, 119, 49, 56, 46, 87, 111, 114, 108, 100, 80, 105, 110, 115, 32, 103, 97, 110, 103, 112, 108, 97, 110, 107, 47, 103, 97, 110, 103, 112, 108, 97, 110, 107, 108, 97, 119, 49, 56, 46, 87, 111, 114, 108, 100, 78, 101, 119, 32, 103, 97, 110, 103, 112, 108, 97, 110, 107, 47, 103, 97, 110, 103, 112, 108, 97, 110, 107, 108, 97, 119, 49, 56, 46, 87, 111, 114, 108, 100, 76, 105, 118, 101])))) := by kernel_rfl
theorem signs : wordsSigns Try.prog.initOrder.toList = (List.map Char.ofNat [104, 97, 114, 110, 101, 115, 115]) :: (List.map Char.ofNat [52, 55, 53, 97, 51, 98, 100, 55, 97, 101, 49, 98, 52, 55, 52, 100, 102, 100, 99, 53, 49, 56, 98, 54, 53, 54, 52, 54, 56, 52, 55, 100, 102, 97, 49, 52, 55, 49, 51, 100, 57, 55, 100, 50, 50, 49, 99, 97, 52, 97, 100, 97, 52, 49, 102, 100, 98, 49, 55, 57, 101, 101, 100, 57]) :: (List.map Char.ofNat [99, 117, 116]) :: wordsSigns (List.map Char.ofNat [97, 116, 32, 103, 97, 110, 103, 112, 108, 97, 110, 107, 47, 103, 97, 110, 103, 112, 108, 97, 110, 107, 108, 97, 119, 49, 56, 46, 87, 111, 114, 108, 100, 84, 105, 99, 107, 115, 32, 103, 97, 110, 103, 112, 108, 97, 110, 107, 47, 103, 97, 110, 103, 112, 108, 97, 110, 107, 108, 97, 119, 49, 56, 46, 87, 111, 114, 108, 100, 80, 105, 110, 115, 32, 103, 97, 110, 103, 112, 108, 97, 110, 107, 47, 103, 97, 110, 103, 112, 108, 97, 110, 107, 108, 97, 119, 49, 56, 46, 87, 111, 114, 108, 100, 78, 101, 119, 32, 103, 97, 110, 103, 112, 108, 97, 110, 107, 47, 103, 97, 110, 103, 112, 108, 97, 110, 107, 108, 97, 119, 49, 56, 46, 87, 111, 114, 108, 100, 76, 105, 118, 101]) := by
  rw [ord, String.toList_ofList, words_split _ _ (by kernel_rfl), words_split _ _ (by kernel_rfl), words_split _ _ (by kernel_rfl)]
theorem mayEnter_of (P : Program) (T : List (List Char)) (h : wordsSigns P.initOrder.toList = (List.map Char.ofNat [104, 97, 114, 110, 101, 115, 115]) :: (List.map Char.ofNat [52, 55, 53, 97, 51, 98, 100, 55, 97, 101, 49, 98, 52, 55, 52, 100, 102, 100, 99, 53, 49, 56, 98, 54, 53, 54, 52, 54, 56, 52, 55, 100, 102, 97, 49, 52, 55, 49, 51, 100, 57, 55, 100, 50, 50, 49, 99, 97, 52, 97, 100, 97, 52, 49, 102, 100, 98, 49, 55, 57, 101, 101, 100, 57]) :: (List.map Char.ofNat [99, 117, 116]) :: T) (hl : P.laysLater = false) (hr : P.bearsReflect = false) (hd : P.doorFits [] = true) : P.mayEnter = true := by
  unfold Program.mayEnter
  rw [h, hl, hr, show behindMainWord ((List.map Char.ofNat [104, 97, 114, 110, 101, 115, 115]) :: (List.map Char.ofNat [52, 55, 53, 97, 51, 98, 100, 55, 97, 101, 49, 98, 52, 55, 52, 100, 102, 100, 99, 53, 49, 56, 98, 54, 53, 54, 52, 54, 56, 52, 55, 100, 102, 97, 49, 52, 55, 49, 51, 100, 57, 55, 100, 50, 50, 49, 99, 97, 52, 97, 100, 97, 52, 49, 102, 100, 98, 49, 55, 57, 101, 101, 100, 57]) :: (List.map Char.ofNat [99, 117, 116]) :: T) = (List.map Char.ofNat [99, 117, 116]) :: T from by kernel_rfl]
  simp only
  rw [show stripLifts liftWords ((List.map Char.ofNat [99, 117, 116]) :: T) = ([], (List.map Char.ofNat [99, 117, 116]) :: T) from by kernel_rfl]
  simp only [hd]
  kernel_rfl
theorem liftsFinal_of (P : Program) (T : List (List Char)) (h : wordsSigns P.initOrder.toList = (List.map Char.ofNat [104, 97, 114, 110, 101, 115, 115]) :: (List.map Char.ofNat [52, 55, 53, 97, 51, 98, 100, 55, 97, 101, 49, 98, 52, 55, 52, 100, 102, 100, 99, 53, 49, 56, 98, 54, 53, 54, 52, 54, 56, 52, 55, 100, 102, 97, 49, 52, 55, 49, 51, 100, 57, 55, 100, 50, 50, 49, 99, 97, 52, 97, 100, 97, 52, 49, 102, 100, 98, 49, 55, 57, 101, 101, 100, 57]) :: (List.map Char.ofNat [99, 117, 116]) :: T) : P.liftsFinal = false := by
  unfold Program.liftsFinal Program.headLifts
  rw [h]
  kernel_rfl
theorem make_of (P : Program) (T : List (List Char)) (h : wordsSigns P.initOrder.toList = (List.map Char.ofNat [104, 97, 114, 110, 101, 115, 115]) :: (List.map Char.ofNat [52, 55, 53, 97, 51, 98, 100, 55, 97, 101, 49, 98, 52, 55, 52, 100, 102, 100, 99, 53, 49, 56, 98, 54, 53, 54, 52, 54, 56, 52, 55, 100, 102, 97, 49, 52, 55, 49, 51, 100, 57, 55, 100, 50, 50, 49, 99, 97, 52, 97, 100, 97, 52, 49, 102, 100, 98, 49, 55, 57, 101, 101, 100, 57]) :: (List.map Char.ofNat [99, 117, 116]) :: T) : P.make = some .cut := by
  unfold Program.make
  rw [h]
  kernel_rfl
theorem liftsFinal : Try.prog.liftsFinal = false := liftsFinal_of _ _ signs
theorem make : Try.prog.make = some .cut := make_of _ _ signs
theorem laysLater : Try.prog.laysLater = false := by kernel_rfl
theorem bearsReflect : Try.prog.bearsReflect = false := by kernel_rfl
theorem doorFits : Try.prog.doorFits [] = true := by kernel_rfl
theorem mayEnter : Try.prog.mayEnter = true := mayEnter_of _ _ signs laysLater bearsReflect doorFits
end Go.Proofs.Ytbbgeobnjdgpfaa.Closed
