/- Three facts of the loaded program's head: how it was made, and that it may be entered. -/
import Derived.Test.YtbbgeobnjdgpfaaGreatRows
import Derived.JoinedOf
set_option linter.unusedVariables false
namespace Go.Proofs.YtbbgeobnjdgpfaaGreat.Closed
theorem words_split : ∀ (w r : List Char), (w.all fun c => decide (c ≠ Char.ofNat 32)) = true → wordsSigns (w ++ Char.ofNat 32 :: r) = w :: wordsSigns r
  | [], _, _ => rfl
  | c :: w, r, h => by
    simp only [List.all_cons, Bool.and_eq_true, decide_eq_true_eq] at h
    have ih := words_split w r h.2
    have hc := h.1
    rw [List.cons_append, wordsSigns.eq_3 c _ (fun e => hc e), ih]
set_option maxRecDepth 100000
theorem ord : Tryz.prog.initOrder = String.ofList ((List.map Char.ofNat [104, 97, 114, 110, 101, 115, 115]) ++ Char.ofNat 32 :: ((List.map Char.ofNat [99, 51, 54, 54, 52, 52, 54, 102, 99, 52, 54, 53, 53, 56, 55, 101, 48, 50, 102, 50, 53, 100, 102, 98, 54, 100, 50, 49, 100, 102, 48, 56, 101, 52, 101, 56, 56, 56, 53, 53, 48, 98, 52, 52, 51, 49, 53, 100, 99, 101, 98, 101, 57, 56, 48, 97, 102, 54, 101, 53, 98, 97, 56, 56]) ++ Char.ofNat 32 :: ((List.map Char.ofNat [99, 117, 116]) ++ Char.ofNat 32 :: (List.map Char.ofNat [97, 116, 32, 103, 97, 110, 103, 112, 108, 97, 110, 107, 47, 103, 97, 110, 103, 112, 108, 97, 110, 107, 108, 97, 119, 49, 56, 46, 87, 111, 114, 108, 100, 65, 112, 97, 114, 116])))) := by kernel_rfl
theorem signs : wordsSigns Tryz.prog.initOrder.toList = (List.map Char.ofNat [104, 97, 114, 110, 101, 115, 115]) :: (List.map Char.ofNat [99, 51, 54, 54, 52, 52, 54, 102, 99, 52, 54, 53, 53, 56, 55, 101, 48, 50, 102, 50, 53, 100, 102, 98, 54, 100, 50, 49, 100, 102, 48, 56, 101, 52, 101, 56, 56, 56, 53, 53, 48, 98, 52, 52, 51, 49, 53, 100, 99, 101, 98, 101, 57, 56, 48, 97, 102, 54, 101, 53, 98, 97, 56, 56]) :: (List.map Char.ofNat [99, 117, 116]) :: wordsSigns (List.map Char.ofNat [97, 116, 32, 103, 97, 110, 103, 112, 108, 97, 110, 107, 47, 103, 97, 110, 103, 112, 108, 97, 110, 107, 108, 97, 119, 49, 56, 46, 87, 111, 114, 108, 100, 65, 112, 97, 114, 116]) := by
  rw [ord, String.toList_ofList, words_split _ _ (by kernel_rfl), words_split _ _ (by kernel_rfl), words_split _ _ (by kernel_rfl)]
theorem mayEnter_of (P : Program) (T : List (List Char)) (h : wordsSigns P.initOrder.toList = (List.map Char.ofNat [104, 97, 114, 110, 101, 115, 115]) :: (List.map Char.ofNat [99, 51, 54, 54, 52, 52, 54, 102, 99, 52, 54, 53, 53, 56, 55, 101, 48, 50, 102, 50, 53, 100, 102, 98, 54, 100, 50, 49, 100, 102, 48, 56, 101, 52, 101, 56, 56, 56, 53, 53, 48, 98, 52, 52, 51, 49, 53, 100, 99, 101, 98, 101, 57, 56, 48, 97, 102, 54, 101, 53, 98, 97, 56, 56]) :: (List.map Char.ofNat [99, 117, 116]) :: T) (hl : P.laysLater = false) (hr : P.bearsReflect = false) (hd : P.doorFits [] = true) : P.mayEnter = true := by
  unfold Program.mayEnter
  rw [h, hl, hr, show behindMainWord ((List.map Char.ofNat [104, 97, 114, 110, 101, 115, 115]) :: (List.map Char.ofNat [99, 51, 54, 54, 52, 52, 54, 102, 99, 52, 54, 53, 53, 56, 55, 101, 48, 50, 102, 50, 53, 100, 102, 98, 54, 100, 50, 49, 100, 102, 48, 56, 101, 52, 101, 56, 56, 56, 53, 53, 48, 98, 52, 52, 51, 49, 53, 100, 99, 101, 98, 101, 57, 56, 48, 97, 102, 54, 101, 53, 98, 97, 56, 56]) :: (List.map Char.ofNat [99, 117, 116]) :: T) = (List.map Char.ofNat [99, 117, 116]) :: T from by kernel_rfl]
  simp only
  rw [show stripLifts liftWords ((List.map Char.ofNat [99, 117, 116]) :: T) = ([], (List.map Char.ofNat [99, 117, 116]) :: T) from by kernel_rfl]
  simp only [hd]
  kernel_rfl
theorem liftsFinal_of (P : Program) (T : List (List Char)) (h : wordsSigns P.initOrder.toList = (List.map Char.ofNat [104, 97, 114, 110, 101, 115, 115]) :: (List.map Char.ofNat [99, 51, 54, 54, 52, 52, 54, 102, 99, 52, 54, 53, 53, 56, 55, 101, 48, 50, 102, 50, 53, 100, 102, 98, 54, 100, 50, 49, 100, 102, 48, 56, 101, 52, 101, 56, 56, 56, 53, 53, 48, 98, 52, 52, 51, 49, 53, 100, 99, 101, 98, 101, 57, 56, 48, 97, 102, 54, 101, 53, 98, 97, 56, 56]) :: (List.map Char.ofNat [99, 117, 116]) :: T) : P.liftsFinal = false := by
  unfold Program.liftsFinal Program.headLifts
  rw [h]
  kernel_rfl
theorem make_of (P : Program) (T : List (List Char)) (h : wordsSigns P.initOrder.toList = (List.map Char.ofNat [104, 97, 114, 110, 101, 115, 115]) :: (List.map Char.ofNat [99, 51, 54, 54, 52, 52, 54, 102, 99, 52, 54, 53, 53, 56, 55, 101, 48, 50, 102, 50, 53, 100, 102, 98, 54, 100, 50, 49, 100, 102, 48, 56, 101, 52, 101, 56, 56, 56, 53, 53, 48, 98, 52, 52, 51, 49, 53, 100, 99, 101, 98, 101, 57, 56, 48, 97, 102, 54, 101, 53, 98, 97, 56, 56]) :: (List.map Char.ofNat [99, 117, 116]) :: T) : P.make = some .cut := by
  unfold Program.make
  rw [h]
  kernel_rfl
theorem liftsFinal : Tryz.prog.liftsFinal = false := liftsFinal_of _ _ signs
theorem make : Tryz.prog.make = some .cut := make_of _ _ signs
theorem laysLater : Tryz.prog.laysLater = false := by kernel_rfl
theorem bearsReflect : Tryz.prog.bearsReflect = false := by kernel_rfl
theorem doorFits : Tryz.prog.doorFits [] = true := by kernel_rfl
theorem mayEnter : Tryz.prog.mayEnter = true := mayEnter_of _ _ signs laysLater bearsReflect doorFits
end Go.Proofs.YtbbgeobnjdgpfaaGreat.Closed
