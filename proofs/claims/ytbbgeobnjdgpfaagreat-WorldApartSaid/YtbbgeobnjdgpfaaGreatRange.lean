/- General words for loops that range over a function: what a round keeps, what has come, one step of it. -/
import Derived.RangeFuncNested
import Derived.RangeFuncBound
import Derived.RangeFuncCalls
import Derived.RangeFuncLeaves
import Derived.RangeFuncFrom
import Derived.RangeFuncBox
import Derived.Shelf.Abstract
import Derived.Shelf.RegionOpen
import Derived.WalkKit
import Derived.OwnWalkIn
import Derived.TacticsInMore
import Derived.LoopNIn
import Derived.LoopIn
import Derived.Laws.EntriesVeiled
import Derived.Deep.QuietTactic
import Derived.BigQuiet
import Derived.WalkMore
import Derived.WalkSpells
import Derived.Lib.Hide
set_option linter.unusedVariables false
set_option linter.unusedSimpArgs false
namespace Go.Proofs.YtbbgeobnjdgpfaaGreat.Hand
open Go.RowKit Go.Shelf

/-- What a round keeps: the cells of S. -/
def Keeps (S : Addr → Prop) (W W' : World) : Prop := ∀ a v, S a → W.cell? a = some v → W'.cell? a = some v
theorem Keeps.refl (S : Addr → Prop) (W : World) : Keeps S W W := fun _ _ _ h => h
theorem keeps_t {S : Addr → Prop} {A B C : World} (h : Keeps S A B) (k : Keeps S B C) : Keeps S A C := fun a v hs hc => k a v hs (h a v hs hc)
theorem keeps_b {S : Addr → Prop} {w : World} (W : World) (l : Nat) (o o' : Obj) (_ : w.heap.size ≤ l) (h : W.heap[l]? = some o) (hc : o.isCells = false) (_ : o.isWalk = false) : Keeps S W (W.putObj l o') :=
  fun _ _ _ hv => cell_kept hv (grownBy_putObj' W l o') (fun r e => by cases e; exact ⟨o, h, hc⟩)

/-- WHAT HAS COME WHEN k ROUNDS ARE OVER. -/
def upto {α : Type} (f : Nat → α) (k : Nat) : List α := (List.range k).map f
theorem upto_succ {α : Type} (f : Nat → α) (k : Nat) : upto f (k + 1) = upto f k ++ [f k] := by simp [upto, List.range_succ]
theorem upto_length {α : Type} (f : Nat → α) (k : Nat) : (upto f k).length = k := by simp [upto]


/-- What a round keeps: what lay below n₀, and the cells of S. -/
def KpB (n₀ : Nat) (S : Addr → Prop) (W W' : World) : Prop := Below n₀ W W' ∧ Keeps S W W'
theorem KpB.refl (n₀ : Nat) (S : Addr → Prop) (W : World) : KpB n₀ S W W := ⟨Below.refl _ _, Keeps.refl _ _⟩
theorem kp_t {n₀ : Nat} {S : Addr → Prop} {A B C : World} (h : KpB n₀ S A B) (k : KpB n₀ S B C) : KpB n₀ S A C := ⟨h.1.trans k.1, keeps_t h.2 k.2⟩
theorem kp_b {n₀ : Nat} {S : Addr → Prop} {w : World} (hn : n₀ ≤ w.heap.size) (W : World) (l : Nat) (o o' : Obj) (hl : w.heap.size ≤ l) (h : W.heap[l]? = some o) (hc : o.isCells = false) (hw : o.isWalk = false) : KpB n₀ S W (W.putObj l o') :=
  ⟨belowK_b (w := w) hn W l o o' hl h hc hw, keeps_b (w := w) W l o o' hl h hc hw⟩
theorem KpB.alloc {n₀ : Nat} {S : Addr → Prop} {W W' : World} (h : KpB n₀ S W W') (hn : n₀ ≤ W'.heap.size) (o : Obj) : KpB n₀ S W (W'.alloc o) :=
  ⟨h.1.alloc hn o, fun a v hs hv => cell_kept (h.2 a v hs hv) (World.grownBy_alloc W' o none) (fun r e => by cases e)⟩
theorem KpB.drewN {n₀ : Nat} {S : Addr → Prop} {W W' : World} (h : KpB n₀ S W W') (m : Nat) : KpB n₀ S W (W'.drewN m) :=
  ⟨⟨h.1.os, h.1.tape, h.1.output, h.1.size, h.1.block⟩, fun a v hs hv => h.2 a v hs hv⟩
theorem KpB.set {n₀ : Nat} {S : Addr → Prop} {W W' : World} (h : KpB n₀ S W W') (p : Addr) (hp : n₀ ≤ p.block) (hS : ∀ a, S a → p ≠ a) (v : Value) : KpB n₀ S W (W'.setCell p v) :=
  ⟨h.1.setCell (p := p) hp v, fun a u hs hv => by rw [World.cell?_setCell_other _ _ _ _ (hS a hs)]; exact h.2 a u hs hv⟩
theorem below_grown {w w' : World} (h : Below w.heap.size w w') : w.grownBy w' none := ⟨h.os, h.tape, h.output, h.size, fun k hk _ => h.block k hk⟩
theorem Boxed.below {W W' : World} {B : Nat} {t : TypeId} {v : Value} (h : Boxed W B t v) (hb : Below W.heap.size W W') : Boxed W' B t v := (hb.block B h.lt).trans h
theorem Boxed.drewN {W : World} {B : Nat} {t : TypeId} {v : Value} (h : Boxed W B t v) (m : Nat) : Boxed (W.drewN m) B t v := h
theorem Boxed.far {W : World} {B : Nat} {t : TypeId} {v : Value} (h : Boxed W B t v) (p : Addr) (hp : p.block ≠ B) (u : Value) : Boxed (W.setCell p u) B t v := (Below.heap_setCell W p u B (Ne.symm hp)).trans h
theorem boxed_ownFrom {β : Type} (n B : Nat) (t : TypeId) (v : β → Value) : OwnFrom n (fun (s : β) W => Boxed W B t (v s)) := fun s W W' row hs hg hr => hs.kept hg (fun e => by
  obtain ⟨_, o, ho, hc⟩ := hr _ e.symm
  rw [show W.heap[B]? = _ from hs] at ho
  cases ho
  simp [Obj.isCells] at hc)

theorem wpIn_scope_wide {n : Nat} {P : Program} {c : Code} {Q : Exit → Act → World → Prop} {a : Act} {w : World} (h : c.wpIn Fence.wide n P (Exit.noGoto Q) a w) : (Code.scope c).wpIn Fence.wide n P Q a w := wpIn_wide.2 (wp_scope_straight (wpIn_wide.1 h))
theorem bytes_eq {a b : ByteArray} (h : a.toList = b.toList) : a = b := by
  rw [ByteArray.toList_eq, ByteArray.toList_eq] at h
  exact ByteArray.ext (Array.toList_inj.1 h)
/-- A block's cells, all of them. -/
def Blk (W : World) (B : Nat) (t : TypeId) (cs : List Value) : Prop := W.heap[B]? = some (.cells cs.toArray t (0, 0))
theorem Blk.lt {W : World} {B : Nat} {t : TypeId} {cs : List Value} (h : Blk W B t cs) : B < W.heap.size := (Array.getElem?_eq_some_iff.1 h).1
theorem Blk.cell {W : World} {B : Nat} {t : TypeId} {cs : List Value} (h : Blk W B t cs) (i : Nat) : W.cell? ⟨B, i, none⟩ = cs[i]? := by simp [World.cell?, show W.heap[B]? = _ from h]
theorem Blk.frozen {W : World} {B : Nat} {t : TypeId} {cs : List Value} (h : Blk W B t cs) (i : Nat) : W.frozen? ⟨B, i, none⟩ = false := by simp [World.frozen?, show W.heap[B]? = _ from h]
theorem Blk.new (W : World) (t : TypeId) (cs : List Value) : Blk (W.alloc (.cells cs.toArray t)) W.heap.size t cs := World.alloc_heap_new W _
theorem Blk.kept {W W' : World} {row : Option Nat} {B : Nat} {t : TypeId} {cs : List Value} (h : Blk W B t cs) (hg : W.grownBy W' row) (hne : some B ≠ row) : Blk W' B t cs := (hg.block B h.lt hne).trans h
theorem Blk.alloc {W : World} {B : Nat} {t : TypeId} {cs : List Value} (h : Blk W B t cs) (o : Obj) : Blk (W.alloc o) B t cs := h.kept (World.grownBy_alloc W o none) (by simp)
theorem Blk.below {W W' : World} {B : Nat} {t : TypeId} {cs : List Value} (h : Blk W B t cs) (hb : Below W.heap.size W W') : Blk W' B t cs := (hb.block B h.lt).trans h
theorem Blk.drewN {W : World} {B : Nat} {t : TypeId} {cs : List Value} (h : Blk W B t cs) (m : Nat) : Blk (W.drewN m) B t cs := h
theorem Blk.far {W : World} {B : Nat} {t : TypeId} {cs : List Value} (h : Blk W B t cs) (p : Addr) (hp : p.block ≠ B) (u : Value) : Blk (W.setCell p u) B t cs := (Below.heap_setCell W p u B (Ne.symm hp)).trans h
theorem Blk.set1 {W : World} {B : Nat} {t : TypeId} {v : Value} (h : Blk W B t [v]) (v' : Value) : Blk (W.setCell ⟨B, 0, none⟩ v') B t [v'] := Boxed.set v' h
theorem blk_ownFrom {β : Type} (n B : Nat) (t : TypeId) (v : β → List Value) : OwnFrom n (fun (s : β) W => Blk W B t (v s)) := fun s W W' row hs hg hr => hs.kept hg (fun e => by
  obtain ⟨_, o, ho, hc⟩ := hr _ e.symm
  rw [show W.heap[B]? = _ from hs] at ho
  cases ho
  simp [Obj.isCells] at hc)
theorem OwnFrom.pure {β : Type} {n : Nat} (p : β → Prop) : OwnFrom n (fun (s : β) (_ : World) => p s) := fun _ _ _ _ hs _ _ => hs
theorem OwnFrom.ex {β γ : Type} {n : Nat} {I : γ → β → World → Prop} (h : ∀ x, OwnFrom n (I x)) : OwnFrom n (fun s W => ∃ x, I x s W) := fun s W W' row ⟨x, hs⟩ hg hr => ⟨x, h x s W W' row hs hg hr⟩
theorem OwnFrom.or {β : Type} {n : Nat} {I I' : β → World → Prop} (h : OwnFrom n I) (h' : OwnFrom n I') : OwnFrom n (fun s W => I s W ∨ I' s W) := fun s W W' row hs hg hr => hs.elim (fun a => .inl (h s W W' row a hg hr)) (fun a => .inr (h' s W W' row a hg hr))
theorem upto_split {α : Type} (f : Nat → α) {k n : Nat} (h : k ≤ n) : ∃ rest, upto f n = upto f k ++ rest := by
  refine ⟨(List.range' k (n - k)).map f, ?_⟩
  unfold upto
  rw [← List.map_append, List.range_eq_range', List.range_eq_range']
  congr 1
  have := List.range'_append (s := 0) (m := k) (n := n - k) (step := 1)
  simp only [Nat.one_mul, Nat.zero_add] at this
  rw [this, show k + (n - k) = n by omega]
theorem mem_upto {α : Type} {f : Nat → α} {k : Nat} {x : α} : x ∈ upto f k ↔ ∃ i, i < k ∧ f i = x := by simp [upto]

end Go.Proofs.YtbbgeobnjdgpfaaGreat.Hand
