/- Each Go function that the laws reach, as a plain function, with the proof that the machine's call comes to what it says; of a law: its row. Made by a program of this seat (wip/hp.py, over the print). -/
import Derived.Test.YtbbgeobnjdgpfaaGreatOpen
import Derived.Test.YtbbgeobnjdgpfaaGreatPx0
import Derived.Test.YtbbgeobnjdgpfaaGreatPx1
import Derived.KernelRfl
set_option linter.unusedVariables false
set_option linter.unusedSimpArgs false
namespace Go.Proofs.YtbbgeobnjdgpfaaGreat.Open
open Go.RowKit Go.ChangeShapes Go.WideShapes Go.Deep Go.Proofs.YtbbgeobnjdgpfaaGreatW.PrintWords Go.Proofs.YtbbgeobnjdgpfaaGreat.P
set_option maxRecDepth 100000 in
theorem openS23 : Opens Tryz.prog 23 k23 okS23 := fun H enc w base spare held n cs x h => by
  obtain ⟨xs, m, _, _, hcl, hxl, hg⟩ := DataW.trod_struct Tryz.underlying23 h
  have hc : cs.length = 5 := hcl.trans (by kernel_rfl)
  obtain ⟨v0, y0, e0, t0⟩ := field_at (P := Tryz.prog) (by kernel_rfl) hxl hc hg 0 _ rfl
  obtain ⟨a0, c0, o0⟩ := (opens_int Tryz.underlying3) H enc w base spare held m _ _ t0
  obtain ⟨v1, y1, e1, t1⟩ := field_at (P := Tryz.prog) (by kernel_rfl) hxl hc hg 1 _ rfl
  obtain ⟨a1, c1, o1⟩ := (opens_int Tryz.underlying3) H enc w base spare held m _ _ t1
  obtain ⟨v2, y2, e2, t2⟩ := field_at (P := Tryz.prog) (by kernel_rfl) hxl hc hg 2 _ rfl
  obtain ⟨a2, c2, o2⟩ := (opens_int Tryz.underlying3) H enc w base spare held m _ _ t2
  obtain ⟨v3, y3, e3, t3⟩ := field_at (P := Tryz.prog) (by kernel_rfl) hxl hc hg 3 _ rfl
  obtain ⟨a3, c3, o3⟩ := (opens_int Tryz.underlying3) H enc w base spare held m _ _ t3
  obtain ⟨v4, y4, e4, t4⟩ := field_at (P := Tryz.prog) (by kernel_rfl) hxl hc hg 4 _ rfl
  obtain ⟨a4, c4, o4⟩ := (opens_int Tryz.underlying3) H enc w base spare held m _ _ t4
  match cs, hc with
  | [b0, b1, b2, b3, b4], _ =>
    obtain rfl : b0 = v0 := by simpa using e0
    obtain rfl : b1 = v1 := by simpa using e1
    obtain rfl : b2 = v2 := by simpa using e2
    obtain rfl : b3 = v3 := by simpa using e3
    obtain rfl : b4 = v4 := by simpa using e4
    obtain rfl : b0 = Value.int .i64 a0 := by have e : [b0] = [Value.int .i64 a0] := c0; simpa using e
    obtain rfl : b1 = Value.int .i64 a1 := by have e : [b1] = [Value.int .i64 a1] := c1; simpa using e
    obtain rfl : b2 = Value.int .i64 a2 := by have e : [b2] = [Value.int .i64 a2] := c2; simpa using e
    obtain rfl : b3 = Value.int .i64 a3 := by have e : [b3] = [Value.int .i64 a3] := c3; simpa using e
    obtain rfl : b4 = Value.int .i64 a4 := by have e : [b4] = [Value.int .i64 a4] := c4; simpa using e
    exact ⟨(⟨a0, a1, a2, a3, a4⟩ : S23), k23_mk w _, ⟨o0, o1, o2, o3, o4⟩⟩
end Go.Proofs.YtbbgeobnjdgpfaaGreat.Open
