/- Each Go function that the laws reach, as a plain function, with the proof that the machine's call comes to what it says; of a law: its row. Made by a program of this seat (wip/hp.py, over the print). -/
import Derived.Test.YtklngklmeanhcaaOpen
import Derived.Test.YtklngklmeanhcaaPx0
import Derived.Test.YtklngklmeanhcaaPx1
import Derived.KernelRfl
set_option linter.unusedVariables false
set_option linter.unusedSimpArgs false
namespace Go.Proofs.Ytklngklmeanhcaa.Open
open Go.RowKit Go.ChangeShapes Go.WideShapes Go.Deep Go.Proofs.YtklngklmeanhcaaW.PrintWords Go.Proofs.Ytklngklmeanhcaa.P
set_option maxRecDepth 100000 in
theorem openS56 : Opens Try.prog 56 k56 okS56 := fun H enc w base spare held n cs x h => by
  obtain ⟨xs, m, _, _, hcl, hxl, hg⟩ := DataW.trod_struct Try.underlying56 h
  have hc : cs.length = 2 := hcl.trans (by kernel_rfl)
  obtain ⟨v0, y0, e0, t0⟩ := field_at (P := Try.prog) (by kernel_rfl) hxl hc hg 0 _ rfl
  obtain ⟨a0, c0, o0⟩ := (opens_int Try.underlying3) H enc w base spare held m _ _ t0
  obtain ⟨v1, y1, e1, t1⟩ := field_at (P := Try.prog) (by kernel_rfl) hxl hc hg 1 _ rfl
  obtain ⟨a1, c1, o1⟩ := (opens_int Try.underlying3) H enc w base spare held m _ _ t1
  match cs, hc with
  | [b0, b1], _ =>
    obtain rfl : b0 = v0 := by simpa using e0
    obtain rfl : b1 = v1 := by simpa using e1
    obtain rfl : b0 = Value.int .i64 a0 := by have e : [b0] = [Value.int .i64 a0] := c0; simpa using e
    obtain rfl : b1 = Value.int .i64 a1 := by have e : [b1] = [Value.int .i64 a1] := c1; simpa using e
    exact ⟨(⟨a0, a1⟩ : S56), k56_mk w _, ⟨o0, o1⟩⟩
set_option maxRecDepth 100000 in
theorem openS33 : Opens Try.prog 33 k33 okS33 := fun H enc w base spare held n cs x h => by
  obtain ⟨xs, m, _, _, hcl, hxl, hg⟩ := DataW.trod_struct Try.underlying33 h
  have hc : cs.length = 3 := hcl.trans (by kernel_rfl)
  obtain ⟨v0, y0, e0, t0⟩ := field_at (P := Try.prog) (by kernel_rfl) hxl hc hg 0 _ rfl
  obtain ⟨a0, c0, o0⟩ := (opens_int Try.underlying3) H enc w base spare held m _ _ t0
  obtain ⟨v1, y1, e1, t1⟩ := field_at (P := Try.prog) (by kernel_rfl) hxl hc hg 1 _ rfl
  obtain ⟨a1, c1, o1⟩ := (opens_int Try.underlying3) H enc w base spare held m _ _ t1
  obtain ⟨v2, y2, e2, t2⟩ := field_at (P := Try.prog) (by kernel_rfl) hxl hc hg 2 _ rfl
  obtain ⟨a2, c2, o2⟩ := (opens_slice z56 Try.underlying31 openS56 (by kernel_rfl)) H enc w base spare held m _ _ t2
  match cs, hc with
  | [b0, b1, b2], _ =>
    obtain rfl : b0 = v0 := by simpa using e0
    obtain rfl : b1 = v1 := by simpa using e1
    obtain rfl : b2 = v2 := by simpa using e2
    obtain rfl : b0 = Value.int .i64 a0 := by have e : [b0] = [Value.int .i64 a0] := c0; simpa using e
    obtain rfl : b1 = Value.int .i64 a1 := by have e : [b1] = [Value.int .i64 a1] := c1; simpa using e
    obtain ⟨A2, cc2, ce2, cl2, cg2⟩ := c2
    obtain rfl : b2 = .slice A2 a2.length cc2 := by simpa using ce2
    exact ⟨(⟨a0, a1, a2⟩ : S33), k33_mk w _ cl2 cg2, ⟨o0, o1, o2⟩⟩
end Go.Proofs.Ytklngklmeanhcaa.Open
