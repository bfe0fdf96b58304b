
/- The frame of a law's proof over a seat without a table: the argument A + B*sqrt(3) opened. -/
import Derived.Test.YtkkjifgcjfbcaaaRows
import Derived.Test.YtkkjifgcjfbcaaaFrame
import Derived.Test.YtkkjifgcjfbcaaaSuPlain
namespace Go.Proofs.Ytkkjifgcjfbcaaa
open Go.ChangeShapes Go.WideShapes Go.ChangeAt Go.RowKit Go.Sub Go.Joins
theorem cellsInt : Try.prog.cellsOf 3 = 1 := by kernel_rfl
theorem own : ownKnob Try.prog.godebug = none := by kernel_rfl
theorem cellsCyc : Try.prog.cellsOf 40 = 4 := by kernel_rfl
section
variable {H : Type} {enc : TypeId × Value → H} {w : World} {base : Nat} {spare : Nat → Bool} {held : Bool}
set_option maxRecDepth 100000 in
theorem open_surd {r : Reach} {b0 : Nat} {v : Value} {d : DataW H} {p : List MemPlace} (hval : Value.okWide Try.prog w r b0 23 v) (h : DataW.Trod enc Try.prog w base spare held 23 v d p) :
    ∃ a b : Int, v = .agg #[.int .i64 a, .int .i64 b] ∧ (-9223372036854775808 ≤ a ∧ a ≤ 9223372036854775807) ∧ (-9223372036854775808 ≤ b ∧ b ≤ 9223372036854775807) := by
  obtain ⟨c0, c1, y0, y1, m, rfl, rfl, rfl, hy0, hy1⟩ := open_agg2 Try.underlying23 (by kernel_rfl) (by kernel_rfl) hval h
  obtain ⟨a, ha, _, wa⟩ := DataW.trod_int Try.underlying3 hy0
  obtain ⟨b, hb, _, wb⟩ := DataW.trod_int Try.underlying3 hy1
  refine ⟨a, b, ?_, wf_i64 wa, wf_i64 wb⟩
  simp only [List.cons.injEq, and_true] at ha hb
  rw [ha, hb]
end
end Go.Proofs.Ytkkjifgcjfbcaaa
