
/- An argument that is an array of two ints, opened. -/
import Derived.Test.YtkkjifgcjfbcaaaFrP
import Derived.Test.YtkkjifgcjfbcaaaFr3
namespace Go
open Go.ChangeShapes Go.WideShapes Go.ChangeAt Go.RowKit
theorem open_arr2 {H : Type} {enc : TypeId × Value → H} {P : Program} {w : World} {base : Nat} {spare : Nat → Bool} {held : Bool} {r : Reach} {b0 : Nat} {t e : TypeId} {v : Value} {d : DataW H} {ps : List MemPlace} (ht : P.underlying t = some (.array 2 e)) (he : P.underlying e = some (.int .i64)) (hce : P.cellsOf e = 1) (hct : P.cellsOf t = 2)
    (hval : Value.okWide P w r b0 t v) (hd : DataW.Trod enc P w base spare held t v d ps) :
    ∃ k0 k1 : Int, v = .agg #[.int .i64 k0, .int .i64 k1] ∧ (-9223372036854775808 ≤ k0 ∧ k0 ≤ 9223372036854775807) ∧ (-9223372036854775808 ≤ k1 ∧ k1 ≤ 9223372036854775807) := by
  obtain ⟨cs, rfl, hsz⟩ := okWide_arr ht hval
  obtain ⟨fuel, hf⟩ := hd
  obtain ⟨ks, hl, hcs, hx, hw⟩ := trod_arr_ints ht he hce hct hf
  obtain ⟨l⟩ := cs
  simp only [Value.cells] at hcs
  match ks, hl, hcs, hw with
  | [k0, k1], _, hcs, hw =>
    refine ⟨k0, k1, ?_, wf_i64 (hw k0 (by simp)), wf_i64 (hw k1 (by simp))⟩
    have : l = [.int .i64 k0, .int .i64 k1] := by simpa using hcs
    rw [this]
end Go
