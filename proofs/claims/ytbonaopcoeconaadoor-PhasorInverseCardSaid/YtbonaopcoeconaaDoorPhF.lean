
/- Arguments that are arrays of ints. -/
import Derived.Test.YtbonaopcoeconaaDoorFrame
import Derived.Test.YtbonaopcoeconaaDoorPhB
namespace Go.Sub
open Go.ChangeShapes Go.WideShapes Go.ChangeAt Go.RowKit
theorem open_arrI {H : Type} {enc : TypeId × Value → H} {P : Program} {w : World} {base : Nat} {spare : Nat → Bool} {held : Bool} {r : Reach} {b0 : Nat} {t e : TypeId} {v : Value} {d : DataW H} {ps : List MemPlace} (n : Nat) (ht : P.underlying t = some (.array n e)) (he : P.underlying e = some (.int .i64)) (hce : P.cellsOf e = 1) (hct : P.cellsOf t = n)
    (hval : Value.okWide P w r b0 t v) (hd : DataW.Trod enc P w base spare held t v d ps) :
    ∃ x : Nat → Int, v = .agg (cellsI x n) ∧ ∀ k, k < n → -9223372036854775808 ≤ x k ∧ x k ≤ 9223372036854775807 := by
  obtain ⟨cs, rfl, hsz⟩ := okWide_arr ht hval
  obtain ⟨fuel, hf⟩ := hd
  obtain ⟨ks, hl, hcs, hx, hw⟩ := trod_arr_ints ht he hce hct hf
  obtain ⟨l⟩ := cs
  simp only [Value.cells] at hcs
  refine ⟨fun k => ks.getD k 0, ?_, fun k hk => ?_⟩
  · congr 1
    unfold cellsI
    congr 1
    have hcs : l = ks.map (Value.int .i64) := by simpa using hcs
    rw [hcs]
    apply List.ext_getElem?
    intro i
    by_cases hi : i < n
    · simp [hi, hl, List.getD]
    · simp [hi, hl]
  · have hk' : k < ks.length := by omega
    have : ks.getD k 0 = ks[k] := by simp [List.getD, hk']
    simp only [this]
    exact wf_i64 (hw _ (List.getElem_mem hk'))
end Go.Sub
