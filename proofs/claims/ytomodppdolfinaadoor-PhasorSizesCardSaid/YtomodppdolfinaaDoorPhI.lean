
/- An argument that is a slice of ints. -/
import Derived.Test.YtomodppdolfinaaDoorFrame
import Derived.Test.YtomodppdolfinaaDoorPhA
import Derived.ChangeSlices
namespace Go.Proofs.YtomodppdolfinaaDoor
open Go.ChangeShapes Go.WideShapes Go.ChangeAt Go.RowKit Go.Sub
/-- A slice of ints: of another length than 12, or a window. -/
def IntsArg (w : World) (v : Value) : Prop := (∃ a n c, v = .slice a n c ∧ n ≠ 12) ∨ ∃ b o cp x, v = .slice (some ⟨b, o, none⟩) 12 cp ∧ Win w b o x
theorem open_intsArg {H : Type} {enc : TypeId × Value → H} {w : World} {base : Nat} {spare : Nat → Bool} {held : Bool} {r : Reach} {b0 : Nat} {v : Value} {d : DataW H} {ps : List MemPlace}
    (hval : Value.okWide Tryd.prog w r b0 35 v) (hd : DataW.Trod enc Tryd.prog w base spare held 35 v d ps) : IntsArg w v := by
  obtain ⟨a0, len, cap, rfl⟩ := okWide_slice Tryd.underlying35 hval
  obtain ⟨fuel, hf⟩ := hd
  by_cases hn : len = 12
  · subst hn
    rcases open_ints Tryd.underlying35 Tryd.underlying3 cellsInt hf with ⟨h, _⟩ | ⟨a, len, cap', zs, h, _, hl, _, hzl, _, hc, _⟩
    · simp [Value.cells] at h
    · simp only [Value.cells, List.cons.injEq, Value.slice.injEq, and_true] at h
      obtain ⟨rfl, rfl, rfl⟩ := h
      have hz : 12 ≤ zs.length := by
        rw [hzl]
        split <;> omega
      obtain ⟨b, o, sp⟩ := a
      have h0 := hc 0 (by omega)
      have hsp : sp = none := by
        cases sp with
        | none => rfl
        | some s =>
          simp only [Addr.add, World.cell?] at h0
          split at h0
          · simp at h0
          · cases h0
      subst hsp
      refine .inr ⟨b, o, cap, fun k => zs.getD k 0, rfl, fun k hk => ?_⟩
      have := hc k (by omega)
      rwa [show (⟨b, o, none⟩ : Addr).add k = ⟨b, o + k, none⟩ from by unfold Addr.add; split <;> simp_all] at this
  · exact .inl ⟨a0, len, cap, rfl, hn⟩
end Go.Proofs.YtomodppdolfinaaDoor
