
/- An argument that is an array of three numbers of the ring, opened. -/
import Derived.Test.YtkkjifgcjfbcaaaFrame
namespace Go
open Go.ChangeShapes Go.WideShapes Go.ChangeAt Go.RowKit
theorem four_of {ks : List Int} (h : ks.length = 4) : ∃ a b c d, ks = [a, b, c, d] := by
  match ks, h with
  | [a, b, c, d], _ => exact ⟨a, b, c, d, rfl⟩
theorem open_arr34 {H : Type} {enc : TypeId × Value → H} {P : Program} {w : World} {base : Nat} {spare : Nat → Bool} {held : Bool} {r : Reach} {b0 : Nat} {t e g : TypeId} {v : Value} {d : DataW H} {ps : List MemPlace}
    (ht : P.underlying t = some (.array 3 e)) (he : P.underlying e = some (.array 4 g)) (hg : P.underlying g = some (.int .i64)) (hcg : P.cellsOf g = 1) (hce : P.cellsOf e = 4) (hct : P.cellsOf t = 12)
    (hval : Value.okWide P w r b0 t v) (hd : DataW.Trod enc P w base spare held t v d ps) :
    ∃ k0 k1 k2 k3 k4 k5 k6 k7 k8 k9 k10 k11 : Int, v = .agg #[.int .i64 k0, .int .i64 k1, .int .i64 k2, .int .i64 k3, .int .i64 k4, .int .i64 k5, .int .i64 k6, .int .i64 k7, .int .i64 k8, .int .i64 k9, .int .i64 k10, .int .i64 k11] := by
  obtain ⟨cs, rfl, hsz⟩ := okWide_arr ht hval
  obtain ⟨l⟩ := cs
  obtain ⟨fuel, hf⟩ := hd
  obtain ⟨xs, m, rfl, hx, hl, hxs, hel⟩ := DataW.trod_array ht hf
  simp only [Value.cells, hce] at hel
  have hlen : l.length = 12 := by simpa [hct] using hsz
  have part : ∀ i, i < 3 → ∃ ks : List Int, ks.length = 4 ∧ (l.drop (i * 4)).take 4 = ks.map (Value.int .i64) := by
    intro i hi
    have h1 := hel i hi
    obtain ⟨y, hy⟩ : ∃ y, xs[i]? = some y := ⟨_, List.getElem?_eq_getElem (by omega)⟩
    rw [hy] at h1
    obtain ⟨ks, hk, hc, _, _⟩ := trod_arr_ints he hg hcg hce h1
    exact ⟨ks, hk, hc⟩
  obtain ⟨k0, h0, e0⟩ := part 0 (by omega)
  obtain ⟨k1, h1, e1⟩ := part 1 (by omega)
  obtain ⟨k2, h2, e2⟩ := part 2 (by omega)
  obtain ⟨a0, a1, a2, a3, rfl⟩ := four_of h0
  obtain ⟨b0, b1, b2, b3, rfl⟩ := four_of h1
  obtain ⟨c0, c1, c2, c3, rfl⟩ := four_of h2
  refine ⟨a0, a1, a2, a3, b0, b1, b2, b3, c0, c1, c2, c3, ?_⟩
  have hsplit : l = l.take 4 ++ ((l.drop 4).take 4 ++ (l.drop 8).take 4) := by
    have t1 : (l.drop 8).take 4 = l.drop 8 := List.take_of_length_le (by simp; omega)
    have t2 : (l.drop 4).take 4 ++ l.drop 8 = l.drop 4 := by
      have := List.take_append_drop 4 (l.drop 4)
      rwa [List.drop_drop] at this
    rw [t1, t2, List.take_append_drop]
  simp only [Nat.zero_mul, List.drop_zero] at e0
  have e1' : (l.drop 4).take 4 = [b0, b1, b2, b3].map (Value.int .i64) := e1
  have e2' : (l.drop 8).take 4 = [c0, c1, c2, c3].map (Value.int .i64) := e2
  rw [e0, e1', e2'] at hsplit
  rw [hsplit]
  rfl
end Go
