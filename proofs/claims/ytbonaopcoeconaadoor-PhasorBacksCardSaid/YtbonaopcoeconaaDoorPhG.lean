
/- An argument that is an array of twelve numbers of the ring. -/
import Derived.Test.YtbonaopcoeconaaDoorFrame
import Derived.Test.YtbonaopcoeconaaDoorPhA
namespace Go.Sub
open Go.ChangeShapes Go.WideShapes Go.ChangeAt Go.RowKit
theorem flat_of {α : Type} (f : Nat → List α) : ∀ (n : Nat) (l : List α), l.length = n * 4 → (∀ i, i < n → (l.drop (i * 4)).take 4 = f i) → l = (List.range n).flatMap f := by
  intro n
  induction n with
  | zero => intro l hl _; exact List.eq_nil_of_length_eq_zero (by omega)
  | succ n ih =>
    intro l hl h
    have h1 := ih (l.take (n * 4)) (by simp; omega) (fun i hi => by
      rw [← h i (by omega), List.drop_take, List.take_take]
      congr 1
      omega)
    have h2 := h n (by omega)
    rw [List.take_of_length_le (by simp; omega)] at h2
    rw [List.range_succ, List.flatMap_append, ← h1]
    simp only [List.flatMap_cons, List.flatMap_nil, List.append_nil]
    rw [← h2, List.take_append_drop]
theorem open_arr124 {H : Type} {enc : TypeId × Value → H} {P : Program} {w : World} {base : Nat} {spare : Nat → Bool} {held : Bool} {r : Reach} {b0 : Nat} {t e g : TypeId} {v : Value} {d : DataW H} {ps : List MemPlace}
    (ht : P.underlying t = some (.array 12 e)) (he : P.underlying e = some (.array 4 g)) (hg : P.underlying g = some (.int .i64)) (hcg : P.cellsOf g = 1) (hce : P.cellsOf e = 4) (hct : P.cellsOf t = 48)
    (hval : Value.okWide P w r b0 t v) (hd : DataW.Trod enc P w base spare held t v d ps) :
    ∃ c : Nat → Cy, v = .agg (Go.Proofs.YtbonaopcoeconaaDoor.cells48 c 12) := by
  obtain ⟨cs, rfl, hsz⟩ := okWide_arr ht hval
  obtain ⟨l⟩ := cs
  obtain ⟨fuel, hf⟩ := hd
  obtain ⟨xs, m, rfl, hx, hl, hxs, hel⟩ := DataW.trod_array ht hf
  simp only [Value.cells, hce] at hel
  have hlen : l.length = 48 := by simpa [hct] using hsz
  have part : ∀ i, i < 12 → ∃ y : Cy, (l.drop (i * 4)).take 4 = [.int .i64 y.a, .int .i64 y.b, .int .i64 y.c, .int .i64 y.d] := by
    intro i hi
    have h1 := hel i hi
    obtain ⟨y, hy⟩ : ∃ y, xs[i]? = some y := ⟨_, List.getElem?_eq_getElem (by omega)⟩
    rw [hy] at h1
    obtain ⟨ks, hk, hc, _, _⟩ := trod_arr_ints he hg hcg hce h1
    match ks, hk, hc with
    | [a, b, c, d], _, hc => exact ⟨⟨a, b, c, d⟩, hc⟩
  refine ⟨fun i => if h : i < 12 then (part i h).choose else ⟨0, 0, 0, 0⟩, ?_⟩
  congr 1
  unfold Go.Proofs.YtbonaopcoeconaaDoor.cells48
  congr 1
  refine flat_of _ 12 l (by omega) fun i hi => ?_
  rw [(part i hi).choose_spec, if_pos hi]
  simp only [hi, dif_pos]
end Go.Sub
