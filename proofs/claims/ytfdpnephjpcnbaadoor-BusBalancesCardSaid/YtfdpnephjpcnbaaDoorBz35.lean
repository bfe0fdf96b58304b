
/- What product, sign, Sign and Compare of package substationref02 return. -/
import Derived.Test.YtfdpnephjpcnbaaDoorBz29
import Derived.Test.YtfdpnephjpcnbaaDoorBz34
import Derived.Test.YtfdpnephjpcnbaaDoorBz24
set_option linter.unusedSimpArgs false
set_option linter.unusedVariables false
namespace Go.Sub
theorem Sm.sq {x y : Int} (h0 : -1267650600228229401496703205376 ≤ x) (h1 : x ≤ 1267650600228229401496703205376) (k0 : -1267650600228229401496703205376 ≤ y) (k1 : y ≤ 1267650600228229401496703205376) : Sm (x * y) := by
  have := bd_mul h0 h1 k0 k1
  exact Sm.of (by omega) (by omega)
theorem Sm.sq3 {x : Int} (h0 : -1267650600228229401496703205376 ≤ x) (h1 : x ≤ 1267650600228229401496703205376) : Sm (3 * (x * x)) := by
  have := bd_mul h0 h1 h0 h1
  exact Sm.of (by omega) (by omega)
theorem Sm.b100 {x : Int} (h0 : -1267650600228229401496703205376 ≤ x) (h1 : x ≤ 1267650600228229401496703205376) : Sm x := Sm.of (by omega) (by omega)
theorem ref_sgn (x y : Int) : (sgn x = 0 → sgnS ⟨x, y⟩ = sgn y) ∧ (sgn y = 0 → sgnS ⟨x, y⟩ = sgn x) ∧ (sgn x = sgn y → sgnS ⟨x, y⟩ = sgn x) := by
  unfold sgnS
  dsimp only
  refine ⟨fun h => ?_, fun h => ?_, fun h => ?_⟩
  · rw [h]
    by_cases h2 : 0 = sgn y ∨ sgn y = 0
    · rw [if_pos h2]; omega
    · rw [if_neg h2, if_pos rfl]
  · rw [if_pos (.inr h)]
  · rw [if_pos (.inl h)]
theorem ref_sgn2 (x y : Int) (h1 : sgn x ≠ 0) (h2 : sgn y = -sgn x) : sgnS ⟨x, y⟩ = sgn x * cmpI (x * x) (3 * (y * y)) := by
  have hne : x * x ≠ 3 * (y * y) := fun e => by
    obtain ⟨e1, _⟩ := sq3 x y e
    rw [e1] at h1
    exact h1 rfl
  rw [sgnS_eq]
  dsimp only
  rw [if_neg (by omega), if_neg h1]
  rcases Int.lt_trichotomy (x * x) (3 * (y * y)) with h | h | h
  · rw [if_neg (by omega), show cmpI (x * x) (3 * (y * y)) = -1 by simp [cmpI, h]]
    omega
  · exact absurd h hne
  · rw [if_pos h, show cmpI (x * x) (3 * (y * y)) = 1 by simp [cmpI, h]; omega]
    omega
end Go.Sub
namespace Go.Proofs.YtfdpnephjpcnbaaDoor
open Go.RowKit Go.Sub
theorem sgn_val (x : Int) : (x < 0 ∧ sgn x = -1) ∨ (x = 0 ∧ sgn x = 0) ∨ (0 < x ∧ sgn x = 1) := by
  unfold sgn
  split
  · exact .inl ⟨by assumption, rfl⟩
  · split
    · exact .inr (.inr ⟨by assumption, rfl⟩)
    · exact .inr (.inl ⟨by omega, rfl⟩)
end Go.Proofs.YtfdpnephjpcnbaaDoor
