
/- The laws of the ring, in plain arithmetic. No program in sight. -/
import Derived.Test.YtkkjifgcjfbcaaaCyPlain
import Derived.Test.YtkkjifgcjfbcaaaEqs
namespace Go.Sub
theorem Cy.mul_comm (x y : Cy) : y.mul x = x.mul y := by
  apply Cy.ext' <;> simp only [Cy.mul] <;> grind
theorem Cy.mul_assoc (x y z : Cy) : x.mul (y.mul z) = (x.mul y).mul z := by
  apply Cy.ext' <;> simp only [Cy.mul] <;> grind
theorem Cy.mul_add (x y z : Cy) : x.mul (y.add z) = (x.mul y).add (x.mul z) := by
  apply Cy.ext' <;> simp only [Cy.mul, Cy.add] <;> grind
theorem Cy.add_comm3 (x y z : Cy) : z.add (y.add x) = (x.add y).add z := by
  apply Cy.ext' <;> simp only [Cy.add] <;> omega
theorem rootC_0 : rootC 0 = ⟨1, 0, 0, 0⟩ := rfl
theorem Cy.mul_root0 (x : Cy) : x.mul (rootC 0) = x := by
  rw [rootC_0]
  apply Cy.ext' <;> simp [Cy.mul]
theorem Cy.add_in {x y : Cy} {l m : Int} (hx : x.In l) (hy : y.In m) : (x.add y).In (l + m) := by
  unfold Cy.In at *; unfold Cy.add; dsimp only; omega
theorem Cy.sub_in {x y : Cy} {l m : Int} (hx : x.In l) (hy : y.In m) : (x.sub y).In (l + m) := by
  unfold Cy.In at *; unfold Cy.sub; dsimp only; omega
theorem Cy.conj_in {x : Cy} {l : Int} (hx : x.In l) : x.conj.In (2 * l) := by
  unfold Cy.In at *; unfold Cy.conj; dsimp only; omega
theorem Cy.mul_in' {x y : Cy} {l m : Int} (hx : x.In l) (hy : y.In m) : (x.mul y).In (6 * (l * m)) := mul_in (prods_of hx hy)
theorem tmod_bd (a : Int) (n : Int) (hn : 0 < n) : -(n - 1) ≤ a.tmod n ∧ a.tmod n ≤ n - 1 := by
  rcases Int.le_total 0 a with h | h
  · rw [Int.tmod_eq_emod_of_nonneg h]
    have h1 := Int.emod_nonneg a (show n ≠ 0 by omega)
    have h2 := Int.emod_lt_of_pos a hn
    omega
  · obtain ⟨b, rfl⟩ : ∃ b, a = -b := ⟨-a, by omega⟩
    rw [Int.neg_tmod, Int.tmod_eq_emod_of_nonneg (show 0 ≤ b by omega)]
    have h1 := Int.emod_nonneg b (show n ≠ 0 by omega)
    have h2 := Int.emod_lt_of_pos b hn
    omega
end Go.Sub
