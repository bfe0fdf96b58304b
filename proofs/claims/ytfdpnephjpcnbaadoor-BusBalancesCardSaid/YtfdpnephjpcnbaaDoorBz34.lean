
/- What Norm, Conj and Sub of package surd, some functions of its reference, and two helpers of its laws return. -/
import Derived.Test.YtfdpnephjpcnbaaDoorBz24
import Derived.Test.YtfdpnephjpcnbaaDoorBz03
set_option linter.unusedSimpArgs false
set_option linter.unusedVariables false
namespace Go.Sub
def snormR (x : Su) : Int × Int := if wi2 268435456 x.a x.b then (x.norm, 0) else (0, 1)
def sconjR (x : Su) : R2 := if wi2 1152921504606846976 x.a x.b then ⟨x.conj, 0⟩ else ⟨zeroS, 1⟩
def smallS (x : Su) : Su := ⟨x.a.tmod 1048576, x.b.tmod 1048576⟩
def modN (n m : Int) : Int := n % m
theorem tmod_in (n : Int) {m : Int} (hm : 0 < m) : -(m - 1) ≤ n.tmod m ∧ n.tmod m ≤ m - 1 := by
  have h1 := Int.tmod_lt_of_pos n hm
  have h2 := Int.tmod_lt_of_pos (-n) hm
  rw [Int.neg_tmod] at h2
  omega
theorem smallS_in (x : Su) : (smallS x).In 1048576 := by
  have h1 := tmod_in x.a (show (0 : Int) < 1048576 by decide)
  have h2 := tmod_in x.b (show (0 : Int) < 1048576 by decide)
  unfold Su.In smallS
  dsimp only
  omega
theorem tmod_mod (n m : Int) (hm : 0 < m) : (n.tmod m < 0 → n.tmod m + m = n % m) ∧ (0 ≤ n.tmod m → n.tmod m = n % m) := by
  have h1 := Int.mul_tdiv_add_tmod n m
  have h2 := tmod_in n hm
  have e : n % m = n.tmod m % m := by
    conv => lhs; rw [← h1]
    rw [Int.add_comm, Int.add_mul_emod_self_left]
  rw [e]
  constructor
  · intro h
    rw [← Int.add_emod_right, Int.emod_eq_of_lt (by omega) (by omega)]
  · intro h
    rw [Int.emod_eq_of_lt h (by omega)]
theorem norm_bd {a b l : Int} (h1 : -l ≤ a) (h2 : a ≤ l) (h3 : -l ≤ b) (h4 : b ≤ l) : (0 ≤ a * a ∧ a * a ≤ l * l) ∧ (0 ≤ b * b ∧ b * b ≤ l * l) := by
  have p1 := bd_mul h1 h2 h1 h2
  have p2 := bd_mul h3 h4 h3 h4
  have q1 : 0 ≤ a * a := by rcases Int.le_total 0 a with h | h; exact Int.mul_nonneg h h; rw [← Int.neg_mul_neg]; exact Int.mul_nonneg (by omega) (by omega)
  have q2 : 0 ≤ b * b := by rcases Int.le_total 0 b with h | h; exact Int.mul_nonneg h h; rw [← Int.neg_mul_neg]; exact Int.mul_nonneg (by omega) (by omega)
  exact ⟨⟨q1, p1.2⟩, q2, p2.2⟩
end Go.Sub
namespace Go.Proofs.YtfdpnephjpcnbaaDoor
open Go.RowKit Go.Sub

end Go.Proofs.YtfdpnephjpcnbaaDoor
