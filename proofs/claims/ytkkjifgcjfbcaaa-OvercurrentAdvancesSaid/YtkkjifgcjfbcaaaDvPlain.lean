
/- The plain law of the division of two words by one (math/bits.Div64), and of the square root by Newton's rule. -/
import Derived.Test.YtkkjifgcjfbcaaaSuM
namespace Go.Sub
/-- One digit of the quotient: what the guess that is let down until it fits says. -/
theorem dv_digit {u y d q r y1 y0 : Int} (hy : y = y1 * 4294967296 + y0) (hyp : 0 < y) (he : q * y1 + r = u) (hle : q * y0 ≤ 4294967296 * r + d) (hge : (u * 4294967296 + d) / y ≤ q) : (u * 4294967296 + d) / y = q := by
  refine Int.le_antisymm hge ?_
  rw [Int.le_ediv_iff_mul_le hyp]
  subst hy he
  have : q * (y1 * 4294967296 + y0) = q * y1 * 4294967296 + q * y0 := by rw [Int.mul_add, Int.mul_assoc]
  omega
theorem dv_less {u y d q r y1 y0 : Int} (hy : y = y1 * 4294967296 + y0) (hyp : 0 < y) (he : q * y1 + r = u) (hlt : 4294967296 * r + d < q * y0) : (u * 4294967296 + d) / y ≤ q - 1 := by
  have : (u * 4294967296 + d) / y < q := by
    rw [Int.ediv_lt_iff_lt_mul hyp]
    subst hy he
    have : q * (y1 * 4294967296 + y0) = q * y1 * 4294967296 + q * y0 := by rw [Int.mul_add, Int.mul_assoc]
    omega
  omega
theorem dv_top {u y d : Int} (hyp : 0 < y) (hu : u < y) (hd : d < 4294967296) : (u * 4294967296 + d) / y ≤ 4294967295 := by
  have : (u * 4294967296 + d) / y < 4294967296 := by
    rw [Int.ediv_lt_iff_lt_mul hyp]
    omega
  omega
theorem dv_first {u y q y1 y0 : Int} (hu0 : 0 ≤ u) (hu : u < y) (hy : y = y1 * 4294967296 + y0) (hy1 : 2147483648 ≤ y1) (hy0 : 0 ≤ y0) (hy0' : y0 < 4294967296) (hq : q = u / y1) : 0 ≤ q ∧ q ≤ 4294967297 ∧ 0 ≤ u - q * y1 ∧ u - q * y1 < y1 := by
  have h1 := Int.ediv_mul_le u (show y1 ≠ 0 by omega)
  have h2 := Int.lt_ediv_add_one_mul_self u (show 0 < y1 by omega)
  rw [Int.add_mul] at h2
  subst hq
  refine ⟨Int.ediv_nonneg hu0 (by omega), ?_, by omega, by omega⟩
  have : u / y1 < 4294967298 := by
    rw [Int.ediv_lt_iff_lt_mul (by omega)]
    omega
  omega
theorem dv_guess {u y d y1 y0 : Int} (hu0 : 0 ≤ u) (hd0 : 0 ≤ d) (hd : d < 4294967296) (hy : y = y1 * 4294967296 + y0) (hy1 : 2147483648 ≤ y1) (hy0 : 0 ≤ y0) : (u * 4294967296 + d) / y ≤ u / y1 := by
  have hyp : 0 < y := by omega
  rw [Int.le_ediv_iff_mul_le (by omega)]
  have h1 := Int.ediv_mul_le (u * 4294967296 + d) (show y ≠ 0 by omega)
  generalize (u * 4294967296 + d) / y = q at *
  by_cases hq : q ≤ 0
  · have : q * y1 ≤ 0 := by
      have := Int.mul_le_mul_of_nonneg_right hq (show 0 ≤ y1 by omega)
      omega
    omega
  · have e : q * y = q * y1 * 4294967296 + q * y0 := by rw [hy, Int.mul_add, Int.mul_assoc]
    have : 0 ≤ q * y0 := Int.mul_nonneg (by omega) hy0
    omega
theorem dv_mul_small {q y0 : Int} (h : q ≤ 4294967296) (hy0 : 0 ≤ y0) (hy0' : y0 < 4294967296) : q * y0 ≤ 18446744069414584320 := by
  have := Int.mul_le_mul_of_nonneg_right h hy0
  omega
/-- The quotient of two words by a word, found digit by digit. -/
theorem dv_two {u y d1 d0 : Int} (hyp : 0 < y) (_hu0 : 0 ≤ u) (_hd1 : 0 ≤ d1) :
    (u * 18446744073709551616 + (d1 * 4294967296 + d0)) / y = (u * 4294967296 + d1) / y * 4294967296 + ((u * 4294967296 + d1) % y * 4294967296 + d0) / y := by
  have h := Int.mul_ediv_add_emod (u * 4294967296 + d1) y
  have e : u * 18446744073709551616 + (d1 * 4294967296 + d0) = ((u * 4294967296 + d1) % y * 4294967296 + d0) + y * ((u * 4294967296 + d1) / y * 4294967296) := by
    rw [← Int.mul_assoc]
    omega
  rw [e, Int.add_mul_ediv_left _ _ (by omega)]
  omega
/-- A shift of both sides changes no quotient. -/
theorem dv_shift {hi lo y p p' : Int} (hp : 0 < p) (hpp : p * p' = 18446744073709551616) :
    (hi * 18446744073709551616 + lo) / y = ((hi * p + lo / p') * 18446744073709551616 + lo % p' * p) / (y * p) := by
  have h := Int.mul_ediv_add_emod lo p'
  have e : (hi * p + lo / p') * 18446744073709551616 + lo % p' * p = (hi * 18446744073709551616 + lo) * p := by
    have : lo * p = lo / p' * 18446744073709551616 + lo % p' * p := by
      conv => lhs; rw [← h]
      rw [← hpp]
      grind
    grind
  rw [e, Int.mul_ediv_mul_of_pos_left _ _ hp]
end Go.Sub
