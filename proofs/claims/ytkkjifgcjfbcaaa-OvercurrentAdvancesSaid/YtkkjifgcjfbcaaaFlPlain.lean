
/- The greatest integer that is not above a + b*sqrt(3): plain laws. No program in sight. -/
import Derived.Test.YtkkjifgcjfbcaaaOrd
namespace Go.Sub
/-- The integer part of the square root. -/
def isq : Nat → Nat
  | 0 => 0
  | n + 1 => if (isq n + 1) * (isq n + 1) ≤ n + 1 then isq n + 1 else isq n
theorem isq_spec (n : Nat) : isq n * isq n ≤ n ∧ n < (isq n + 1) * (isq n + 1) := by
  induction n with
  | zero => simp [isq]
  | succ n ih =>
    obtain ⟨h1, h2⟩ := ih
    unfold isq
    split
    · rename_i h
      refine ⟨h, ?_⟩
      have e : (isq n + 1 + 1) * (isq n + 1 + 1) = (isq n + 1) * (isq n + 1) + 2 * (isq n + 1) + 1 := by grind
      omega
    · rename_i h
      exact ⟨by omega, by omega⟩
theorem sq_lt_sq {p q : Int} (_ : 0 ≤ p) (hq : 0 ≤ q) (h : p * p < (q + 1) * (q + 1)) : p ≤ q := by
  rcases Int.lt_or_le q p with hx | hx
  · exfalso
    have := sq_le_sq (p := q + 1) (q := p) (by omega) (by omega)
    omega
  · exact hx
/-- The greatest integer that is not above the square root of N. -/
def isqI (N : Int) : Int := (isq N.toNat : Int)
theorem isqI_spec {N : Int} (h : 0 ≤ N) : 0 ≤ isqI N ∧ isqI N * isqI N ≤ N ∧ N < (isqI N + 1) * (isqI N + 1) := by
  obtain ⟨n, rfl⟩ := Int.eq_ofNat_of_zero_le h
  obtain ⟨h1, h2⟩ := isq_spec n
  unfold isqI
  rw [show ((n : Int)).toNat = n by omega]
  refine ⟨by omega, by exact_mod_cast h1, by exact_mod_cast h2⟩
theorem isqI_unique {N r : Int} (hr : 0 ≤ r) (h1 : r * r ≤ N) (h2 : N < (r + 1) * (r + 1)) : isqI N = r := by
  obtain ⟨k0, k1, k2⟩ := isqI_spec (Int.le_trans (sq_nonneg r) h1)
  have a := sq_lt_sq k0 hr (by omega)
  have b := sq_lt_sq hr k0 (by omega)
  omega
/-- The greatest integer that is not above n*sqrt(3). -/
def fl3 (n : Int) : Int := if n < 0 then -(isqI (3 * n * n)) - 1 else isqI (3 * n * n)
/-- The greatest integer that is not above a + b*sqrt(3). -/
def flS (x : Su) : Int := x.a + fl3 x.b
theorem isq3_bd {n : Int} (h0 : 0 ≤ n) : 0 ≤ isqI (3 * n * n) ∧ isqI (3 * n * n) ≤ 2 * n := by
  obtain ⟨k0, k1, k2⟩ := isqI_spec (N := 3 * n * n) (by rw [Int.mul_assoc]; have := sq_nonneg n; omega)
  refine ⟨k0, sq_lt_sq k0 (by omega) ?_⟩
  have e : (2 * n + 1) * (2 * n + 1) = 4 * (n * n) + 4 * n + 1 := by grind
  have := sq_nonneg n
  have e2 : 3 * n * n = 3 * (n * n) := Int.mul_assoc 3 n n
  omega
theorem fl3_bd {n l : Int} (h0 : -l ≤ n) (h1 : n ≤ l) : -(2 * l) - 1 ≤ fl3 n ∧ fl3 n ≤ 2 * l := by
  unfold fl3
  split
  · have := isq3_bd (n := -n) (by omega)
    rw [show 3 * -n * -n = 3 * n * n by grind] at this
    omega
  · have := isq3_bd (n := n) (by omega)
    omega
/-- What flS says: n is not above x exactly if it is not above flS x. -/
theorem flS_iff (x : Su) (n : Int) : n ≤ flS x ↔ 0 ≤ sgnS ⟨x.a - n, x.b⟩ := by
  rw [nn_iff]
  unfold flS fl3 Nn
  dsimp only
  obtain ⟨k0, k1, k2⟩ := isqI_spec (N := 3 * x.b * x.b) (by rw [Int.mul_assoc]; have := sq_nonneg x.b; omega)
  rw [Int.mul_assoc] at k0 k1 k2 ⊢
  generalize isqI (3 * (x.b * x.b)) = r at *
  generalize x.b = b at *
  generalize hm : n - x.a = m
  have e1 : x.a - n = -m := by omega
  rw [e1, Int.neg_mul_neg]
  constructor
  · intro h
    split at h
    · rename_i hb
      -- m ≤ -r - 1
      refine .inr (.inl ⟨by omega, by omega, ?_⟩)
      have := sq_le_sq (p := r + 1) (q := -m) (by omega) (by omega)
      rw [Int.neg_mul_neg] at this
      omega
    · rename_i hb
      rcases Int.lt_or_le 0 m with hm0 | hm0
      · refine .inr (.inr ⟨by omega, by omega, ?_⟩)
        have := sq_le_sq (p := m) (q := r) (by omega) (by omega)
        omega
      · exact .inl ⟨by omega, by omega⟩
  · intro h
    split
    · rename_i hb
      rcases h with ⟨h1, h2⟩ | ⟨h1, h2, h3⟩ | ⟨h1, h2, h3⟩
      · omega
      · -- 3 b b ≤ m m, m ≤ 0; r r ≤ 3 b b, and 3 b b is no square
        have hne : m * m ≠ 3 * (b * b) := fun e => by have := (sq3 m b e).2; omega
        have : r ≤ -m - 1 := by
          refine sq_lt_sq k0 ?_ ?_
          · rcases Int.lt_or_le m 0 with hx | hx
            · omega
            · have e0 : m = 0 := by omega
              subst e0
              have := sq_nonneg b
              omega
          · rw [show -m - 1 + 1 = -m by omega, Int.neg_mul_neg]
            omega
        omega
      · omega
    · rename_i hb
      rcases h with ⟨h1, h2⟩ | ⟨h1, h2, h3⟩ | ⟨h1, h2, h3⟩
      · omega
      · have e0 : b = 0 := by omega
        subst e0
        omega
      · have : m ≤ r := sq_lt_sq (by omega) k0 (by omega)
        omega
/-- The sum of the two sides is monotone. -/
theorem flS_mono {x y : Su} (h : 0 ≤ sgnS (y.sub x)) : flS x ≤ flS y := by
  rw [flS_iff]
  have h1 := (flS_iff x (flS x)).1 (Int.le_refl _)
  have h2 := sgnS_add h1 h
  have e : (Su.mk (x.a - flS x) x.b).add (y.sub x) = ⟨y.a - flS x, y.b⟩ := by apply Su.ext' <;> simp only [Su.add, Su.sub] <;> omega
  rwa [e] at h2
/-- A step of Newton's rule. -/
theorem newton_low {N r q : Int} (hr : 0 < r) (hq : q = N / r) : N < ((r + q) / 2 + 1) * ((r + q) / 2 + 1) := by
  have h1 := Int.lt_ediv_add_one_mul_self N hr
  rw [← hq] at h1
  generalize hs : (r + q) / 2 = s
  have h2 : r + q + 1 ≤ 2 * (s + 1) := by omega
  rcases Int.lt_or_le (q + 1) 0 with hq0 | hq0
  · have : (q + 1) * r ≤ 0 := Int.mul_nonpos_of_nonpos_of_nonneg (by omega) (by omega)
    have := sq_nonneg (s + 1)
    omega
  · have h3 := sq_le_sq (p := r + (q + 1)) (q := 2 * (s + 1)) (by omega) (by omega)
    have h4 := sq_nonneg (r - (q + 1))
    have e1 : (r + (q + 1)) * (r + (q + 1)) = (r - (q + 1)) * (r - (q + 1)) + 4 * ((q + 1) * r) := by grind
    have e2 : 2 * (s + 1) * (2 * (s + 1)) = 4 * ((s + 1) * (s + 1)) := by grind
    omega
theorem newton_end {N r q : Int} (hr : 0 < r) (hq : q = N / r) (h : r ≤ (r + q) / 2) : r * r ≤ N := by
  have h1 := Int.ediv_mul_le N (show r ≠ 0 by omega)
  rw [← hq] at h1
  have : r * r ≤ q * r := Int.mul_le_mul_of_nonneg_right (by omega) (by omega)
  omega
end Go.Sub
