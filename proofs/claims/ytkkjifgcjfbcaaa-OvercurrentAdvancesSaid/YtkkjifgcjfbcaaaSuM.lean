
/- What math/bits.Mul64, and size, sign and triple of package surd return. -/
import Derived.Test.YtkkjifgcjfbcaaaSuA
import Derived.Laws.MathBits
namespace Go.Sub
theorem mask32 (a : Int) (h0 : 0 ≤ a) (h1 : a < 18446744073709551616) : bits .and .u64 a 4294967295 = a % 4294967296 := by
  obtain ⟨n, rfl⟩ := Int.eq_ofNat_of_zero_le h0
  have h := bits_and_u64_nat n 4294967295 (by omega) (by omega)
  rw [Nat.and_two_pow_sub_one_eq_mod n 32] at h
  refine Eq.trans h ?_
  omega
theorem mask32w (a : Int) : bits .and .u64 (a % 18446744073709551616) 4294967295 = a % 18446744073709551616 % 4294967296 := mask32 _ (by omega) (by omega)
def sgn (n : Int) : Int := if n < 0 then -1 else if 0 < n then 1 else 0
def mag (n : Int) : Int := if n < 0 then -n else n
/-- The sign of A + B*sqrt(3), as the program finds it. -/
def sgnS (x : Su) : Int := if sgn x.a = sgn x.b ∨ sgn x.b = 0 then sgn x.a else if sgn x.a = 0 then sgn x.b else if 3 * mag x.b * mag x.b < mag x.a * mag x.a then sgn x.a else sgn x.b
theorem mag_bd {n : Int} (h0 : -9223372036854775808 ≤ n) (h1 : n ≤ 9223372036854775807) : 0 ≤ mag n ∧ mag n ≤ 9223372036854775808 := by
  unfold mag; split <;> omega
end Go.Sub
namespace Go.Proofs.Ytkkjifgcjfbcaaa
open Go.RowKit Go.Sub
set_option maxHeartbeats 1000000 in
theorem mul64_any (x y : Int) (w : World) (hx0 : 0 ≤ x) (hx : x < 18446744073709551616) (hy0 : 0 ≤ y) (hy : y < 18446744073709551616) :
    Calls Try.prog 57 #[.int .u64 x, .int .u64 y] w fun e w' => e = .returned (.tuple #[.int .u64 (x * y / 18446744073709551616), .int .u64 (x * y % 18446744073709551616)]) ∧ w = w' := by
  go_enter Try.func57, Try.ntmps57
  go_wp2
  simp only [mask32 x hx0 hx, mask32 y hy0 hy, IntKind.wrap_u64, mask32w]
  rw [mul64_arith x y hx0 hx hy0 hy]
  go_ret2
  exact ⟨rfl, rfl⟩
set_option maxHeartbeats 1000000 in
theorem size_any (n : Int) (w : World) (h0 : -9223372036854775808 ≤ n) (h1 : n ≤ 9223372036854775807) :
    Calls Try.prog 56 #[.int .i64 n] w fun e w' => e = .returned (.int .u64 (mag n)) ∧ w = w' := by
  by_cases h : n < 0
  · have e : mag n = -n := by simp [mag, h]
    rw [e]
    clear e
    go_enter Try.func56, Try.ntmps56
    go_wp2
    simp only [IntKind.wrap_u64]
    rw [show -(n % 18446744073709551616) % 18446744073709551616 = -n by omega]
    go_ret
    exact ⟨rfl, rfl⟩
  · have e : mag n = n := by simp [mag, h]
    rw [e]
    clear e
    go_enter Try.func56, Try.ntmps56
    go_wp2
    go_ret
    exact ⟨rfl, rfl⟩
set_option maxHeartbeats 1000000 in
theorem ssign_any (n : Int) (w : World) :
    Calls Try.prog 55 #[.int .i64 n] w fun e w' => e = .returned (.int .i64 (sgn n)) ∧ w = w' := by
  by_cases h : n < 0
  · rw [show sgn n = -1 by simp [sgn, h]]
    go_enter Try.func55, Try.ntmps55
    go_wp2
    go_ret
    exact ⟨rfl, rfl⟩
  · by_cases h2 : 0 < n
    · rw [show sgn n = 1 by simp [sgn, h, h2]]
      go_enter Try.func55, Try.ntmps55
      go_wp2
      go_ret
      exact ⟨rfl, rfl⟩
    · rw [show sgn n = 0 by simp [sgn, h, h2]]
      go_enter Try.func55, Try.ntmps55
      go_wp2
      go_ret
      exact ⟨rfl, rfl⟩
theorem triple_hi (n : Int) : 3 * (n * n / 18446744073709551616) + n * n % 18446744073709551616 * 3 / 18446744073709551616 = 3 * n * n / 18446744073709551616 := by
  rw [Int.mul_assoc]; omega
theorem triple_lo (n : Int) : n * n % 18446744073709551616 * 3 % 18446744073709551616 = 3 * n * n % 18446744073709551616 := by
  rw [Int.mul_assoc]; omega
set_option maxHeartbeats 1000000 in
theorem triple_any (n : Int) (w : World) (h0 : 0 ≤ n) (h1 : n ≤ 9223372036854775808) :
    Calls Try.prog 58 #[.int .u64 n] w fun e w' => e = .returned (.tuple #[.int .u64 (3 * n * n / 18446744073709551616), .int .u64 (3 * n * n % 18446744073709551616)]) ∧ w = w' := by
  obtain ⟨b1, b2⟩ := bd_mul (a := n) (b := n) (n := 9223372036854775808) (m := 9223372036854775808) (by omega) h1 (by omega) h1
  have b0 : 0 ≤ n * n := Int.mul_nonneg h0 h0
  simp only [Int.reduceMul, Int.reduceNeg] at b1 b2
  have q1 : 0 ≤ n * n / 18446744073709551616 := by omega
  have q2 : n * n / 18446744073709551616 ≤ 4611686018427387904 := by omega
  have q3 : 0 ≤ n * n % 18446744073709551616 := by omega
  have q4 : n * n % 18446744073709551616 < 18446744073709551616 := by omega
  have q5 : 0 ≤ n * n % 18446744073709551616 * 3 / 18446744073709551616 := by omega
  have q6 : n * n % 18446744073709551616 * 3 / 18446744073709551616 ≤ 2 := by omega
  rw [← triple_hi, ← triple_lo]
  clear b0 b1 b2
  go_enter Try.func58, Try.ntmps58
  go_wp2_with (go_at_call 57; refine (mul64_any _ _ _ (by omega) (by omega) (by omega) (by omega)).mono ?_; rintro e w' ⟨rfl, rfl⟩)
  go_ret2
  exact ⟨rfl, rfl⟩

set_option maxHeartbeats 1000000 in
theorem sgnS_any (a b : Int) (w : World) (ha0 : -9223372036854775808 ≤ a) (ha1 : a ≤ 9223372036854775807) (hb0 : -9223372036854775808 ≤ b) (hb1 : b ≤ 9223372036854775807) :
    Calls Try.prog 17 #[.agg #[.int .i64 a, .int .i64 b]] w fun e w' => e = .returned (.int .i64 (sgnS ⟨a, b⟩)) ∧ Q w w' := by
  by_cases h1 : sgn a = sgn b
  · have e : sgnS ⟨a, b⟩ = sgn a := by simp [sgnS, h1]
    have h1 : (sgn a == sgn b) = true := by simpa using h1
    rw [e]
    clear e
    go_enter Try.func17, Try.ntmps17
    go_wp2
    refine wp_region_jk (by kernel_rfl) (by kernel_rfl) ?_
    repeat (go_big_quiet_step ((go_at_call 55; exact Calls.jk_of_same (ssign_any _ _))))
    refine wpQuiet_nil ?_
    intro _ hw'
    obtain ⟨kq, rfl⟩ := hw'
    go_wp2
    go_ret
    refine ⟨rfl, ?_⟩
    repeat' (first | exact Q.refl _ | refine Q.alloc ?_ _ | refine Q.jk ?_ _ | refine Q.drew ?_)
  by_cases h2 : sgn b = 0
  · have e : sgnS ⟨a, b⟩ = sgn a := by simp [sgnS, h2]
    have h1 : (sgn a == sgn b) = false := by simpa using h1
    have h2 : (sgn b == 0) = true := by simpa using h2
    rw [e]
    clear e
    go_enter Try.func17, Try.ntmps17
    go_wp2
    refine wp_region_jk (by kernel_rfl) (by kernel_rfl) ?_
    repeat (go_big_quiet_step ((go_at_call 55; exact Calls.jk_of_same (ssign_any _ _))))
    refine wpQuiet_nil ?_
    intro _ hw'
    obtain ⟨kq, rfl⟩ := hw'
    go_wp2
    go_ret
    refine ⟨rfl, ?_⟩
    repeat' (first | exact Q.refl _ | refine Q.alloc ?_ _ | refine Q.jk ?_ _ | refine Q.drew ?_)
  by_cases h3 : sgn a = 0
  · have e : sgnS ⟨a, b⟩ = sgn b := by simp [sgnS, h2, h3]
    have h1 : (sgn a == sgn b) = false := by simpa using h1
    have h2 : (sgn b == 0) = false := by simpa using h2
    have h3 : (sgn a == 0) = true := by simpa using h3
    rw [e]
    clear e
    go_enter Try.func17, Try.ntmps17
    go_wp2
    refine wp_region_jk (by kernel_rfl) (by kernel_rfl) ?_
    repeat (go_big_quiet_step ((go_at_call 55; exact Calls.jk_of_same (ssign_any _ _))))
    refine wpQuiet_nil ?_
    intro _ hw'
    obtain ⟨kq, rfl⟩ := hw'
    go_wp2
    go_ret
    refine ⟨rfl, ?_⟩
    repeat' (first | exact Q.refl _ | refine Q.alloc ?_ _ | refine Q.jk ?_ _ | refine Q.drew ?_)
  have e1 : 3 * mag b * mag b < mag a * mag a → sgn a = sgnS ⟨a, b⟩ := fun h => by simp [sgnS, h1, h2, h3, h]
  have e2 : ¬ 3 * mag b * mag b < mag a * mag a → sgn b = sgnS ⟨a, b⟩ := fun h => by simp [sgnS, h1, h2, h3, h]
  have E1 := Lib.hid e1
  have E2 := Lib.hid e2
  clear e1 e2
  have h1 : (sgn a == sgn b) = false := by simpa using h1
  have h2 : (sgn b == 0) = false := by simpa using h2
  have h3 : (sgn a == 0) = false := by simpa using h3
  obtain ⟨ma0, ma1⟩ := mag_bd ha0 ha1
  obtain ⟨mb0, mb1⟩ := mag_bd hb0 hb1
  have c1 : (3 * mag b * mag b / 18446744073709551616 < mag a * mag a / 18446744073709551616) ∨ (¬ (3 * mag b * mag b / 18446744073709551616 < mag a * mag a / 18446744073709551616) ∧ ((mag a * mag a / 18446744073709551616 == 3 * mag b * mag b / 18446744073709551616) = true ∧ (3 * mag b * mag b % 18446744073709551616 < mag a * mag a % 18446744073709551616))) ∨ (¬ (3 * mag b * mag b / 18446744073709551616 < mag a * mag a / 18446744073709551616) ∧ ((mag a * mag a / 18446744073709551616 == 3 * mag b * mag b / 18446744073709551616) = true ∧ ¬ (3 * mag b * mag b % 18446744073709551616 < mag a * mag a % 18446744073709551616))) ∨ (¬ (3 * mag b * mag b / 18446744073709551616 < mag a * mag a / 18446744073709551616) ∧ (mag a * mag a / 18446744073709551616 == 3 * mag b * mag b / 18446744073709551616) = false) := by
    by_cases q1 : 3 * mag b * mag b / 18446744073709551616 < mag a * mag a / 18446744073709551616
    · exact Or.inl q1
    · cases q2 : (mag a * mag a / 18446744073709551616 == 3 * mag b * mag b / 18446744073709551616)
      · exact Or.inr (Or.inr (Or.inr ⟨q1, rfl⟩))
      · by_cases q3 : 3 * mag b * mag b % 18446744073709551616 < mag a * mag a % 18446744073709551616
        · exact Or.inr (Or.inl ⟨q1, rfl, q3⟩)
        · exact Or.inr (Or.inr (Or.inl ⟨q1, rfl, q3⟩))
  rcases c1 with q1 | ⟨q1, q2, q3⟩ | ⟨q1, q2, q3⟩ | ⟨q1, q2⟩
  · have E := Lib.hid (E1.out (by omega))
    clear E1 E2
    go_enter Try.func17, Try.ntmps17
    go_wp2
    refine wp_region_jk (by kernel_rfl) (by kernel_rfl) ?_
    repeat (go_big_quiet_step ((go_at_call 55; exact Calls.jk_of_same (ssign_any _ _))))
    refine wpQuiet_nil ?_
    intro _ hw'
    obtain ⟨kq, rfl⟩ := hw'
    go_wp2
    refine wp_region_jk (by kernel_rfl) (by kernel_rfl) ?_
    repeat (go_big_quiet_step ((go_at_call 56; exact Calls.jk_of_same (size_any _ _ (by omega) (by omega)))))
    refine wpQuiet_nil ?_
    intro _ hw'
    obtain ⟨kq, rfl⟩ := hw'
    go_wp2_with (first | (go_at_call 57; refine (mul64_any _ _ _ (by omega) (by omega) (by omega) (by omega)).mono ?_; rintro e w' ⟨rfl, rfl⟩) | (go_at_call 58; refine (triple_any _ _ (by omega) (by omega)).mono ?_; rintro e w' ⟨rfl, rfl⟩))
    go_ret
    refine ⟨by rw [← E.out]; rfl, ?_⟩
    repeat' (first | exact Q.refl _ | refine Q.alloc ?_ _ | refine Q.jk ?_ _ | refine Q.drew ?_)
  · have E := Lib.hid (E1.out (by have := beq_iff_eq.1 q2; omega))
    clear E1 E2
    go_enter Try.func17, Try.ntmps17
    go_wp2
    refine wp_region_jk (by kernel_rfl) (by kernel_rfl) ?_
    repeat (go_big_quiet_step ((go_at_call 55; exact Calls.jk_of_same (ssign_any _ _))))
    refine wpQuiet_nil ?_
    intro _ hw'
    obtain ⟨kq, rfl⟩ := hw'
    go_wp2
    refine wp_region_jk (by kernel_rfl) (by kernel_rfl) ?_
    repeat (go_big_quiet_step ((go_at_call 56; exact Calls.jk_of_same (size_any _ _ (by omega) (by omega)))))
    refine wpQuiet_nil ?_
    intro _ hw'
    obtain ⟨kq, rfl⟩ := hw'
    go_wp2_with (first | (go_at_call 57; refine (mul64_any _ _ _ (by omega) (by omega) (by omega) (by omega)).mono ?_; rintro e w' ⟨rfl, rfl⟩) | (go_at_call 58; refine (triple_any _ _ (by omega) (by omega)).mono ?_; rintro e w' ⟨rfl, rfl⟩))
    go_ret
    refine ⟨by rw [← E.out]; rfl, ?_⟩
    repeat' (first | exact Q.refl _ | refine Q.alloc ?_ _ | refine Q.jk ?_ _ | refine Q.drew ?_)
  · have E := Lib.hid (E2.out (by have := beq_iff_eq.1 q2; omega))
    clear E1 E2
    go_enter Try.func17, Try.ntmps17
    go_wp2
    refine wp_region_jk (by kernel_rfl) (by kernel_rfl) ?_
    repeat (go_big_quiet_step ((go_at_call 55; exact Calls.jk_of_same (ssign_any _ _))))
    refine wpQuiet_nil ?_
    intro _ hw'
    obtain ⟨kq, rfl⟩ := hw'
    go_wp2
    refine wp_region_jk (by kernel_rfl) (by kernel_rfl) ?_
    repeat (go_big_quiet_step ((go_at_call 56; exact Calls.jk_of_same (size_any _ _ (by omega) (by omega)))))
    refine wpQuiet_nil ?_
    intro _ hw'
    obtain ⟨kq, rfl⟩ := hw'
    go_wp2_with (first | (go_at_call 57; refine (mul64_any _ _ _ (by omega) (by omega) (by omega) (by omega)).mono ?_; rintro e w' ⟨rfl, rfl⟩) | (go_at_call 58; refine (triple_any _ _ (by omega) (by omega)).mono ?_; rintro e w' ⟨rfl, rfl⟩))
    go_ret
    refine ⟨by rw [← E.out]; rfl, ?_⟩
    repeat' (first | exact Q.refl _ | refine Q.alloc ?_ _ | refine Q.jk ?_ _ | refine Q.drew ?_)
  · have E := Lib.hid (E2.out (by have := beq_eq_false_iff_ne.1 q2; omega))
    clear E1 E2
    go_enter Try.func17, Try.ntmps17
    go_wp2
    refine wp_region_jk (by kernel_rfl) (by kernel_rfl) ?_
    repeat (go_big_quiet_step ((go_at_call 55; exact Calls.jk_of_same (ssign_any _ _))))
    refine wpQuiet_nil ?_
    intro _ hw'
    obtain ⟨kq, rfl⟩ := hw'
    go_wp2
    refine wp_region_jk (by kernel_rfl) (by kernel_rfl) ?_
    repeat (go_big_quiet_step ((go_at_call 56; exact Calls.jk_of_same (size_any _ _ (by omega) (by omega)))))
    refine wpQuiet_nil ?_
    intro _ hw'
    obtain ⟨kq, rfl⟩ := hw'
    go_wp2_with (first | (go_at_call 57; refine (mul64_any _ _ _ (by omega) (by omega) (by omega) (by omega)).mono ?_; rintro e w' ⟨rfl, rfl⟩) | (go_at_call 58; refine (triple_any _ _ (by omega) (by omega)).mono ?_; rintro e w' ⟨rfl, rfl⟩))
    go_ret
    refine ⟨by rw [← E.out]; rfl, ?_⟩
    repeat' (first | exact Q.refl _ | refine Q.alloc ?_ _ | refine Q.jk ?_ _ | refine Q.drew ?_)
end Go.Proofs.Ytkkjifgcjfbcaaa
