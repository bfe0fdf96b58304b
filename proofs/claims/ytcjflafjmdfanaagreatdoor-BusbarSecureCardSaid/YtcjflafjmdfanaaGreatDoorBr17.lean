
/- Helpers of the frame of a law's proof, of no program: arrays of integers opened; a call that leaves all that was there meets the specification 'true, and the arguments read as they did'. -/
import Derived.Test.YtcjflafjmdfanaaGreatDoorBr16
import Derived.Test.YtcjflafjmdfanaaGreatDoorBr01
import Derived.Test.YtcjflafjmdfanaaGreatDoorRows
import Derived.Laws.MathBits
import Derived.ProofKit
import Derived.OpenShut
import Derived.Lib.LaidTab
import Derived.Lib.SmallJoins
import Derived.Carry
import Derived.Deep.DeepHandedRow
set_option linter.unusedSimpArgs false
set_option linter.unusedVariables false
/- Small on a number, and what turns, conjugates and sums come to: plain laws. -/
namespace Go.Sub
def smallC (x : Cy) : Cy := ⟨x.a.tmod 4096, x.b.tmod 4096, x.c.tmod 4096, x.d.tmod 4096⟩
theorem rootC_in (k : Int) : (rootC k).In 2 := Go.Proofs.YtcjflafjmdfanaaGreatDoor.turn_in k (x := ⟨1, 0, 0, 0⟩) (l := 1) (by unfold Cy.In; decide)
theorem Cy.balanced (x : Cy) : (x.add (x.turn 4)).add (x.turn 8) = ⟨0, 0, 0, 0⟩ := by
 apply Cy.ext' <;> simp only [Cy.turn, Cy.add, Cy.tn, Int.reduceMod, Int.reduceToNat] <;> omega
def Su.eqB (x y : Su) : Bool := x.a == y.a && x.b == y.b
@[go_sem] theorem Su.eqB_self (x : Su) : x.eqB x = true := by simp [Su.eqB]
theorem Su.eqB_of {x y : Su} (h : x = y) : x.eqB y = true := h ▸ Su.eqB_self x
theorem Su.eqB_iff (x y : Su) : x.eqB y = true ↔ x = y := by cases x; cases y; simp [Su.eqB]
end Go.Sub
namespace Go.Proofs.YtcjflafjmdfanaaGreatDoor
open Go.RowKit Go.Sub
@[go_sem high] theorem eqlSurd (w : World) (a b a' b' : Int) :
  (binOp .eql 166 (.agg #[.int .i64 a, .int .i64 b]) (.agg #[.int .i64 a', .int .i64 b'])).run Tryz.prog w = .ok (.bool (Su.eqB ⟨a, b⟩ ⟨a', b'⟩)) w := by
 simp only [Su.eqB]
 by_cases h : a = a'
 ·subst h; by_cases h2 : b = b' <;> simp [go_sem, h2]
 ·simp [go_sem, h]
end Go.Proofs.YtcjflafjmdfanaaGreatDoor
/- The plain arithmetic of numbers A + B*sqrt(3), with the errors of the program. No program in sight. -/
namespace Go.Sub
def wi4 (l a b c d : Int) : Bool := !(brkB l a) && !(brkB l b) && !(brkB l c) && !(brkB l d)
def wi3 (l a b c : Int) : Bool := !(brkB l a) && !(brkB l b) && !(brkB l c)
def wi2 (l a b : Int) : Bool := !(brkB l a) && !(brkB l b)
theorem wi4_iff (l a b c d : Int) : wi4 l a b c d = true ↔ -l ≤ a ∧ a ≤ l ∧ -l ≤ b ∧ b ≤ l ∧ -l ≤ c ∧ c ≤ l ∧ -l ≤ d ∧ d ≤ l := by
 simp only [wi4, brkB, Bool.and_eq_true, Bool.not_eq_true', Bool.or_eq_false_iff, decide_eq_false_iff_not]
 omega
theorem wi3_iff (l a b c : Int) : wi3 l a b c = true ↔ -l ≤ a ∧ a ≤ l ∧ -l ≤ b ∧ b ≤ l ∧ -l ≤ c ∧ c ≤ l := by
 simp only [wi3, brkB, Bool.and_eq_true, Bool.not_eq_true', Bool.or_eq_false_iff, decide_eq_false_iff_not]
 omega
theorem wi2_iff (l a b : Int) : wi2 l a b = true ↔ -l ≤ a ∧ a ≤ l ∧ -l ≤ b ∧ b ≤ l := by
 simp only [wi2, brkB, Bool.and_eq_true, Bool.not_eq_true', Bool.or_eq_false_iff, decide_eq_false_iff_not]
 omega
def Su.In (x : Su) (l : Int) : Prop := -l ≤ x.a ∧ x.a ≤ l ∧ -l ≤ x.b ∧ x.b ≤ l
def Su.add (x y : Su) : Su := ⟨x.a + y.a, x.b + y.b⟩
def Su.sub (x y : Su) : Su := ⟨x.a - y.a, x.b - y.b⟩
def Su.mul (x y : Su) : Su := ⟨x.a * y.a + 3 * x.b * y.b, x.a * y.b + x.b * y.a⟩
def Su.conj (x : Su) : Su := ⟨x.a, -x.b⟩
def Su.norm (x : Su) : Int := x.a * x.a - 3 * x.b * x.b
def zeroS : Su := ⟨0, 0⟩
def limS (x : Su) : R2 := if wi2 1152921504606846976 x.a x.b then ⟨x, 0⟩ else ⟨zeroS, 2⟩
def saddR (x y : Su) : R2 := if wi4 1152921504606846976 x.a x.b y.a y.b then limS (x.add y) else ⟨zeroS, 1⟩
def ssubR (x y : Su) : R2 := if wi4 1152921504606846976 x.a x.b y.a y.b then limS (x.sub y) else ⟨zeroS, 1⟩
def smulR (x y : Su) : R2 := if wi4 268435456 x.a x.b y.a y.b then limS (x.mul y) else ⟨zeroS, 1⟩
theorem Su.ext' {x y : Su} (h1 : x.a = y.a) (h2 : x.b = y.b) : x = y := by cases x; cases y; simp_all
end Go.Sub
/- What within, limited, Add and Mul of package surd return. -/
namespace Go.Proofs.YtcjflafjmdfanaaGreatDoor
open Go.RowKit Go.Sub

set_option maxHeartbeats 1000000 in
theorem swithin4 (bk : Nat) (a b c d l : Int) (w : World) (h0 : 0 ≤ l) (h1 : l ≤ 4000000000000000000) (c0 : w.cell? ⟨bk, 0, none⟩ = some (.int .i64 a)) (c1 : w.cell? ⟨bk, 1, none⟩ = some (.int .i64 b)) (c2 : w.cell? ⟨bk, 2, none⟩ = some (.int .i64 c)) (c3 : w.cell? ⟨bk, 3, none⟩ = some (.int .i64 d)) :
  Calls Tryz.prog 133 #[.int .i64 l, .slice (some ⟨bk, 0, none⟩) 4 4] w fun e w' => e = .returned (.bool (wi4 l a b c d)) ∧ w = w' := by
 go_enter Tryz.func133, Tryz.ntmps133
 go_wp2
 refine wp_loop_rounds 5 ?_
 repeat any_goals (rw [rounds_succ]; go_wp2)
 all_goals go_ret
 all_goals (refine ⟨?_, rfl⟩; simp [wi4, brkB, *] <;> omega)

set_option maxHeartbeats 1000000 in
theorem swithin2 (bk : Nat) (a b l : Int) (w : World) (h0 : 0 ≤ l) (h1 : l ≤ 4000000000000000000) (c0 : w.cell? ⟨bk, 0, none⟩ = some (.int .i64 a)) (c1 : w.cell? ⟨bk, 1, none⟩ = some (.int .i64 b)) :
  Calls Tryz.prog 133 #[.int .i64 l, .slice (some ⟨bk, 0, none⟩) 2 2] w fun e w' => e = .returned (.bool (wi2 l a b)) ∧ w = w' := by
 go_enter Tryz.func133, Tryz.ntmps133
 go_wp2
 refine wp_loop_rounds 3 ?_
 repeat any_goals (rw [rounds_succ]; go_wp2)
 all_goals go_ret
 all_goals (refine ⟨?_, rfl⟩; simp [wi2, brkB, *] <;> omega)

set_option maxHeartbeats 1000000 in
theorem slimited_any (a b : Int) (w : World) :
  Calls Tryz.prog 149 #[.agg #[.int .i64 a, .int .i64 b]] w fun e w' => e = .returned (.tuple #[.agg #[.int .i64 (limS ⟨a, b⟩).v.a, .int .i64 (limS ⟨a, b⟩).v.b], .int .i64 (limS ⟨a, b⟩).e]) ∧ Q w w' := by
 by_cases h : wi2 1152921504606846976 a b = true
 ·go_enter Tryz.func149, Tryz.ntmps149
  go_wp2_with (go_at_call 133; refine (swithin2 _ a b 1152921504606846976 _ (by omega) (by omega) (by simp [go_sem]) (by simp [go_sem])).mono ?_; rintro e w' ⟨rfl, rfl⟩)
  refine bodyPost_ret (v := .tuple #[.agg #[.int .i64 a, .int .i64 b], .int .i64 0]) (by simp [results, Tryz.results149, go_sem]) rfl ⟨by simp [limS, h], ?_⟩
  repeat' (first | exact Q.refl _ | refine Q.alloc ?_ _ | refine Q.jk ?_ _ | refine Q.drew ?_)
 ·have h : wi2 1152921504606846976 a b = false := by simpa using h
  go_enter Tryz.func149, Tryz.ntmps149
  go_wp2_with (go_at_call 133; refine (swithin2 _ a b 1152921504606846976 _ (by omega) (by omega) (by simp [go_sem]) (by simp [go_sem])).mono ?_; rintro e w' ⟨rfl, rfl⟩)
  refine bodyPost_ret (v := .tuple #[.agg #[.int .i64 0, .int .i64 0], .int .i64 2]) (by simp [results, Tryz.results149, go_sem]) rfl ⟨by simp [limS, h, zeroS], ?_⟩
  repeat' (first | exact Q.refl _ | refine Q.alloc ?_ _ | refine Q.jk ?_ _ | refine Q.drew ?_)

set_option maxHeartbeats 1000000 in
theorem sadd_any (a b a' b' : Int) (w : World) :
  Calls Tryz.prog 132 #[.agg #[.int .i64 a, .int .i64 b], .agg #[.int .i64 a', .int .i64 b']] w fun e w' => e = .returned (.tuple #[.agg #[.int .i64 (saddR ⟨a, b⟩ ⟨a', b'⟩).v.a, .int .i64 (saddR ⟨a, b⟩ ⟨a', b'⟩).v.b], .int .i64 (saddR ⟨a, b⟩ ⟨a', b'⟩).e]) ∧ Q w w' := by
 by_cases h : wi4 1152921504606846976 a b a' b' = true
 ·obtain ⟨l1, l2, l3, l4, m1, m2, m3, m4⟩ := (wi4_iff _ _ _ _ _).1 h
  have hR : saddR ⟨a, b⟩ ⟨a', b'⟩ = limS ⟨a + a', b + b'⟩ := by simp [saddR, h, Su.add]
  rw [hR]
  clear hR
  go_enter Tryz.func132, Tryz.ntmps132
  go_wp2_with (first | (go_at_call 133; refine (swithin4 _ a b a' b' 1152921504606846976 _ (by omega) (by omega) (by simp [go_sem]) (by simp [go_sem]) (by simp [go_sem]) (by simp [go_sem])).mono ?_; rintro e w' ⟨rfl, rfl⟩) | (go_at_call 149; refine (slimited_any _ _ _).mono ?_; rintro e w' ⟨rfl, kj, rfl⟩))
  refine bodyPost_ret (v := .tuple #[.agg #[.int .i64 (limS ⟨a + a', b + b'⟩).v.a, .int .i64 (limS ⟨a + a', b + b'⟩).v.b], .int .i64 (limS ⟨a + a', b + b'⟩).e]) (by simp [results, Tryz.results132, go_sem]) rfl ⟨rfl, ?_⟩
  repeat' (first | exact Q.refl _ | refine Q.alloc ?_ _ | refine Q.jk ?_ _ | refine Q.drew ?_)
 ·have h : wi4 1152921504606846976 a b a' b' = false := by simpa using h
  go_enter Tryz.func132, Tryz.ntmps132
  go_wp2_with (go_at_call 133; refine (swithin4 _ a b a' b' 1152921504606846976 _ (by omega) (by omega) (by simp [go_sem]) (by simp [go_sem]) (by simp [go_sem]) (by simp [go_sem])).mono ?_; rintro e w' ⟨rfl, rfl⟩)
  refine bodyPost_ret (v := .tuple #[.agg #[.int .i64 (R2.mk zeroS 1).v.a, .int .i64 (R2.mk zeroS 1).v.b], .int .i64 (R2.mk zeroS 1).e]) (by simp [results, Tryz.results132, go_sem, zeroS]) rfl ⟨by simp [saddR, h], ?_⟩
  repeat' (first | exact Q.refl _ | refine Q.alloc ?_ _ | refine Q.jk ?_ _ | refine Q.drew ?_)

end Go.Proofs.YtcjflafjmdfanaaGreatDoor
/- What math/bits.Mul64, and size, sign and triple of package surd return. -/
namespace Go.Sub
theorem mask32 (a : Int) (h0 : 0 ≤ a) (h1 : a < 18446744073709551616) : bits .and .u64 a 4294967295 = a % 4294967296 := by
 obtain ⟨n, rfl⟩ := Int.eq_ofNat_of_zero_le h0
 have h := bits_and_u64_nat n 4294967295 (by omega) (by omega)
 rw [Nat.and_two_pow_sub_one_eq_mod n 32] at h
 refine Eq.trans h ?_
 omega
theorem mask32w (a : Int) : bits .and .u64 (a % 18446744073709551616) 4294967295 = a % 18446744073709551616 % 4294967296 := mask32 _ (by omega) (by omega)
def sgn (n : Int) : Int := if n < 0 then -1 else if 0 < n then 1 else 0
def mag (n : Int) : Int := if n < 0 then -n else n
/-- The sign of A + B*sqrt(3), as the program finds it. -/
def sgnS (x : Su) : Int := if sgn x.a = sgn x.b ∨ sgn x.b = 0 then sgn x.a else if sgn x.a = 0 then sgn x.b else if 3 * mag x.b * mag x.b < mag x.a * mag x.a then sgn x.a else sgn x.b
theorem mag_bd {n : Int} (h0 : -9223372036854775808 ≤ n) (h1 : n ≤ 9223372036854775807) : 0 ≤ mag n ∧ mag n ≤ 9223372036854775808 := by
 unfold mag; split <;> omega
end Go.Sub
namespace Go.Proofs.YtcjflafjmdfanaaGreatDoor
open Go.RowKit Go.Sub
set_option maxHeartbeats 1000000 in
theorem mul64_any (x y : Int) (w : World) (hx0 : 0 ≤ x) (hx : x < 18446744073709551616) (hy0 : 0 ≤ y) (hy : y < 18446744073709551616) :
  Calls Tryz.prog 153 #[.int .u64 x, .int .u64 y] w fun e w' => e = .returned (.tuple #[.int .u64 (x * y / 18446744073709551616), .int .u64 (x * y % 18446744073709551616)]) ∧ w = w' := by
 go_enter Tryz.func153, Tryz.ntmps153
 go_wp2
 simp only [mask32 x hx0 hx, mask32 y hy0 hy, IntKind.wrap_u64, mask32w]
 rw [mul64_arith x y hx0 hx hy0 hy]
 go_ret2
 exact ⟨rfl, rfl⟩
set_option maxHeartbeats 1000000 in
theorem size_any (n : Int) (w : World) (h0 : -9223372036854775808 ≤ n) (h1 : n ≤ 9223372036854775807) :
  Calls Tryz.prog 152 #[.int .i64 n] w fun e w' => e = .returned (.int .u64 (mag n)) ∧ w = w' := by
 by_cases h : n < 0
 ·have e : mag n = -n := by simp [mag, h]
  rw [e]
  clear e
  go_enter Tryz.func152, Tryz.ntmps152
  go_wp2
  simp only [IntKind.wrap_u64]
  rw [show -(n % 18446744073709551616) % 18446744073709551616 = -n by omega]
  go_ret
  exact ⟨rfl, rfl⟩
 ·have e : mag n = n := by simp [mag, h]
  rw [e]
  clear e
  go_enter Tryz.func152, Tryz.ntmps152
  go_wp2
  go_ret
  exact ⟨rfl, rfl⟩
set_option maxHeartbeats 1000000 in
theorem ssign_any (n : Int) (w : World) :
  Calls Tryz.prog 151 #[.int .i64 n] w fun e w' => e = .returned (.int .i64 (sgn n)) ∧ w = w' := by
 by_cases h : n < 0
 ·rw [show sgn n = -1 by simp [sgn, h]]
  go_enter Tryz.func151, Tryz.ntmps151
  go_wp2
  go_ret
  exact ⟨rfl, rfl⟩
 ·by_cases h2 : 0 < n
  ·rw [show sgn n = 1 by simp [sgn, h, h2]]
   go_enter Tryz.func151, Tryz.ntmps151
   go_wp2
   go_ret
   exact ⟨rfl, rfl⟩
  ·rw [show sgn n = 0 by simp [sgn, h, h2]]
   go_enter Tryz.func151, Tryz.ntmps151
   go_wp2
   go_ret
   exact ⟨rfl, rfl⟩
theorem triple_hi (n : Int) : 3 * (n * n / 18446744073709551616) + n * n % 18446744073709551616 * 3 / 18446744073709551616 = 3 * n * n / 18446744073709551616 := by
 rw [Int.mul_assoc]; omega
theorem triple_lo (n : Int) : n * n % 18446744073709551616 * 3 % 18446744073709551616 = 3 * n * n % 18446744073709551616 := by
 rw [Int.mul_assoc]; omega
set_option maxHeartbeats 1000000 in
theorem triple_any (n : Int) (w : World) (h0 : 0 ≤ n) (h1 : n ≤ 9223372036854775808) :
  Calls Tryz.prog 154 #[.int .u64 n] w fun e w' => e = .returned (.tuple #[.int .u64 (3 * n * n / 18446744073709551616), .int .u64 (3 * n * n % 18446744073709551616)]) ∧ w = w' := by
 obtain ⟨b1, b2⟩ := bd_mul (a := n) (b := n) (n := 9223372036854775808) (m := 9223372036854775808) (by omega) h1 (by omega) h1
 have b0 : 0 ≤ n * n := Int.mul_nonneg h0 h0
 simp only [Int.reduceMul, Int.reduceNeg] at b1 b2
 have q1 : 0 ≤ n * n / 18446744073709551616 := by omega
 have q2 : n * n / 18446744073709551616 ≤ 4611686018427387904 := by omega
 have q3 : 0 ≤ n * n % 18446744073709551616 := by omega
 have q4 : n * n % 18446744073709551616 < 18446744073709551616 := by omega
 have q5 : 0 ≤ n * n % 18446744073709551616 * 3 / 18446744073709551616 := by omega
 have q6 : n * n % 18446744073709551616 * 3 / 18446744073709551616 ≤ 2 := by omega
 rw [← triple_hi, ← triple_lo]
 clear b0 b1 b2
 go_enter Tryz.func154, Tryz.ntmps154
 go_wp2_with (go_at_call 153; refine (mul64_any _ _ _ (by omega) (by omega) (by omega) (by omega)).mono ?_; rintro e w' ⟨rfl, rfl⟩)
 go_ret2
 exact ⟨rfl, rfl⟩

set_option maxHeartbeats 1000000 in
theorem sgnS_any (a b : Int) (w : World) (ha0 : -9223372036854775808 ≤ a) (ha1 : a ≤ 9223372036854775807) (hb0 : -9223372036854775808 ≤ b) (hb1 : b ≤ 9223372036854775807) :
  Calls Tryz.prog 134 #[.agg #[.int .i64 a, .int .i64 b]] w fun e w' => e = .returned (.int .i64 (sgnS ⟨a, b⟩)) ∧ Q w w' := by
 by_cases h1 : sgn a = sgn b
 ·have e : sgnS ⟨a, b⟩ = sgn a := by simp [sgnS, h1]
  have h1 : (sgn a == sgn b) = true := by simpa using h1
  rw [e]
  clear e
  go_enter Tryz.func134, Tryz.ntmps134
  go_wp2
  refine wp_region_jk (by kernel_rfl) (by kernel_rfl) ?_
  repeat (go_big_quiet_step ((go_at_call 151; exact Calls.jk_of_same (ssign_any _ _))))
  refine wpQuiet_nil ?_
  intro _ hw'
  obtain ⟨kq, rfl⟩ := hw'
  go_wp2
  go_ret
  refine ⟨rfl, ?_⟩
  repeat' (first | exact Q.refl _ | refine Q.alloc ?_ _ | refine Q.jk ?_ _ | refine Q.drew ?_)
 by_cases h2 : sgn b = 0
 ·have e : sgnS ⟨a, b⟩ = sgn a := by simp [sgnS, h2]
  have h1 : (sgn a == sgn b) = false := by simpa using h1
  have h2 : (sgn b == 0) = true := by simpa using h2
  rw [e]
  clear e
  go_enter Tryz.func134, Tryz.ntmps134
  go_wp2
  refine wp_region_jk (by kernel_rfl) (by kernel_rfl) ?_
  repeat (go_big_quiet_step ((go_at_call 151; exact Calls.jk_of_same (ssign_any _ _))))
  refine wpQuiet_nil ?_
  intro _ hw'
  obtain ⟨kq, rfl⟩ := hw'
  go_wp2
  go_ret
  refine ⟨rfl, ?_⟩
  repeat' (first | exact Q.refl _ | refine Q.alloc ?_ _ | refine Q.jk ?_ _ | refine Q.drew ?_)
 by_cases h3 : sgn a = 0
 ·have e : sgnS ⟨a, b⟩ = sgn b := by simp [sgnS, h2, h3]
  have h1 : (sgn a == sgn b) = false := by simpa using h1
  have h2 : (sgn b == 0) = false := by simpa using h2
  have h3 : (sgn a == 0) = true := by simpa using h3
  rw [e]
  clear e
  go_enter Tryz.func134, Tryz.ntmps134
  go_wp2
  refine wp_region_jk (by kernel_rfl) (by kernel_rfl) ?_
  repeat (go_big_quiet_step ((go_at_call 151; exact Calls.jk_of_same (ssign_any _ _))))
  refine wpQuiet_nil ?_
  intro _ hw'
  obtain ⟨kq, rfl⟩ := hw'
  go_wp2
  go_ret
  refine ⟨rfl, ?_⟩
  repeat' (first | exact Q.refl _ | refine Q.alloc ?_ _ | refine Q.jk ?_ _ | refine Q.drew ?_)
 have e1 : 3 * mag b * mag b < mag a * mag a → sgn a = sgnS ⟨a, b⟩ := fun h => by simp [sgnS, h1, h2, h3, h]
 have e2 : ¬ 3 * mag b * mag b < mag a * mag a → sgn b = sgnS ⟨a, b⟩ := fun h => by simp [sgnS, h1, h2, h3, h]
 have E1 := Lib.hid e1
 have E2 := Lib.hid e2
 clear e1 e2
 have h1 : (sgn a == sgn b) = false := by simpa using h1
 have h2 : (sgn b == 0) = false := by simpa using h2
 have h3 : (sgn a == 0) = false := by simpa using h3
 obtain ⟨ma0, ma1⟩ := mag_bd ha0 ha1
 obtain ⟨mb0, mb1⟩ := mag_bd hb0 hb1
 have c1 : (3 * mag b * mag b / 18446744073709551616 < mag a * mag a / 18446744073709551616) ∨ (¬ (3 * mag b * mag b / 18446744073709551616 < mag a * mag a / 18446744073709551616) ∧ ((mag a * mag a / 18446744073709551616 == 3 * mag b * mag b / 18446744073709551616) = true ∧ (3 * mag b * mag b % 18446744073709551616 < mag a * mag a % 18446744073709551616))) ∨ (¬ (3 * mag b * mag b / 18446744073709551616 < mag a * mag a / 18446744073709551616) ∧ ((mag a * mag a / 18446744073709551616 == 3 * mag b * mag b / 18446744073709551616) = true ∧ ¬ (3 * mag b * mag b % 18446744073709551616 < mag a * mag a % 18446744073709551616))) ∨ (¬ (3 * mag b * mag b / 18446744073709551616 < mag a * mag a / 18446744073709551616) ∧ (mag a * mag a / 18446744073709551616 == 3 * mag b * mag b / 18446744073709551616) = false) := by
  by_cases q1 : 3 * mag b * mag b / 18446744073709551616 < mag a * mag a / 18446744073709551616
  ·exact Or.inl q1
  ·cases q2 : (mag a * mag a / 18446744073709551616 == 3 * mag b * mag b / 18446744073709551616)
   ·exact Or.inr (Or.inr (Or.inr ⟨q1, rfl⟩))
   ·by_cases q3 : 3 * mag b * mag b % 18446744073709551616 < mag a * mag a % 18446744073709551616
    ·exact Or.inr (Or.inl ⟨q1, rfl, q3⟩)
    ·exact Or.inr (Or.inr (Or.inl ⟨q1, rfl, q3⟩))
 rcases c1 with q1 | ⟨q1, q2, q3⟩ | ⟨q1, q2, q3⟩ | ⟨q1, q2⟩
 ·have E := Lib.hid (E1.out (by omega))
  clear E1 E2
  go_enter Tryz.func134, Tryz.ntmps134
  go_wp2
  refine wp_region_jk (by kernel_rfl) (by kernel_rfl) ?_
  repeat (go_big_quiet_step ((go_at_call 151; exact Calls.jk_of_same (ssign_any _ _))))
  refine wpQuiet_nil ?_
  intro _ hw'
  obtain ⟨kq, rfl⟩ := hw'
  go_wp2
  refine wp_region_jk (by kernel_rfl) (by kernel_rfl) ?_
  repeat (go_big_quiet_step ((go_at_call 152; exact Calls.jk_of_same (size_any _ _ (by omega) (by omega)))))
  refine wpQuiet_nil ?_
  intro _ hw'
  obtain ⟨kq, rfl⟩ := hw'
  go_wp2_with (first | (go_at_call 153; refine (mul64_any _ _ _ (by omega) (by omega) (by omega) (by omega)).mono ?_; rintro e w' ⟨rfl, rfl⟩) | (go_at_call 154; refine (triple_any _ _ (by omega) (by omega)).mono ?_; rintro e w' ⟨rfl, rfl⟩))
  go_ret
  refine ⟨by rw [← E.out]; rfl, ?_⟩
  repeat' (first | exact Q.refl _ | refine Q.alloc ?_ _ | refine Q.jk ?_ _ | refine Q.drew ?_)
 ·have E := Lib.hid (E1.out (by have := beq_iff_eq.1 q2; omega))
  clear E1 E2
  go_enter Tryz.func134, Tryz.ntmps134
  go_wp2
  refine wp_region_jk (by kernel_rfl) (by kernel_rfl) ?_
  repeat (go_big_quiet_step ((go_at_call 151; exact Calls.jk_of_same (ssign_any _ _))))
  refine wpQuiet_nil ?_
  intro _ hw'
  obtain ⟨kq, rfl⟩ := hw'
  go_wp2
  refine wp_region_jk (by kernel_rfl) (by kernel_rfl) ?_
  repeat (go_big_quiet_step ((go_at_call 152; exact Calls.jk_of_same (size_any _ _ (by omega) (by omega)))))
  refine wpQuiet_nil ?_
  intro _ hw'
  obtain ⟨kq, rfl⟩ := hw'
  go_wp2_with (first | (go_at_call 153; refine (mul64_any _ _ _ (by omega) (by omega) (by omega) (by omega)).mono ?_; rintro e w' ⟨rfl, rfl⟩) | (go_at_call 154; refine (triple_any _ _ (by omega) (by omega)).mono ?_; rintro e w' ⟨rfl, rfl⟩))
  go_ret
  refine ⟨by rw [← E.out]; rfl, ?_⟩
  repeat' (first | exact Q.refl _ | refine Q.alloc ?_ _ | refine Q.jk ?_ _ | refine Q.drew ?_)
 ·have E := Lib.hid (E2.out (by have := beq_iff_eq.1 q2; omega))
  clear E1 E2
  go_enter Tryz.func134, Tryz.ntmps134
  go_wp2
  refine wp_region_jk (by kernel_rfl) (by kernel_rfl) ?_
  repeat (go_big_quiet_step ((go_at_call 151; exact Calls.jk_of_same (ssign_any _ _))))
  refine wpQuiet_nil ?_
  intro _ hw'
  obtain ⟨kq, rfl⟩ := hw'
  go_wp2
  refine wp_region_jk (by kernel_rfl) (by kernel_rfl) ?_
  repeat (go_big_quiet_step ((go_at_call 152; exact Calls.jk_of_same (size_any _ _ (by omega) (by omega)))))
  refine wpQuiet_nil ?_
  intro _ hw'
  obtain ⟨kq, rfl⟩ := hw'
  go_wp2_with (first | (go_at_call 153; refine (mul64_any _ _ _ (by omega) (by omega) (by omega) (by omega)).mono ?_; rintro e w' ⟨rfl, rfl⟩) | (go_at_call 154; refine (triple_any _ _ (by omega) (by omega)).mono ?_; rintro e w' ⟨rfl, rfl⟩))
  go_ret
  refine ⟨by rw [← E.out]; rfl, ?_⟩
  repeat' (first | exact Q.refl _ | refine Q.alloc ?_ _ | refine Q.jk ?_ _ | refine Q.drew ?_)
 ·have E := Lib.hid (E2.out (by have := beq_eq_false_iff_ne.1 q2; omega))
  clear E1 E2
  go_enter Tryz.func134, Tryz.ntmps134
  go_wp2
  refine wp_region_jk (by kernel_rfl) (by kernel_rfl) ?_
  repeat (go_big_quiet_step ((go_at_call 151; exact Calls.jk_of_same (ssign_any _ _))))
  refine wpQuiet_nil ?_
  intro _ hw'
  obtain ⟨kq, rfl⟩ := hw'
  go_wp2
  refine wp_region_jk (by kernel_rfl) (by kernel_rfl) ?_
  repeat (go_big_quiet_step ((go_at_call 152; exact Calls.jk_of_same (size_any _ _ (by omega) (by omega)))))
  refine wpQuiet_nil ?_
  intro _ hw'
  obtain ⟨kq, rfl⟩ := hw'
  go_wp2_with (first | (go_at_call 153; refine (mul64_any _ _ _ (by omega) (by omega) (by omega) (by omega)).mono ?_; rintro e w' ⟨rfl, rfl⟩) | (go_at_call 154; refine (triple_any _ _ (by omega) (by omega)).mono ?_; rintro e w' ⟨rfl, rfl⟩))
  go_ret
  refine ⟨by rw [← E.out]; rfl, ?_⟩
  repeat' (first | exact Q.refl _ | refine Q.alloc ?_ _ | refine Q.jk ?_ _ | refine Q.drew ?_)
end Go.Proofs.YtcjflafjmdfanaaGreatDoor
/- What times and Scale of package surd return. -/
namespace Go.Sub
def sscaleR (x : Su) (k : Int) : R2 := if wi3 1152921504606846976 x.a x.b k then limS ⟨x.a * k, x.b * k⟩ else ⟨zeroS, 1⟩
theorem mag_mul (n k : Int) : mag n * mag k = mag (n * k) := by
 unfold mag
 rcases Int.lt_or_le n 0 with h | h <;> rcases Int.lt_or_le k 0 with h' | h'
 ·have := Int.mul_pos_of_neg_of_neg h h'
  rw [if_pos h, if_pos h', if_neg (by omega), Int.neg_mul_neg]
 ·rw [if_pos h, if_neg (by omega)]
  rcases Int.lt_or_le 0 k with hk | hk
  ·have := Int.mul_neg_of_neg_of_pos h hk
   rw [if_pos this, Int.neg_mul]
  ·obtain rfl : k = 0 := by omega
   simp
 ·rw [if_neg (by omega), if_pos h']
  rcases Int.lt_or_le 0 n with hn | hn
  ·have := Int.mul_neg_of_pos_of_neg hn h'
   rw [if_pos this, Int.mul_neg]
  ·obtain rfl : n = 0 := by omega
   simp
 ·have := Int.mul_nonneg h h'
  rw [if_neg (by omega), if_neg (by omega), if_neg (by omega)]
end Go.Sub
namespace Go.Proofs.YtcjflafjmdfanaaGreatDoor
open Go.RowKit Go.Sub

set_option maxHeartbeats 1000000 in
theorem swithin3 (bk : Nat) (a b c l : Int) (w : World) (h0 : 0 ≤ l) (h1 : l ≤ 4000000000000000000) (c0 : w.cell? ⟨bk, 0, none⟩ = some (.int .i64 a)) (c1 : w.cell? ⟨bk, 1, none⟩ = some (.int .i64 b)) (c2 : w.cell? ⟨bk, 2, none⟩ = some (.int .i64 c)) :
  Calls Tryz.prog 133 #[.int .i64 l, .slice (some ⟨bk, 0, none⟩) 3 3] w fun e w' => e = .returned (.bool (wi3 l a b c)) ∧ w = w' := by
 go_enter Tryz.func133, Tryz.ntmps133
 go_wp2
 refine wp_loop_rounds 4 ?_
 repeat any_goals (rw [rounds_succ]; go_wp2)
 all_goals go_ret
 all_goals (refine ⟨?_, rfl⟩; simp [wi3, brkB, *] <;> omega)

set_option maxHeartbeats 1000000 in
theorem times_ok (n k : Int) (w : World) (h0 : -9223372036854775808 ≤ n) (h1 : n ≤ 9223372036854775807) (k0 : -9223372036854775808 ≤ k) (k1 : k ≤ 9223372036854775807) (b0 : -4611686018427387904 ≤ n * k) (b1 : n * k ≤ 4611686018427387904) :
  Calls Tryz.prog 148 #[.int .i64 n, .int .i64 k] w fun e w' => e = .returned (.tuple #[.int .i64 (n * k), .bool true]) ∧ w = w' := by
 obtain ⟨mn0, mn1⟩ := mag_bd (n := n) (by omega) (by omega)
 obtain ⟨mk0, mk1⟩ := mag_bd (n := k) (by omega) (by omega)
 have hm : mag n * mag k ≤ 4611686018427387904 := by rw [mag_mul]; unfold mag; split <;> omega
 have hp : 0 ≤ mag n * mag k := Int.mul_nonneg mn0 mk0
 have q1 : (mag n * mag k / 18446744073709551616 != 0) = false := by
  rw [show mag n * mag k / 18446744073709551616 = 0 by omega]; rfl
 have q2 : ¬ 4611686018427387904 < mag n * mag k % 18446744073709551616 := by omega
 clear hm hp
 go_enter Tryz.func148, Tryz.ntmps148
 go_wp2_with (first | (go_at_call 153; refine (mul64_any _ _ _ (by omega) (by omega) (by omega) (by omega)).mono ?_; rintro e w' ⟨rfl, rfl⟩) | (go_at_call 152; refine (size_any _ _ (by omega) (by omega)).mono ?_; rintro e w' ⟨rfl, rfl⟩))
 go_ret2
 exact ⟨rfl, rfl⟩

set_option maxHeartbeats 1000000 in
theorem times_no1 (n k : Int) (w : World) (h0 : -9223372036854775808 ≤ n) (h1 : n ≤ 9223372036854775807) (k0 : -9223372036854775808 ≤ k) (k1 : k ≤ 9223372036854775807) (q1 : (mag n * mag k / 18446744073709551616 != 0) = true) :
  Calls Tryz.prog 148 #[.int .i64 n, .int .i64 k] w fun e w' => e = .returned (.tuple #[.int .i64 0, .bool false]) ∧ w = w' := by
 obtain ⟨mn0, mn1⟩ := mag_bd (n := n) (by omega) (by omega)
 obtain ⟨mk0, mk1⟩ := mag_bd (n := k) (by omega) (by omega)
 go_enter Tryz.func148, Tryz.ntmps148
 go_wp2_with (first | (go_at_call 153; refine (mul64_any _ _ _ (by omega) (by omega) (by omega) (by omega)).mono ?_; rintro e w' ⟨rfl, rfl⟩) | (go_at_call 152; refine (size_any _ _ (by omega) (by omega)).mono ?_; rintro e w' ⟨rfl, rfl⟩))
 go_ret2
 exact ⟨rfl, rfl⟩

set_option maxHeartbeats 1000000 in
theorem times_no2 (n k : Int) (w : World) (h0 : -9223372036854775808 ≤ n) (h1 : n ≤ 9223372036854775807) (k0 : -9223372036854775808 ≤ k) (k1 : k ≤ 9223372036854775807) (q1 : (mag n * mag k / 18446744073709551616 != 0) = false) (q2 : 4611686018427387904 < mag n * mag k % 18446744073709551616) :
  Calls Tryz.prog 148 #[.int .i64 n, .int .i64 k] w fun e w' => e = .returned (.tuple #[.int .i64 0, .bool false]) ∧ w = w' := by
 obtain ⟨mn0, mn1⟩ := mag_bd (n := n) (by omega) (by omega)
 obtain ⟨mk0, mk1⟩ := mag_bd (n := k) (by omega) (by omega)
 go_enter Tryz.func148, Tryz.ntmps148
 go_wp2_with (first | (go_at_call 153; refine (mul64_any _ _ _ (by omega) (by omega) (by omega) (by omega)).mono ?_; rintro e w' ⟨rfl, rfl⟩) | (go_at_call 152; refine (size_any _ _ (by omega) (by omega)).mono ?_; rintro e w' ⟨rfl, rfl⟩))
 go_ret2
 exact ⟨rfl, rfl⟩

theorem times_no (n k : Int) (w : World) (h0 : -9223372036854775808 ≤ n) (h1 : n ≤ 9223372036854775807) (k0 : -9223372036854775808 ≤ k) (k1 : k ≤ 9223372036854775807) (b : ¬ (-4611686018427387904 ≤ n * k ∧ n * k ≤ 4611686018427387904)) :
  Calls Tryz.prog 148 #[.int .i64 n, .int .i64 k] w fun e w' => e = .returned (.tuple #[.int .i64 0, .bool false]) ∧ w = w' := by
 have hm : 4611686018427387904 < mag n * mag k := by rw [mag_mul]; unfold mag; split <;> omega
 cases q1 : (mag n * mag k / 18446744073709551616 != 0)
 ·refine times_no2 n k w h0 h1 k0 k1 q1 ?_
  have : mag n * mag k / 18446744073709551616 = 0 := by simpa using q1
  omega
 ·exact times_no1 n k w h0 h1 k0 k1 q1

set_option maxHeartbeats 1000000 in
theorem sscale_ok (a b k : Int) (w : World) (h : wi3 1152921504606846976 a b k = true) (ha : -4611686018427387904 ≤ a * k ∧ a * k ≤ 4611686018427387904) (hb : -4611686018427387904 ≤ b * k ∧ b * k ≤ 4611686018427387904) :
  Calls Tryz.prog 124 #[.agg #[.int .i64 a, .int .i64 b], .int .i64 k] w fun e w' => e = .returned (.tuple #[.agg #[.int .i64 (limS ⟨a * k, b * k⟩).v.a, .int .i64 (limS ⟨a * k, b * k⟩).v.b], .int .i64 (limS ⟨a * k, b * k⟩).e]) ∧ Q w w' := by
 obtain ⟨l1, l2, l3, l4, l5, l6⟩ := (wi3_iff _ _ _ _).1 h
 have hta := fun w => times_ok a k w (by omega) (by omega) (by omega) (by omega) ha.1 ha.2
 have htb := fun w => times_ok b k w (by omega) (by omega) (by omega) (by omega) hb.1 hb.2
 have HA := Lib.hid hta
 have HB := Lib.hid htb
 clear hta htb
 go_enter Tryz.func124, Tryz.ntmps124
 go_wp2_with (first | (go_at_call 133; refine (swithin3 _ a b k 1152921504606846976 _ (by omega) (by omega) (by simp [go_sem]) (by simp [go_sem]) (by simp [go_sem])).mono ?_; rintro e w' ⟨rfl, rfl⟩) | (go_at_call 148; first | ((with_reducible refine (HA.out _).mono ?_); rintro e w' ⟨rfl, rfl⟩) | ((with_reducible refine (HB.out _).mono ?_); rintro e w' ⟨rfl, rfl⟩)) | (go_at_call 149; refine (slimited_any _ _ _).mono ?_; rintro e w' ⟨rfl, kj, rfl⟩))
 refine bodyPost_ret (v := .tuple #[.agg #[.int .i64 (limS ⟨a * k, b * k⟩).v.a, .int .i64 (limS ⟨a * k, b * k⟩).v.b], .int .i64 (limS ⟨a * k, b * k⟩).e]) (by simp [results, Tryz.results124, go_sem]) rfl ⟨rfl, ?_⟩
 repeat' (first | exact Q.refl _ | refine Q.alloc ?_ _ | refine Q.jk ?_ _ | refine Q.drew ?_)

set_option maxHeartbeats 1000000 in
theorem sscale_no1 (a b k : Int) (w : World) (h : wi3 1152921504606846976 a b k = true) (ha : ¬ (-4611686018427387904 ≤ a * k ∧ a * k ≤ 4611686018427387904)) (hb : -4611686018427387904 ≤ b * k ∧ b * k ≤ 4611686018427387904) :
  Calls Tryz.prog 124 #[.agg #[.int .i64 a, .int .i64 b], .int .i64 k] w fun e w' => e = .returned (.tuple #[.agg #[.int .i64 (R2.mk zeroS 2).v.a, .int .i64 (R2.mk zeroS 2).v.b], .int .i64 (R2.mk zeroS 2).e]) ∧ Q w w' := by
 obtain ⟨l1, l2, l3, l4, l5, l6⟩ := (wi3_iff _ _ _ _).1 h
 have hta := fun w => times_no a k w (by omega) (by omega) (by omega) (by omega) ha
 have htb := fun w => times_ok b k w (by omega) (by omega) (by omega) (by omega) hb.1 hb.2
 have HA := Lib.hid hta
 have HB := Lib.hid htb
 clear hta htb
 go_enter Tryz.func124, Tryz.ntmps124
 go_wp2_with (first | (go_at_call 133; refine (swithin3 _ a b k 1152921504606846976 _ (by omega) (by omega) (by simp [go_sem]) (by simp [go_sem]) (by simp [go_sem])).mono ?_; rintro e w' ⟨rfl, rfl⟩) | (go_at_call 148; first | ((with_reducible refine (HA.out _).mono ?_); rintro e w' ⟨rfl, rfl⟩) | ((with_reducible refine (HB.out _).mono ?_); rintro e w' ⟨rfl, rfl⟩)) | (go_at_call 149; refine (slimited_any _ _ _).mono ?_; rintro e w' ⟨rfl, kj, rfl⟩))
 refine bodyPost_ret (v := .tuple #[.agg #[.int .i64 (R2.mk zeroS 2).v.a, .int .i64 (R2.mk zeroS 2).v.b], .int .i64 (R2.mk zeroS 2).e]) (by simp [results, Tryz.results124, go_sem, zeroS]) rfl ⟨rfl, ?_⟩
 repeat' (first | exact Q.refl _ | refine Q.alloc ?_ _ | refine Q.jk ?_ _ | refine Q.drew ?_)

set_option maxHeartbeats 1000000 in
theorem sscale_no2 (a b k : Int) (w : World) (h : wi3 1152921504606846976 a b k = true) (ha : -4611686018427387904 ≤ a * k ∧ a * k ≤ 4611686018427387904) (hb : ¬ (-4611686018427387904 ≤ b * k ∧ b * k ≤ 4611686018427387904)) :
  Calls Tryz.prog 124 #[.agg #[.int .i64 a, .int .i64 b], .int .i64 k] w fun e w' => e = .returned (.tuple #[.agg #[.int .i64 (R2.mk zeroS 2).v.a, .int .i64 (R2.mk zeroS 2).v.b], .int .i64 (R2.mk zeroS 2).e]) ∧ Q w w' := by
 obtain ⟨l1, l2, l3, l4, l5, l6⟩ := (wi3_iff _ _ _ _).1 h
 have hta := fun w => times_ok a k w (by omega) (by omega) (by omega) (by omega) ha.1 ha.2
 have htb := fun w => times_no b k w (by omega) (by omega) (by omega) (by omega) hb
 have HA := Lib.hid hta
 have HB := Lib.hid htb
 clear hta htb
 go_enter Tryz.func124, Tryz.ntmps124
 go_wp2_with (first | (go_at_call 133; refine (swithin3 _ a b k 1152921504606846976 _ (by omega) (by omega) (by simp [go_sem]) (by simp [go_sem]) (by simp [go_sem])).mono ?_; rintro e w' ⟨rfl, rfl⟩) | (go_at_call 148; first | ((with_reducible refine (HA.out _).mono ?_); rintro e w' ⟨rfl, rfl⟩) | ((with_reducible refine (HB.out _).mono ?_); rintro e w' ⟨rfl, rfl⟩)) | (go_at_call 149; refine (slimited_any _ _ _).mono ?_; rintro e w' ⟨rfl, kj, rfl⟩))
 refine bodyPost_ret (v := .tuple #[.agg #[.int .i64 (R2.mk zeroS 2).v.a, .int .i64 (R2.mk zeroS 2).v.b], .int .i64 (R2.mk zeroS 2).e]) (by simp [results, Tryz.results124, go_sem, zeroS]) rfl ⟨rfl, ?_⟩
 repeat' (first | exact Q.refl _ | refine Q.alloc ?_ _ | refine Q.jk ?_ _ | refine Q.drew ?_)

set_option maxHeartbeats 1000000 in
theorem sscale_no3 (a b k : Int) (w : World) (h : wi3 1152921504606846976 a b k = true) (ha : ¬ (-4611686018427387904 ≤ a * k ∧ a * k ≤ 4611686018427387904)) (hb : ¬ (-4611686018427387904 ≤ b * k ∧ b * k ≤ 4611686018427387904)) :
  Calls Tryz.prog 124 #[.agg #[.int .i64 a, .int .i64 b], .int .i64 k] w fun e w' => e = .returned (.tuple #[.agg #[.int .i64 (R2.mk zeroS 2).v.a, .int .i64 (R2.mk zeroS 2).v.b], .int .i64 (R2.mk zeroS 2).e]) ∧ Q w w' := by
 obtain ⟨l1, l2, l3, l4, l5, l6⟩ := (wi3_iff _ _ _ _).1 h
 have hta := fun w => times_no a k w (by omega) (by omega) (by omega) (by omega) ha
 have htb := fun w => times_no b k w (by omega) (by omega) (by omega) (by omega) hb
 have HA := Lib.hid hta
 have HB := Lib.hid htb
 clear hta htb
 go_enter Tryz.func124, Tryz.ntmps124
 go_wp2_with (first | (go_at_call 133; refine (swithin3 _ a b k 1152921504606846976 _ (by omega) (by omega) (by simp [go_sem]) (by simp [go_sem]) (by simp [go_sem])).mono ?_; rintro e w' ⟨rfl, rfl⟩) | (go_at_call 148; first | ((with_reducible refine (HA.out _).mono ?_); rintro e w' ⟨rfl, rfl⟩) | ((with_reducible refine (HB.out _).mono ?_); rintro e w' ⟨rfl, rfl⟩)) | (go_at_call 149; refine (slimited_any _ _ _).mono ?_; rintro e w' ⟨rfl, kj, rfl⟩))
 refine bodyPost_ret (v := .tuple #[.agg #[.int .i64 (R2.mk zeroS 2).v.a, .int .i64 (R2.mk zeroS 2).v.b], .int .i64 (R2.mk zeroS 2).e]) (by simp [results, Tryz.results124, go_sem, zeroS]) rfl ⟨rfl, ?_⟩
 repeat' (first | exact Q.refl _ | refine Q.alloc ?_ _ | refine Q.jk ?_ _ | refine Q.drew ?_)

set_option maxHeartbeats 1000000 in
theorem sscale_any (a b k : Int) (w : World) :
  Calls Tryz.prog 124 #[.agg #[.int .i64 a, .int .i64 b], .int .i64 k] w fun e w' => e = .returned (.tuple #[.agg #[.int .i64 (sscaleR ⟨a, b⟩ k).v.a, .int .i64 (sscaleR ⟨a, b⟩ k).v.b], .int .i64 (sscaleR ⟨a, b⟩ k).e]) ∧ Q w w' := by
 by_cases h : wi3 1152921504606846976 a b k = true
 ·have hR : sscaleR ⟨a, b⟩ k = limS ⟨a * k, b * k⟩ := by simp [sscaleR, h]
  rw [hR]
  have hno : ¬ (-4611686018427387904 ≤ a * k ∧ a * k ≤ 4611686018427387904) ∨ ¬ (-4611686018427387904 ≤ b * k ∧ b * k ≤ 4611686018427387904) → limS ⟨a * k, b * k⟩ = ⟨zeroS, 2⟩ := by
   intro hh
   have : wi2 1152921504606846976 (a * k) (b * k) = false := by
    cases e : wi2 1152921504606846976 (a * k) (b * k)
    ·rfl
    ·have := (wi2_iff _ _ _).1 e; omega
   simp [limS, this]
  by_cases ha : -4611686018427387904 ≤ a * k ∧ a * k ≤ 4611686018427387904
  ·by_cases hb : -4611686018427387904 ≤ b * k ∧ b * k ≤ 4611686018427387904
   ·exact sscale_ok a b k w h ha hb
   ·rw [hno (Or.inr hb)]; exact sscale_no2 a b k w h ha hb
  ·rw [hno (Or.inl ha)]
   by_cases hb : -4611686018427387904 ≤ b * k ∧ b * k ≤ 4611686018427387904
   ·exact sscale_no1 a b k w h ha hb
   ·exact sscale_no3 a b k w h ha hb
 ·have h : wi3 1152921504606846976 a b k = false := by simpa using h
  go_enter Tryz.func124, Tryz.ntmps124
  go_wp2_with (go_at_call 133; refine (swithin3 _ a b k 1152921504606846976 _ (by omega) (by omega) (by simp [go_sem]) (by simp [go_sem]) (by simp [go_sem])).mono ?_; rintro e w' ⟨rfl, rfl⟩)
  refine bodyPost_ret (v := .tuple #[.agg #[.int .i64 (R2.mk zeroS 1).v.a, .int .i64 (R2.mk zeroS 1).v.b], .int .i64 (R2.mk zeroS 1).e]) (by simp [results, Tryz.results124, go_sem, zeroS]) rfl ⟨by simp [sscaleR, h], ?_⟩
  repeat' (first | exact Q.refl _ | refine Q.alloc ?_ _ | refine Q.jk ?_ _ | refine Q.drew ?_)
end Go.Proofs.YtcjflafjmdfanaaGreatDoor
/- What Scale of package cyclo returns. -/
namespace Go.Sub
def scaleR (x : Cy) (k : Int) : R4 := if wiB x 576460752303423488 && !(brkB 576460752303423488 k) then limR ⟨x.a * k, x.b * k, x.c * k, x.d * k⟩ else ⟨zeroC, 1⟩
theorem sscale_cases (a b k : Int) (h1 : -576460752303423488 ≤ a) (h2 : a ≤ 576460752303423488) (h3 : -576460752303423488 ≤ b) (h4 : b ≤ 576460752303423488) (h5 : -576460752303423488 ≤ k) (h6 : k ≤ 576460752303423488) :
  sscaleR ⟨a, b⟩ k = ⟨⟨a * k, b * k⟩, 0⟩ ∨ (sscaleR ⟨a, b⟩ k = ⟨⟨0, 0⟩, 2⟩ ∧ ¬ (-576460752303423488 ≤ a * k ∧ a * k ≤ 576460752303423488 ∧ -576460752303423488 ≤ b * k ∧ b * k ≤ 576460752303423488)) := by
 have h : wi3 1152921504606846976 a b k = true := (wi3_iff _ _ _ _).2 (by omega)
 cases e : wi2 1152921504606846976 (a * k) (b * k)
 ·right
  refine ⟨by simp [sscaleR, h, limS, e, zeroS], fun hh => ?_⟩
  have : wi2 1152921504606846976 (a * k) (b * k) = true := (wi2_iff _ _ _).2 (by omega)
  rw [e] at this
  cases this
 ·left
  simp [sscaleR, h, limS, e]
theorem limR_no (a b c d : Int) (h : ¬ (-576460752303423488 ≤ a ∧ a ≤ 576460752303423488 ∧ -576460752303423488 ≤ b ∧ b ≤ 576460752303423488) ∨ ¬ (-576460752303423488 ≤ c ∧ c ≤ 576460752303423488 ∧ -576460752303423488 ≤ d ∧ d ≤ 576460752303423488)) : limR ⟨a, b, c, d⟩ = ⟨zeroC, 2⟩ := by
 cases e : wiB ⟨a, b, c, d⟩ 576460752303423488
 ·simp [limR, e]
 ·have := wiB_in e
  unfold Cy.In at this
  dsimp only at this
  omega
end Go.Sub
namespace Go.Proofs.YtcjflafjmdfanaaGreatDoor
open Go.RowKit Go.Sub

set_option maxHeartbeats 1000000 in
theorem scale_ok (a b c d k : Int) (w : World) (h : wiB ⟨a, b, c, d⟩ 576460752303423488 = true) (hk : brkB 576460752303423488 k = false) (h1 : sscaleR ⟨a, b⟩ k = ⟨⟨a * k, b * k⟩, 0⟩) (h2 : sscaleR ⟨c, d⟩ k = ⟨⟨c * k, d * k⟩, 0⟩) :
  Calls Tryz.prog 99 #[.agg #[.int .i64 a, .int .i64 b, .int .i64 c, .int .i64 d], .int .i64 k] w fun e w' => e = .returned (.tuple #[.agg #[.int .i64 (limR ⟨a * k, b * k, c * k, d * k⟩).v.a, .int .i64 (limR ⟨a * k, b * k, c * k, d * k⟩).v.b, .int .i64 (limR ⟨a * k, b * k, c * k, d * k⟩).v.c, .int .i64 (limR ⟨a * k, b * k, c * k, d * k⟩).v.d], .int .i64 (limR ⟨a * k, b * k, c * k, d * k⟩).e]) ∧ Q w w' := by
 go_enter Tryz.func99, Tryz.ntmps99
 go_wp2_with (first | (go_at_call 122; refine (within_any _ _ _ _ _ _ (by omega) (by omega)).mono ?_; rintro e w' ⟨rfl, kj, rfl⟩) | (go_at_call 123; refine (broken_any _ _ _ (by omega) (by omega)).mono ?_; rintro e w' ⟨rfl, rfl⟩) | (go_at_call 124; refine (sscale_any _ _ _ _).mono ?_; rintro e w' ⟨rfl, kj, rfl⟩) | (go_at_call 125; refine (limited_any _ _ _ _ _).mono ?_; rintro e w' ⟨rfl, kj, rfl⟩))
 refine bodyPost_ret (v := .tuple #[.agg #[.int .i64 (limR ⟨a * k, b * k, c * k, d * k⟩).v.a, .int .i64 (limR ⟨a * k, b * k, c * k, d * k⟩).v.b, .int .i64 (limR ⟨a * k, b * k, c * k, d * k⟩).v.c, .int .i64 (limR ⟨a * k, b * k, c * k, d * k⟩).v.d], .int .i64 (limR ⟨a * k, b * k, c * k, d * k⟩).e]) (by simp [results, Tryz.results99, go_sem]) rfl ⟨rfl, ?_⟩
 repeat' (first | exact Q.refl _ | refine Q.alloc ?_ _ | refine Q.jk ?_ _ | refine Q.drew ?_)

set_option maxHeartbeats 1000000 in
theorem scale_no1 (a b c d k : Int) (w : World) (h : wiB ⟨a, b, c, d⟩ 576460752303423488 = true) (hk : brkB 576460752303423488 k = false) (h1 : sscaleR ⟨a, b⟩ k = ⟨⟨0, 0⟩, 2⟩) :
  Calls Tryz.prog 99 #[.agg #[.int .i64 a, .int .i64 b, .int .i64 c, .int .i64 d], .int .i64 k] w fun e w' => e = .returned (.tuple #[.agg #[.int .i64 (R4.mk zeroC 2).v.a, .int .i64 (R4.mk zeroC 2).v.b, .int .i64 (R4.mk zeroC 2).v.c, .int .i64 (R4.mk zeroC 2).v.d], .int .i64 (R4.mk zeroC 2).e]) ∧ Q w w' := by
 go_enter Tryz.func99, Tryz.ntmps99
 go_wp2_with (first | (go_at_call 122; refine (within_any _ _ _ _ _ _ (by omega) (by omega)).mono ?_; rintro e w' ⟨rfl, kj, rfl⟩) | (go_at_call 123; refine (broken_any _ _ _ (by omega) (by omega)).mono ?_; rintro e w' ⟨rfl, rfl⟩) | (go_at_call 124; refine (sscale_any _ _ _ _).mono ?_; rintro e w' ⟨rfl, kj, rfl⟩) | (go_at_call 125; refine (limited_any _ _ _ _ _).mono ?_; rintro e w' ⟨rfl, kj, rfl⟩))
 refine bodyPost_ret (v := .tuple #[.agg #[.int .i64 (R4.mk zeroC 2).v.a, .int .i64 (R4.mk zeroC 2).v.b, .int .i64 (R4.mk zeroC 2).v.c, .int .i64 (R4.mk zeroC 2).v.d], .int .i64 (R4.mk zeroC 2).e]) (by simp [results, Tryz.results99, go_sem, zeroC]) rfl ⟨rfl, ?_⟩
 repeat' (first | exact Q.refl _ | refine Q.alloc ?_ _ | refine Q.jk ?_ _ | refine Q.drew ?_)

set_option maxHeartbeats 1000000 in
theorem scale_no2 (a b c d k : Int) (w : World) (h : wiB ⟨a, b, c, d⟩ 576460752303423488 = true) (hk : brkB 576460752303423488 k = false) (h1 : sscaleR ⟨a, b⟩ k = ⟨⟨a * k, b * k⟩, 0⟩) (h2 : sscaleR ⟨c, d⟩ k = ⟨⟨0, 0⟩, 2⟩) :
  Calls Tryz.prog 99 #[.agg #[.int .i64 a, .int .i64 b, .int .i64 c, .int .i64 d], .int .i64 k] w fun e w' => e = .returned (.tuple #[.agg #[.int .i64 (R4.mk zeroC 2).v.a, .int .i64 (R4.mk zeroC 2).v.b, .int .i64 (R4.mk zeroC 2).v.c, .int .i64 (R4.mk zeroC 2).v.d], .int .i64 (R4.mk zeroC 2).e]) ∧ Q w w' := by
 go_enter Tryz.func99, Tryz.ntmps99
 go_wp2_with (first | (go_at_call 122; refine (within_any _ _ _ _ _ _ (by omega) (by omega)).mono ?_; rintro e w' ⟨rfl, kj, rfl⟩) | (go_at_call 123; refine (broken_any _ _ _ (by omega) (by omega)).mono ?_; rintro e w' ⟨rfl, rfl⟩) | (go_at_call 124; refine (sscale_any _ _ _ _).mono ?_; rintro e w' ⟨rfl, kj, rfl⟩) | (go_at_call 125; refine (limited_any _ _ _ _ _).mono ?_; rintro e w' ⟨rfl, kj, rfl⟩))
 refine bodyPost_ret (v := .tuple #[.agg #[.int .i64 (R4.mk zeroC 2).v.a, .int .i64 (R4.mk zeroC 2).v.b, .int .i64 (R4.mk zeroC 2).v.c, .int .i64 (R4.mk zeroC 2).v.d], .int .i64 (R4.mk zeroC 2).e]) (by simp [results, Tryz.results99, go_sem, zeroC]) rfl ⟨rfl, ?_⟩
 repeat' (first | exact Q.refl _ | refine Q.alloc ?_ _ | refine Q.jk ?_ _ | refine Q.drew ?_)

set_option maxHeartbeats 1000000 in
theorem scale_any (a b c d k : Int) (w : World) :
  Calls Tryz.prog 99 #[.agg #[.int .i64 a, .int .i64 b, .int .i64 c, .int .i64 d], .int .i64 k] w fun e w' => e = .returned (.tuple #[.agg #[.int .i64 (scaleR ⟨a, b, c, d⟩ k).v.a, .int .i64 (scaleR ⟨a, b, c, d⟩ k).v.b, .int .i64 (scaleR ⟨a, b, c, d⟩ k).v.c, .int .i64 (scaleR ⟨a, b, c, d⟩ k).v.d], .int .i64 (scaleR ⟨a, b, c, d⟩ k).e]) ∧ Q w w' := by
 by_cases h : wiB ⟨a, b, c, d⟩ 576460752303423488 = true
 ·by_cases hk : brkB 576460752303423488 k = false
  ·have hR : scaleR ⟨a, b, c, d⟩ k = limR ⟨a * k, b * k, c * k, d * k⟩ := by simp [scaleR, h, hk]
   rw [hR]
   obtain ⟨l1, l2, l3, l4, l5, l6, l7, l8⟩ := wiB_in h
   dsimp only at l1 l2 l3 l4 l5 l6 l7 l8
   have hk' : -576460752303423488 ≤ k ∧ k ≤ 576460752303423488 := by simp [brkB] at hk; omega
   rcases sscale_cases a b k l1 l2 l3 l4 hk'.1 hk'.2 with h1 | ⟨h1, n1⟩
   ·rcases sscale_cases c d k l5 l6 l7 l8 hk'.1 hk'.2 with h2 | ⟨h2, n2⟩
    ·exact scale_ok a b c d k w h hk h1 h2
    ·rw [limR_no _ _ _ _ (Or.inr n2)]
     exact scale_no2 a b c d k w h hk h1 h2
   ·rw [limR_no _ _ _ _ (Or.inl n1)]
    exact scale_no1 a b c d k w h hk h1
  ·have hk : brkB 576460752303423488 k = true := by simpa using hk
   go_enter Tryz.func99, Tryz.ntmps99
   go_wp2_with (first | (go_at_call 122; refine (within_any _ _ _ _ _ _ (by omega) (by omega)).mono ?_; rintro e w' ⟨rfl, kj, rfl⟩) | (go_at_call 123; refine (broken_any _ _ _ (by omega) (by omega)).mono ?_; rintro e w' ⟨rfl, rfl⟩))
   refine bodyPost_ret (v := .tuple #[.agg #[.int .i64 (R4.mk zeroC 1).v.a, .int .i64 (R4.mk zeroC 1).v.b, .int .i64 (R4.mk zeroC 1).v.c, .int .i64 (R4.mk zeroC 1).v.d], .int .i64 (R4.mk zeroC 1).e]) (by simp [results, Tryz.results99, go_sem, zeroC]) rfl ⟨by simp [scaleR, h, hk], ?_⟩
   repeat' (first | exact Q.refl _ | refine Q.alloc ?_ _ | refine Q.jk ?_ _ | refine Q.drew ?_)
 ·have h : wiB ⟨a, b, c, d⟩ 576460752303423488 = false := by simpa using h
  go_enter Tryz.func99, Tryz.ntmps99
  go_wp2_with (first | (go_at_call 122; refine (within_any _ _ _ _ _ _ (by omega) (by omega)).mono ?_; rintro e w' ⟨rfl, kj, rfl⟩) | (go_at_call 123; refine (broken_any _ _ _ (by omega) (by omega)).mono ?_; rintro e w' ⟨rfl, rfl⟩))
  refine bodyPost_ret (v := .tuple #[.agg #[.int .i64 (R4.mk zeroC 1).v.a, .int .i64 (R4.mk zeroC 1).v.b, .int .i64 (R4.mk zeroC 1).v.c, .int .i64 (R4.mk zeroC 1).v.d], .int .i64 (R4.mk zeroC 1).e]) (by simp [results, Tryz.results99, go_sem, zeroC]) rfl ⟨by simp [scaleR, h], ?_⟩
  repeat' (first | exact Q.refl _ | refine Q.alloc ?_ _ | refine Q.jk ?_ _ | refine Q.drew ?_)
end Go.Proofs.YtcjflafjmdfanaaGreatDoor
/- Harmonics of windows: plain arithmetic. No program in sight. -/
namespace Go.Sub
/-- The sum of the first n terms. -/
def sumC (y : Nat → Cy) : Nat → Cy
 | 0 => ⟨0, 0, 0, 0⟩
 | n + 1 => (sumC y n).add (y n)
theorem sumC_in {y : Nat → Cy} {l : Int} (n : Nat) (h : ∀ k, k < n → (y k).In l) : (sumC y n).In (n * l) := by
 induction n with
 | zero => unfold Cy.In sumC; simp
 | succ n ih =>
  have h1 := Cy.add_in (ih fun k hk => h k (by omega)) (h n (by omega))
  refine Cy.In.mono h1 ?_
  have : ((n + 1 : Nat) : Int) * l = n * l + l := by rw [Int.natCast_add, Int.add_mul]; simp
  omega
def Cy.scl (x : Cy) (k : Int) : Cy := ⟨x.a * k, x.b * k, x.c * k, x.d * k⟩
/-- The term k of harmonic h. -/
def hterm (x : Nat → Int) (h : Int) (k : Nat) : Cy := (rootC (-h * k)).scl (x k)
def harm (x : Nat → Int) (h : Int) : Cy := sumC (hterm x h) 12
theorem hterm_in {x : Nat → Int} {h l : Int} {k : Nat} (h1 : -l ≤ x k) (h2 : x k ≤ l) : (hterm x h k).In (2 * l) := by
 obtain ⟨r1, r2, r3, r4, r5, r6, r7, r8⟩ := rootC_in (-h * k)
 have p1 := bd_mul r1 r2 h1 h2
 have p2 := bd_mul r3 r4 h1 h2
 have p3 := bd_mul r5 r6 h1 h2
 have p4 := bd_mul r7 r8 h1 h2
 unfold Cy.In hterm Cy.scl
 dsimp only
 omega
def WinOK (x : Nat → Int) (l : Int) : Prop := ∀ k, k < 12 → -l ≤ x k ∧ x k ≤ l
theorem harm_in {x : Nat → Int} {l : Int} (h : Int) (hx : WinOK x l) : (harm x h).In (24 * l) :=
 Cy.In.mono (sumC_in (l := 2 * l) 12 fun k hk => hterm_in (hx k hk).1 (hx k hk).2) (by omega)
theorem rootC_congr {j k : Int} (h : j % 12 = k % 12) : rootC j = rootC k := by unfold rootC; rw [h]
theorem neg_tmod (h : Int) (k : Nat) : (-(h.tmod 12) * k) % 12 = (-h * k) % 12 := by
 have e : h = 12 * h.tdiv 12 + h.tmod 12 := (Int.mul_tdiv_add_tmod h 12).symm
 generalize h.tdiv 12 = q at e
 generalize h.tmod 12 = r at e ⊢
 subst e
 have : -(12 * q + r) * (k : Int) = -r * k + 12 * (-(q * k)) := by grind
 rw [this, Int.add_mul_emod_self_left]
theorem hterm_tmod (x : Nat → Int) (h : Int) (k : Nat) : hterm x (h.tmod 12) k = hterm x h k := by
 unfold hterm
 rw [rootC_congr (neg_tmod h k)]
theorem harm_tmod (x : Nat → Int) (h : Int) : harm x (h.tmod 12) = harm x h := by
 have : ∀ n, sumC (hterm x (h.tmod 12)) n = sumC (hterm x h) n := by
  intro n
  induction n with
  | zero => rfl
  | succ n ih => unfold sumC; rw [ih, hterm_tmod]
 exact this 12
theorem scaleR_ok {x : Cy} {k : Int} (hx : x.In 1000000) (hk : -1000000000 ≤ k ∧ k ≤ 1000000000) : scaleR x k = ⟨x.scl k, 0⟩ := by
 obtain ⟨r1, r2, r3, r4, r5, r6, r7, r8⟩ := hx
 have p1 := bd_mul r1 r2 hk.1 hk.2
 have p2 := bd_mul r3 r4 hk.1 hk.2
 have p3 := bd_mul r5 r6 hk.1 hk.2
 have p4 := bd_mul r7 r8 hk.1 hk.2
 have h1 : wiB x 576460752303423488 = true := wiB_of ⟨by omega, by omega, by omega, by omega, by omega, by omega, by omega, by omega⟩
 have h2 : brkB 576460752303423488 k = false := by
  simp only [brkB, Bool.or_eq_false_iff, decide_eq_false_iff_not]
  omega
 have h3 : wiB ⟨x.a * k, x.b * k, x.c * k, x.d * k⟩ 576460752303423488 = true := wiB_of ⟨by dsimp only; omega, by dsimp only; omega, by dsimp only; omega, by dsimp only; omega, by dsimp only; omega, by dsimp only; omega, by dsimp only; omega, by dsimp only; omega⟩
 simp [scaleR, limR, h1, h2, h3, Cy.scl]
def enrg (x : Nat → Int) : Nat → Int
 | 0 => 0
 | n + 1 => enrg x n + x n * x n
end Go.Sub
namespace Go
open Go.ChangeShapes Go.WideShapes Go.ChangeAt Go.RowKit
section
variable {H : Type} {enc : TypeId × Value → H} {P : Program} {w : World} {base : Nat} {spare : Nat → Bool} {held : Bool}

/-- An array of ints, opened. -/
theorem trod_arr_ints {fuel : Nat} {t e : TypeId} {n : Nat} {cs : List Value} {x : DataW H × List MemPlace} (ht : P.underlying t = some (.array n e)) (he : P.underlying e = some (.int .i64)) (hce : P.cellsOf e = 1) (hct : P.cellsOf t = n)
  (h : DataW.trod enc P w base spare held fuel t cs = some x) :
  ∃ ks : List Int, ks.length = n ∧ cs = ks.map (Value.int .i64) ∧ x = (.agg (ks.map fun k => .lit (.int .i64 k)), []) ∧ ∀ k ∈ ks, (Lit.int .i64 k).wf = true := by
 obtain ⟨xs, m, rfl, rfl, hl, hxs, hel⟩ := DataW.trod_array ht h
 rw [hct] at hl
 rw [hce] at hel
 have one : ∀ i, i < n → ∃ k, cs[i]? = some (.int .i64 k) ∧ xs[i]? = some (.lit (.int .i64 k), []) ∧ (Lit.int .i64 k).wf = true := by
  intro i hi
  have h1 := hel i hi
  obtain ⟨y, hy⟩ : ∃ y, xs[i]? = some y := ⟨_, List.getElem?_eq_getElem (by omega)⟩
  rw [hy] at h1
  obtain ⟨k, hk, rfl, hw⟩ := DataW.trod_int he h1
  refine ⟨k, ?_, hy, hw⟩
  have := congrArg (·[0]?) hk
  simpa [List.getElem?_take, List.getElem?_drop] using this
 refine ⟨cs.map intOf, by simp [hl], ?_, ?_, ?_⟩
 ·apply List.ext_getElem?
  intro i
  by_cases hi : i < n
  ·obtain ⟨k, h1, _, _⟩ := one i hi
   simp [h1, intOf]
  ·rw [List.getElem?_eq_none (by omega), List.getElem?_eq_none (by simp; omega)]
 ·have e1 : xs.map (·.1) = (cs.map intOf).map fun k => (DataW.lit (.int .i64 k) : DataW H) := by
   apply List.ext_getElem?
   intro i
   by_cases hi : i < n
   ·obtain ⟨k, h1, h2, _⟩ := one i hi
    simp [h1, h2, intOf]
   ·rw [List.getElem?_eq_none (by simp; omega), List.getElem?_eq_none (by simp; omega)]
  have e2 : xs.flatMap (·.2) = [] := by
   rw [List.flatMap_eq_nil_iff]
   intro y hy
   obtain ⟨i, hi, rfl⟩ := List.getElem_of_mem hy
   obtain ⟨k, _, h2, _⟩ := one i (by omega)
   rw [List.getElem?_eq_getElem hi] at h2
   rw [Option.some.inj h2]
  rw [e1, e2]
 ·intro k hk
  obtain ⟨v, hv, rfl⟩ := List.mem_map.1 hk
  obtain ⟨i, hi, rfl⟩ := List.getElem_of_mem hv
  obtain ⟨k, h1, _, hw⟩ := one i (by omega)
  rw [List.getElem?_eq_getElem hi] at h1
  rw [Option.some.inj h1]
  exact hw

/-- All arguments read behind the call as they did before. -/
theorem trodAll_stays {W W' : World} (hl : laidOutB P = true) (hb : Below W.heap.size W W') : ∀ {ts : List TypeId} {vs : List Value} {ds : List (DataW H)} {ps : List MemPlace} {sp : Nat → Bool},
  (∀ t ∈ ts, P.readableRec t = true ∧ t < P.types.size) → DataW.TrodAll enc P W 0 (fun _ => true) true ts vs ds ps → (∀ x ∈ ps, x.block < W.heap.size) → (∀ x ∈ ps, sp x.block = true) →
  DataW.TrodAll enc P W' 0 sp true ts vs ds ps
 | [], [], [], _, _, _, h, _, _ => h
 | t :: ts, v :: vs, d :: ds, ps, sp, ht, h, hlt, hsp => by
  obtain ⟨p, q, h0, h1, rfl⟩ := h
  refine ⟨p, q, ?_, trodAll_stays hl hb (fun t' ht' => ht t' (List.mem_cons_of_mem _ ht')) h1 (fun x hx => hlt x (List.mem_append_right _ hx)) (fun x hx => hsp x (List.mem_append_right _ hx)), rfl⟩
  have := ht t (List.mem_cons_self ..)
  exact WideElems.Trod_stays hl this.1 this.2 h0 (fun x hx => hb.same (hlt x (List.mem_append_left _ hx))) (fun x hx => hsp x (List.mem_append_left _ hx))
 | [], _ :: _, _, _, _, _, h, _, _ => by exact h.elim
 | _ :: _, [], _, _, _, _, h, _, _ => by exact h.elim
 | [], [], _ :: _, _, _, _, h, _, _ => by exact h.elim
 | _ :: _, _ :: _, [], _, _, _, h, _, _ => by exact h.elim

/-- THE END OF A LAW's PROOF: it returned true and left all that was there. -/
theorem law_post {f : Func} {s : ChangeSpec} {W W' : World} {args : Array Value} {ds : List (DataW H)} {before : List MemPlace} {tb : TypeId}
  (hl : laidOutB P = true) (hts : ∀ t ∈ f.params.toList, P.readableRec t = true ∧ t < P.types.size) (hr : f.resultTypes = #[tb]) (hbool : P.underlying tb = some .bool) (hvars : s.vars = [])
  (hfn : ∀ ds' : List (DataW H), ds'.length = f.params.size → s.fn H ds' = { results := [.lit (.bool true)], args := ds' })
  (hW : DataW.Whole enc P f.params.toList s.vars false W args.toList ds [] before) (hb : Below W.heap.size W W') (hlen : ds.length = f.params.size) :
  s.post enc P f false true false false W args (.bool true) W' := by
 have hlt : ∀ p ∈ before, p.block < W.heap.size := fun p hp => hW.lt p hp
 have hW' := hW
 obtain ⟨p, q, hA, hV, rfl, hz, hn⟩ := hW
 rw [hvars] at hV
 obtain ⟨_, rfl⟩ := trodVars_none hV
 simp only [List.append_nil] at hlt hz hn hW'
 have efn := hfn ds hlen
 have hold : ∀ x ∈ p, (fun b => decide (b < W.heap.size)) x.block = true := fun x hx => by simpa using hlt x hx
 have hargs : ∀ sp : Nat → Bool, (∀ x ∈ p, sp x.block = true) → DataW.TrodAll enc P W' 0 sp true f.params.toList args.toList ds p := fun sp hsp => trodAll_stays hl hb hts hA hlt hsp
 have hres : ∀ (b : Nat) (sp : Nat → Bool) (hd : Bool), DataW.TrodAll enc P W' b sp hd f.resultTypes.toList ((Value.bool true).resultList f.resultTypes.size) [.lit (.bool true)] [] := by
  intro b sp hd
  rw [hr]
  exact trodAll_cons_mk (shut_bool hbool _) trodAll_mk0
 refine ⟨ds, [], p, [], p, [], hW', ?_, ?_, ?_, ?_, fun h => by cases h⟩
 ·rw [List.append_nil, efn]; exact hres _ _ _
 ·rw [List.append_nil, efn]; exact hargs _ hold
 ·rw [List.append_nil, efn, hvars]; rfl
 ·exact World.keptBut_mono (fun x hx => ⟨hx, by simpa using hx⟩) (hb.frame (· ∈ p))
end
end Go
