
/- What Mul, Root and Turn of package cyclo return. -/
import Derived.Test.YtkkjifgcjfbcaaaCyW2
import Derived.Test.YtkkjifgcjfbcaaaEqsP
namespace Go.Proofs.Ytkkjifgcjfbcaaa
open Go.RowKit Go.Sub

theorem limR_mul (a b c d a' b' c' d' : Int) (h : wiB ⟨a, b, c, d⟩ 268435456 = true) (h' : wiB ⟨a', b', c', d'⟩ 268435456 = true) :
    limR ⟨a * a' - (b * d' + c * c' + d * b') - d * d', a * b' + b * a' - (c * d' + d * c'), a * c' + b * b' + c * a' + (b * d' + c * c' + d * b'), a * d' + b * c' + c * b' + d * a' + (c * d' + d * c')⟩ = mulR ⟨a, b, c, d⟩ ⟨a', b', c', d'⟩ := by
  have e : (Cy.mk (a * a' - (b * d' + c * c' + d * b') - d * d') (a * b' + b * a' - (c * d' + d * c')) (a * c' + b * b' + c * a' + (b * d' + c * c' + d * b')) (a * d' + b * c' + c * b' + d * a' + (c * d' + d * c'))) = Cy.mul ⟨a, b, c, d⟩ ⟨a', b', c', d'⟩ := by
    simp only [Cy.mul]
  rw [e]
  have hi := (mul_in (prods_of (wiB_in h) (wiB_in h'))).mono (show 6 * (268435456 * 268435456) ≤ (576460752303423488 : Int) by decide)
  simp [limR, mulR, h, h', wiB_of hi]

theorem turn_close (a b c d k t1 t2 t3 t4 : Int) (h : wiB ⟨a, b, c, d⟩ 576460752303423488 = true) (e1 : t1 = (Cy.turn ⟨a, b, c, d⟩ k).a) (e2 : t2 = (Cy.turn ⟨a, b, c, d⟩ k).b) (e3 : t3 = (Cy.turn ⟨a, b, c, d⟩ k).c) (e4 : t4 = (Cy.turn ⟨a, b, c, d⟩ k).d) :
    limR ⟨t1, t2, t3, t4⟩ = turnR ⟨a, b, c, d⟩ k := by
  have e : Cy.mk t1 t2 t3 t4 = Cy.turn ⟨a, b, c, d⟩ k := Cy.ext' e1 e2 e3 e4
  simp [turnR, h, e]

set_option maxHeartbeats 1000000 in
theorem turn_0 (a b c d k : Int) (w : World) (h : wiB ⟨a, b, c, d⟩ 576460752303423488 = true) (hk : k % 12 = 0) :
    Calls Try.prog 49 #[.agg #[.int .i64 a, .int .i64 b, .int .i64 c, .int .i64 d], .int .i64 k] w fun e w' => e = .returned (.tuple #[.agg #[.int .i64 (turnR ⟨a, b, c, d⟩ k).v.a, .int .i64 (turnR ⟨a, b, c, d⟩ k).v.b, .int .i64 (turnR ⟨a, b, c, d⟩ k).v.c, .int .i64 (turnR ⟨a, b, c, d⟩ k).v.d], .int .i64 (turnR ⟨a, b, c, d⟩ k).e]) ∧ Q w w' := by
  obtain ⟨l1, l2, l3, l4, l5, l6, l7, l8⟩ := wiB_in h
  dsimp only at l1 l2 l3 l4 l5 l6 l7 l8
  go_enter Try.func49, Try.ntmps49
  go_wp2_with (first | (go_at_call 79; refine (within_any _ _ _ _ _ _ (by omega) (by omega)).mono ?_; rintro e w' ⟨rfl, kj, rfl⟩) | (go_at_call 81; refine (limited_any _ _ _ _ _).mono ?_; rintro e w' ⟨rfl, kj, rfl⟩) | (go_at_call 82; refine (dozen_any _ _).mono ?_; rintro e w' ⟨rfl, rfl⟩) | (go_at_call 83; refine (minus_any _ _ _ _ _ (by omega) (by omega) (by omega) (by omega) (by omega) (by omega) (by omega) (by omega)).mono ?_; rintro e w' ⟨rfl, kj, rfl⟩))
  refine wp_loop_rounds 1 ?_
  repeat any_goals (rw [rounds_succ]; go_wp2_with (first | (go_at_call 79; refine (within_any _ _ _ _ _ _ (by omega) (by omega)).mono ?_; rintro e w' ⟨rfl, kj, rfl⟩) | (go_at_call 81; refine (limited_any _ _ _ _ _).mono ?_; rintro e w' ⟨rfl, kj, rfl⟩) | (go_at_call 82; refine (dozen_any _ _).mono ?_; rintro e w' ⟨rfl, rfl⟩) | (go_at_call 83; refine (minus_any _ _ _ _ _ (by omega) (by omega) (by omega) (by omega) (by omega) (by omega) (by omega) (by omega)).mono ?_; rintro e w' ⟨rfl, kj, rfl⟩)))
  go_returns
  rw [turn_close a b c d k _ _ _ _ h (by first | (simp [Cy.turn, hk, Cy.tn]; done) | (simp [Cy.turn, hk, Cy.tn]; omega)) (by first | (simp [Cy.turn, hk, Cy.tn]; done) | (simp [Cy.turn, hk, Cy.tn]; omega)) (by first | (simp [Cy.turn, hk, Cy.tn]; done) | (simp [Cy.turn, hk, Cy.tn]; omega)) (by first | (simp [Cy.turn, hk, Cy.tn]; done) | (simp [Cy.turn, hk, Cy.tn]; omega))]
  refine ⟨rfl, ?_⟩
  repeat' (first | exact Q.refl _ | refine Q.alloc ?_ _ | refine Q.jk ?_ _ | refine Q.drew ?_)

set_option maxHeartbeats 1000000 in
theorem turn_1 (a b c d k : Int) (w : World) (h : wiB ⟨a, b, c, d⟩ 576460752303423488 = true) (hk : k % 12 = 1) :
    Calls Try.prog 49 #[.agg #[.int .i64 a, .int .i64 b, .int .i64 c, .int .i64 d], .int .i64 k] w fun e w' => e = .returned (.tuple #[.agg #[.int .i64 (turnR ⟨a, b, c, d⟩ k).v.a, .int .i64 (turnR ⟨a, b, c, d⟩ k).v.b, .int .i64 (turnR ⟨a, b, c, d⟩ k).v.c, .int .i64 (turnR ⟨a, b, c, d⟩ k).v.d], .int .i64 (turnR ⟨a, b, c, d⟩ k).e]) ∧ Q w w' := by
  obtain ⟨l1, l2, l3, l4, l5, l6, l7, l8⟩ := wiB_in h
  dsimp only at l1 l2 l3 l4 l5 l6 l7 l8
  go_enter Try.func49, Try.ntmps49
  go_wp2_with (first | (go_at_call 79; refine (within_any _ _ _ _ _ _ (by omega) (by omega)).mono ?_; rintro e w' ⟨rfl, kj, rfl⟩) | (go_at_call 81; refine (limited_any _ _ _ _ _).mono ?_; rintro e w' ⟨rfl, kj, rfl⟩) | (go_at_call 82; refine (dozen_any _ _).mono ?_; rintro e w' ⟨rfl, rfl⟩) | (go_at_call 83; refine (minus_any _ _ _ _ _ (by omega) (by omega) (by omega) (by omega) (by omega) (by omega) (by omega) (by omega)).mono ?_; rintro e w' ⟨rfl, kj, rfl⟩))
  refine wp_loop_rounds 2 ?_
  repeat any_goals (rw [rounds_succ]; go_wp2_with (first | (go_at_call 79; refine (within_any _ _ _ _ _ _ (by omega) (by omega)).mono ?_; rintro e w' ⟨rfl, kj, rfl⟩) | (go_at_call 81; refine (limited_any _ _ _ _ _).mono ?_; rintro e w' ⟨rfl, kj, rfl⟩) | (go_at_call 82; refine (dozen_any _ _).mono ?_; rintro e w' ⟨rfl, rfl⟩) | (go_at_call 83; refine (minus_any _ _ _ _ _ (by omega) (by omega) (by omega) (by omega) (by omega) (by omega) (by omega) (by omega)).mono ?_; rintro e w' ⟨rfl, kj, rfl⟩)))
  go_returns
  rw [turn_close a b c d k _ _ _ _ h (by first | (simp [Cy.turn, hk, Cy.tn]; done) | (simp [Cy.turn, hk, Cy.tn]; omega)) (by first | (simp [Cy.turn, hk, Cy.tn]; done) | (simp [Cy.turn, hk, Cy.tn]; omega)) (by first | (simp [Cy.turn, hk, Cy.tn]; done) | (simp [Cy.turn, hk, Cy.tn]; omega)) (by first | (simp [Cy.turn, hk, Cy.tn]; done) | (simp [Cy.turn, hk, Cy.tn]; omega))]
  refine ⟨rfl, ?_⟩
  repeat' (first | exact Q.refl _ | refine Q.alloc ?_ _ | refine Q.jk ?_ _ | refine Q.drew ?_)

set_option maxHeartbeats 1000000 in
theorem turn_2 (a b c d k : Int) (w : World) (h : wiB ⟨a, b, c, d⟩ 576460752303423488 = true) (hk : k % 12 = 2) :
    Calls Try.prog 49 #[.agg #[.int .i64 a, .int .i64 b, .int .i64 c, .int .i64 d], .int .i64 k] w fun e w' => e = .returned (.tuple #[.agg #[.int .i64 (turnR ⟨a, b, c, d⟩ k).v.a, .int .i64 (turnR ⟨a, b, c, d⟩ k).v.b, .int .i64 (turnR ⟨a, b, c, d⟩ k).v.c, .int .i64 (turnR ⟨a, b, c, d⟩ k).v.d], .int .i64 (turnR ⟨a, b, c, d⟩ k).e]) ∧ Q w w' := by
  obtain ⟨l1, l2, l3, l4, l5, l6, l7, l8⟩ := wiB_in h
  dsimp only at l1 l2 l3 l4 l5 l6 l7 l8
  go_enter Try.func49, Try.ntmps49
  go_wp2_with (first | (go_at_call 79; refine (within_any _ _ _ _ _ _ (by omega) (by omega)).mono ?_; rintro e w' ⟨rfl, kj, rfl⟩) | (go_at_call 81; refine (limited_any _ _ _ _ _).mono ?_; rintro e w' ⟨rfl, kj, rfl⟩) | (go_at_call 82; refine (dozen_any _ _).mono ?_; rintro e w' ⟨rfl, rfl⟩) | (go_at_call 83; refine (minus_any _ _ _ _ _ (by omega) (by omega) (by omega) (by omega) (by omega) (by omega) (by omega) (by omega)).mono ?_; rintro e w' ⟨rfl, kj, rfl⟩))
  refine wp_loop_rounds 3 ?_
  repeat any_goals (rw [rounds_succ]; go_wp2_with (first | (go_at_call 79; refine (within_any _ _ _ _ _ _ (by omega) (by omega)).mono ?_; rintro e w' ⟨rfl, kj, rfl⟩) | (go_at_call 81; refine (limited_any _ _ _ _ _).mono ?_; rintro e w' ⟨rfl, kj, rfl⟩) | (go_at_call 82; refine (dozen_any _ _).mono ?_; rintro e w' ⟨rfl, rfl⟩) | (go_at_call 83; refine (minus_any _ _ _ _ _ (by omega) (by omega) (by omega) (by omega) (by omega) (by omega) (by omega) (by omega)).mono ?_; rintro e w' ⟨rfl, kj, rfl⟩)))
  go_returns
  rw [turn_close a b c d k _ _ _ _ h (by first | (simp [Cy.turn, hk, Cy.tn]; done) | (simp [Cy.turn, hk, Cy.tn]; omega)) (by first | (simp [Cy.turn, hk, Cy.tn]; done) | (simp [Cy.turn, hk, Cy.tn]; omega)) (by first | (simp [Cy.turn, hk, Cy.tn]; done) | (simp [Cy.turn, hk, Cy.tn]; omega)) (by first | (simp [Cy.turn, hk, Cy.tn]; done) | (simp [Cy.turn, hk, Cy.tn]; omega))]
  refine ⟨rfl, ?_⟩
  repeat' (first | exact Q.refl _ | refine Q.alloc ?_ _ | refine Q.jk ?_ _ | refine Q.drew ?_)

set_option maxHeartbeats 1000000 in
theorem turn_3 (a b c d k : Int) (w : World) (h : wiB ⟨a, b, c, d⟩ 576460752303423488 = true) (hk : k % 12 = 3) :
    Calls Try.prog 49 #[.agg #[.int .i64 a, .int .i64 b, .int .i64 c, .int .i64 d], .int .i64 k] w fun e w' => e = .returned (.tuple #[.agg #[.int .i64 (turnR ⟨a, b, c, d⟩ k).v.a, .int .i64 (turnR ⟨a, b, c, d⟩ k).v.b, .int .i64 (turnR ⟨a, b, c, d⟩ k).v.c, .int .i64 (turnR ⟨a, b, c, d⟩ k).v.d], .int .i64 (turnR ⟨a, b, c, d⟩ k).e]) ∧ Q w w' := by
  obtain ⟨l1, l2, l3, l4, l5, l6, l7, l8⟩ := wiB_in h
  dsimp only at l1 l2 l3 l4 l5 l6 l7 l8
  go_enter Try.func49, Try.ntmps49
  go_wp2_with (first | (go_at_call 79; refine (within_any _ _ _ _ _ _ (by omega) (by omega)).mono ?_; rintro e w' ⟨rfl, kj, rfl⟩) | (go_at_call 81; refine (limited_any _ _ _ _ _).mono ?_; rintro e w' ⟨rfl, kj, rfl⟩) | (go_at_call 82; refine (dozen_any _ _).mono ?_; rintro e w' ⟨rfl, rfl⟩) | (go_at_call 83; refine (minus_any _ _ _ _ _ (by omega) (by omega) (by omega) (by omega) (by omega) (by omega) (by omega) (by omega)).mono ?_; rintro e w' ⟨rfl, kj, rfl⟩))
  refine wp_loop_rounds 4 ?_
  repeat any_goals (rw [rounds_succ]; go_wp2_with (first | (go_at_call 79; refine (within_any _ _ _ _ _ _ (by omega) (by omega)).mono ?_; rintro e w' ⟨rfl, kj, rfl⟩) | (go_at_call 81; refine (limited_any _ _ _ _ _).mono ?_; rintro e w' ⟨rfl, kj, rfl⟩) | (go_at_call 82; refine (dozen_any _ _).mono ?_; rintro e w' ⟨rfl, rfl⟩) | (go_at_call 83; refine (minus_any _ _ _ _ _ (by omega) (by omega) (by omega) (by omega) (by omega) (by omega) (by omega) (by omega)).mono ?_; rintro e w' ⟨rfl, kj, rfl⟩)))
  go_returns
  rw [turn_close a b c d k _ _ _ _ h (by first | (simp [Cy.turn, hk, Cy.tn]; done) | (simp [Cy.turn, hk, Cy.tn]; omega)) (by first | (simp [Cy.turn, hk, Cy.tn]; done) | (simp [Cy.turn, hk, Cy.tn]; omega)) (by first | (simp [Cy.turn, hk, Cy.tn]; done) | (simp [Cy.turn, hk, Cy.tn]; omega)) (by first | (simp [Cy.turn, hk, Cy.tn]; done) | (simp [Cy.turn, hk, Cy.tn]; omega))]
  refine ⟨rfl, ?_⟩
  repeat' (first | exact Q.refl _ | refine Q.alloc ?_ _ | refine Q.jk ?_ _ | refine Q.drew ?_)

set_option maxHeartbeats 1000000 in
theorem turn_4 (a b c d k : Int) (w : World) (h : wiB ⟨a, b, c, d⟩ 576460752303423488 = true) (hk : k % 12 = 4) :
    Calls Try.prog 49 #[.agg #[.int .i64 a, .int .i64 b, .int .i64 c, .int .i64 d], .int .i64 k] w fun e w' => e = .returned (.tuple #[.agg #[.int .i64 (turnR ⟨a, b, c, d⟩ k).v.a, .int .i64 (turnR ⟨a, b, c, d⟩ k).v.b, .int .i64 (turnR ⟨a, b, c, d⟩ k).v.c, .int .i64 (turnR ⟨a, b, c, d⟩ k).v.d], .int .i64 (turnR ⟨a, b, c, d⟩ k).e]) ∧ Q w w' := by
  obtain ⟨l1, l2, l3, l4, l5, l6, l7, l8⟩ := wiB_in h
  dsimp only at l1 l2 l3 l4 l5 l6 l7 l8
  go_enter Try.func49, Try.ntmps49
  go_wp2_with (first | (go_at_call 79; refine (within_any _ _ _ _ _ _ (by omega) (by omega)).mono ?_; rintro e w' ⟨rfl, kj, rfl⟩) | (go_at_call 81; refine (limited_any _ _ _ _ _).mono ?_; rintro e w' ⟨rfl, kj, rfl⟩) | (go_at_call 82; refine (dozen_any _ _).mono ?_; rintro e w' ⟨rfl, rfl⟩) | (go_at_call 83; refine (minus_any _ _ _ _ _ (by omega) (by omega) (by omega) (by omega) (by omega) (by omega) (by omega) (by omega)).mono ?_; rintro e w' ⟨rfl, kj, rfl⟩))
  refine wp_loop_rounds 5 ?_
  repeat any_goals (rw [rounds_succ]; go_wp2_with (first | (go_at_call 79; refine (within_any _ _ _ _ _ _ (by omega) (by omega)).mono ?_; rintro e w' ⟨rfl, kj, rfl⟩) | (go_at_call 81; refine (limited_any _ _ _ _ _).mono ?_; rintro e w' ⟨rfl, kj, rfl⟩) | (go_at_call 82; refine (dozen_any _ _).mono ?_; rintro e w' ⟨rfl, rfl⟩) | (go_at_call 83; refine (minus_any _ _ _ _ _ (by omega) (by omega) (by omega) (by omega) (by omega) (by omega) (by omega) (by omega)).mono ?_; rintro e w' ⟨rfl, kj, rfl⟩)))
  go_returns
  rw [turn_close a b c d k _ _ _ _ h (by first | (simp [Cy.turn, hk, Cy.tn]; done) | (simp [Cy.turn, hk, Cy.tn]; omega)) (by first | (simp [Cy.turn, hk, Cy.tn]; done) | (simp [Cy.turn, hk, Cy.tn]; omega)) (by first | (simp [Cy.turn, hk, Cy.tn]; done) | (simp [Cy.turn, hk, Cy.tn]; omega)) (by first | (simp [Cy.turn, hk, Cy.tn]; done) | (simp [Cy.turn, hk, Cy.tn]; omega))]
  refine ⟨rfl, ?_⟩
  repeat' (first | exact Q.refl _ | refine Q.alloc ?_ _ | refine Q.jk ?_ _ | refine Q.drew ?_)

set_option maxHeartbeats 1000000 in
theorem turn_5 (a b c d k : Int) (w : World) (h : wiB ⟨a, b, c, d⟩ 576460752303423488 = true) (hk : k % 12 = 5) :
    Calls Try.prog 49 #[.agg #[.int .i64 a, .int .i64 b, .int .i64 c, .int .i64 d], .int .i64 k] w fun e w' => e = .returned (.tuple #[.agg #[.int .i64 (turnR ⟨a, b, c, d⟩ k).v.a, .int .i64 (turnR ⟨a, b, c, d⟩ k).v.b, .int .i64 (turnR ⟨a, b, c, d⟩ k).v.c, .int .i64 (turnR ⟨a, b, c, d⟩ k).v.d], .int .i64 (turnR ⟨a, b, c, d⟩ k).e]) ∧ Q w w' := by
  obtain ⟨l1, l2, l3, l4, l5, l6, l7, l8⟩ := wiB_in h
  dsimp only at l1 l2 l3 l4 l5 l6 l7 l8
  go_enter Try.func49, Try.ntmps49
  go_wp2_with (first | (go_at_call 79; refine (within_any _ _ _ _ _ _ (by omega) (by omega)).mono ?_; rintro e w' ⟨rfl, kj, rfl⟩) | (go_at_call 81; refine (limited_any _ _ _ _ _).mono ?_; rintro e w' ⟨rfl, kj, rfl⟩) | (go_at_call 82; refine (dozen_any _ _).mono ?_; rintro e w' ⟨rfl, rfl⟩) | (go_at_call 83; refine (minus_any _ _ _ _ _ (by omega) (by omega) (by omega) (by omega) (by omega) (by omega) (by omega) (by omega)).mono ?_; rintro e w' ⟨rfl, kj, rfl⟩))
  refine wp_loop_rounds 6 ?_
  repeat any_goals (rw [rounds_succ]; go_wp2_with (first | (go_at_call 79; refine (within_any _ _ _ _ _ _ (by omega) (by omega)).mono ?_; rintro e w' ⟨rfl, kj, rfl⟩) | (go_at_call 81; refine (limited_any _ _ _ _ _).mono ?_; rintro e w' ⟨rfl, kj, rfl⟩) | (go_at_call 82; refine (dozen_any _ _).mono ?_; rintro e w' ⟨rfl, rfl⟩) | (go_at_call 83; refine (minus_any _ _ _ _ _ (by omega) (by omega) (by omega) (by omega) (by omega) (by omega) (by omega) (by omega)).mono ?_; rintro e w' ⟨rfl, kj, rfl⟩)))
  go_returns
  rw [turn_close a b c d k _ _ _ _ h (by first | (simp [Cy.turn, hk, Cy.tn]; done) | (simp [Cy.turn, hk, Cy.tn]; omega)) (by first | (simp [Cy.turn, hk, Cy.tn]; done) | (simp [Cy.turn, hk, Cy.tn]; omega)) (by first | (simp [Cy.turn, hk, Cy.tn]; done) | (simp [Cy.turn, hk, Cy.tn]; omega)) (by first | (simp [Cy.turn, hk, Cy.tn]; done) | (simp [Cy.turn, hk, Cy.tn]; omega))]
  refine ⟨rfl, ?_⟩
  repeat' (first | exact Q.refl _ | refine Q.alloc ?_ _ | refine Q.jk ?_ _ | refine Q.drew ?_)

set_option maxHeartbeats 1000000 in
theorem turn_6 (a b c d k : Int) (w : World) (h : wiB ⟨a, b, c, d⟩ 576460752303423488 = true) (hk : k % 12 = 6) :
    Calls Try.prog 49 #[.agg #[.int .i64 a, .int .i64 b, .int .i64 c, .int .i64 d], .int .i64 k] w fun e w' => e = .returned (.tuple #[.agg #[.int .i64 (turnR ⟨a, b, c, d⟩ k).v.a, .int .i64 (turnR ⟨a, b, c, d⟩ k).v.b, .int .i64 (turnR ⟨a, b, c, d⟩ k).v.c, .int .i64 (turnR ⟨a, b, c, d⟩ k).v.d], .int .i64 (turnR ⟨a, b, c, d⟩ k).e]) ∧ Q w w' := by
  obtain ⟨l1, l2, l3, l4, l5, l6, l7, l8⟩ := wiB_in h
  dsimp only at l1 l2 l3 l4 l5 l6 l7 l8
  go_enter Try.func49, Try.ntmps49
  go_wp2_with (first | (go_at_call 79; refine (within_any _ _ _ _ _ _ (by omega) (by omega)).mono ?_; rintro e w' ⟨rfl, kj, rfl⟩) | (go_at_call 81; refine (limited_any _ _ _ _ _).mono ?_; rintro e w' ⟨rfl, kj, rfl⟩) | (go_at_call 82; refine (dozen_any _ _).mono ?_; rintro e w' ⟨rfl, rfl⟩) | (go_at_call 83; refine (minus_any _ _ _ _ _ (by omega) (by omega) (by omega) (by omega) (by omega) (by omega) (by omega) (by omega)).mono ?_; rintro e w' ⟨rfl, kj, rfl⟩))
  refine wp_loop_rounds 1 ?_
  repeat any_goals (rw [rounds_succ]; go_wp2_with (first | (go_at_call 79; refine (within_any _ _ _ _ _ _ (by omega) (by omega)).mono ?_; rintro e w' ⟨rfl, kj, rfl⟩) | (go_at_call 81; refine (limited_any _ _ _ _ _).mono ?_; rintro e w' ⟨rfl, kj, rfl⟩) | (go_at_call 82; refine (dozen_any _ _).mono ?_; rintro e w' ⟨rfl, rfl⟩) | (go_at_call 83; refine (minus_any _ _ _ _ _ (by omega) (by omega) (by omega) (by omega) (by omega) (by omega) (by omega) (by omega)).mono ?_; rintro e w' ⟨rfl, kj, rfl⟩)))
  go_returns
  rw [turn_close a b c d k _ _ _ _ h (by first | (simp [Cy.turn, hk, Cy.tn]; done) | (simp [Cy.turn, hk, Cy.tn]; omega)) (by first | (simp [Cy.turn, hk, Cy.tn]; done) | (simp [Cy.turn, hk, Cy.tn]; omega)) (by first | (simp [Cy.turn, hk, Cy.tn]; done) | (simp [Cy.turn, hk, Cy.tn]; omega)) (by first | (simp [Cy.turn, hk, Cy.tn]; done) | (simp [Cy.turn, hk, Cy.tn]; omega))]
  refine ⟨rfl, ?_⟩
  repeat' (first | exact Q.refl _ | refine Q.alloc ?_ _ | refine Q.jk ?_ _ | refine Q.drew ?_)

set_option maxHeartbeats 1000000 in
theorem turn_7 (a b c d k : Int) (w : World) (h : wiB ⟨a, b, c, d⟩ 576460752303423488 = true) (hk : k % 12 = 7) :
    Calls Try.prog 49 #[.agg #[.int .i64 a, .int .i64 b, .int .i64 c, .int .i64 d], .int .i64 k] w fun e w' => e = .returned (.tuple #[.agg #[.int .i64 (turnR ⟨a, b, c, d⟩ k).v.a, .int .i64 (turnR ⟨a, b, c, d⟩ k).v.b, .int .i64 (turnR ⟨a, b, c, d⟩ k).v.c, .int .i64 (turnR ⟨a, b, c, d⟩ k).v.d], .int .i64 (turnR ⟨a, b, c, d⟩ k).e]) ∧ Q w w' := by
  obtain ⟨l1, l2, l3, l4, l5, l6, l7, l8⟩ := wiB_in h
  dsimp only at l1 l2 l3 l4 l5 l6 l7 l8
  go_enter Try.func49, Try.ntmps49
  go_wp2_with (first | (go_at_call 79; refine (within_any _ _ _ _ _ _ (by omega) (by omega)).mono ?_; rintro e w' ⟨rfl, kj, rfl⟩) | (go_at_call 81; refine (limited_any _ _ _ _ _).mono ?_; rintro e w' ⟨rfl, kj, rfl⟩) | (go_at_call 82; refine (dozen_any _ _).mono ?_; rintro e w' ⟨rfl, rfl⟩) | (go_at_call 83; refine (minus_any _ _ _ _ _ (by omega) (by omega) (by omega) (by omega) (by omega) (by omega) (by omega) (by omega)).mono ?_; rintro e w' ⟨rfl, kj, rfl⟩))
  refine wp_loop_rounds 2 ?_
  repeat any_goals (rw [rounds_succ]; go_wp2_with (first | (go_at_call 79; refine (within_any _ _ _ _ _ _ (by omega) (by omega)).mono ?_; rintro e w' ⟨rfl, kj, rfl⟩) | (go_at_call 81; refine (limited_any _ _ _ _ _).mono ?_; rintro e w' ⟨rfl, kj, rfl⟩) | (go_at_call 82; refine (dozen_any _ _).mono ?_; rintro e w' ⟨rfl, rfl⟩) | (go_at_call 83; refine (minus_any _ _ _ _ _ (by omega) (by omega) (by omega) (by omega) (by omega) (by omega) (by omega) (by omega)).mono ?_; rintro e w' ⟨rfl, kj, rfl⟩)))
  go_returns
  rw [turn_close a b c d k _ _ _ _ h (by first | (simp [Cy.turn, hk, Cy.tn]; done) | (simp [Cy.turn, hk, Cy.tn]; omega)) (by first | (simp [Cy.turn, hk, Cy.tn]; done) | (simp [Cy.turn, hk, Cy.tn]; omega)) (by first | (simp [Cy.turn, hk, Cy.tn]; done) | (simp [Cy.turn, hk, Cy.tn]; omega)) (by first | (simp [Cy.turn, hk, Cy.tn]; done) | (simp [Cy.turn, hk, Cy.tn]; omega))]
  refine ⟨rfl, ?_⟩
  repeat' (first | exact Q.refl _ | refine Q.alloc ?_ _ | refine Q.jk ?_ _ | refine Q.drew ?_)

set_option maxHeartbeats 1000000 in
theorem turn_8 (a b c d k : Int) (w : World) (h : wiB ⟨a, b, c, d⟩ 576460752303423488 = true) (hk : k % 12 = 8) :
    Calls Try.prog 49 #[.agg #[.int .i64 a, .int .i64 b, .int .i64 c, .int .i64 d], .int .i64 k] w fun e w' => e = .returned (.tuple #[.agg #[.int .i64 (turnR ⟨a, b, c, d⟩ k).v.a, .int .i64 (turnR ⟨a, b, c, d⟩ k).v.b, .int .i64 (turnR ⟨a, b, c, d⟩ k).v.c, .int .i64 (turnR ⟨a, b, c, d⟩ k).v.d], .int .i64 (turnR ⟨a, b, c, d⟩ k).e]) ∧ Q w w' := by
  obtain ⟨l1, l2, l3, l4, l5, l6, l7, l8⟩ := wiB_in h
  dsimp only at l1 l2 l3 l4 l5 l6 l7 l8
  go_enter Try.func49, Try.ntmps49
  go_wp2_with (first | (go_at_call 79; refine (within_any _ _ _ _ _ _ (by omega) (by omega)).mono ?_; rintro e w' ⟨rfl, kj, rfl⟩) | (go_at_call 81; refine (limited_any _ _ _ _ _).mono ?_; rintro e w' ⟨rfl, kj, rfl⟩) | (go_at_call 82; refine (dozen_any _ _).mono ?_; rintro e w' ⟨rfl, rfl⟩) | (go_at_call 83; refine (minus_any _ _ _ _ _ (by omega) (by omega) (by omega) (by omega) (by omega) (by omega) (by omega) (by omega)).mono ?_; rintro e w' ⟨rfl, kj, rfl⟩))
  refine wp_loop_rounds 3 ?_
  repeat any_goals (rw [rounds_succ]; go_wp2_with (first | (go_at_call 79; refine (within_any _ _ _ _ _ _ (by omega) (by omega)).mono ?_; rintro e w' ⟨rfl, kj, rfl⟩) | (go_at_call 81; refine (limited_any _ _ _ _ _).mono ?_; rintro e w' ⟨rfl, kj, rfl⟩) | (go_at_call 82; refine (dozen_any _ _).mono ?_; rintro e w' ⟨rfl, rfl⟩) | (go_at_call 83; refine (minus_any _ _ _ _ _ (by omega) (by omega) (by omega) (by omega) (by omega) (by omega) (by omega) (by omega)).mono ?_; rintro e w' ⟨rfl, kj, rfl⟩)))
  go_returns
  rw [turn_close a b c d k _ _ _ _ h (by first | (simp [Cy.turn, hk, Cy.tn]; done) | (simp [Cy.turn, hk, Cy.tn]; omega)) (by first | (simp [Cy.turn, hk, Cy.tn]; done) | (simp [Cy.turn, hk, Cy.tn]; omega)) (by first | (simp [Cy.turn, hk, Cy.tn]; done) | (simp [Cy.turn, hk, Cy.tn]; omega)) (by first | (simp [Cy.turn, hk, Cy.tn]; done) | (simp [Cy.turn, hk, Cy.tn]; omega))]
  refine ⟨rfl, ?_⟩
  repeat' (first | exact Q.refl _ | refine Q.alloc ?_ _ | refine Q.jk ?_ _ | refine Q.drew ?_)

set_option maxHeartbeats 1000000 in
theorem turn_9 (a b c d k : Int) (w : World) (h : wiB ⟨a, b, c, d⟩ 576460752303423488 = true) (hk : k % 12 = 9) :
    Calls Try.prog 49 #[.agg #[.int .i64 a, .int .i64 b, .int .i64 c, .int .i64 d], .int .i64 k] w fun e w' => e = .returned (.tuple #[.agg #[.int .i64 (turnR ⟨a, b, c, d⟩ k).v.a, .int .i64 (turnR ⟨a, b, c, d⟩ k).v.b, .int .i64 (turnR ⟨a, b, c, d⟩ k).v.c, .int .i64 (turnR ⟨a, b, c, d⟩ k).v.d], .int .i64 (turnR ⟨a, b, c, d⟩ k).e]) ∧ Q w w' := by
  obtain ⟨l1, l2, l3, l4, l5, l6, l7, l8⟩ := wiB_in h
  dsimp only at l1 l2 l3 l4 l5 l6 l7 l8
  go_enter Try.func49, Try.ntmps49
  go_wp2_with (first | (go_at_call 79; refine (within_any _ _ _ _ _ _ (by omega) (by omega)).mono ?_; rintro e w' ⟨rfl, kj, rfl⟩) | (go_at_call 81; refine (limited_any _ _ _ _ _).mono ?_; rintro e w' ⟨rfl, kj, rfl⟩) | (go_at_call 82; refine (dozen_any _ _).mono ?_; rintro e w' ⟨rfl, rfl⟩) | (go_at_call 83; refine (minus_any _ _ _ _ _ (by omega) (by omega) (by omega) (by omega) (by omega) (by omega) (by omega) (by omega)).mono ?_; rintro e w' ⟨rfl, kj, rfl⟩))
  refine wp_loop_rounds 4 ?_
  repeat any_goals (rw [rounds_succ]; go_wp2_with (first | (go_at_call 79; refine (within_any _ _ _ _ _ _ (by omega) (by omega)).mono ?_; rintro e w' ⟨rfl, kj, rfl⟩) | (go_at_call 81; refine (limited_any _ _ _ _ _).mono ?_; rintro e w' ⟨rfl, kj, rfl⟩) | (go_at_call 82; refine (dozen_any _ _).mono ?_; rintro e w' ⟨rfl, rfl⟩) | (go_at_call 83; refine (minus_any _ _ _ _ _ (by omega) (by omega) (by omega) (by omega) (by omega) (by omega) (by omega) (by omega)).mono ?_; rintro e w' ⟨rfl, kj, rfl⟩)))
  go_returns
  rw [turn_close a b c d k _ _ _ _ h (by first | (simp [Cy.turn, hk, Cy.tn]; done) | (simp [Cy.turn, hk, Cy.tn]; omega)) (by first | (simp [Cy.turn, hk, Cy.tn]; done) | (simp [Cy.turn, hk, Cy.tn]; omega)) (by first | (simp [Cy.turn, hk, Cy.tn]; done) | (simp [Cy.turn, hk, Cy.tn]; omega)) (by first | (simp [Cy.turn, hk, Cy.tn]; done) | (simp [Cy.turn, hk, Cy.tn]; omega))]
  refine ⟨rfl, ?_⟩
  repeat' (first | exact Q.refl _ | refine Q.alloc ?_ _ | refine Q.jk ?_ _ | refine Q.drew ?_)

set_option maxHeartbeats 1000000 in
theorem turn_10 (a b c d k : Int) (w : World) (h : wiB ⟨a, b, c, d⟩ 576460752303423488 = true) (hk : k % 12 = 10) :
    Calls Try.prog 49 #[.agg #[.int .i64 a, .int .i64 b, .int .i64 c, .int .i64 d], .int .i64 k] w fun e w' => e = .returned (.tuple #[.agg #[.int .i64 (turnR ⟨a, b, c, d⟩ k).v.a, .int .i64 (turnR ⟨a, b, c, d⟩ k).v.b, .int .i64 (turnR ⟨a, b, c, d⟩ k).v.c, .int .i64 (turnR ⟨a, b, c, d⟩ k).v.d], .int .i64 (turnR ⟨a, b, c, d⟩ k).e]) ∧ Q w w' := by
  obtain ⟨l1, l2, l3, l4, l5, l6, l7, l8⟩ := wiB_in h
  dsimp only at l1 l2 l3 l4 l5 l6 l7 l8
  go_enter Try.func49, Try.ntmps49
  go_wp2_with (first | (go_at_call 79; refine (within_any _ _ _ _ _ _ (by omega) (by omega)).mono ?_; rintro e w' ⟨rfl, kj, rfl⟩) | (go_at_call 81; refine (limited_any _ _ _ _ _).mono ?_; rintro e w' ⟨rfl, kj, rfl⟩) | (go_at_call 82; refine (dozen_any _ _).mono ?_; rintro e w' ⟨rfl, rfl⟩) | (go_at_call 83; refine (minus_any _ _ _ _ _ (by omega) (by omega) (by omega) (by omega) (by omega) (by omega) (by omega) (by omega)).mono ?_; rintro e w' ⟨rfl, kj, rfl⟩))
  refine wp_loop_rounds 5 ?_
  repeat any_goals (rw [rounds_succ]; go_wp2_with (first | (go_at_call 79; refine (within_any _ _ _ _ _ _ (by omega) (by omega)).mono ?_; rintro e w' ⟨rfl, kj, rfl⟩) | (go_at_call 81; refine (limited_any _ _ _ _ _).mono ?_; rintro e w' ⟨rfl, kj, rfl⟩) | (go_at_call 82; refine (dozen_any _ _).mono ?_; rintro e w' ⟨rfl, rfl⟩) | (go_at_call 83; refine (minus_any _ _ _ _ _ (by omega) (by omega) (by omega) (by omega) (by omega) (by omega) (by omega) (by omega)).mono ?_; rintro e w' ⟨rfl, kj, rfl⟩)))
  go_returns
  rw [turn_close a b c d k _ _ _ _ h (by first | (simp [Cy.turn, hk, Cy.tn]; done) | (simp [Cy.turn, hk, Cy.tn]; omega)) (by first | (simp [Cy.turn, hk, Cy.tn]; done) | (simp [Cy.turn, hk, Cy.tn]; omega)) (by first | (simp [Cy.turn, hk, Cy.tn]; done) | (simp [Cy.turn, hk, Cy.tn]; omega)) (by first | (simp [Cy.turn, hk, Cy.tn]; done) | (simp [Cy.turn, hk, Cy.tn]; omega))]
  refine ⟨rfl, ?_⟩
  repeat' (first | exact Q.refl _ | refine Q.alloc ?_ _ | refine Q.jk ?_ _ | refine Q.drew ?_)

set_option maxHeartbeats 1000000 in
theorem turn_11 (a b c d k : Int) (w : World) (h : wiB ⟨a, b, c, d⟩ 576460752303423488 = true) (hk : k % 12 = 11) :
    Calls Try.prog 49 #[.agg #[.int .i64 a, .int .i64 b, .int .i64 c, .int .i64 d], .int .i64 k] w fun e w' => e = .returned (.tuple #[.agg #[.int .i64 (turnR ⟨a, b, c, d⟩ k).v.a, .int .i64 (turnR ⟨a, b, c, d⟩ k).v.b, .int .i64 (turnR ⟨a, b, c, d⟩ k).v.c, .int .i64 (turnR ⟨a, b, c, d⟩ k).v.d], .int .i64 (turnR ⟨a, b, c, d⟩ k).e]) ∧ Q w w' := by
  obtain ⟨l1, l2, l3, l4, l5, l6, l7, l8⟩ := wiB_in h
  dsimp only at l1 l2 l3 l4 l5 l6 l7 l8
  go_enter Try.func49, Try.ntmps49
  go_wp2_with (first | (go_at_call 79; refine (within_any _ _ _ _ _ _ (by omega) (by omega)).mono ?_; rintro e w' ⟨rfl, kj, rfl⟩) | (go_at_call 81; refine (limited_any _ _ _ _ _).mono ?_; rintro e w' ⟨rfl, kj, rfl⟩) | (go_at_call 82; refine (dozen_any _ _).mono ?_; rintro e w' ⟨rfl, rfl⟩) | (go_at_call 83; refine (minus_any _ _ _ _ _ (by omega) (by omega) (by omega) (by omega) (by omega) (by omega) (by omega) (by omega)).mono ?_; rintro e w' ⟨rfl, kj, rfl⟩))
  refine wp_loop_rounds 6 ?_
  repeat any_goals (rw [rounds_succ]; go_wp2_with (first | (go_at_call 79; refine (within_any _ _ _ _ _ _ (by omega) (by omega)).mono ?_; rintro e w' ⟨rfl, kj, rfl⟩) | (go_at_call 81; refine (limited_any _ _ _ _ _).mono ?_; rintro e w' ⟨rfl, kj, rfl⟩) | (go_at_call 82; refine (dozen_any _ _).mono ?_; rintro e w' ⟨rfl, rfl⟩) | (go_at_call 83; refine (minus_any _ _ _ _ _ (by omega) (by omega) (by omega) (by omega) (by omega) (by omega) (by omega) (by omega)).mono ?_; rintro e w' ⟨rfl, kj, rfl⟩)))
  go_returns
  rw [turn_close a b c d k _ _ _ _ h (by first | (simp [Cy.turn, hk, Cy.tn]; done) | (simp [Cy.turn, hk, Cy.tn]; omega)) (by first | (simp [Cy.turn, hk, Cy.tn]; done) | (simp [Cy.turn, hk, Cy.tn]; omega)) (by first | (simp [Cy.turn, hk, Cy.tn]; done) | (simp [Cy.turn, hk, Cy.tn]; omega)) (by first | (simp [Cy.turn, hk, Cy.tn]; done) | (simp [Cy.turn, hk, Cy.tn]; omega))]
  refine ⟨rfl, ?_⟩
  repeat' (first | exact Q.refl _ | refine Q.alloc ?_ _ | refine Q.jk ?_ _ | refine Q.drew ?_)

set_option maxHeartbeats 400000 in
theorem turn_any (a b c d k : Int) (w : World) :
    Calls Try.prog 49 #[.agg #[.int .i64 a, .int .i64 b, .int .i64 c, .int .i64 d], .int .i64 k] w fun e w' => e = .returned (.tuple #[.agg #[.int .i64 (turnR ⟨a, b, c, d⟩ k).v.a, .int .i64 (turnR ⟨a, b, c, d⟩ k).v.b, .int .i64 (turnR ⟨a, b, c, d⟩ k).v.c, .int .i64 (turnR ⟨a, b, c, d⟩ k).v.d], .int .i64 (turnR ⟨a, b, c, d⟩ k).e]) ∧ Q w w' := by
  by_cases h : wiB ⟨a, b, c, d⟩ 576460752303423488 = true
  · rcases dz_cases k with hk | hk | hk | hk | hk | hk | hk | hk | hk | hk | hk | hk
    · exact turn_0 a b c d k w h hk
    · exact turn_1 a b c d k w h hk
    · exact turn_2 a b c d k w h hk
    · exact turn_3 a b c d k w h hk
    · exact turn_4 a b c d k w h hk
    · exact turn_5 a b c d k w h hk
    · exact turn_6 a b c d k w h hk
    · exact turn_7 a b c d k w h hk
    · exact turn_8 a b c d k w h hk
    · exact turn_9 a b c d k w h hk
    · exact turn_10 a b c d k w h hk
    · exact turn_11 a b c d k w h hk
  · have h : wiB ⟨a, b, c, d⟩ 576460752303423488 = false := by simpa using h
    go_enter Try.func49, Try.ntmps49
    go_wp2_with (go_at_call 79; refine (within_any _ _ _ _ _ _ (by omega) (by omega)).mono ?_; rintro e w' ⟨rfl, kj, rfl⟩)
    refine bodyPost_ret (v := .tuple #[.agg #[.int .i64 (R4.mk zeroC 1).v.a, .int .i64 (R4.mk zeroC 1).v.b, .int .i64 (R4.mk zeroC 1).v.c, .int .i64 (R4.mk zeroC 1).v.d], .int .i64 (R4.mk zeroC 1).e]) (by simp [results, Try.results49, go_sem, zeroC]) rfl ⟨by simp [turnR, h], ?_⟩
    repeat' (first | exact Q.refl _ | refine Q.alloc ?_ _ | refine Q.jk ?_ _ | refine Q.drew ?_)

/-- The table of package cyclo lies in its place. -/
def rootTab : List Int := [1, 0, 0, 0, 0, 1, 0, 0, 0, 0, 1, 0, 0, 0, 0, 1, -1, 0, 1, 0, 0, -1, 0, 1]
end Go.Proofs.Ytkkjifgcjfbcaaa
