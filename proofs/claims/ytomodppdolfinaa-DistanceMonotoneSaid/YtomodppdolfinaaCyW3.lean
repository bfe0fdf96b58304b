
/- What Mul, Root and Turn of package cyclo return. -/
import Derived.Test.YtomodppdolfinaaCyW2
import Derived.Test.YtomodppdolfinaaEqsP
namespace Go.Proofs.Ytomodppdolfinaa
open Go.RowKit Go.Sub

theorem limR_mul (a b c d a' b' c' d' : Int) (h : wiB ⟨a, b, c, d⟩ 268435456 = true) (h' : wiB ⟨a', b', c', d'⟩ 268435456 = true) :
    limR ⟨a * a' - (b * d' + c * c' + d * b') - d * d', a * b' + b * a' - (c * d' + d * c'), a * c' + b * b' + c * a' + (b * d' + c * c' + d * b'), a * d' + b * c' + c * b' + d * a' + (c * d' + d * c')⟩ = mulR ⟨a, b, c, d⟩ ⟨a', b', c', d'⟩ := by
  have e : (Cy.mk (a * a' - (b * d' + c * c' + d * b') - d * d') (a * b' + b * a' - (c * d' + d * c')) (a * c' + b * b' + c * a' + (b * d' + c * c' + d * b')) (a * d' + b * c' + c * b' + d * a' + (c * d' + d * c'))) = Cy.mul ⟨a, b, c, d⟩ ⟨a', b', c', d'⟩ := by
    simp only [Cy.mul]
  rw [e]
  have hi := (mul_in (prods_of (wiB_in h) (wiB_in h'))).mono (show 6 * (268435456 * 268435456) ≤ (576460752303423488 : Int) by decide)
  simp [limR, mulR, h, h', wiB_of hi]

set_option maxHeartbeats 4000000 in
theorem mul_full (a b c d a' b' c' d' : Int) (w : World) (h : wiB ⟨a, b, c, d⟩ 268435456 = true) (h' : wiB ⟨a', b', c', d'⟩ 268435456 = true)
    (hz : Cy.eqB ⟨a, b, c, d⟩ ⟨0, 0, 0, 0⟩ = false) (hz' : Cy.eqB ⟨a', b', c', d'⟩ ⟨0, 0, 0, 0⟩ = false) :
    Calls Try.prog 17 #[.agg #[.int .i64 a, .int .i64 b, .int .i64 c, .int .i64 d], .agg #[.int .i64 a', .int .i64 b', .int .i64 c', .int .i64 d']] w fun e w' => e = .returned (.tuple #[.agg #[.int .i64 (limR ⟨a * a' - (b * d' + c * c' + d * b') - d * d', a * b' + b * a' - (c * d' + d * c'), a * c' + b * b' + c * a' + (b * d' + c * c' + d * b'), a * d' + b * c' + c * b' + d * a' + (c * d' + d * c')⟩).v.a, .int .i64 (limR ⟨a * a' - (b * d' + c * c' + d * b') - d * d', a * b' + b * a' - (c * d' + d * c'), a * c' + b * b' + c * a' + (b * d' + c * c' + d * b'), a * d' + b * c' + c * b' + d * a' + (c * d' + d * c')⟩).v.b, .int .i64 (limR ⟨a * a' - (b * d' + c * c' + d * b') - d * d', a * b' + b * a' - (c * d' + d * c'), a * c' + b * b' + c * a' + (b * d' + c * c' + d * b'), a * d' + b * c' + c * b' + d * a' + (c * d' + d * c')⟩).v.c, .int .i64 (limR ⟨a * a' - (b * d' + c * c' + d * b') - d * d', a * b' + b * a' - (c * d' + d * c'), a * c' + b * b' + c * a' + (b * d' + c * c' + d * b'), a * d' + b * c' + c * b' + d * a' + (c * d' + d * c')⟩).v.d], .int .i64 (limR ⟨a * a' - (b * d' + c * c' + d * b') - d * d', a * b' + b * a' - (c * d' + d * c'), a * c' + b * b' + c * a' + (b * d' + c * c' + d * b'), a * d' + b * c' + c * b' + d * a' + (c * d' + d * c')⟩).e]) ∧ Q w w' := by
  obtain ⟨l1, l2, l3, l4, l5, l6, l7, l8⟩ := wiB_in h
  obtain ⟨m1, m2, m3, m4, m5, m6, m7, m8⟩ := wiB_in h'
  dsimp only at l1 l2 l3 l4 l5 l6 l7 l8 m1 m2 m3 m4 m5 m6 m7 m8
  obtain ⟨p0, p1⟩ := bd_mul l1 l2 m1 m2
  obtain ⟨p2, p3⟩ := bd_mul l1 l2 m3 m4
  obtain ⟨p4, p5⟩ := bd_mul l1 l2 m5 m6
  obtain ⟨p6, p7⟩ := bd_mul l1 l2 m7 m8
  obtain ⟨p8, p9⟩ := bd_mul l3 l4 m1 m2
  obtain ⟨p10, p11⟩ := bd_mul l3 l4 m3 m4
  obtain ⟨p12, p13⟩ := bd_mul l3 l4 m5 m6
  obtain ⟨p14, p15⟩ := bd_mul l3 l4 m7 m8
  obtain ⟨p16, p17⟩ := bd_mul l5 l6 m1 m2
  obtain ⟨p18, p19⟩ := bd_mul l5 l6 m3 m4
  obtain ⟨p20, p21⟩ := bd_mul l5 l6 m5 m6
  obtain ⟨p22, p23⟩ := bd_mul l5 l6 m7 m8
  obtain ⟨p24, p25⟩ := bd_mul l7 l8 m1 m2
  obtain ⟨p26, p27⟩ := bd_mul l7 l8 m3 m4
  obtain ⟨p28, p29⟩ := bd_mul l7 l8 m5 m6
  obtain ⟨p30, p31⟩ := bd_mul l7 l8 m7 m8
  simp only [Int.reduceMul, Int.reduceNeg] at p0 p1 p2 p3 p4 p5 p6 p7 p8 p9 p10 p11 p12 p13 p14 p15 p16 p17 p18 p19 p20 p21 p22 p23 p24 p25 p26 p27 p28 p29 p30 p31
  go_enter Try.func17, Try.ntmps17
  go_wp2_with (go_at_call 38; refine (within_any _ _ _ _ _ _ (by omega) (by omega)).mono ?_; rintro e w' ⟨rfl, kj, rfl⟩)
  refine wp_loop_rounds 5 ?_
  rw [rounds_succ]; go_wp2
  go_rounds 5
  go_rounds 5
  go_rounds 5
  refine wp_loop_rounds 5 ?_
  repeat any_goals (rw [rounds_succ]; go_wp2_with (go_at_call 39; refine (limited_any _ _ _ _ _).mono ?_; rintro e w' ⟨rfl, kj, rfl⟩))
  refine bodyPost_ret (v := .tuple #[.agg #[.int .i64 (limR ⟨a * a' - (b * d' + c * c' + d * b') - d * d', a * b' + b * a' - (c * d' + d * c'), a * c' + b * b' + c * a' + (b * d' + c * c' + d * b'), a * d' + b * c' + c * b' + d * a' + (c * d' + d * c')⟩).v.a, .int .i64 (limR ⟨a * a' - (b * d' + c * c' + d * b') - d * d', a * b' + b * a' - (c * d' + d * c'), a * c' + b * b' + c * a' + (b * d' + c * c' + d * b'), a * d' + b * c' + c * b' + d * a' + (c * d' + d * c')⟩).v.b, .int .i64 (limR ⟨a * a' - (b * d' + c * c' + d * b') - d * d', a * b' + b * a' - (c * d' + d * c'), a * c' + b * b' + c * a' + (b * d' + c * c' + d * b'), a * d' + b * c' + c * b' + d * a' + (c * d' + d * c')⟩).v.c, .int .i64 (limR ⟨a * a' - (b * d' + c * c' + d * b') - d * d', a * b' + b * a' - (c * d' + d * c'), a * c' + b * b' + c * a' + (b * d' + c * c' + d * b'), a * d' + b * c' + c * b' + d * a' + (c * d' + d * c')⟩).v.d], .int .i64 (limR ⟨a * a' - (b * d' + c * c' + d * b') - d * d', a * b' + b * a' - (c * d' + d * c'), a * c' + b * b' + c * a' + (b * d' + c * c' + d * b'), a * d' + b * c' + c * b' + d * a' + (c * d' + d * c')⟩).e]) (by simp [results, Try.results17, go_sem]) rfl ⟨rfl, ?_⟩
  repeat' (first | exact Q.refl _ | refine Q.alloc ?_ _ | refine Q.jk ?_ _ | refine Q.drew ?_)


theorem mul_any (a b c d a' b' c' d' : Int) (w : World) :
    Calls Try.prog 17 #[.agg #[.int .i64 a, .int .i64 b, .int .i64 c, .int .i64 d], .agg #[.int .i64 a', .int .i64 b', .int .i64 c', .int .i64 d']] w fun e w' => e = .returned (.tuple #[.agg #[.int .i64 (mulR ⟨a, b, c, d⟩ ⟨a', b', c', d'⟩).v.a, .int .i64 (mulR ⟨a, b, c, d⟩ ⟨a', b', c', d'⟩).v.b, .int .i64 (mulR ⟨a, b, c, d⟩ ⟨a', b', c', d'⟩).v.c, .int .i64 (mulR ⟨a, b, c, d⟩ ⟨a', b', c', d'⟩).v.d], .int .i64 (mulR ⟨a, b, c, d⟩ ⟨a', b', c', d'⟩).e]) ∧ Q w w' := by
  by_cases h : wiB ⟨a, b, c, d⟩ 268435456 = true
  · by_cases h' : wiB ⟨a', b', c', d'⟩ 268435456 = true
    · by_cases hz : Cy.eqB ⟨a, b, c, d⟩ ⟨0, 0, 0, 0⟩ = true
      · have e0 : mulR ⟨a, b, c, d⟩ ⟨a', b', c', d'⟩ = ⟨zeroC, 0⟩ := by
          rw [(Cy.eqB_iff _ _).1 hz] at h ⊢
          simp [mulR, h, h', Cy.mul, zeroC]
        rw [e0]
        clear e0
        go_enter Try.func17, Try.ntmps17
        go_wp2_with (go_at_call 38; refine (within_any _ _ _ _ _ _ (by omega) (by omega)).mono ?_; rintro e w' ⟨rfl, kj, rfl⟩)
        refine bodyPost_ret (v := .tuple #[.agg #[.int .i64 (R4.mk zeroC 0).v.a, .int .i64 (R4.mk zeroC 0).v.b, .int .i64 (R4.mk zeroC 0).v.c, .int .i64 (R4.mk zeroC 0).v.d], .int .i64 (R4.mk zeroC 0).e]) (by simp [results, Try.results17, go_sem, zeroC]) rfl ⟨rfl, ?_⟩
        repeat' (first | exact Q.refl _ | refine Q.alloc ?_ _ | refine Q.jk ?_ _ | refine Q.drew ?_)
      · have hz : Cy.eqB ⟨a, b, c, d⟩ ⟨0, 0, 0, 0⟩ = false := by simpa using hz
        by_cases hz' : Cy.eqB ⟨a', b', c', d'⟩ ⟨0, 0, 0, 0⟩ = true
        · have e0 : mulR ⟨a, b, c, d⟩ ⟨a', b', c', d'⟩ = ⟨zeroC, 0⟩ := by
            rw [(Cy.eqB_iff _ _).1 hz'] at h' ⊢
            simp [mulR, h, h', Cy.mul, zeroC]
          rw [e0]
          clear e0
          go_enter Try.func17, Try.ntmps17
          go_wp2_with (go_at_call 38; refine (within_any _ _ _ _ _ _ (by omega) (by omega)).mono ?_; rintro e w' ⟨rfl, kj, rfl⟩)
          refine bodyPost_ret (v := .tuple #[.agg #[.int .i64 (R4.mk zeroC 0).v.a, .int .i64 (R4.mk zeroC 0).v.b, .int .i64 (R4.mk zeroC 0).v.c, .int .i64 (R4.mk zeroC 0).v.d], .int .i64 (R4.mk zeroC 0).e]) (by simp [results, Try.results17, go_sem, zeroC]) rfl ⟨rfl, ?_⟩
          repeat' (first | exact Q.refl _ | refine Q.alloc ?_ _ | refine Q.jk ?_ _ | refine Q.drew ?_)
        · have hz' : Cy.eqB ⟨a', b', c', d'⟩ ⟨0, 0, 0, 0⟩ = false := by simpa using hz'
          rw [← limR_mul a b c d a' b' c' d' h h']
          exact mul_full a b c d a' b' c' d' w h h' hz hz'
    · have h' : wiB ⟨a', b', c', d'⟩ 268435456 = false := by simpa using h'
      go_enter Try.func17, Try.ntmps17
      go_wp2_with (go_at_call 38; refine (within_any _ _ _ _ _ _ (by omega) (by omega)).mono ?_; rintro e w' ⟨rfl, kj, rfl⟩)
      refine bodyPost_ret (v := .tuple #[.agg #[.int .i64 (R4.mk zeroC 1).v.a, .int .i64 (R4.mk zeroC 1).v.b, .int .i64 (R4.mk zeroC 1).v.c, .int .i64 (R4.mk zeroC 1).v.d], .int .i64 (R4.mk zeroC 1).e]) (by simp [results, Try.results17, go_sem, zeroC]) rfl ⟨by simp [mulR, h, h'], ?_⟩
      repeat' (first | exact Q.refl _ | refine Q.alloc ?_ _ | refine Q.jk ?_ _ | refine Q.drew ?_)
  · have h : wiB ⟨a, b, c, d⟩ 268435456 = false := by simpa using h
    go_enter Try.func17, Try.ntmps17
    go_wp2_with (go_at_call 38; refine (within_any _ _ _ _ _ _ (by omega) (by omega)).mono ?_; rintro e w' ⟨rfl, kj, rfl⟩)
    refine bodyPost_ret (v := .tuple #[.agg #[.int .i64 (R4.mk zeroC 1).v.a, .int .i64 (R4.mk zeroC 1).v.b, .int .i64 (R4.mk zeroC 1).v.c, .int .i64 (R4.mk zeroC 1).v.d], .int .i64 (R4.mk zeroC 1).e]) (by simp [results, Try.results17, go_sem, zeroC]) rfl ⟨by simp [mulR, h], ?_⟩
    repeat' (first | exact Q.refl _ | refine Q.alloc ?_ _ | refine Q.jk ?_ _ | refine Q.drew ?_)

theorem turn_close (a b c d k t1 t2 t3 t4 : Int) (h : wiB ⟨a, b, c, d⟩ 576460752303423488 = true) (e1 : t1 = (Cy.turn ⟨a, b, c, d⟩ k).a) (e2 : t2 = (Cy.turn ⟨a, b, c, d⟩ k).b) (e3 : t3 = (Cy.turn ⟨a, b, c, d⟩ k).c) (e4 : t4 = (Cy.turn ⟨a, b, c, d⟩ k).d) :
    limR ⟨t1, t2, t3, t4⟩ = turnR ⟨a, b, c, d⟩ k := by
  have e : Cy.mk t1 t2 t3 t4 = Cy.turn ⟨a, b, c, d⟩ k := Cy.ext' e1 e2 e3 e4
  simp [turnR, h, e]

set_option maxHeartbeats 1000000 in
theorem turn_0 (a b c d k : Int) (w : World) (h : wiB ⟨a, b, c, d⟩ 576460752303423488 = true) (hk : k % 12 = 0) :
    Calls Try.prog 19 #[.agg #[.int .i64 a, .int .i64 b, .int .i64 c, .int .i64 d], .int .i64 k] w fun e w' => e = .returned (.tuple #[.agg #[.int .i64 (turnR ⟨a, b, c, d⟩ k).v.a, .int .i64 (turnR ⟨a, b, c, d⟩ k).v.b, .int .i64 (turnR ⟨a, b, c, d⟩ k).v.c, .int .i64 (turnR ⟨a, b, c, d⟩ k).v.d], .int .i64 (turnR ⟨a, b, c, d⟩ k).e]) ∧ Q w w' := by
  obtain ⟨l1, l2, l3, l4, l5, l6, l7, l8⟩ := wiB_in h
  dsimp only at l1 l2 l3 l4 l5 l6 l7 l8
  go_enter Try.func19, Try.ntmps19
  go_wp2_with (first | (go_at_call 38; refine (within_any _ _ _ _ _ _ (by omega) (by omega)).mono ?_; rintro e w' ⟨rfl, kj, rfl⟩) | (go_at_call 39; refine (limited_any _ _ _ _ _).mono ?_; rintro e w' ⟨rfl, kj, rfl⟩) | (go_at_call 49; refine (dozen_any _ _).mono ?_; rintro e w' ⟨rfl, rfl⟩) | (go_at_call 50; refine (minus_any _ _ _ _ _ (by omega) (by omega) (by omega) (by omega) (by omega) (by omega) (by omega) (by omega)).mono ?_; rintro e w' ⟨rfl, kj, rfl⟩))
  refine wp_loop_rounds 1 ?_
  repeat any_goals (rw [rounds_succ]; go_wp2_with (first | (go_at_call 38; refine (within_any _ _ _ _ _ _ (by omega) (by omega)).mono ?_; rintro e w' ⟨rfl, kj, rfl⟩) | (go_at_call 39; refine (limited_any _ _ _ _ _).mono ?_; rintro e w' ⟨rfl, kj, rfl⟩) | (go_at_call 49; refine (dozen_any _ _).mono ?_; rintro e w' ⟨rfl, rfl⟩) | (go_at_call 50; refine (minus_any _ _ _ _ _ (by omega) (by omega) (by omega) (by omega) (by omega) (by omega) (by omega) (by omega)).mono ?_; rintro e w' ⟨rfl, kj, rfl⟩)))
  go_returns
  rw [turn_close a b c d k _ _ _ _ h (by first | (simp [Cy.turn, hk, Cy.tn]; done) | (simp [Cy.turn, hk, Cy.tn]; omega)) (by first | (simp [Cy.turn, hk, Cy.tn]; done) | (simp [Cy.turn, hk, Cy.tn]; omega)) (by first | (simp [Cy.turn, hk, Cy.tn]; done) | (simp [Cy.turn, hk, Cy.tn]; omega)) (by first | (simp [Cy.turn, hk, Cy.tn]; done) | (simp [Cy.turn, hk, Cy.tn]; omega))]
  refine ⟨rfl, ?_⟩
  repeat' (first | exact Q.refl _ | refine Q.alloc ?_ _ | refine Q.jk ?_ _ | refine Q.drew ?_)

set_option maxHeartbeats 1000000 in
theorem turn_1 (a b c d k : Int) (w : World) (h : wiB ⟨a, b, c, d⟩ 576460752303423488 = true) (hk : k % 12 = 1) :
    Calls Try.prog 19 #[.agg #[.int .i64 a, .int .i64 b, .int .i64 c, .int .i64 d], .int .i64 k] w fun e w' => e = .returned (.tuple #[.agg #[.int .i64 (turnR ⟨a, b, c, d⟩ k).v.a, .int .i64 (turnR ⟨a, b, c, d⟩ k).v.b, .int .i64 (turnR ⟨a, b, c, d⟩ k).v.c, .int .i64 (turnR ⟨a, b, c, d⟩ k).v.d], .int .i64 (turnR ⟨a, b, c, d⟩ k).e]) ∧ Q w w' := by
  obtain ⟨l1, l2, l3, l4, l5, l6, l7, l8⟩ := wiB_in h
  dsimp only at l1 l2 l3 l4 l5 l6 l7 l8
  go_enter Try.func19, Try.ntmps19
  go_wp2_with (first | (go_at_call 38; refine (within_any _ _ _ _ _ _ (by omega) (by omega)).mono ?_; rintro e w' ⟨rfl, kj, rfl⟩) | (go_at_call 39; refine (limited_any _ _ _ _ _).mono ?_; rintro e w' ⟨rfl, kj, rfl⟩) | (go_at_call 49; refine (dozen_any _ _).mono ?_; rintro e w' ⟨rfl, rfl⟩) | (go_at_call 50; refine (minus_any _ _ _ _ _ (by omega) (by omega) (by omega) (by omega) (by omega) (by omega) (by omega) (by omega)).mono ?_; rintro e w' ⟨rfl, kj, rfl⟩))
  refine wp_loop_rounds 2 ?_
  repeat any_goals (rw [rounds_succ]; go_wp2_with (first | (go_at_call 38; refine (within_any _ _ _ _ _ _ (by omega) (by omega)).mono ?_; rintro e w' ⟨rfl, kj, rfl⟩) | (go_at_call 39; refine (limited_any _ _ _ _ _).mono ?_; rintro e w' ⟨rfl, kj, rfl⟩) | (go_at_call 49; refine (dozen_any _ _).mono ?_; rintro e w' ⟨rfl, rfl⟩) | (go_at_call 50; refine (minus_any _ _ _ _ _ (by omega) (by omega) (by omega) (by omega) (by omega) (by omega) (by omega) (by omega)).mono ?_; rintro e w' ⟨rfl, kj, rfl⟩)))
  go_returns
  rw [turn_close a b c d k _ _ _ _ h (by first | (simp [Cy.turn, hk, Cy.tn]; done) | (simp [Cy.turn, hk, Cy.tn]; omega)) (by first | (simp [Cy.turn, hk, Cy.tn]; done) | (simp [Cy.turn, hk, Cy.tn]; omega)) (by first | (simp [Cy.turn, hk, Cy.tn]; done) | (simp [Cy.turn, hk, Cy.tn]; omega)) (by first | (simp [Cy.turn, hk, Cy.tn]; done) | (simp [Cy.turn, hk, Cy.tn]; omega))]
  refine ⟨rfl, ?_⟩
  repeat' (first | exact Q.refl _ | refine Q.alloc ?_ _ | refine Q.jk ?_ _ | refine Q.drew ?_)

set_option maxHeartbeats 1000000 in
theorem turn_2 (a b c d k : Int) (w : World) (h : wiB ⟨a, b, c, d⟩ 576460752303423488 = true) (hk : k % 12 = 2) :
    Calls Try.prog 19 #[.agg #[.int .i64 a, .int .i64 b, .int .i64 c, .int .i64 d], .int .i64 k] w fun e w' => e = .returned (.tuple #[.agg #[.int .i64 (turnR ⟨a, b, c, d⟩ k).v.a, .int .i64 (turnR ⟨a, b, c, d⟩ k).v.b, .int .i64 (turnR ⟨a, b, c, d⟩ k).v.c, .int .i64 (turnR ⟨a, b, c, d⟩ k).v.d], .int .i64 (turnR ⟨a, b, c, d⟩ k).e]) ∧ Q w w' := by
  obtain ⟨l1, l2, l3, l4, l5, l6, l7, l8⟩ := wiB_in h
  dsimp only at l1 l2 l3 l4 l5 l6 l7 l8
  go_enter Try.func19, Try.ntmps19
  go_wp2_with (first | (go_at_call 38; refine (within_any _ _ _ _ _ _ (by omega) (by omega)).mono ?_; rintro e w' ⟨rfl, kj, rfl⟩) | (go_at_call 39; refine (limited_any _ _ _ _ _).mono ?_; rintro e w' ⟨rfl, kj, rfl⟩) | (go_at_call 49; refine (dozen_any _ _).mono ?_; rintro e w' ⟨rfl, rfl⟩) | (go_at_call 50; refine (minus_any _ _ _ _ _ (by omega) (by omega) (by omega) (by omega) (by omega) (by omega) (by omega) (by omega)).mono ?_; rintro e w' ⟨rfl, kj, rfl⟩))
  refine wp_loop_rounds 3 ?_
  repeat any_goals (rw [rounds_succ]; go_wp2_with (first | (go_at_call 38; refine (within_any _ _ _ _ _ _ (by omega) (by omega)).mono ?_; rintro e w' ⟨rfl, kj, rfl⟩) | (go_at_call 39; refine (limited_any _ _ _ _ _).mono ?_; rintro e w' ⟨rfl, kj, rfl⟩) | (go_at_call 49; refine (dozen_any _ _).mono ?_; rintro e w' ⟨rfl, rfl⟩) | (go_at_call 50; refine (minus_any _ _ _ _ _ (by omega) (by omega) (by omega) (by omega) (by omega) (by omega) (by omega) (by omega)).mono ?_; rintro e w' ⟨rfl, kj, rfl⟩)))
  go_returns
  rw [turn_close a b c d k _ _ _ _ h (by first | (simp [Cy.turn, hk, Cy.tn]; done) | (simp [Cy.turn, hk, Cy.tn]; omega)) (by first | (simp [Cy.turn, hk, Cy.tn]; done) | (simp [Cy.turn, hk, Cy.tn]; omega)) (by first | (simp [Cy.turn, hk, Cy.tn]; done) | (simp [Cy.turn, hk, Cy.tn]; omega)) (by first | (simp [Cy.turn, hk, Cy.tn]; done) | (simp [Cy.turn, hk, Cy.tn]; omega))]
  refine ⟨rfl, ?_⟩
  repeat' (first | exact Q.refl _ | refine Q.alloc ?_ _ | refine Q.jk ?_ _ | refine Q.drew ?_)

set_option maxHeartbeats 1000000 in
theorem turn_3 (a b c d k : Int) (w : World) (h : wiB ⟨a, b, c, d⟩ 576460752303423488 = true) (hk : k % 12 = 3) :
    Calls Try.prog 19 #[.agg #[.int .i64 a, .int .i64 b, .int .i64 c, .int .i64 d], .int .i64 k] w fun e w' => e = .returned (.tuple #[.agg #[.int .i64 (turnR ⟨a, b, c, d⟩ k).v.a, .int .i64 (turnR ⟨a, b, c, d⟩ k).v.b, .int .i64 (turnR ⟨a, b, c, d⟩ k).v.c, .int .i64 (turnR ⟨a, b, c, d⟩ k).v.d], .int .i64 (turnR ⟨a, b, c, d⟩ k).e]) ∧ Q w w' := by
  obtain ⟨l1, l2, l3, l4, l5, l6, l7, l8⟩ := wiB_in h
  dsimp only at l1 l2 l3 l4 l5 l6 l7 l8
  go_enter Try.func19, Try.ntmps19
  go_wp2_with (first | (go_at_call 38; refine (within_any _ _ _ _ _ _ (by omega) (by omega)).mono ?_; rintro e w' ⟨rfl, kj, rfl⟩) | (go_at_call 39; refine (limited_any _ _ _ _ _).mono ?_; rintro e w' ⟨rfl, kj, rfl⟩) | (go_at_call 49; refine (dozen_any _ _).mono ?_; rintro e w' ⟨rfl, rfl⟩) | (go_at_call 50; refine (minus_any _ _ _ _ _ (by omega) (by omega) (by omega) (by omega) (by omega) (by omega) (by omega) (by omega)).mono ?_; rintro e w' ⟨rfl, kj, rfl⟩))
  refine wp_loop_rounds 4 ?_
  repeat any_goals (rw [rounds_succ]; go_wp2_with (first | (go_at_call 38; refine (within_any _ _ _ _ _ _ (by omega) (by omega)).mono ?_; rintro e w' ⟨rfl, kj, rfl⟩) | (go_at_call 39; refine (limited_any _ _ _ _ _).mono ?_; rintro e w' ⟨rfl, kj, rfl⟩) | (go_at_call 49; refine (dozen_any _ _).mono ?_; rintro e w' ⟨rfl, rfl⟩) | (go_at_call 50; refine (minus_any _ _ _ _ _ (by omega) (by omega) (by omega) (by omega) (by omega) (by omega) (by omega) (by omega)).mono ?_; rintro e w' ⟨rfl, kj, rfl⟩)))
  go_returns
  rw [turn_close a b c d k _ _ _ _ h (by first | (simp [Cy.turn, hk, Cy.tn]; done) | (simp [Cy.turn, hk, Cy.tn]; omega)) (by first | (simp [Cy.turn, hk, Cy.tn]; done) | (simp [Cy.turn, hk, Cy.tn]; omega)) (by first | (simp [Cy.turn, hk, Cy.tn]; done) | (simp [Cy.turn, hk, Cy.tn]; omega)) (by first | (simp [Cy.turn, hk, Cy.tn]; done) | (simp [Cy.turn, hk, Cy.tn]; omega))]
  refine ⟨rfl, ?_⟩
  repeat' (first | exact Q.refl _ | refine Q.alloc ?_ _ | refine Q.jk ?_ _ | refine Q.drew ?_)

set_option maxHeartbeats 1000000 in
theorem turn_4 (a b c d k : Int) (w : World) (h : wiB ⟨a, b, c, d⟩ 576460752303423488 = true) (hk : k % 12 = 4) :
    Calls Try.prog 19 #[.agg #[.int .i64 a, .int .i64 b, .int .i64 c, .int .i64 d], .int .i64 k] w fun e w' => e = .returned (.tuple #[.agg #[.int .i64 (turnR ⟨a, b, c, d⟩ k).v.a, .int .i64 (turnR ⟨a, b, c, d⟩ k).v.b, .int .i64 (turnR ⟨a, b, c, d⟩ k).v.c, .int .i64 (turnR ⟨a, b, c, d⟩ k).v.d], .int .i64 (turnR ⟨a, b, c, d⟩ k).e]) ∧ Q w w' := by
  obtain ⟨l1, l2, l3, l4, l5, l6, l7, l8⟩ := wiB_in h
  dsimp only at l1 l2 l3 l4 l5 l6 l7 l8
  go_enter Try.func19, Try.ntmps19
  go_wp2_with (first | (go_at_call 38; refine (within_any _ _ _ _ _ _ (by omega) (by omega)).mono ?_; rintro e w' ⟨rfl, kj, rfl⟩) | (go_at_call 39; refine (limited_any _ _ _ _ _).mono ?_; rintro e w' ⟨rfl, kj, rfl⟩) | (go_at_call 49; refine (dozen_any _ _).mono ?_; rintro e w' ⟨rfl, rfl⟩) | (go_at_call 50; refine (minus_any _ _ _ _ _ (by omega) (by omega) (by omega) (by omega) (by omega) (by omega) (by omega) (by omega)).mono ?_; rintro e w' ⟨rfl, kj, rfl⟩))
  refine wp_loop_rounds 5 ?_
  repeat any_goals (rw [rounds_succ]; go_wp2_with (first | (go_at_call 38; refine (within_any _ _ _ _ _ _ (by omega) (by omega)).mono ?_; rintro e w' ⟨rfl, kj, rfl⟩) | (go_at_call 39; refine (limited_any _ _ _ _ _).mono ?_; rintro e w' ⟨rfl, kj, rfl⟩) | (go_at_call 49; refine (dozen_any _ _).mono ?_; rintro e w' ⟨rfl, rfl⟩) | (go_at_call 50; refine (minus_any _ _ _ _ _ (by omega) (by omega) (by omega) (by omega) (by omega) (by omega) (by omega) (by omega)).mono ?_; rintro e w' ⟨rfl, kj, rfl⟩)))
  go_returns
  rw [turn_close a b c d k _ _ _ _ h (by first | (simp [Cy.turn, hk, Cy.tn]; done) | (simp [Cy.turn, hk, Cy.tn]; omega)) (by first | (simp [Cy.turn, hk, Cy.tn]; done) | (simp [Cy.turn, hk, Cy.tn]; omega)) (by first | (simp [Cy.turn, hk, Cy.tn]; done) | (simp [Cy.turn, hk, Cy.tn]; omega)) (by first | (simp [Cy.turn, hk, Cy.tn]; done) | (simp [Cy.turn, hk, Cy.tn]; omega))]
  refine ⟨rfl, ?_⟩
  repeat' (first | exact Q.refl _ | refine Q.alloc ?_ _ | refine Q.jk ?_ _ | refine Q.drew ?_)

set_option maxHeartbeats 1000000 in
theorem turn_5 (a b c d k : Int) (w : World) (h : wiB ⟨a, b, c, d⟩ 576460752303423488 = true) (hk : k % 12 = 5) :
    Calls Try.prog 19 #[.agg #[.int .i64 a, .int .i64 b, .int .i64 c, .int .i64 d], .int .i64 k] w fun e w' => e = .returned (.tuple #[.agg #[.int .i64 (turnR ⟨a, b, c, d⟩ k).v.a, .int .i64 (turnR ⟨a, b, c, d⟩ k).v.b, .int .i64 (turnR ⟨a, b, c, d⟩ k).v.c, .int .i64 (turnR ⟨a, b, c, d⟩ k).v.d], .int .i64 (turnR ⟨a, b, c, d⟩ k).e]) ∧ Q w w' := by
  obtain ⟨l1, l2, l3, l4, l5, l6, l7, l8⟩ := wiB_in h
  dsimp only at l1 l2 l3 l4 l5 l6 l7 l8
  go_enter Try.func19, Try.ntmps19
  go_wp2_with (first | (go_at_call 38; refine (within_any _ _ _ _ _ _ (by omega) (by omega)).mono ?_; rintro e w' ⟨rfl, kj, rfl⟩) | (go_at_call 39; refine (limited_any _ _ _ _ _).mono ?_; rintro e w' ⟨rfl, kj, rfl⟩) | (go_at_call 49; refine (dozen_any _ _).mono ?_; rintro e w' ⟨rfl, rfl⟩) | (go_at_call 50; refine (minus_any _ _ _ _ _ (by omega) (by omega) (by omega) (by omega) (by omega) (by omega) (by omega) (by omega)).mono ?_; rintro e w' ⟨rfl, kj, rfl⟩))
  refine wp_loop_rounds 6 ?_
  repeat any_goals (rw [rounds_succ]; go_wp2_with (first | (go_at_call 38; refine (within_any _ _ _ _ _ _ (by omega) (by omega)).mono ?_; rintro e w' ⟨rfl, kj, rfl⟩) | (go_at_call 39; refine (limited_any _ _ _ _ _).mono ?_; rintro e w' ⟨rfl, kj, rfl⟩) | (go_at_call 49; refine (dozen_any _ _).mono ?_; rintro e w' ⟨rfl, rfl⟩) | (go_at_call 50; refine (minus_any _ _ _ _ _ (by omega) (by omega) (by omega) (by omega) (by omega) (by omega) (by omega) (by omega)).mono ?_; rintro e w' ⟨rfl, kj, rfl⟩)))
  go_returns
  rw [turn_close a b c d k _ _ _ _ h (by first | (simp [Cy.turn, hk, Cy.tn]; done) | (simp [Cy.turn, hk, Cy.tn]; omega)) (by first | (simp [Cy.turn, hk, Cy.tn]; done) | (simp [Cy.turn, hk, Cy.tn]; omega)) (by first | (simp [Cy.turn, hk, Cy.tn]; done) | (simp [Cy.turn, hk, Cy.tn]; omega)) (by first | (simp [Cy.turn, hk, Cy.tn]; done) | (simp [Cy.turn, hk, Cy.tn]; omega))]
  refine ⟨rfl, ?_⟩
  repeat' (first | exact Q.refl _ | refine Q.alloc ?_ _ | refine Q.jk ?_ _ | refine Q.drew ?_)

set_option maxHeartbeats 1000000 in
theorem turn_6 (a b c d k : Int) (w : World) (h : wiB ⟨a, b, c, d⟩ 576460752303423488 = true) (hk : k % 12 = 6) :
    Calls Try.prog 19 #[.agg #[.int .i64 a, .int .i64 b, .int .i64 c, .int .i64 d], .int .i64 k] w fun e w' => e = .returned (.tuple #[.agg #[.int .i64 (turnR ⟨a, b, c, d⟩ k).v.a, .int .i64 (turnR ⟨a, b, c, d⟩ k).v.b, .int .i64 (turnR ⟨a, b, c, d⟩ k).v.c, .int .i64 (turnR ⟨a, b, c, d⟩ k).v.d], .int .i64 (turnR ⟨a, b, c, d⟩ k).e]) ∧ Q w w' := by
  obtain ⟨l1, l2, l3, l4, l5, l6, l7, l8⟩ := wiB_in h
  dsimp only at l1 l2 l3 l4 l5 l6 l7 l8
  go_enter Try.func19, Try.ntmps19
  go_wp2_with (first | (go_at_call 38; refine (within_any _ _ _ _ _ _ (by omega) (by omega)).mono ?_; rintro e w' ⟨rfl, kj, rfl⟩) | (go_at_call 39; refine (limited_any _ _ _ _ _).mono ?_; rintro e w' ⟨rfl, kj, rfl⟩) | (go_at_call 49; refine (dozen_any _ _).mono ?_; rintro e w' ⟨rfl, rfl⟩) | (go_at_call 50; refine (minus_any _ _ _ _ _ (by omega) (by omega) (by omega) (by omega) (by omega) (by omega) (by omega) (by omega)).mono ?_; rintro e w' ⟨rfl, kj, rfl⟩))
  refine wp_loop_rounds 1 ?_
  repeat any_goals (rw [rounds_succ]; go_wp2_with (first | (go_at_call 38; refine (within_any _ _ _ _ _ _ (by omega) (by omega)).mono ?_; rintro e w' ⟨rfl, kj, rfl⟩) | (go_at_call 39; refine (limited_any _ _ _ _ _).mono ?_; rintro e w' ⟨rfl, kj, rfl⟩) | (go_at_call 49; refine (dozen_any _ _).mono ?_; rintro e w' ⟨rfl, rfl⟩) | (go_at_call 50; refine (minus_any _ _ _ _ _ (by omega) (by omega) (by omega) (by omega) (by omega) (by omega) (by omega) (by omega)).mono ?_; rintro e w' ⟨rfl, kj, rfl⟩)))
  go_returns
  rw [turn_close a b c d k _ _ _ _ h (by first | (simp [Cy.turn, hk, Cy.tn]; done) | (simp [Cy.turn, hk, Cy.tn]; omega)) (by first | (simp [Cy.turn, hk, Cy.tn]; done) | (simp [Cy.turn, hk, Cy.tn]; omega)) (by first | (simp [Cy.turn, hk, Cy.tn]; done) | (simp [Cy.turn, hk, Cy.tn]; omega)) (by first | (simp [Cy.turn, hk, Cy.tn]; done) | (simp [Cy.turn, hk, Cy.tn]; omega))]
  refine ⟨rfl, ?_⟩
  repeat' (first | exact Q.refl _ | refine Q.alloc ?_ _ | refine Q.jk ?_ _ | refine Q.drew ?_)

set_option maxHeartbeats 1000000 in
theorem turn_7 (a b c d k : Int) (w : World) (h : wiB ⟨a, b, c, d⟩ 576460752303423488 = true) (hk : k % 12 = 7) :
    Calls Try.prog 19 #[.agg #[.int .i64 a, .int .i64 b, .int .i64 c, .int .i64 d], .int .i64 k] w fun e w' => e = .returned (.tuple #[.agg #[.int .i64 (turnR ⟨a, b, c, d⟩ k).v.a, .int .i64 (turnR ⟨a, b, c, d⟩ k).v.b, .int .i64 (turnR ⟨a, b, c, d⟩ k).v.c, .int .i64 (turnR ⟨a, b, c, d⟩ k).v.d], .int .i64 (turnR ⟨a, b, c, d⟩ k).e]) ∧ Q w w' := by
  obtain ⟨l1, l2, l3, l4, l5, l6, l7, l8⟩ := wiB_in h
  dsimp only at l1 l2 l3 l4 l5 l6 l7 l8
  go_enter Try.func19, Try.ntmps19
  go_wp2_with (first | (go_at_call 38; refine (within_any _ _ _ _ _ _ (by omega) (by omega)).mono ?_; rintro e w' ⟨rfl, kj, rfl⟩) | (go_at_call 39; refine (limited_any _ _ _ _ _).mono ?_; rintro e w' ⟨rfl, kj, rfl⟩) | (go_at_call 49; refine (dozen_any _ _).mono ?_; rintro e w' ⟨rfl, rfl⟩) | (go_at_call 50; refine (minus_any _ _ _ _ _ (by omega) (by omega) (by omega) (by omega) (by omega) (by omega) (by omega) (by omega)).mono ?_; rintro e w' ⟨rfl, kj, rfl⟩))
  refine wp_loop_rounds 2 ?_
  repeat any_goals (rw [rounds_succ]; go_wp2_with (first | (go_at_call 38; refine (within_any _ _ _ _ _ _ (by omega) (by omega)).mono ?_; rintro e w' ⟨rfl, kj, rfl⟩) | (go_at_call 39; refine (limited_any _ _ _ _ _).mono ?_; rintro e w' ⟨rfl, kj, rfl⟩) | (go_at_call 49; refine (dozen_any _ _).mono ?_; rintro e w' ⟨rfl, rfl⟩) | (go_at_call 50; refine (minus_any _ _ _ _ _ (by omega) (by omega) (by omega) (by omega) (by omega) (by omega) (by omega) (by omega)).mono ?_; rintro e w' ⟨rfl, kj, rfl⟩)))
  go_returns
  rw [turn_close a b c d k _ _ _ _ h (by first | (simp [Cy.turn, hk, Cy.tn]; done) | (simp [Cy.turn, hk, Cy.tn]; omega)) (by first | (simp [Cy.turn, hk, Cy.tn]; done) | (simp [Cy.turn, hk, Cy.tn]; omega)) (by first | (simp [Cy.turn, hk, Cy.tn]; done) | (simp [Cy.turn, hk, Cy.tn]; omega)) (by first | (simp [Cy.turn, hk, Cy.tn]; done) | (simp [Cy.turn, hk, Cy.tn]; omega))]
  refine ⟨rfl, ?_⟩
  repeat' (first | exact Q.refl _ | refine Q.alloc ?_ _ | refine Q.jk ?_ _ | refine Q.drew ?_)

set_option maxHeartbeats 1000000 in
theorem turn_8 (a b c d k : Int) (w : World) (h : wiB ⟨a, b, c, d⟩ 576460752303423488 = true) (hk : k % 12 = 8) :
    Calls Try.prog 19 #[.agg #[.int .i64 a, .int .i64 b, .int .i64 c, .int .i64 d], .int .i64 k] w fun e w' => e = .returned (.tuple #[.agg #[.int .i64 (turnR ⟨a, b, c, d⟩ k).v.a, .int .i64 (turnR ⟨a, b, c, d⟩ k).v.b, .int .i64 (turnR ⟨a, b, c, d⟩ k).v.c, .int .i64 (turnR ⟨a, b, c, d⟩ k).v.d], .int .i64 (turnR ⟨a, b, c, d⟩ k).e]) ∧ Q w w' := by
  obtain ⟨l1, l2, l3, l4, l5, l6, l7, l8⟩ := wiB_in h
  dsimp only at l1 l2 l3 l4 l5 l6 l7 l8
  go_enter Try.func19, Try.ntmps19
  go_wp2_with (first | (go_at_call 38; refine (within_any _ _ _ _ _ _ (by omega) (by omega)).mono ?_; rintro e w' ⟨rfl, kj, rfl⟩) | (go_at_call 39; refine (limited_any _ _ _ _ _).mono ?_; rintro e w' ⟨rfl, kj, rfl⟩) | (go_at_call 49; refine (dozen_any _ _).mono ?_; rintro e w' ⟨rfl, rfl⟩) | (go_at_call 50; refine (minus_any _ _ _ _ _ (by omega) (by omega) (by omega) (by omega) (by omega) (by omega) (by omega) (by omega)).mono ?_; rintro e w' ⟨rfl, kj, rfl⟩))
  refine wp_loop_rounds 3 ?_
  repeat any_goals (rw [rounds_succ]; go_wp2_with (first | (go_at_call 38; refine (within_any _ _ _ _ _ _ (by omega) (by omega)).mono ?_; rintro e w' ⟨rfl, kj, rfl⟩) | (go_at_call 39; refine (limited_any _ _ _ _ _).mono ?_; rintro e w' ⟨rfl, kj, rfl⟩) | (go_at_call 49; refine (dozen_any _ _).mono ?_; rintro e w' ⟨rfl, rfl⟩) | (go_at_call 50; refine (minus_any _ _ _ _ _ (by omega) (by omega) (by omega) (by omega) (by omega) (by omega) (by omega) (by omega)).mono ?_; rintro e w' ⟨rfl, kj, rfl⟩)))
  go_returns
  rw [turn_close a b c d k _ _ _ _ h (by first | (simp [Cy.turn, hk, Cy.tn]; done) | (simp [Cy.turn, hk, Cy.tn]; omega)) (by first | (simp [Cy.turn, hk, Cy.tn]; done) | (simp [Cy.turn, hk, Cy.tn]; omega)) (by first | (simp [Cy.turn, hk, Cy.tn]; done) | (simp [Cy.turn, hk, Cy.tn]; omega)) (by first | (simp [Cy.turn, hk, Cy.tn]; done) | (simp [Cy.turn, hk, Cy.tn]; omega))]
  refine ⟨rfl, ?_⟩
  repeat' (first | exact Q.refl _ | refine Q.alloc ?_ _ | refine Q.jk ?_ _ | refine Q.drew ?_)

set_option maxHeartbeats 1000000 in
theorem turn_9 (a b c d k : Int) (w : World) (h : wiB ⟨a, b, c, d⟩ 576460752303423488 = true) (hk : k % 12 = 9) :
    Calls Try.prog 19 #[.agg #[.int .i64 a, .int .i64 b, .int .i64 c, .int .i64 d], .int .i64 k] w fun e w' => e = .returned (.tuple #[.agg #[.int .i64 (turnR ⟨a, b, c, d⟩ k).v.a, .int .i64 (turnR ⟨a, b, c, d⟩ k).v.b, .int .i64 (turnR ⟨a, b, c, d⟩ k).v.c, .int .i64 (turnR ⟨a, b, c, d⟩ k).v.d], .int .i64 (turnR ⟨a, b, c, d⟩ k).e]) ∧ Q w w' := by
  obtain ⟨l1, l2, l3, l4, l5, l6, l7, l8⟩ := wiB_in h
  dsimp only at l1 l2 l3 l4 l5 l6 l7 l8
  go_enter Try.func19, Try.ntmps19
  go_wp2_with (first | (go_at_call 38; refine (within_any _ _ _ _ _ _ (by omega) (by omega)).mono ?_; rintro e w' ⟨rfl, kj, rfl⟩) | (go_at_call 39; refine (limited_any _ _ _ _ _).mono ?_; rintro e w' ⟨rfl, kj, rfl⟩) | (go_at_call 49; refine (dozen_any _ _).mono ?_; rintro e w' ⟨rfl, rfl⟩) | (go_at_call 50; refine (minus_any _ _ _ _ _ (by omega) (by omega) (by omega) (by omega) (by omega) (by omega) (by omega) (by omega)).mono ?_; rintro e w' ⟨rfl, kj, rfl⟩))
  refine wp_loop_rounds 4 ?_
  repeat any_goals (rw [rounds_succ]; go_wp2_with (first | (go_at_call 38; refine (within_any _ _ _ _ _ _ (by omega) (by omega)).mono ?_; rintro e w' ⟨rfl, kj, rfl⟩) | (go_at_call 39; refine (limited_any _ _ _ _ _).mono ?_; rintro e w' ⟨rfl, kj, rfl⟩) | (go_at_call 49; refine (dozen_any _ _).mono ?_; rintro e w' ⟨rfl, rfl⟩) | (go_at_call 50; refine (minus_any _ _ _ _ _ (by omega) (by omega) (by omega) (by omega) (by omega) (by omega) (by omega) (by omega)).mono ?_; rintro e w' ⟨rfl, kj, rfl⟩)))
  go_returns
  rw [turn_close a b c d k _ _ _ _ h (by first | (simp [Cy.turn, hk, Cy.tn]; done) | (simp [Cy.turn, hk, Cy.tn]; omega)) (by first | (simp [Cy.turn, hk, Cy.tn]; done) | (simp [Cy.turn, hk, Cy.tn]; omega)) (by first | (simp [Cy.turn, hk, Cy.tn]; done) | (simp [Cy.turn, hk, Cy.tn]; omega)) (by first | (simp [Cy.turn, hk, Cy.tn]; done) | (simp [Cy.turn, hk, Cy.tn]; omega))]
  refine ⟨rfl, ?_⟩
  repeat' (first | exact Q.refl _ | refine Q.alloc ?_ _ | refine Q.jk ?_ _ | refine Q.drew ?_)

set_option maxHeartbeats 1000000 in
theorem turn_10 (a b c d k : Int) (w : World) (h : wiB ⟨a, b, c, d⟩ 576460752303423488 = true) (hk : k % 12 = 10) :
    Calls Try.prog 19 #[.agg #[.int .i64 a, .int .i64 b, .int .i64 c, .int .i64 d], .int .i64 k] w fun e w' => e = .returned (.tuple #[.agg #[.int .i64 (turnR ⟨a, b, c, d⟩ k).v.a, .int .i64 (turnR ⟨a, b, c, d⟩ k).v.b, .int .i64 (turnR ⟨a, b, c, d⟩ k).v.c, .int .i64 (turnR ⟨a, b, c, d⟩ k).v.d], .int .i64 (turnR ⟨a, b, c, d⟩ k).e]) ∧ Q w w' := by
  obtain ⟨l1, l2, l3, l4, l5, l6, l7, l8⟩ := wiB_in h
  dsimp only at l1 l2 l3 l4 l5 l6 l7 l8
  go_enter Try.func19, Try.ntmps19
  go_wp2_with (first | (go_at_call 38; refine (within_any _ _ _ _ _ _ (by omega) (by omega)).mono ?_; rintro e w' ⟨rfl, kj, rfl⟩) | (go_at_call 39; refine (limited_any _ _ _ _ _).mono ?_; rintro e w' ⟨rfl, kj, rfl⟩) | (go_at_call 49; refine (dozen_any _ _).mono ?_; rintro e w' ⟨rfl, rfl⟩) | (go_at_call 50; refine (minus_any _ _ _ _ _ (by omega) (by omega) (by omega) (by omega) (by omega) (by omega) (by omega) (by omega)).mono ?_; rintro e w' ⟨rfl, kj, rfl⟩))
  refine wp_loop_rounds 5 ?_
  repeat any_goals (rw [rounds_succ]; go_wp2_with (first | (go_at_call 38; refine (within_any _ _ _ _ _ _ (by omega) (by omega)).mono ?_; rintro e w' ⟨rfl, kj, rfl⟩) | (go_at_call 39; refine (limited_any _ _ _ _ _).mono ?_; rintro e w' ⟨rfl, kj, rfl⟩) | (go_at_call 49; refine (dozen_any _ _).mono ?_; rintro e w' ⟨rfl, rfl⟩) | (go_at_call 50; refine (minus_any _ _ _ _ _ (by omega) (by omega) (by omega) (by omega) (by omega) (by omega) (by omega) (by omega)).mono ?_; rintro e w' ⟨rfl, kj, rfl⟩)))
  go_returns
  rw [turn_close a b c d k _ _ _ _ h (by first | (simp [Cy.turn, hk, Cy.tn]; done) | (simp [Cy.turn, hk, Cy.tn]; omega)) (by first | (simp [Cy.turn, hk, Cy.tn]; done) | (simp [Cy.turn, hk, Cy.tn]; omega)) (by first | (simp [Cy.turn, hk, Cy.tn]; done) | (simp [Cy.turn, hk, Cy.tn]; omega)) (by first | (simp [Cy.turn, hk, Cy.tn]; done) | (simp [Cy.turn, hk, Cy.tn]; omega))]
  refine ⟨rfl, ?_⟩
  repeat' (first | exact Q.refl _ | refine Q.alloc ?_ _ | refine Q.jk ?_ _ | refine Q.drew ?_)

set_option maxHeartbeats 1000000 in
theorem turn_11 (a b c d k : Int) (w : World) (h : wiB ⟨a, b, c, d⟩ 576460752303423488 = true) (hk : k % 12 = 11) :
    Calls Try.prog 19 #[.agg #[.int .i64 a, .int .i64 b, .int .i64 c, .int .i64 d], .int .i64 k] w fun e w' => e = .returned (.tuple #[.agg #[.int .i64 (turnR ⟨a, b, c, d⟩ k).v.a, .int .i64 (turnR ⟨a, b, c, d⟩ k).v.b, .int .i64 (turnR ⟨a, b, c, d⟩ k).v.c, .int .i64 (turnR ⟨a, b, c, d⟩ k).v.d], .int .i64 (turnR ⟨a, b, c, d⟩ k).e]) ∧ Q w w' := by
  obtain ⟨l1, l2, l3, l4, l5, l6, l7, l8⟩ := wiB_in h
  dsimp only at l1 l2 l3 l4 l5 l6 l7 l8
  go_enter Try.func19, Try.ntmps19
  go_wp2_with (first | (go_at_call 38; refine (within_any _ _ _ _ _ _ (by omega) (by omega)).mono ?_; rintro e w' ⟨rfl, kj, rfl⟩) | (go_at_call 39; refine (limited_any _ _ _ _ _).mono ?_; rintro e w' ⟨rfl, kj, rfl⟩) | (go_at_call 49; refine (dozen_any _ _).mono ?_; rintro e w' ⟨rfl, rfl⟩) | (go_at_call 50; refine (minus_any _ _ _ _ _ (by omega) (by omega) (by omega) (by omega) (by omega) (by omega) (by omega) (by omega)).mono ?_; rintro e w' ⟨rfl, kj, rfl⟩))
  refine wp_loop_rounds 6 ?_
  repeat any_goals (rw [rounds_succ]; go_wp2_with (first | (go_at_call 38; refine (within_any _ _ _ _ _ _ (by omega) (by omega)).mono ?_; rintro e w' ⟨rfl, kj, rfl⟩) | (go_at_call 39; refine (limited_any _ _ _ _ _).mono ?_; rintro e w' ⟨rfl, kj, rfl⟩) | (go_at_call 49; refine (dozen_any _ _).mono ?_; rintro e w' ⟨rfl, rfl⟩) | (go_at_call 50; refine (minus_any _ _ _ _ _ (by omega) (by omega) (by omega) (by omega) (by omega) (by omega) (by omega) (by omega)).mono ?_; rintro e w' ⟨rfl, kj, rfl⟩)))
  go_returns
  rw [turn_close a b c d k _ _ _ _ h (by first | (simp [Cy.turn, hk, Cy.tn]; done) | (simp [Cy.turn, hk, Cy.tn]; omega)) (by first | (simp [Cy.turn, hk, Cy.tn]; done) | (simp [Cy.turn, hk, Cy.tn]; omega)) (by first | (simp [Cy.turn, hk, Cy.tn]; done) | (simp [Cy.turn, hk, Cy.tn]; omega)) (by first | (simp [Cy.turn, hk, Cy.tn]; done) | (simp [Cy.turn, hk, Cy.tn]; omega))]
  refine ⟨rfl, ?_⟩
  repeat' (first | exact Q.refl _ | refine Q.alloc ?_ _ | refine Q.jk ?_ _ | refine Q.drew ?_)

set_option maxHeartbeats 400000 in
theorem turn_any (a b c d k : Int) (w : World) :
    Calls Try.prog 19 #[.agg #[.int .i64 a, .int .i64 b, .int .i64 c, .int .i64 d], .int .i64 k] w fun e w' => e = .returned (.tuple #[.agg #[.int .i64 (turnR ⟨a, b, c, d⟩ k).v.a, .int .i64 (turnR ⟨a, b, c, d⟩ k).v.b, .int .i64 (turnR ⟨a, b, c, d⟩ k).v.c, .int .i64 (turnR ⟨a, b, c, d⟩ k).v.d], .int .i64 (turnR ⟨a, b, c, d⟩ k).e]) ∧ Q w w' := by
  by_cases h : wiB ⟨a, b, c, d⟩ 576460752303423488 = true
  · rcases dz_cases k with hk | hk | hk | hk | hk | hk | hk | hk | hk | hk | hk | hk
    · exact turn_0 a b c d k w h hk
    · exact turn_1 a b c d k w h hk
    · exact turn_2 a b c d k w h hk
    · exact turn_3 a b c d k w h hk
    · exact turn_4 a b c d k w h hk
    · exact turn_5 a b c d k w h hk
    · exact turn_6 a b c d k w h hk
    · exact turn_7 a b c d k w h hk
    · exact turn_8 a b c d k w h hk
    · exact turn_9 a b c d k w h hk
    · exact turn_10 a b c d k w h hk
    · exact turn_11 a b c d k w h hk
  · have h : wiB ⟨a, b, c, d⟩ 576460752303423488 = false := by simpa using h
    go_enter Try.func19, Try.ntmps19
    go_wp2_with (go_at_call 38; refine (within_any _ _ _ _ _ _ (by omega) (by omega)).mono ?_; rintro e w' ⟨rfl, kj, rfl⟩)
    refine bodyPost_ret (v := .tuple #[.agg #[.int .i64 (R4.mk zeroC 1).v.a, .int .i64 (R4.mk zeroC 1).v.b, .int .i64 (R4.mk zeroC 1).v.c, .int .i64 (R4.mk zeroC 1).v.d], .int .i64 (R4.mk zeroC 1).e]) (by simp [results, Try.results19, go_sem, zeroC]) rfl ⟨by simp [turnR, h], ?_⟩
    repeat' (first | exact Q.refl _ | refine Q.alloc ?_ _ | refine Q.jk ?_ _ | refine Q.drew ?_)

/-- The table of package cyclo lies in its place. -/
def rootTab : List Int := [1, 0, 0, 0, 0, 1, 0, 0, 0, 0, 1, 0, 0, 0, 0, 1, -1, 0, 1, 0, 0, -1, 0, 1]
end Go.Proofs.Ytomodppdolfinaa
