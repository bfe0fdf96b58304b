
/- What Add, Sub, Conj, Real, Imag and Norm of package cyclo return. -/
import Derived.Test.YtfdpnephjpcnbaaDoorCyW1
namespace Go.Proofs.YtfdpnephjpcnbaaDoor
open Go.RowKit Go.Sub

set_option maxHeartbeats 1000000 in
theorem add_any (a b c d a' b' c' d' : Int) (w : World) :
    Calls Tryd.prog 38 #[.agg #[.int .i64 a, .int .i64 b, .int .i64 c, .int .i64 d], .agg #[.int .i64 a', .int .i64 b', .int .i64 c', .int .i64 d']] w fun e w' => e = .returned (.tuple #[.agg #[.int .i64 (addR ⟨a, b, c, d⟩ ⟨a', b', c', d'⟩).v.a, .int .i64 (addR ⟨a, b, c, d⟩ ⟨a', b', c', d'⟩).v.b, .int .i64 (addR ⟨a, b, c, d⟩ ⟨a', b', c', d'⟩).v.c, .int .i64 (addR ⟨a, b, c, d⟩ ⟨a', b', c', d'⟩).v.d], .int .i64 (addR ⟨a, b, c, d⟩ ⟨a', b', c', d'⟩).e]) ∧ Q w w' := by
  by_cases h : wiB ⟨a, b, c, d⟩ 576460752303423488 = true
  · by_cases h' : wiB ⟨a', b', c', d'⟩ 576460752303423488 = true
    · obtain ⟨l1, l2, l3, l4, l5, l6, l7, l8⟩ := wiB_in h
      obtain ⟨m1, m2, m3, m4, m5, m6, m7, m8⟩ := wiB_in h'
      dsimp only at l1 l2 l3 l4 l5 l6 l7 l8 m1 m2 m3 m4 m5 m6 m7 m8
      have hR : addR ⟨a, b, c, d⟩ ⟨a', b', c', d'⟩ = limR ⟨a + a', b + b', c + c', d + d'⟩ := by simp [addR, h, h', Cy.add]
      rw [hR]
      clear hR
      go_enter Tryd.func38, Tryd.ntmps38
      go_wp2_with (go_at_call 60; refine (within_any _ _ _ _ _ _ (by omega) (by omega)).mono ?_; rintro e w' ⟨rfl, kj, rfl⟩)
      refine wp_loop_rounds 5 ?_
      rw [rounds_succ]; go_wp2; go_region; go_wp2
      rw [rounds_succ]; go_wp2; go_region; go_wp2
      rw [rounds_succ]; go_wp2; go_region; go_wp2
      rw [rounds_succ]; go_wp2; go_region; go_wp2
      rw [rounds_succ]; go_wp2_with (go_at_call 67; refine (limited_any _ _ _ _ _).mono ?_; rintro e w' ⟨rfl, kj, rfl⟩)
      refine bodyPost_ret (v := .tuple #[.agg #[.int .i64 (limR ⟨a + a', b + b', c + c', d + d'⟩).v.a, .int .i64 (limR ⟨a + a', b + b', c + c', d + d'⟩).v.b, .int .i64 (limR ⟨a + a', b + b', c + c', d + d'⟩).v.c, .int .i64 (limR ⟨a + a', b + b', c + c', d + d'⟩).v.d], .int .i64 (limR ⟨a + a', b + b', c + c', d + d'⟩).e]) (by simp [results, Tryd.results38, go_sem]) rfl ⟨rfl, ?_⟩
      repeat' (first | exact Q.refl _ | refine Q.alloc ?_ _ | refine Q.jk ?_ _ | refine Q.drew ?_)
    · have h' : wiB ⟨a', b', c', d'⟩ 576460752303423488 = false := by simpa using h'
      go_enter Tryd.func38, Tryd.ntmps38
      go_wp2_with (go_at_call 60; refine (within_any _ _ _ _ _ _ (by omega) (by omega)).mono ?_; rintro e w' ⟨rfl, kj, rfl⟩)
      refine bodyPost_ret (v := .tuple #[.agg #[.int .i64 (R4.mk zeroC 1).v.a, .int .i64 (R4.mk zeroC 1).v.b, .int .i64 (R4.mk zeroC 1).v.c, .int .i64 (R4.mk zeroC 1).v.d], .int .i64 (R4.mk zeroC 1).e]) (by simp [results, Tryd.results38, go_sem, zeroC]) rfl ⟨by simp [addR, h, h'], ?_⟩
      repeat' (first | exact Q.refl _ | refine Q.alloc ?_ _ | refine Q.jk ?_ _ | refine Q.drew ?_)
  · have h : wiB ⟨a, b, c, d⟩ 576460752303423488 = false := by simpa using h
    go_enter Tryd.func38, Tryd.ntmps38
    go_wp2_with (go_at_call 60; refine (within_any _ _ _ _ _ _ (by omega) (by omega)).mono ?_; rintro e w' ⟨rfl, kj, rfl⟩)
    refine bodyPost_ret (v := .tuple #[.agg #[.int .i64 (R4.mk zeroC 1).v.a, .int .i64 (R4.mk zeroC 1).v.b, .int .i64 (R4.mk zeroC 1).v.c, .int .i64 (R4.mk zeroC 1).v.d], .int .i64 (R4.mk zeroC 1).e]) (by simp [results, Tryd.results38, go_sem, zeroC]) rfl ⟨by simp [addR, h], ?_⟩
    repeat' (first | exact Q.refl _ | refine Q.alloc ?_ _ | refine Q.jk ?_ _ | refine Q.drew ?_)

set_option maxHeartbeats 1000000 in
theorem norm_any (a b c d : Int) (w : World) :
    Calls Tryd.prog 33 #[.agg #[.int .i64 a, .int .i64 b, .int .i64 c, .int .i64 d]] w fun e w' => e = .returned (.tuple #[.agg #[.int .i64 (normR ⟨a, b, c, d⟩).v.a, .int .i64 (normR ⟨a, b, c, d⟩).v.b], .int .i64 (normR ⟨a, b, c, d⟩).e]) ∧ Q w w' := by
  by_cases h : wiB ⟨a, b, c, d⟩ 268435456 = true
  · obtain ⟨l1, l2, l3, l4, l5, l6, l7, l8⟩ := wiB_in h
    dsimp only at l1 l2 l3 l4 l5 l6 l7 l8
    obtain ⟨p0, p1⟩ := bd_mul l1 l2 l1 l2
    obtain ⟨p2, p3⟩ := bd_mul l3 l4 l3 l4
    obtain ⟨p4, p5⟩ := bd_mul l5 l6 l5 l6
    obtain ⟨p6, p7⟩ := bd_mul l7 l8 l7 l8
    obtain ⟨p8, p9⟩ := bd_mul l1 l2 l5 l6
    obtain ⟨p10, p11⟩ := bd_mul l3 l4 l7 l8
    obtain ⟨p12, p13⟩ := bd_mul l1 l2 l3 l4
    obtain ⟨p14, p15⟩ := bd_mul l3 l4 l5 l6
    obtain ⟨p16, p17⟩ := bd_mul l5 l6 l7 l8
    simp only [Int.reduceMul, Int.reduceNeg] at p0 p1 p2 p3 p4 p5 p6 p7 p8 p9 p10 p11 p12 p13 p14 p15 p16 p17
    go_enter Tryd.func33, Tryd.ntmps33
    go_wp2_with (go_at_call 60; refine (within_any _ _ _ _ _ _ (by omega) (by omega)).mono ?_; rintro e w' ⟨rfl, kj, rfl⟩)
    refine wp_region_jk (by kernel_rfl) (by kernel_rfl) ?_
    repeat (go_big_quiet_step (fail))
    refine wpQuiet_nil ?_
    intro _ hw'
    obtain ⟨kq, rfl⟩ := hw'
    go_wp2
    refine bodyPost_ret (v := .tuple #[.agg #[.int .i64 (a*a + b*b + c*c + d*d + a*c + b*d), .int .i64 (a*b + b*c + c*d)], .int .i64 0]) (by simp [results, Tryd.results33, go_sem]) rfl ⟨by simp [normR, h, Cy.norm], ?_⟩
    repeat' (first | exact Q.refl _ | refine Q.alloc ?_ _ | refine Q.jk ?_ _ | refine Q.drew ?_)
  · have h : wiB ⟨a, b, c, d⟩ 268435456 = false := by simpa using h
    go_enter Tryd.func33, Tryd.ntmps33
    go_wp2_with (go_at_call 60; refine (within_any _ _ _ _ _ _ (by omega) (by omega)).mono ?_; rintro e w' ⟨rfl, kj, rfl⟩)
    refine bodyPost_ret (v := .tuple #[.agg #[.int .i64 0, .int .i64 0], .int .i64 1]) (by simp [results, Tryd.results33, go_sem]) rfl ⟨by simp [normR, h], ?_⟩
    repeat' (first | exact Q.refl _ | refine Q.alloc ?_ _ | refine Q.jk ?_ _ | refine Q.drew ?_)

end Go.Proofs.YtfdpnephjpcnbaaDoor
