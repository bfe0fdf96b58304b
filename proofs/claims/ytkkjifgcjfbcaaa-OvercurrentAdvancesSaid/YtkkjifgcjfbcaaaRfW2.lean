
/- What Add, Sub, Conj, Real, Imag and Norm of the reference return. -/
import Derived.Test.YtkkjifgcjfbcaaaRfW1
namespace Go.Proofs.Ytkkjifgcjfbcaaa
open Go.RowKit Go.Sub

set_option maxHeartbeats 1000000 in
theorem rnorm_any (a b c d : Int) (w : World) :
    Calls Try.prog 96 #[.agg #[.int .i64 a, .int .i64 b, .int .i64 c, .int .i64 d]] w fun e w' => e = .returned (.tuple #[.agg #[.int .i64 (normR ⟨a, b, c, d⟩).v.a, .int .i64 (normR ⟨a, b, c, d⟩).v.b], .int .i64 (normR ⟨a, b, c, d⟩).e]) ∧ Q w w' := by
  by_cases h : wiB ⟨a, b, c, d⟩ 268435456 = true
  · obtain ⟨l1, l2, l3, l4, l5, l6, l7, l8⟩ := wiB_in h
    dsimp only at l1 l2 l3 l4 l5 l6 l7 l8
    obtain ⟨p0, p1⟩ := bd_mul l1 l2 l1 l2
    obtain ⟨p2, p3⟩ := bd_mul l3 l4 l3 l4
    obtain ⟨p4, p5⟩ := bd_mul l5 l6 l5 l6
    obtain ⟨p6, p7⟩ := bd_mul l7 l8 l7 l8
    obtain ⟨p8, p9⟩ := bd_mul l1 l2 l5 l6
    obtain ⟨p10, p11⟩ := bd_mul l3 l4 l7 l8
    obtain ⟨p12, p13⟩ := bd_mul l1 l2 l3 l4
    obtain ⟨p14, p15⟩ := bd_mul l3 l4 l5 l6
    obtain ⟨p16, p17⟩ := bd_mul l5 l6 l7 l8
    simp only [Int.reduceMul, Int.reduceNeg] at p0 p1 p2 p3 p4 p5 p6 p7 p8 p9 p10 p11 p12 p13 p14 p15 p16 p17
    go_enter Try.func96, Try.ntmps96
    go_wp2_with (go_at_call 95; refine (rwithin_any _ _ _ _ _ _ (by omega) (by omega)).mono ?_; rintro e w' ⟨rfl, kj, rfl⟩)
    refine wp_region_jk (by kernel_rfl) (by kernel_rfl) ?_
    repeat (go_big_quiet_step (fail))
    refine wpQuiet_nil ?_
    intro _ hw'
    obtain ⟨kq, rfl⟩ := hw'
    go_wp2
    refine bodyPost_ret (v := .tuple #[.agg #[.int .i64 (a*a + b*b + c*c + d*d + a*c + b*d), .int .i64 (a*b + b*c + c*d)], .int .i64 0]) (by simp [results, Try.results96, go_sem]) rfl ⟨by simp [normR, h, Cy.norm], ?_⟩
    repeat' (first | exact Q.refl _ | refine Q.alloc ?_ _ | refine Q.jk ?_ _ | refine Q.drew ?_)
  · have h : wiB ⟨a, b, c, d⟩ 268435456 = false := by simpa using h
    go_enter Try.func96, Try.ntmps96
    go_wp2_with (go_at_call 95; refine (rwithin_any _ _ _ _ _ _ (by omega) (by omega)).mono ?_; rintro e w' ⟨rfl, kj, rfl⟩)
    refine bodyPost_ret (v := .tuple #[.agg #[.int .i64 0, .int .i64 0], .int .i64 1]) (by simp [results, Try.results96, go_sem]) rfl ⟨by simp [normR, h], ?_⟩
    repeat' (first | exact Q.refl _ | refine Q.alloc ?_ _ | refine Q.jk ?_ _ | refine Q.drew ?_)

end Go.Proofs.Ytkkjifgcjfbcaaa
