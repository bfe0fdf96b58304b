
/- combine with the other turn, and Join, return for numbers that are not too great. -/
import Derived.Test.YtbonaopcoeconaaDoorSqB
namespace Go.Proofs.YtbonaopcoeconaaDoor
open Go.RowKit Go.Sub

set_option maxHeartbeats 8000000 in
theorem combine_2 (x y z : Cy) (w : World) (hx : x.In 1125899906842624) (hy : y.In 1125899906842624) (hz : z.In 1125899906842624) :
    Calls Tryd.prog 47 #[.agg #[.int .i64 x.a, .int .i64 x.b, .int .i64 x.c, .int .i64 x.d, .int .i64 y.a, .int .i64 y.b, .int .i64 y.c, .int .i64 y.d, .int .i64 z.a, .int .i64 z.b, .int .i64 z.c, .int .i64 z.d], .int .i64 2] w fun e w' => e = .returned (.tuple #[.agg #[.int .i64 (comb 2 0 x y z).a, .int .i64 (comb 2 0 x y z).b, .int .i64 (comb 2 0 x y z).c, .int .i64 (comb 2 0 x y z).d, .int .i64 (comb 2 1 x y z).a, .int .i64 (comb 2 1 x y z).b, .int .i64 (comb 2 1 x y z).c, .int .i64 (comb 2 1 x y z).d, .int .i64 (comb 2 2 x y z).a, .int .i64 (comb 2 2 x y z).b, .int .i64 (comb 2 2 x y z).c, .int .i64 (comb 2 2 x y z).d], .int .i64 0]) ∧ Q w w' := by
  have e0 : comb 2 0 x y z = ((x.turn 0).add (y.turn 0)).add (z.turn 0) := rfl
  have e1 : comb 2 1 x y z = ((x.turn 0).add (y.turn 8)).add (z.turn 16) := rfl
  have e2 : comb 2 2 x y z = ((x.turn 0).add (y.turn 16)).add (z.turn 32) := rfl
  rw [e0, e1, e2]
  clear e0 e1 e2
  have t0 : turnR ⟨x.a, x.b, x.c, x.d⟩ 0 = ⟨x.turn 0, 0⟩ := turnR_ok 0 (hx.mono (by decide))
  have t1 : turnR ⟨y.a, y.b, y.c, y.d⟩ 0 = ⟨y.turn 0, 0⟩ := turnR_ok 0 (hy.mono (by decide))
  have t2 : turnR ⟨z.a, z.b, z.c, z.d⟩ 0 = ⟨z.turn 0, 0⟩ := turnR_ok 0 (hz.mono (by decide))
  have t3 : turnR ⟨y.a, y.b, y.c, y.d⟩ 8 = ⟨y.turn 8, 0⟩ := turnR_ok 8 (hy.mono (by decide))
  have t4 : turnR ⟨z.a, z.b, z.c, z.d⟩ 16 = ⟨z.turn 16, 0⟩ := turnR_ok 16 (hz.mono (by decide))
  have t5 : turnR ⟨y.a, y.b, y.c, y.d⟩ 16 = ⟨y.turn 16, 0⟩ := turnR_ok 16 (hy.mono (by decide))
  have t6 : turnR ⟨z.a, z.b, z.c, z.d⟩ 32 = ⟨z.turn 32, 0⟩ := turnR_ok 32 (hz.mono (by decide))
  have i0 := (turn_in 0 hx).mono (show 2 * 1125899906842624 ≤ (10000000000000000 : Int) by decide)
  have i1 := (turn_in 0 hy).mono (show 2 * 1125899906842624 ≤ (10000000000000000 : Int) by decide)
  have i2 := (turn_in 0 hz).mono (show 2 * 1125899906842624 ≤ (10000000000000000 : Int) by decide)
  have i3 := (turn_in 8 hy).mono (show 2 * 1125899906842624 ≤ (10000000000000000 : Int) by decide)
  have i4 := (turn_in 16 hz).mono (show 2 * 1125899906842624 ≤ (10000000000000000 : Int) by decide)
  have i5 := (turn_in 16 hy).mono (show 2 * 1125899906842624 ≤ (10000000000000000 : Int) by decide)
  have i6 := (turn_in 32 hz).mono (show 2 * 1125899906842624 ≤ (10000000000000000 : Int) by decide)
  go_enter Tryd.func47, Tryd.ntmps47
  go_wp2_with (go_at_call 48; refine (sqwithin_c _ x y z _ (by simp [go_sem]) (by simp [go_sem]) (by simp [go_sem]) (by simp [go_sem]) (by simp [go_sem]) (by simp [go_sem]) (by simp [go_sem]) (by simp [go_sem]) (by simp [go_sem]) (by simp [go_sem]) (by simp [go_sem]) (by simp [go_sem]) hx hy hz).mono ?_; rintro e w' ⟨rfl, kj, rfl⟩)
  refine wp_loop_rounds 4 ?_
  rw [rounds_succ]; go_wp2
  refine wp_loop_rounds 4 ?_
  repeat any_goals (rw [rounds_succ]; go_wp2_with (first | (go_at_call 37; refine (turn_any _ _ _ _ _ _).mono ?_; rintro e w' ⟨rfl, kj, rfl⟩) | (go_at_call 49; refine (sqtotal_c _ (x.turn 0) (y.turn 0) (z.turn 0) _ (by simp [go_sem]) (by simp [go_sem]) (by simp [go_sem]) (by simp [go_sem]) (by simp [go_sem]) (by simp [go_sem]) (by simp [go_sem]) (by simp [go_sem]) (by simp [go_sem]) (by simp [go_sem]) (by simp [go_sem]) (by simp [go_sem]) (by assumption) (by assumption) (by assumption)).mono ?_; rintro e w' ⟨rfl, kj, rfl⟩)))
  refine wp_loop_rounds 4 ?_
  repeat any_goals (rw [rounds_succ]; go_wp2_with (first | (go_at_call 37; refine (turn_any _ _ _ _ _ _).mono ?_; rintro e w' ⟨rfl, kj, rfl⟩) | (go_at_call 49; refine (sqtotal_c _ (x.turn 0) (y.turn 8) (z.turn 16) _ (by simp [go_sem]) (by simp [go_sem]) (by simp [go_sem]) (by simp [go_sem]) (by simp [go_sem]) (by simp [go_sem]) (by simp [go_sem]) (by simp [go_sem]) (by simp [go_sem]) (by simp [go_sem]) (by simp [go_sem]) (by simp [go_sem]) (by assumption) (by assumption) (by assumption)).mono ?_; rintro e w' ⟨rfl, kj, rfl⟩)))
  refine wp_loop_rounds 4 ?_
  repeat any_goals (rw [rounds_succ]; go_wp2_with (first | (go_at_call 37; refine (turn_any _ _ _ _ _ _).mono ?_; rintro e w' ⟨rfl, kj, rfl⟩) | (go_at_call 49; refine (sqtotal_c _ (x.turn 0) (y.turn 16) (z.turn 32) _ (by simp [go_sem]) (by simp [go_sem]) (by simp [go_sem]) (by simp [go_sem]) (by simp [go_sem]) (by simp [go_sem]) (by simp [go_sem]) (by simp [go_sem]) (by simp [go_sem]) (by simp [go_sem]) (by simp [go_sem]) (by simp [go_sem]) (by assumption) (by assumption) (by assumption)).mono ?_; rintro e w' ⟨rfl, kj, rfl⟩)))
  refine bodyPost_ret (v := .tuple #[.agg #[.int .i64 (((x.turn 0).add (y.turn 0)).add (z.turn 0)).a, .int .i64 (((x.turn 0).add (y.turn 0)).add (z.turn 0)).b, .int .i64 (((x.turn 0).add (y.turn 0)).add (z.turn 0)).c, .int .i64 (((x.turn 0).add (y.turn 0)).add (z.turn 0)).d, .int .i64 (((x.turn 0).add (y.turn 8)).add (z.turn 16)).a, .int .i64 (((x.turn 0).add (y.turn 8)).add (z.turn 16)).b, .int .i64 (((x.turn 0).add (y.turn 8)).add (z.turn 16)).c, .int .i64 (((x.turn 0).add (y.turn 8)).add (z.turn 16)).d, .int .i64 (((x.turn 0).add (y.turn 16)).add (z.turn 32)).a, .int .i64 (((x.turn 0).add (y.turn 16)).add (z.turn 32)).b, .int .i64 (((x.turn 0).add (y.turn 16)).add (z.turn 32)).c, .int .i64 (((x.turn 0).add (y.turn 16)).add (z.turn 32)).d], .int .i64 0]) (by simp [results, Tryd.results47, go_sem]) rfl ⟨rfl, ?_⟩
  repeat' (first | exact Q.refl _ | refine Q.alloc ?_ _ | refine Q.jk ?_ _ | refine Q.drew ?_)

set_option maxHeartbeats 8000000 in
theorem join_c (x y z u v t : Cy) (w : World) (hx : x.In 1125899906842624) (hy : y.In 1125899906842624) (hz : z.In 1125899906842624) (hu : u.In 1000000000000) (hv : v.In 1000000000000) (ht : t.In 1000000000000)
    (q0 : (comb 2 0 x y z).a = 3 * u.a) (q1 : (comb 2 0 x y z).b = 3 * u.b) (q2 : (comb 2 0 x y z).c = 3 * u.c) (q3 : (comb 2 0 x y z).d = 3 * u.d) (q4 : (comb 2 1 x y z).a = 3 * v.a) (q5 : (comb 2 1 x y z).b = 3 * v.b) (q6 : (comb 2 1 x y z).c = 3 * v.c) (q7 : (comb 2 1 x y z).d = 3 * v.d) (q8 : (comb 2 2 x y z).a = 3 * t.a) (q9 : (comb 2 2 x y z).b = 3 * t.b) (q10 : (comb 2 2 x y z).c = 3 * t.c) (q11 : (comb 2 2 x y z).d = 3 * t.d) :
    Calls Tryd.prog 22 #[.agg #[.int .i64 x.a, .int .i64 x.b, .int .i64 x.c, .int .i64 x.d, .int .i64 y.a, .int .i64 y.b, .int .i64 y.c, .int .i64 y.d, .int .i64 z.a, .int .i64 z.b, .int .i64 z.c, .int .i64 z.d]] w fun e w' => e = .returned (.tuple #[.agg #[.int .i64 u.a, .int .i64 u.b, .int .i64 u.c, .int .i64 u.d, .int .i64 v.a, .int .i64 v.b, .int .i64 v.c, .int .i64 v.d, .int .i64 t.a, .int .i64 t.b, .int .i64 t.c, .int .i64 t.d], .int .i64 0]) ∧ Q w w' := by
  obtain ⟨u1, u2, u3, u4, u5, u6, u7, u8⟩ := hu
  obtain ⟨v1, v2, v3, v4, v5, v6, v7, v8⟩ := hv
  obtain ⟨t1, t2, t3, t4, t5, t6, t7, t8⟩ := ht
  go_enter Tryd.func22, Tryd.ntmps22
  go_wp2_with (go_at_call 47; refine (combine_2 _ _ _ _ hx hy hz).mono ?_; rintro e w' ⟨rfl, kj, rfl⟩)
  refine wp_loop_rounds 4 ?_
  rw [rounds_succ]; go_wp2
  refine wp_loop_rounds 5 ?_
  rw [rounds_succ]; go_wp2
  refine wp_region_tail 8 (by kernel_rfl) (by kernel_rfl) ?_
  simp only [List.take_succ_cons, List.take_zero, List.drop_succ_cons, List.drop_zero]
  repeat (go_big_quiet_step (fail))
  refine wpQuiet_nil ?_
  intro _ hw'
  obtain ⟨kq, rfl⟩ := hw'
  go_wp2
  rw [rounds_succ]; go_wp2
  refine wp_region_tail 8 (by kernel_rfl) (by kernel_rfl) ?_
  simp only [List.take_succ_cons, List.take_zero, List.drop_succ_cons, List.drop_zero]
  repeat (go_big_quiet_step (fail))
  refine wpQuiet_nil ?_
  intro _ hw'
  obtain ⟨kq, rfl⟩ := hw'
  go_wp2
  rw [rounds_succ]; go_wp2
  refine wp_region_tail 8 (by kernel_rfl) (by kernel_rfl) ?_
  simp only [List.take_succ_cons, List.take_zero, List.drop_succ_cons, List.drop_zero]
  repeat (go_big_quiet_step (fail))
  refine wpQuiet_nil ?_
  intro _ hw'
  obtain ⟨kq, rfl⟩ := hw'
  go_wp2
  rw [rounds_succ]; go_wp2
  refine wp_region_tail 8 (by kernel_rfl) (by kernel_rfl) ?_
  simp only [List.take_succ_cons, List.take_zero, List.drop_succ_cons, List.drop_zero]
  repeat (go_big_quiet_step (fail))
  refine wpQuiet_nil ?_
  intro _ hw'
  obtain ⟨kq, rfl⟩ := hw'
  go_wp2
  rw [rounds_succ]; go_wp2
  rw [rounds_succ]; go_wp2
  refine wp_loop_rounds 5 ?_
  rw [rounds_succ]; go_wp2
  refine wp_region_tail 8 (by kernel_rfl) (by kernel_rfl) ?_
  simp only [List.take_succ_cons, List.take_zero, List.drop_succ_cons, List.drop_zero]
  repeat (go_big_quiet_step (fail))
  refine wpQuiet_nil ?_
  intro _ hw'
  obtain ⟨kq, rfl⟩ := hw'
  go_wp2
  rw [rounds_succ]; go_wp2
  refine wp_region_tail 8 (by kernel_rfl) (by kernel_rfl) ?_
  simp only [List.take_succ_cons, List.take_zero, List.drop_succ_cons, List.drop_zero]
  repeat (go_big_quiet_step (fail))
  refine wpQuiet_nil ?_
  intro _ hw'
  obtain ⟨kq, rfl⟩ := hw'
  go_wp2
  rw [rounds_succ]; go_wp2
  refine wp_region_tail 8 (by kernel_rfl) (by kernel_rfl) ?_
  simp only [List.take_succ_cons, List.take_zero, List.drop_succ_cons, List.drop_zero]
  repeat (go_big_quiet_step (fail))
  refine wpQuiet_nil ?_
  intro _ hw'
  obtain ⟨kq, rfl⟩ := hw'
  go_wp2
  rw [rounds_succ]; go_wp2
  refine wp_region_tail 8 (by kernel_rfl) (by kernel_rfl) ?_
  simp only [List.take_succ_cons, List.take_zero, List.drop_succ_cons, List.drop_zero]
  repeat (go_big_quiet_step (fail))
  refine wpQuiet_nil ?_
  intro _ hw'
  obtain ⟨kq, rfl⟩ := hw'
  go_wp2
  rw [rounds_succ]; go_wp2
  rw [rounds_succ]; go_wp2
  refine wp_loop_rounds 5 ?_
  rw [rounds_succ]; go_wp2
  refine wp_region_tail 8 (by kernel_rfl) (by kernel_rfl) ?_
  simp only [List.take_succ_cons, List.take_zero, List.drop_succ_cons, List.drop_zero]
  repeat (go_big_quiet_step (fail))
  refine wpQuiet_nil ?_
  intro _ hw'
  obtain ⟨kq, rfl⟩ := hw'
  go_wp2
  rw [rounds_succ]; go_wp2
  refine wp_region_tail 8 (by kernel_rfl) (by kernel_rfl) ?_
  simp only [List.take_succ_cons, List.take_zero, List.drop_succ_cons, List.drop_zero]
  repeat (go_big_quiet_step (fail))
  refine wpQuiet_nil ?_
  intro _ hw'
  obtain ⟨kq, rfl⟩ := hw'
  go_wp2
  rw [rounds_succ]; go_wp2
  refine wp_region_tail 8 (by kernel_rfl) (by kernel_rfl) ?_
  simp only [List.take_succ_cons, List.take_zero, List.drop_succ_cons, List.drop_zero]
  repeat (go_big_quiet_step (fail))
  refine wpQuiet_nil ?_
  intro _ hw'
  obtain ⟨kq, rfl⟩ := hw'
  go_wp2
  rw [rounds_succ]; go_wp2
  refine wp_region_tail 8 (by kernel_rfl) (by kernel_rfl) ?_
  simp only [List.take_succ_cons, List.take_zero, List.drop_succ_cons, List.drop_zero]
  repeat (go_big_quiet_step (fail))
  refine wpQuiet_nil ?_
  intro _ hw'
  obtain ⟨kq, rfl⟩ := hw'
  go_wp2
  rw [rounds_succ]; go_wp2
  rw [rounds_succ]; go_wp2
  refine bodyPost_ret (v := .tuple #[.agg #[.int .i64 u.a, .int .i64 u.b, .int .i64 u.c, .int .i64 u.d, .int .i64 v.a, .int .i64 v.b, .int .i64 v.c, .int .i64 v.d, .int .i64 t.a, .int .i64 t.b, .int .i64 t.c, .int .i64 t.d], .int .i64 0]) (by simp [results, Tryd.results22, go_sem]) rfl ⟨rfl, ?_⟩
  repeat' (first | exact Q.refl _ | refine Q.alloc ?_ _ | refine Q.jk ?_ _ | refine Q.drew ?_)
end Go.Proofs.YtbonaopcoeconaaDoor
