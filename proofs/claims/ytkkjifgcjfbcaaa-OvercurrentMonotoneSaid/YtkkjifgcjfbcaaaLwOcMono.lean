
/- OvercurrentMonotone: the walk. -/
import Derived.Test.YtkkjifgcjfbcaaaOcM
import Derived.Test.YtkkjifgcjfbcaaaCyT
namespace Go.Sub
def hv (x : Cy) : Cy := ⟨x.a.tdiv 2, x.b.tdiv 2, x.c.tdiv 2, x.d.tdiv 2⟩
theorem tdiv2_bd {n l : Int} (h1 : -l ≤ n) (h2 : n ≤ l) : -l ≤ 2 * n.tdiv 2 ∧ 2 * n.tdiv 2 ≤ l := by
  rcases Int.lt_or_le n 0 with h | h
  · have e := Int.neg_tdiv n 2
    rw [Int.tdiv_eq_ediv_of_nonneg (show 0 ≤ -n by omega)] at e
    omega
  · rw [Int.tdiv_eq_ediv_of_nonneg h]
    omega
theorem hv_in {x : Cy} (h : x.In 65536) : (hv x).In 32768 := by
  obtain ⟨x1, x2, x3, x4, x5, x6, x7, x8⟩ := h
  have a := tdiv2_bd x1 x2
  have b := tdiv2_bd x3 x4
  have c := tdiv2_bd x5 x6
  have d := tdiv2_bd x7 x8
  unfold Cy.In hv
  dsimp only
  omega
end Go.Sub
namespace Go.Proofs.Ytkkjifgcjfbcaaa
open Go.RowKit Go.Sub
set_option maxRecDepth 100000 in
set_option maxHeartbeats 8000000 in
theorem ocmono_no (x y z : Cy) (k1 k2 : Int) (X Y Z : Cy) (p d a b c : Int) (y3 yy : Bool) (w : World)
    (SM : Hid (∀ w, Calls Try.prog 44 #[.agg #[.int .i64 x.a, .int .i64 x.b, .int .i64 x.c, .int .i64 x.d, .int .i64 y.a, .int .i64 y.b, .int .i64 y.c, .int .i64 y.d, .int .i64 z.a, .int .i64 z.b, .int .i64 z.c, .int .i64 z.d]] w fun e w' => e = .returned (.agg #[.int .i64 X.a, .int .i64 X.b, .int .i64 X.c, .int .i64 X.d, .int .i64 Y.a, .int .i64 Y.b, .int .i64 Y.c, .int .i64 Y.d, .int .i64 Z.a, .int .i64 Z.b, .int .i64 Z.c, .int .i64 Z.d]) ∧ Q w w'))
    (ST : Hid (∀ w, Calls Try.prog 45 #[.agg #[.int .i64 k1, .int .i64 k2]] w fun e w' => e = .returned (.tuple #[.int .i64 p, .int .i64 d]) ∧ Q w w'))
    (C1 : Hid (∀ w, Calls Try.prog 47 #[.agg #[.int .i64 (X.a.tdiv 2), .int .i64 (X.b.tdiv 2), .int .i64 (X.c.tdiv 2), .int .i64 (X.d.tdiv 2)], .int .i64 2] w fun e w' => e = .returned (.tuple #[.agg #[.int .i64 ((hv X).sc 2).a, .int .i64 ((hv X).sc 2).b, .int .i64 ((hv X).sc 2).c, .int .i64 ((hv X).sc 2).d], .int .i64 0]) ∧ Q w w')) (C2 : Hid (∀ w, Calls Try.prog 47 #[.agg #[.int .i64 (Y.a.tdiv 2), .int .i64 (Y.b.tdiv 2), .int .i64 (Y.c.tdiv 2), .int .i64 (Y.d.tdiv 2)], .int .i64 2] w fun e w' => e = .returned (.tuple #[.agg #[.int .i64 ((hv Y).sc 2).a, .int .i64 ((hv Y).sc 2).b, .int .i64 ((hv Y).sc 2).c, .int .i64 ((hv Y).sc 2).d], .int .i64 0]) ∧ Q w w')) (C3 : Hid (∀ w, Calls Try.prog 47 #[.agg #[.int .i64 (Z.a.tdiv 2), .int .i64 (Z.b.tdiv 2), .int .i64 (Z.c.tdiv 2), .int .i64 (Z.d.tdiv 2)], .int .i64 2] w fun e w' => e = .returned (.tuple #[.agg #[.int .i64 ((hv Z).sc 2).a, .int .i64 ((hv Z).sc 2).b, .int .i64 ((hv Z).sc 2).c, .int .i64 ((hv Z).sc 2).d], .int .i64 0]) ∧ Q w w'))
    (S1 : Hid (∀ w, Calls Try.prog 42 #[.agg #[.int .i64 (X.a.tdiv 2), .int .i64 (X.b.tdiv 2), .int .i64 (X.c.tdiv 2), .int .i64 (X.d.tdiv 2), .int .i64 (Y.a.tdiv 2), .int .i64 (Y.b.tdiv 2), .int .i64 (Y.c.tdiv 2), .int .i64 (Y.d.tdiv 2), .int .i64 (Z.a.tdiv 2), .int .i64 (Z.b.tdiv 2), .int .i64 (Z.c.tdiv 2), .int .i64 (Z.d.tdiv 2)], .int .i64 p, .int .i64 d] w fun e w' => e = .returned (.tuple #[.int .i64 a, .bool false, .int .i64 0]) ∧ Q w w')) (S2 : Hid (∀ w, Calls Try.prog 42 #[.agg #[.int .i64 ((hv X).sc 2).a, .int .i64 ((hv X).sc 2).b, .int .i64 ((hv X).sc 2).c, .int .i64 ((hv X).sc 2).d, .int .i64 ((hv Y).sc 2).a, .int .i64 ((hv Y).sc 2).b, .int .i64 ((hv Y).sc 2).c, .int .i64 ((hv Y).sc 2).d, .int .i64 ((hv Z).sc 2).a, .int .i64 ((hv Z).sc 2).b, .int .i64 ((hv Z).sc 2).c, .int .i64 ((hv Z).sc 2).d], .int .i64 p, .int .i64 d] w fun e w' => e = .returned (.tuple #[.int .i64 b, .bool yy, .int .i64 0]) ∧ Q w w')) (S3 : Hid (∀ w, Calls Try.prog 42 #[.agg #[.int .i64 (X.a.tdiv 2), .int .i64 (X.b.tdiv 2), .int .i64 (X.c.tdiv 2), .int .i64 (X.d.tdiv 2), .int .i64 (Y.a.tdiv 2), .int .i64 (Y.b.tdiv 2), .int .i64 (Y.c.tdiv 2), .int .i64 (Y.d.tdiv 2), .int .i64 (Z.a.tdiv 2), .int .i64 (Z.b.tdiv 2), .int .i64 (Z.c.tdiv 2), .int .i64 (Z.d.tdiv 2)], .int .i64 p, .int .i64 (d + 1)] w fun e w' => e = .returned (.tuple #[.int .i64 c, .bool y3, .int .i64 0]) ∧ Q w w'))
    (hX : X.In 65536) (hY : Y.In 65536) (hZ : Z.In 65536) (d0 : 1 ≤ d) (d1 : d ≤ 3)  :
    Calls Try.prog 12 #[.agg #[.int .i64 x.a, .int .i64 x.b, .int .i64 x.c, .int .i64 x.d, .int .i64 y.a, .int .i64 y.b, .int .i64 y.c, .int .i64 y.d, .int .i64 z.a, .int .i64 z.b, .int .i64 z.c, .int .i64 z.d], .agg #[.int .i64 k1, .int .i64 k2]] w fun e w' => e = .returned (.bool true) ∧ Q w w' := by
  obtain ⟨x1, x2, x3, x4, x5, x6, x7, x8⟩ := hX
  obtain ⟨y1, y2, y3, y4, y5, y6, y7, y8⟩ := hY
  obtain ⟨z1, z2, z3, z4, z5, z6, z7, z8⟩ := hZ
  go_enter Try.func12, Try.ntmps12
  go_wp2_with (first | (go_at_call 33; refine (known24 _).mono ?_; rintro e w' ⟨rfl, kj, rfl⟩) | (go_at_call 44; refine (SM.out _).mono ?_; rintro e w' ⟨rfl, kj, rfl⟩))
  refine wp_loop_rounds 4 ?_
  rw [rounds_succ]; go_wp2_with fail
  refine wp_loop_rounds 5 ?_
  rw [rounds_succ]; go_wp2_with fail
  refine wp_region_tail 10 (by kernel_rfl) (by kernel_rfl) ?_
  simp only [List.take_succ_cons, List.take_zero, List.drop_succ_cons, List.drop_zero]
  repeat (go_big_quiet_step (fail))
  refine wpQuiet_nil ?_
  intro _ hw'
  obtain ⟨kq, rfl⟩ := hw'
  go_wp2
  rw [rounds_succ]; go_wp2_with fail
  refine wp_region_tail 10 (by kernel_rfl) (by kernel_rfl) ?_
  simp only [List.take_succ_cons, List.take_zero, List.drop_succ_cons, List.drop_zero]
  repeat (go_big_quiet_step (fail))
  refine wpQuiet_nil ?_
  intro _ hw'
  obtain ⟨kq, rfl⟩ := hw'
  go_wp2
  rw [rounds_succ]; go_wp2_with fail
  refine wp_region_tail 10 (by kernel_rfl) (by kernel_rfl) ?_
  simp only [List.take_succ_cons, List.take_zero, List.drop_succ_cons, List.drop_zero]
  repeat (go_big_quiet_step (fail))
  refine wpQuiet_nil ?_
  intro _ hw'
  obtain ⟨kq, rfl⟩ := hw'
  go_wp2
  rw [rounds_succ]; go_wp2_with fail
  refine wp_region_tail 10 (by kernel_rfl) (by kernel_rfl) ?_
  simp only [List.take_succ_cons, List.take_zero, List.drop_succ_cons, List.drop_zero]
  repeat (go_big_quiet_step (fail))
  refine wpQuiet_nil ?_
  intro _ hw'
  obtain ⟨kq, rfl⟩ := hw'
  go_wp2
  rw [rounds_succ]; go_wp2_with (go_at_call 47; first | ((with_reducible refine (C1.out _).mono ?_); rintro e w' ⟨rfl, kj, rfl⟩) | ((with_reducible refine (C2.out _).mono ?_); rintro e w' ⟨rfl, kj, rfl⟩) | ((with_reducible refine (C3.out _).mono ?_); rintro e w' ⟨rfl, kj, rfl⟩))
  rw [rounds_succ]; go_wp2_with fail
  refine wp_loop_rounds 5 ?_
  rw [rounds_succ]; go_wp2_with fail
  refine wp_region_tail 10 (by kernel_rfl) (by kernel_rfl) ?_
  simp only [List.take_succ_cons, List.take_zero, List.drop_succ_cons, List.drop_zero]
  repeat (go_big_quiet_step (fail))
  refine wpQuiet_nil ?_
  intro _ hw'
  obtain ⟨kq, rfl⟩ := hw'
  go_wp2
  rw [rounds_succ]; go_wp2_with fail
  refine wp_region_tail 10 (by kernel_rfl) (by kernel_rfl) ?_
  simp only [List.take_succ_cons, List.take_zero, List.drop_succ_cons, List.drop_zero]
  repeat (go_big_quiet_step (fail))
  refine wpQuiet_nil ?_
  intro _ hw'
  obtain ⟨kq, rfl⟩ := hw'
  go_wp2
  rw [rounds_succ]; go_wp2_with fail
  refine wp_region_tail 10 (by kernel_rfl) (by kernel_rfl) ?_
  simp only [List.take_succ_cons, List.take_zero, List.drop_succ_cons, List.drop_zero]
  repeat (go_big_quiet_step (fail))
  refine wpQuiet_nil ?_
  intro _ hw'
  obtain ⟨kq, rfl⟩ := hw'
  go_wp2
  rw [rounds_succ]; go_wp2_with fail
  refine wp_region_tail 10 (by kernel_rfl) (by kernel_rfl) ?_
  simp only [List.take_succ_cons, List.take_zero, List.drop_succ_cons, List.drop_zero]
  repeat (go_big_quiet_step (fail))
  refine wpQuiet_nil ?_
  intro _ hw'
  obtain ⟨kq, rfl⟩ := hw'
  go_wp2
  rw [rounds_succ]; go_wp2_with (go_at_call 47; first | ((with_reducible refine (C1.out _).mono ?_); rintro e w' ⟨rfl, kj, rfl⟩) | ((with_reducible refine (C2.out _).mono ?_); rintro e w' ⟨rfl, kj, rfl⟩) | ((with_reducible refine (C3.out _).mono ?_); rintro e w' ⟨rfl, kj, rfl⟩))
  rw [rounds_succ]; go_wp2_with fail
  refine wp_loop_rounds 5 ?_
  rw [rounds_succ]; go_wp2_with fail
  refine wp_region_tail 10 (by kernel_rfl) (by kernel_rfl) ?_
  simp only [List.take_succ_cons, List.take_zero, List.drop_succ_cons, List.drop_zero]
  repeat (go_big_quiet_step (fail))
  refine wpQuiet_nil ?_
  intro _ hw'
  obtain ⟨kq, rfl⟩ := hw'
  go_wp2
  rw [rounds_succ]; go_wp2_with fail
  refine wp_region_tail 10 (by kernel_rfl) (by kernel_rfl) ?_
  simp only [List.take_succ_cons, List.take_zero, List.drop_succ_cons, List.drop_zero]
  repeat (go_big_quiet_step (fail))
  refine wpQuiet_nil ?_
  intro _ hw'
  obtain ⟨kq, rfl⟩ := hw'
  go_wp2
  rw [rounds_succ]; go_wp2_with fail
  refine wp_region_tail 10 (by kernel_rfl) (by kernel_rfl) ?_
  simp only [List.take_succ_cons, List.take_zero, List.drop_succ_cons, List.drop_zero]
  repeat (go_big_quiet_step (fail))
  refine wpQuiet_nil ?_
  intro _ hw'
  obtain ⟨kq, rfl⟩ := hw'
  go_wp2
  rw [rounds_succ]; go_wp2_with fail
  refine wp_region_tail 10 (by kernel_rfl) (by kernel_rfl) ?_
  simp only [List.take_succ_cons, List.take_zero, List.drop_succ_cons, List.drop_zero]
  repeat (go_big_quiet_step (fail))
  refine wpQuiet_nil ?_
  intro _ hw'
  obtain ⟨kq, rfl⟩ := hw'
  go_wp2
  rw [rounds_succ]; go_wp2_with (go_at_call 47; first | ((with_reducible refine (C1.out _).mono ?_); rintro e w' ⟨rfl, kj, rfl⟩) | ((with_reducible refine (C2.out _).mono ?_); rintro e w' ⟨rfl, kj, rfl⟩) | ((with_reducible refine (C3.out _).mono ?_); rintro e w' ⟨rfl, kj, rfl⟩))
  rw [rounds_succ]; go_wp2_with (first | (go_at_call 45; refine (ST.out _).mono ?_; rintro e w' ⟨rfl, kj, rfl⟩) | (go_at_call 42; first | ((with_reducible refine (S1.out _).mono ?_); rintro e w' ⟨rfl, kj, rfl⟩) | ((with_reducible refine (S2.out _).mono ?_); rintro e w' ⟨rfl, kj, rfl⟩) | ((with_reducible refine (S3.out _).mono ?_); rintro e w' ⟨rfl, kj, rfl⟩)))
  go_ret
  refine ⟨rfl, ?_⟩
  repeat' (first | exact Q.refl _ | refine Q.alloc ?_ _ | refine Q.jk ?_ _ | refine Q.drew ?_)
set_option maxRecDepth 100000 in
set_option maxHeartbeats 8000000 in
theorem ocmono_up (x y z : Cy) (k1 k2 : Int) (X Y Z : Cy) (p d a b c : Int) (y3 : Bool) (w : World)
    (SM : Hid (∀ w, Calls Try.prog 44 #[.agg #[.int .i64 x.a, .int .i64 x.b, .int .i64 x.c, .int .i64 x.d, .int .i64 y.a, .int .i64 y.b, .int .i64 y.c, .int .i64 y.d, .int .i64 z.a, .int .i64 z.b, .int .i64 z.c, .int .i64 z.d]] w fun e w' => e = .returned (.agg #[.int .i64 X.a, .int .i64 X.b, .int .i64 X.c, .int .i64 X.d, .int .i64 Y.a, .int .i64 Y.b, .int .i64 Y.c, .int .i64 Y.d, .int .i64 Z.a, .int .i64 Z.b, .int .i64 Z.c, .int .i64 Z.d]) ∧ Q w w'))
    (ST : Hid (∀ w, Calls Try.prog 45 #[.agg #[.int .i64 k1, .int .i64 k2]] w fun e w' => e = .returned (.tuple #[.int .i64 p, .int .i64 d]) ∧ Q w w'))
    (C1 : Hid (∀ w, Calls Try.prog 47 #[.agg #[.int .i64 (X.a.tdiv 2), .int .i64 (X.b.tdiv 2), .int .i64 (X.c.tdiv 2), .int .i64 (X.d.tdiv 2)], .int .i64 2] w fun e w' => e = .returned (.tuple #[.agg #[.int .i64 ((hv X).sc 2).a, .int .i64 ((hv X).sc 2).b, .int .i64 ((hv X).sc 2).c, .int .i64 ((hv X).sc 2).d], .int .i64 0]) ∧ Q w w')) (C2 : Hid (∀ w, Calls Try.prog 47 #[.agg #[.int .i64 (Y.a.tdiv 2), .int .i64 (Y.b.tdiv 2), .int .i64 (Y.c.tdiv 2), .int .i64 (Y.d.tdiv 2)], .int .i64 2] w fun e w' => e = .returned (.tuple #[.agg #[.int .i64 ((hv Y).sc 2).a, .int .i64 ((hv Y).sc 2).b, .int .i64 ((hv Y).sc 2).c, .int .i64 ((hv Y).sc 2).d], .int .i64 0]) ∧ Q w w')) (C3 : Hid (∀ w, Calls Try.prog 47 #[.agg #[.int .i64 (Z.a.tdiv 2), .int .i64 (Z.b.tdiv 2), .int .i64 (Z.c.tdiv 2), .int .i64 (Z.d.tdiv 2)], .int .i64 2] w fun e w' => e = .returned (.tuple #[.agg #[.int .i64 ((hv Z).sc 2).a, .int .i64 ((hv Z).sc 2).b, .int .i64 ((hv Z).sc 2).c, .int .i64 ((hv Z).sc 2).d], .int .i64 0]) ∧ Q w w'))
    (S1 : Hid (∀ w, Calls Try.prog 42 #[.agg #[.int .i64 (X.a.tdiv 2), .int .i64 (X.b.tdiv 2), .int .i64 (X.c.tdiv 2), .int .i64 (X.d.tdiv 2), .int .i64 (Y.a.tdiv 2), .int .i64 (Y.b.tdiv 2), .int .i64 (Y.c.tdiv 2), .int .i64 (Y.d.tdiv 2), .int .i64 (Z.a.tdiv 2), .int .i64 (Z.b.tdiv 2), .int .i64 (Z.c.tdiv 2), .int .i64 (Z.d.tdiv 2)], .int .i64 p, .int .i64 d] w fun e w' => e = .returned (.tuple #[.int .i64 a, .bool true, .int .i64 0]) ∧ Q w w')) (S2 : Hid (∀ w, Calls Try.prog 42 #[.agg #[.int .i64 ((hv X).sc 2).a, .int .i64 ((hv X).sc 2).b, .int .i64 ((hv X).sc 2).c, .int .i64 ((hv X).sc 2).d, .int .i64 ((hv Y).sc 2).a, .int .i64 ((hv Y).sc 2).b, .int .i64 ((hv Y).sc 2).c, .int .i64 ((hv Y).sc 2).d, .int .i64 ((hv Z).sc 2).a, .int .i64 ((hv Z).sc 2).b, .int .i64 ((hv Z).sc 2).c, .int .i64 ((hv Z).sc 2).d], .int .i64 p, .int .i64 d] w fun e w' => e = .returned (.tuple #[.int .i64 b, .bool true, .int .i64 0]) ∧ Q w w')) (S3 : Hid (∀ w, Calls Try.prog 42 #[.agg #[.int .i64 (X.a.tdiv 2), .int .i64 (X.b.tdiv 2), .int .i64 (X.c.tdiv 2), .int .i64 (X.d.tdiv 2), .int .i64 (Y.a.tdiv 2), .int .i64 (Y.b.tdiv 2), .int .i64 (Y.c.tdiv 2), .int .i64 (Y.d.tdiv 2), .int .i64 (Z.a.tdiv 2), .int .i64 (Z.b.tdiv 2), .int .i64 (Z.c.tdiv 2), .int .i64 (Z.d.tdiv 2)], .int .i64 p, .int .i64 (d + 1)] w fun e w' => e = .returned (.tuple #[.int .i64 c, .bool y3, .int .i64 0]) ∧ Q w w'))
    (hX : X.In 65536) (hY : Y.In 65536) (hZ : Z.In 65536) (d0 : 1 ≤ d) (d1 : d ≤ 3) (h1 : b ≤ a) (h2 : a ≤ c) :
    Calls Try.prog 12 #[.agg #[.int .i64 x.a, .int .i64 x.b, .int .i64 x.c, .int .i64 x.d, .int .i64 y.a, .int .i64 y.b, .int .i64 y.c, .int .i64 y.d, .int .i64 z.a, .int .i64 z.b, .int .i64 z.c, .int .i64 z.d], .agg #[.int .i64 k1, .int .i64 k2]] w fun e w' => e = .returned (.bool true) ∧ Q w w' := by
  obtain ⟨x1, x2, x3, x4, x5, x6, x7, x8⟩ := hX
  obtain ⟨y1, y2, y3, y4, y5, y6, y7, y8⟩ := hY
  obtain ⟨z1, z2, z3, z4, z5, z6, z7, z8⟩ := hZ
  go_enter Try.func12, Try.ntmps12
  go_wp2_with (first | (go_at_call 33; refine (known24 _).mono ?_; rintro e w' ⟨rfl, kj, rfl⟩) | (go_at_call 44; refine (SM.out _).mono ?_; rintro e w' ⟨rfl, kj, rfl⟩))
  refine wp_loop_rounds 4 ?_
  rw [rounds_succ]; go_wp2_with fail
  refine wp_loop_rounds 5 ?_
  rw [rounds_succ]; go_wp2_with fail
  refine wp_region_tail 10 (by kernel_rfl) (by kernel_rfl) ?_
  simp only [List.take_succ_cons, List.take_zero, List.drop_succ_cons, List.drop_zero]
  repeat (go_big_quiet_step (fail))
  refine wpQuiet_nil ?_
  intro _ hw'
  obtain ⟨kq, rfl⟩ := hw'
  go_wp2
  rw [rounds_succ]; go_wp2_with fail
  refine wp_region_tail 10 (by kernel_rfl) (by kernel_rfl) ?_
  simp only [List.take_succ_cons, List.take_zero, List.drop_succ_cons, List.drop_zero]
  repeat (go_big_quiet_step (fail))
  refine wpQuiet_nil ?_
  intro _ hw'
  obtain ⟨kq, rfl⟩ := hw'
  go_wp2
  rw [rounds_succ]; go_wp2_with fail
  refine wp_region_tail 10 (by kernel_rfl) (by kernel_rfl) ?_
  simp only [List.take_succ_cons, List.take_zero, List.drop_succ_cons, List.drop_zero]
  repeat (go_big_quiet_step (fail))
  refine wpQuiet_nil ?_
  intro _ hw'
  obtain ⟨kq, rfl⟩ := hw'
  go_wp2
  rw [rounds_succ]; go_wp2_with fail
  refine wp_region_tail 10 (by kernel_rfl) (by kernel_rfl) ?_
  simp only [List.take_succ_cons, List.take_zero, List.drop_succ_cons, List.drop_zero]
  repeat (go_big_quiet_step (fail))
  refine wpQuiet_nil ?_
  intro _ hw'
  obtain ⟨kq, rfl⟩ := hw'
  go_wp2
  rw [rounds_succ]; go_wp2_with (go_at_call 47; first | ((with_reducible refine (C1.out _).mono ?_); rintro e w' ⟨rfl, kj, rfl⟩) | ((with_reducible refine (C2.out _).mono ?_); rintro e w' ⟨rfl, kj, rfl⟩) | ((with_reducible refine (C3.out _).mono ?_); rintro e w' ⟨rfl, kj, rfl⟩))
  rw [rounds_succ]; go_wp2_with fail
  refine wp_loop_rounds 5 ?_
  rw [rounds_succ]; go_wp2_with fail
  refine wp_region_tail 10 (by kernel_rfl) (by kernel_rfl) ?_
  simp only [List.take_succ_cons, List.take_zero, List.drop_succ_cons, List.drop_zero]
  repeat (go_big_quiet_step (fail))
  refine wpQuiet_nil ?_
  intro _ hw'
  obtain ⟨kq, rfl⟩ := hw'
  go_wp2
  rw [rounds_succ]; go_wp2_with fail
  refine wp_region_tail 10 (by kernel_rfl) (by kernel_rfl) ?_
  simp only [List.take_succ_cons, List.take_zero, List.drop_succ_cons, List.drop_zero]
  repeat (go_big_quiet_step (fail))
  refine wpQuiet_nil ?_
  intro _ hw'
  obtain ⟨kq, rfl⟩ := hw'
  go_wp2
  rw [rounds_succ]; go_wp2_with fail
  refine wp_region_tail 10 (by kernel_rfl) (by kernel_rfl) ?_
  simp only [List.take_succ_cons, List.take_zero, List.drop_succ_cons, List.drop_zero]
  repeat (go_big_quiet_step (fail))
  refine wpQuiet_nil ?_
  intro _ hw'
  obtain ⟨kq, rfl⟩ := hw'
  go_wp2
  rw [rounds_succ]; go_wp2_with fail
  refine wp_region_tail 10 (by kernel_rfl) (by kernel_rfl) ?_
  simp only [List.take_succ_cons, List.take_zero, List.drop_succ_cons, List.drop_zero]
  repeat (go_big_quiet_step (fail))
  refine wpQuiet_nil ?_
  intro _ hw'
  obtain ⟨kq, rfl⟩ := hw'
  go_wp2
  rw [rounds_succ]; go_wp2_with (go_at_call 47; first | ((with_reducible refine (C1.out _).mono ?_); rintro e w' ⟨rfl, kj, rfl⟩) | ((with_reducible refine (C2.out _).mono ?_); rintro e w' ⟨rfl, kj, rfl⟩) | ((with_reducible refine (C3.out _).mono ?_); rintro e w' ⟨rfl, kj, rfl⟩))
  rw [rounds_succ]; go_wp2_with fail
  refine wp_loop_rounds 5 ?_
  rw [rounds_succ]; go_wp2_with fail
  refine wp_region_tail 10 (by kernel_rfl) (by kernel_rfl) ?_
  simp only [List.take_succ_cons, List.take_zero, List.drop_succ_cons, List.drop_zero]
  repeat (go_big_quiet_step (fail))
  refine wpQuiet_nil ?_
  intro _ hw'
  obtain ⟨kq, rfl⟩ := hw'
  go_wp2
  rw [rounds_succ]; go_wp2_with fail
  refine wp_region_tail 10 (by kernel_rfl) (by kernel_rfl) ?_
  simp only [List.take_succ_cons, List.take_zero, List.drop_succ_cons, List.drop_zero]
  repeat (go_big_quiet_step (fail))
  refine wpQuiet_nil ?_
  intro _ hw'
  obtain ⟨kq, rfl⟩ := hw'
  go_wp2
  rw [rounds_succ]; go_wp2_with fail
  refine wp_region_tail 10 (by kernel_rfl) (by kernel_rfl) ?_
  simp only [List.take_succ_cons, List.take_zero, List.drop_succ_cons, List.drop_zero]
  repeat (go_big_quiet_step (fail))
  refine wpQuiet_nil ?_
  intro _ hw'
  obtain ⟨kq, rfl⟩ := hw'
  go_wp2
  rw [rounds_succ]; go_wp2_with fail
  refine wp_region_tail 10 (by kernel_rfl) (by kernel_rfl) ?_
  simp only [List.take_succ_cons, List.take_zero, List.drop_succ_cons, List.drop_zero]
  repeat (go_big_quiet_step (fail))
  refine wpQuiet_nil ?_
  intro _ hw'
  obtain ⟨kq, rfl⟩ := hw'
  go_wp2
  rw [rounds_succ]; go_wp2_with (go_at_call 47; first | ((with_reducible refine (C1.out _).mono ?_); rintro e w' ⟨rfl, kj, rfl⟩) | ((with_reducible refine (C2.out _).mono ?_); rintro e w' ⟨rfl, kj, rfl⟩) | ((with_reducible refine (C3.out _).mono ?_); rintro e w' ⟨rfl, kj, rfl⟩))
  rw [rounds_succ]; go_wp2_with (first | (go_at_call 45; refine (ST.out _).mono ?_; rintro e w' ⟨rfl, kj, rfl⟩) | (go_at_call 42; first | ((with_reducible refine (S1.out _).mono ?_); rintro e w' ⟨rfl, kj, rfl⟩) | ((with_reducible refine (S2.out _).mono ?_); rintro e w' ⟨rfl, kj, rfl⟩) | ((with_reducible refine (S3.out _).mono ?_); rintro e w' ⟨rfl, kj, rfl⟩)))
  go_ret
  refine ⟨rfl, ?_⟩
  repeat' (first | exact Q.refl _ | refine Q.alloc ?_ _ | refine Q.jk ?_ _ | refine Q.drew ?_)

set_option maxRecDepth 100000 in
theorem ocmono_true (x y z : Cy) (k1 k2 : Int) (w : World) :
    Calls Try.prog 12 #[.agg #[.int .i64 x.a, .int .i64 x.b, .int .i64 x.c, .int .i64 x.d, .int .i64 y.a, .int .i64 y.b, .int .i64 y.c, .int .i64 y.d, .int .i64 z.a, .int .i64 z.b, .int .i64 z.c, .int .i64 z.d], .agg #[.int .i64 k1, .int .i64 k2]] w fun e w' => e = .returned (.bool true) ∧ Q w w' := by
  have hx := small3_in x
  have hy := small3_in y
  have hz := small3_in z
  have gx := (hv_in hx).mono (show (32768 : Int) ≤ 65536 by decide)
  have gy := (hv_in hy).mono (show (32768 : Int) ≤ 65536 by decide)
  have gz := (hv_in hz).mono (show (32768 : Int) ≤ 65536 by decide)
  have dx : (hv (small3 x)).dbl.In 65536 := (sc_in (k := 2) (m := 2) (hv_in hx) (by decide) (by decide)).mono (by decide)
  have dy : (hv (small3 y)).dbl.In 65536 := (sc_in (k := 2) (m := 2) (hv_in hy) (by decide) (by decide)).mono (by decide)
  have dz : (hv (small3 z)).dbl.In 65536 := (sc_in (k := 2) (m := 2) (hv_in hz) (by decide) (by decide)).mono (by decide)
  have SC := fun (v : Cy) (hv : v.In 65536) w => scale_fit v 2 65536 2 w hv (by decide) (by decide) (by decide) (by decide) (by decide)
  cases hu : upB (hv (small3 x)) (hv (small3 y)) (hv (small3 z)) (1 + k1 % 2000)
  · have s1 := fun w => steps_no (hv (small3 x)) (hv (small3 y)) (hv (small3 z)) (1 + k1 % 2000) (1 + k2 % 3) w gx gy gz (by omega) (by omega) (by omega) (by omega) hu
    have s3 := fun w => steps_no (hv (small3 x)) (hv (small3 y)) (hv (small3 z)) (1 + k1 % 2000) (1 + k2 % 3 + 1) w gx gy gz (by omega) (by omega) (by omega) (by omega) hu
    cases hd : upB (hv (small3 x)).dbl (hv (small3 y)).dbl (hv (small3 z)).dbl (1 + k1 % 2000)
    · exact ocmono_no x y z k1 k2 (small3 x) (small3 y) (small3 z) (1 + k1 % 2000) (1 + k2 % 3) _ _ _ _ _ w (Lib.hid fun w => small3_c x y z w) (Lib.hid fun w => settings24_any k1 k2 w) (Lib.hid (SC (hv (small3 x)) gx)) (Lib.hid (SC (hv (small3 y)) gy)) (Lib.hid (SC (hv (small3 z)) gz)) (Lib.hid s1)
        (Lib.hid fun w => steps_no (hv (small3 x)).dbl (hv (small3 y)).dbl (hv (small3 z)).dbl (1 + k1 % 2000) (1 + k2 % 3) w dx dy dz (by omega) (by omega) (by omega) (by omega) hd) (Lib.hid s3) hx hy hz (by omega) (by omega)
    · exact ocmono_no x y z k1 k2 (small3 x) (small3 y) (small3 z) (1 + k1 % 2000) (1 + k2 % 3) _ _ _ _ _ w (Lib.hid fun w => small3_c x y z w) (Lib.hid fun w => settings24_any k1 k2 w) (Lib.hid (SC (hv (small3 x)) gx)) (Lib.hid (SC (hv (small3 y)) gy)) (Lib.hid (SC (hv (small3 z)) gz)) (Lib.hid s1)
        (Lib.hid fun w => steps_up (hv (small3 x)).dbl (hv (small3 y)).dbl (hv (small3 z)).dbl (1 + k1 % 2000) (1 + k2 % 3) w dx dy dz (by omega) (by omega) (by omega) (by omega) hd) (Lib.hid s3) hx hy hz (by omega) (by omega)
  · have hd := up_dbl hu
    have hr := rate_dbl (by omega) (by omega) hu
    obtain ⟨r0, r1⟩ := rateI_bd (hv (small3 x)) (hv (small3 y)) (hv (small3 z)) (1 + k1 % 2000)
    refine ocmono_up x y z k1 k2 (small3 x) (small3 y) (small3 z) (1 + k1 % 2000) (1 + k2 % 3) _ _ _ _ w (Lib.hid fun w => small3_c x y z w) (Lib.hid fun w => settings24_any k1 k2 w) (Lib.hid (SC (hv (small3 x)) gx)) (Lib.hid (SC (hv (small3 y)) gy)) (Lib.hid (SC (hv (small3 z)) gz))
      (Lib.hid fun w => steps_up (hv (small3 x)) (hv (small3 y)) (hv (small3 z)) (1 + k1 % 2000) (1 + k2 % 3) w gx gy gz (by omega) (by omega) (by omega) (by omega) hu)
      (Lib.hid fun w => steps_up (hv (small3 x)).dbl (hv (small3 y)).dbl (hv (small3 z)).dbl (1 + k1 % 2000) (1 + k2 % 3) w dx dy dz (by omega) (by omega) (by omega) (by omega) hd)
      (Lib.hid fun w => steps_up (hv (small3 x)) (hv (small3 y)) (hv (small3 z)) (1 + k1 % 2000) (1 + k2 % 3 + 1) w gx gy gz (by omega) (by omega) (by omega) (by omega) hu) hx hy hz (by omega) (by omega) ?_ ?_
    · exact ceil_anti r0 hr (by omega)
    · exact Int.ediv_le_ediv (by omega) (by omega)
end Go.Proofs.Ytkkjifgcjfbcaaa
