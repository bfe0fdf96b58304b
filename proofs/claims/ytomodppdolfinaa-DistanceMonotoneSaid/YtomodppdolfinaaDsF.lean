
/- What the helpers of the laws of distance return. -/
import Derived.Test.YtomodppdolfinaaDsE
namespace Go.Sub
/-- A number whose coefficients are below 2^16. -/
def small3 (x : Cy) : Cy := ⟨x.a.tmod 65536, x.b.tmod 65536, x.c.tmod 65536, x.d.tmod 65536⟩
theorem small3_in (x : Cy) : (small3 x).In 65536 := by
  have h1 := tmod_in x.a (show (0 : Int) < 65536 by decide)
  have h2 := tmod_in x.b (show (0 : Int) < 65536 by decide)
  have h3 := tmod_in x.c (show (0 : Int) < 65536 by decide)
  have h4 := tmod_in x.d (show (0 : Int) < 65536 by decide)
  unfold Cy.In small3
  dsimp only
  omega
/-- The eighth part of a number. -/
def q8 (x : Cy) : Cy := ⟨x.a.tdiv 8, x.b.tdiv 8, x.c.tdiv 8, x.d.tdiv 8⟩
theorem tdiv8_bd {n : Int} (h1 : -65536 ≤ n) (h2 : n ≤ 65536) : -8192 ≤ n.tdiv 8 ∧ n.tdiv 8 ≤ 8192 := by
  rcases Int.le_total 0 n with h | h
  · rw [Int.tdiv_eq_ediv_of_nonneg h]; omega
  · have e := Int.neg_tdiv n 8
    rw [Int.tdiv_eq_ediv_of_nonneg (show 0 ≤ -n by omega)] at e
    omega
theorem q8_in {x : Cy} (h : x.In 65536) : (q8 x).In 8192 := by
  obtain ⟨x1, x2, x3, x4, x5, x6, x7, x8⟩ := h
  have a := tdiv8_bd x1 x2
  have b := tdiv8_bd x3 x4
  have c := tdiv8_bd x5 x6
  have d := tdiv8_bd x7 x8
  exact ⟨a.1, a.2, b.1, b.2, c.1, c.2, d.1, d.2⟩
/-- What the laws make of a phasor. -/
def sm22 (x : Cy) : Cy := q8 (small3 x)
theorem sm22_in (x : Cy) : (sm22 x).In 8192 := q8_in (small3_in x)
end Go.Sub
namespace Go.Proofs.Ytomodppdolfinaa
open Go.RowKit Go.Sub
set_option maxHeartbeats 4000000 in
theorem small3_c (x y z : Cy) (w : World) :
    Calls Try.prog 55 #[.agg #[.int .i64 x.a, .int .i64 x.b, .int .i64 x.c, .int .i64 x.d, .int .i64 y.a, .int .i64 y.b, .int .i64 y.c, .int .i64 y.d, .int .i64 z.a, .int .i64 z.b, .int .i64 z.c, .int .i64 z.d]] w fun e w' => e = .returned (.agg #[.int .i64 (small3 x).a, .int .i64 (small3 x).b, .int .i64 (small3 x).c, .int .i64 (small3 x).d, .int .i64 (small3 y).a, .int .i64 (small3 y).b, .int .i64 (small3 y).c, .int .i64 (small3 y).d, .int .i64 (small3 z).a, .int .i64 (small3 z).b, .int .i64 (small3 z).c, .int .i64 (small3 z).d]) ∧ Q w w' := by
  show Calls Try.prog 55 #[.agg #[.int .i64 x.a, .int .i64 x.b, .int .i64 x.c, .int .i64 x.d, .int .i64 y.a, .int .i64 y.b, .int .i64 y.c, .int .i64 y.d, .int .i64 z.a, .int .i64 z.b, .int .i64 z.c, .int .i64 z.d]] w fun e w' => e = .returned (.agg #[.int .i64 (x.a.tmod 65536), .int .i64 (x.b.tmod 65536), .int .i64 (x.c.tmod 65536), .int .i64 (x.d.tmod 65536), .int .i64 (y.a.tmod 65536), .int .i64 (y.b.tmod 65536), .int .i64 (y.c.tmod 65536), .int .i64 (y.d.tmod 65536), .int .i64 (z.a.tmod 65536), .int .i64 (z.b.tmod 65536), .int .i64 (z.c.tmod 65536), .int .i64 (z.d.tmod 65536)]) ∧ Q w w'
  go_enter Try.func55, Try.ntmps55
  go_wp2
  refine wp_loop_rounds 4 ?_
  rw [rounds_succ]; go_wp2
  refine wp_loop_rounds 5 ?_
  rw [rounds_succ]; go_wp2
  refine wp_region_tail 10 (by kernel_rfl) (by kernel_rfl) ?_
  simp only [List.take_succ_cons, List.take_zero, List.drop_succ_cons, List.drop_zero]
  repeat (go_big_quiet_step (fail))
  refine wpQuiet_nil ?_
  intro _ hw'
  obtain ⟨kq, rfl⟩ := hw'
  go_wp2
  rw [rounds_succ]; go_wp2
  refine wp_region_tail 10 (by kernel_rfl) (by kernel_rfl) ?_
  simp only [List.take_succ_cons, List.take_zero, List.drop_succ_cons, List.drop_zero]
  repeat (go_big_quiet_step (fail))
  refine wpQuiet_nil ?_
  intro _ hw'
  obtain ⟨kq, rfl⟩ := hw'
  go_wp2
  rw [rounds_succ]; go_wp2
  refine wp_region_tail 10 (by kernel_rfl) (by kernel_rfl) ?_
  simp only [List.take_succ_cons, List.take_zero, List.drop_succ_cons, List.drop_zero]
  repeat (go_big_quiet_step (fail))
  refine wpQuiet_nil ?_
  intro _ hw'
  obtain ⟨kq, rfl⟩ := hw'
  go_wp2
  rw [rounds_succ]; go_wp2
  refine wp_region_tail 10 (by kernel_rfl) (by kernel_rfl) ?_
  simp only [List.take_succ_cons, List.take_zero, List.drop_succ_cons, List.drop_zero]
  repeat (go_big_quiet_step (fail))
  refine wpQuiet_nil ?_
  intro _ hw'
  obtain ⟨kq, rfl⟩ := hw'
  go_wp2
  rw [rounds_succ]; go_wp2
  rw [rounds_succ]; go_wp2
  refine wp_loop_rounds 5 ?_
  rw [rounds_succ]; go_wp2
  refine wp_region_tail 10 (by kernel_rfl) (by kernel_rfl) ?_
  simp only [List.take_succ_cons, List.take_zero, List.drop_succ_cons, List.drop_zero]
  repeat (go_big_quiet_step (fail))
  refine wpQuiet_nil ?_
  intro _ hw'
  obtain ⟨kq, rfl⟩ := hw'
  go_wp2
  rw [rounds_succ]; go_wp2
  refine wp_region_tail 10 (by kernel_rfl) (by kernel_rfl) ?_
  simp only [List.take_succ_cons, List.take_zero, List.drop_succ_cons, List.drop_zero]
  repeat (go_big_quiet_step (fail))
  refine wpQuiet_nil ?_
  intro _ hw'
  obtain ⟨kq, rfl⟩ := hw'
  go_wp2
  rw [rounds_succ]; go_wp2
  refine wp_region_tail 10 (by kernel_rfl) (by kernel_rfl) ?_
  simp only [List.take_succ_cons, List.take_zero, List.drop_succ_cons, List.drop_zero]
  repeat (go_big_quiet_step (fail))
  refine wpQuiet_nil ?_
  intro _ hw'
  obtain ⟨kq, rfl⟩ := hw'
  go_wp2
  rw [rounds_succ]; go_wp2
  refine wp_region_tail 10 (by kernel_rfl) (by kernel_rfl) ?_
  simp only [List.take_succ_cons, List.take_zero, List.drop_succ_cons, List.drop_zero]
  repeat (go_big_quiet_step (fail))
  refine wpQuiet_nil ?_
  intro _ hw'
  obtain ⟨kq, rfl⟩ := hw'
  go_wp2
  rw [rounds_succ]; go_wp2
  rw [rounds_succ]; go_wp2
  refine wp_loop_rounds 5 ?_
  rw [rounds_succ]; go_wp2
  refine wp_region_tail 10 (by kernel_rfl) (by kernel_rfl) ?_
  simp only [List.take_succ_cons, List.take_zero, List.drop_succ_cons, List.drop_zero]
  repeat (go_big_quiet_step (fail))
  refine wpQuiet_nil ?_
  intro _ hw'
  obtain ⟨kq, rfl⟩ := hw'
  go_wp2
  rw [rounds_succ]; go_wp2
  refine wp_region_tail 10 (by kernel_rfl) (by kernel_rfl) ?_
  simp only [List.take_succ_cons, List.take_zero, List.drop_succ_cons, List.drop_zero]
  repeat (go_big_quiet_step (fail))
  refine wpQuiet_nil ?_
  intro _ hw'
  obtain ⟨kq, rfl⟩ := hw'
  go_wp2
  rw [rounds_succ]; go_wp2
  refine wp_region_tail 10 (by kernel_rfl) (by kernel_rfl) ?_
  simp only [List.take_succ_cons, List.take_zero, List.drop_succ_cons, List.drop_zero]
  repeat (go_big_quiet_step (fail))
  refine wpQuiet_nil ?_
  intro _ hw'
  obtain ⟨kq, rfl⟩ := hw'
  go_wp2
  rw [rounds_succ]; go_wp2
  refine wp_region_tail 10 (by kernel_rfl) (by kernel_rfl) ?_
  simp only [List.take_succ_cons, List.take_zero, List.drop_succ_cons, List.drop_zero]
  repeat (go_big_quiet_step (fail))
  refine wpQuiet_nil ?_
  intro _ hw'
  obtain ⟨kq, rfl⟩ := hw'
  go_wp2
  rw [rounds_succ]; go_wp2
  rw [rounds_succ]; go_wp2
  refine bodyPost_ret (v := .agg #[.int .i64 (x.a.tmod 65536), .int .i64 (x.b.tmod 65536), .int .i64 (x.c.tmod 65536), .int .i64 (x.d.tmod 65536), .int .i64 (y.a.tmod 65536), .int .i64 (y.b.tmod 65536), .int .i64 (y.c.tmod 65536), .int .i64 (y.d.tmod 65536), .int .i64 (z.a.tmod 65536), .int .i64 (z.b.tmod 65536), .int .i64 (z.c.tmod 65536), .int .i64 (z.d.tmod 65536)]) (by simp [results, Try.results55, go_sem]) rfl ⟨rfl, ?_⟩
  repeat' (first | exact Q.refl _ | refine Q.alloc ?_ _ | refine Q.jk ?_ _ | refine Q.drew ?_)
set_option maxHeartbeats 1000000 in
theorem within22_any (n m : Int) (w : World) (h0 : 0 < m) (h1 : m ≤ 1000000000000000000) :
    Calls Try.prog 16 #[.int .i64 n, .int .i64 m] w fun e w' => e = .returned (.int .i64 (n % m)) ∧ w = w' := by
  have hb := tmod_in n h0
  obtain ⟨hb1, hb2⟩ := hb
  obtain ⟨k1, k2⟩ := tmod_mod n m h0
  have K1 := Lib.hid k1
  have K2 := Lib.hid k2
  clear k1 k2
  by_cases hn : n.tmod m < 0
  · go_enter Try.func16, Try.ntmps16
    go_wp2
    go_ret
    exact ⟨by rw [← K1.out hn]; rfl, rfl⟩
  · go_enter Try.func16, Try.ntmps16
    go_wp2
    go_ret
    exact ⟨by rw [← K2.out (by omega)]; rfl, rfl⟩
set_option maxHeartbeats 4000000 in
theorem small22_core (x y z X Y Z : Cy) (w : World) (hX : X.In 65536) (hY : Y.In 65536) (hZ : Z.In 65536)
    (SM : Hid (∀ w, Calls Try.prog 55 #[.agg #[.int .i64 x.a, .int .i64 x.b, .int .i64 x.c, .int .i64 x.d, .int .i64 y.a, .int .i64 y.b, .int .i64 y.c, .int .i64 y.d, .int .i64 z.a, .int .i64 z.b, .int .i64 z.c, .int .i64 z.d]] w fun e w' => e = .returned (.agg #[.int .i64 X.a, .int .i64 X.b, .int .i64 X.c, .int .i64 X.d, .int .i64 Y.a, .int .i64 Y.b, .int .i64 Y.c, .int .i64 Y.d, .int .i64 Z.a, .int .i64 Z.b, .int .i64 Z.c, .int .i64 Z.d]) ∧ Q w w')) :
    Calls Try.prog 22 #[.agg #[.int .i64 x.a, .int .i64 x.b, .int .i64 x.c, .int .i64 x.d, .int .i64 y.a, .int .i64 y.b, .int .i64 y.c, .int .i64 y.d, .int .i64 z.a, .int .i64 z.b, .int .i64 z.c, .int .i64 z.d]] w fun e w' => e = .returned (.agg #[.int .i64 (X.a.tdiv 8), .int .i64 (X.b.tdiv 8), .int .i64 (X.c.tdiv 8), .int .i64 (X.d.tdiv 8), .int .i64 (Y.a.tdiv 8), .int .i64 (Y.b.tdiv 8), .int .i64 (Y.c.tdiv 8), .int .i64 (Y.d.tdiv 8), .int .i64 (Z.a.tdiv 8), .int .i64 (Z.b.tdiv 8), .int .i64 (Z.c.tdiv 8), .int .i64 (Z.d.tdiv 8)]) ∧ Q w w' := by
  obtain ⟨x1, x2, x3, x4, x5, x6, x7, x8⟩ := hX
  obtain ⟨y1, y2, y3, y4, y5, y6, y7, y8⟩ := hY
  obtain ⟨z1, z2, z3, z4, z5, z6, z7, z8⟩ := hZ
  go_enter Try.func22, Try.ntmps22
  go_wp2_with (go_at_call 55; (with_reducible refine (SM.out _).mono ?_); rintro e w' ⟨rfl, kj, rfl⟩)
  refine wp_loop_rounds 4 ?_
  rw [rounds_succ]; go_wp2
  refine wp_loop_rounds 5 ?_
  rw [rounds_succ]; go_wp2
  try simp only [List.append]
  refine wp_region_tail 10 (by kernel_rfl) (by kernel_rfl) ?_
  simp only [List.take_succ_cons, List.take_zero, List.drop_succ_cons, List.drop_zero]
  repeat (go_big_quiet_step (fail))
  refine wpQuiet_nil ?_
  intro _ hw'
  obtain ⟨kq, rfl⟩ := hw'
  go_wp2
  rw [rounds_succ]; go_wp2
  try simp only [List.append]
  refine wp_region_tail 10 (by kernel_rfl) (by kernel_rfl) ?_
  simp only [List.take_succ_cons, List.take_zero, List.drop_succ_cons, List.drop_zero]
  repeat (go_big_quiet_step (fail))
  refine wpQuiet_nil ?_
  intro _ hw'
  obtain ⟨kq, rfl⟩ := hw'
  go_wp2
  rw [rounds_succ]; go_wp2
  try simp only [List.append]
  refine wp_region_tail 10 (by kernel_rfl) (by kernel_rfl) ?_
  simp only [List.take_succ_cons, List.take_zero, List.drop_succ_cons, List.drop_zero]
  repeat (go_big_quiet_step (fail))
  refine wpQuiet_nil ?_
  intro _ hw'
  obtain ⟨kq, rfl⟩ := hw'
  go_wp2
  rw [rounds_succ]; go_wp2
  try simp only [List.append]
  refine wp_region_tail 10 (by kernel_rfl) (by kernel_rfl) ?_
  simp only [List.take_succ_cons, List.take_zero, List.drop_succ_cons, List.drop_zero]
  repeat (go_big_quiet_step (fail))
  refine wpQuiet_nil ?_
  intro _ hw'
  obtain ⟨kq, rfl⟩ := hw'
  go_wp2
  rw [rounds_succ]; go_wp2
  rw [rounds_succ]; go_wp2
  refine wp_loop_rounds 5 ?_
  rw [rounds_succ]; go_wp2
  try simp only [List.append]
  refine wp_region_tail 10 (by kernel_rfl) (by kernel_rfl) ?_
  simp only [List.take_succ_cons, List.take_zero, List.drop_succ_cons, List.drop_zero]
  repeat (go_big_quiet_step (fail))
  refine wpQuiet_nil ?_
  intro _ hw'
  obtain ⟨kq, rfl⟩ := hw'
  go_wp2
  rw [rounds_succ]; go_wp2
  try simp only [List.append]
  refine wp_region_tail 10 (by kernel_rfl) (by kernel_rfl) ?_
  simp only [List.take_succ_cons, List.take_zero, List.drop_succ_cons, List.drop_zero]
  repeat (go_big_quiet_step (fail))
  refine wpQuiet_nil ?_
  intro _ hw'
  obtain ⟨kq, rfl⟩ := hw'
  go_wp2
  rw [rounds_succ]; go_wp2
  try simp only [List.append]
  refine wp_region_tail 10 (by kernel_rfl) (by kernel_rfl) ?_
  simp only [List.take_succ_cons, List.take_zero, List.drop_succ_cons, List.drop_zero]
  repeat (go_big_quiet_step (fail))
  refine wpQuiet_nil ?_
  intro _ hw'
  obtain ⟨kq, rfl⟩ := hw'
  go_wp2
  rw [rounds_succ]; go_wp2
  try simp only [List.append]
  refine wp_region_tail 10 (by kernel_rfl) (by kernel_rfl) ?_
  simp only [List.take_succ_cons, List.take_zero, List.drop_succ_cons, List.drop_zero]
  repeat (go_big_quiet_step (fail))
  refine wpQuiet_nil ?_
  intro _ hw'
  obtain ⟨kq, rfl⟩ := hw'
  go_wp2
  rw [rounds_succ]; go_wp2
  rw [rounds_succ]; go_wp2
  refine wp_loop_rounds 5 ?_
  rw [rounds_succ]; go_wp2
  try simp only [List.append]
  refine wp_region_tail 10 (by kernel_rfl) (by kernel_rfl) ?_
  simp only [List.take_succ_cons, List.take_zero, List.drop_succ_cons, List.drop_zero]
  repeat (go_big_quiet_step (fail))
  refine wpQuiet_nil ?_
  intro _ hw'
  obtain ⟨kq, rfl⟩ := hw'
  go_wp2
  rw [rounds_succ]; go_wp2
  try simp only [List.append]
  refine wp_region_tail 10 (by kernel_rfl) (by kernel_rfl) ?_
  simp only [List.take_succ_cons, List.take_zero, List.drop_succ_cons, List.drop_zero]
  repeat (go_big_quiet_step (fail))
  refine wpQuiet_nil ?_
  intro _ hw'
  obtain ⟨kq, rfl⟩ := hw'
  go_wp2
  rw [rounds_succ]; go_wp2
  try simp only [List.append]
  refine wp_region_tail 10 (by kernel_rfl) (by kernel_rfl) ?_
  simp only [List.take_succ_cons, List.take_zero, List.drop_succ_cons, List.drop_zero]
  repeat (go_big_quiet_step (fail))
  refine wpQuiet_nil ?_
  intro _ hw'
  obtain ⟨kq, rfl⟩ := hw'
  go_wp2
  rw [rounds_succ]; go_wp2
  try simp only [List.append]
  refine wp_region_tail 10 (by kernel_rfl) (by kernel_rfl) ?_
  simp only [List.take_succ_cons, List.take_zero, List.drop_succ_cons, List.drop_zero]
  repeat (go_big_quiet_step (fail))
  refine wpQuiet_nil ?_
  intro _ hw'
  obtain ⟨kq, rfl⟩ := hw'
  go_wp2
  rw [rounds_succ]; go_wp2
  rw [rounds_succ]; go_wp2
  refine bodyPost_ret (v := .agg #[.int .i64 (X.a.tdiv 8), .int .i64 (X.b.tdiv 8), .int .i64 (X.c.tdiv 8), .int .i64 (X.d.tdiv 8), .int .i64 (Y.a.tdiv 8), .int .i64 (Y.b.tdiv 8), .int .i64 (Y.c.tdiv 8), .int .i64 (Y.d.tdiv 8), .int .i64 (Z.a.tdiv 8), .int .i64 (Z.b.tdiv 8), .int .i64 (Z.c.tdiv 8), .int .i64 (Z.d.tdiv 8)]) (by simp [results, Try.results22, go_sem]) rfl ⟨rfl, ?_⟩
  repeat' (first | exact Q.refl _ | refine Q.alloc ?_ _ | refine Q.jk ?_ _ | refine Q.drew ?_)
theorem small22_c (x y z : Cy) (w : World) :
    Calls Try.prog 22 #[.agg #[.int .i64 x.a, .int .i64 x.b, .int .i64 x.c, .int .i64 x.d, .int .i64 y.a, .int .i64 y.b, .int .i64 y.c, .int .i64 y.d, .int .i64 z.a, .int .i64 z.b, .int .i64 z.c, .int .i64 z.d]] w fun e w' => e = .returned (.agg #[.int .i64 (sm22 x).a, .int .i64 (sm22 x).b, .int .i64 (sm22 x).c, .int .i64 (sm22 x).d, .int .i64 (sm22 y).a, .int .i64 (sm22 y).b, .int .i64 (sm22 y).c, .int .i64 (sm22 y).d, .int .i64 (sm22 z).a, .int .i64 (sm22 z).b, .int .i64 (sm22 z).c, .int .i64 (sm22 z).d]) ∧ Q w w' :=
  small22_core x y z (small3 x) (small3 y) (small3 z) w (small3_in x) (small3_in y) (small3_in z) (Lib.hid fun w => small3_c x y z w)
set_option maxHeartbeats 2000000 in
theorem known22 (w : World) :
    Calls Try.prog 15 #[] w fun e w' => e = .returned (.bool true) ∧ Q w w' := by
  have H1 : Hid (∀ w, Calls Try.prog 23 #[.agg #[.int .i64 100, .int .i64 0, .int .i64 0, .int .i64 0, .int .i64 0, .int .i64 0, .int .i64 0, .int .i64 0, .int .i64 0, .int .i64 0, .int .i64 0, .int .i64 0], .agg #[.int .i64 0, .int .i64 0, .int .i64 0, .int .i64 (-10), .int .i64 0, .int .i64 0, .int .i64 0, .int .i64 0, .int .i64 0, .int .i64 0, .int .i64 0, .int .i64 0], .int .i64 0, .int .i64 0] w fun e w' => e = .returned (.tuple #[.agg (c48L (loopV ⟨100, 0, 0, 0⟩ ⟨0, 0, 0, 0⟩ ⟨0, 0, 0, 0⟩) (loopI ⟨0, 0, 0, -10⟩ ⟨0, 0, 0, 0⟩ ⟨0, 0, 0, 0⟩ 0 0) 6), .int .i64 0]) ∧ Q w w') :=
    Lib.hid fun w => loops_c ⟨100, 0, 0, 0⟩ ⟨0, 0, 0, 0⟩ ⟨0, 0, 0, 0⟩ ⟨0, 0, 0, -10⟩ ⟨0, 0, 0, 0⟩ ⟨0, 0, 0, 0⟩ 0 0 w (by unfold Cy.In; decide) (by unfold Cy.In; decide) (by unfold Cy.In; decide) (by unfold Cy.In; decide) (by unfold Cy.In; decide) (by unfold Cy.In; decide) (by decide) (by decide) (by decide) (by decide)
  have H2 : Hid (∀ w, Calls Try.prog 18 #[.agg #[.int .i64 10000, .int .i64 0, .int .i64 0, .int .i64 0, .int .i64 0, .int .i64 0, .int .i64 0, .int .i64 (-1000)], .agg #[.bool false, .bool true, .int .i64 10, .int .i64 0, .int .i64 0, .int .i64 0]] w fun e w' => e = .returned (.tuple #[.bool true, .int .i64 0]) ∧ Q w w') :=
    Lib.hid fun w => inside_c ⟨10000, 0, 0, 0⟩ ⟨0, 0, 0, -1000⟩ ⟨false, true, 10, 0, 0, 0⟩ w (by unfold Cy.In; decide) (by unfold Cy.In; decide) ⟨by decide, by decide, by decide, by decide, by decide, by decide⟩
  have H3 : Hid (∀ w, Calls Try.prog 18 #[.agg #[.int .i64 10000, .int .i64 0, .int .i64 0, .int .i64 0, .int .i64 0, .int .i64 0, .int .i64 0, .int .i64 (-1000)], .agg #[.bool false, .bool true, .int .i64 9, .int .i64 0, .int .i64 0, .int .i64 0]] w fun e w' => e = .returned (.tuple #[.bool false, .int .i64 0]) ∧ Q w w') :=
    Lib.hid fun w => inside_c ⟨10000, 0, 0, 0⟩ ⟨0, 0, 0, -1000⟩ ⟨false, true, 9, 0, 0, 0⟩ w (by unfold Cy.In; decide) (by unfold Cy.In; decide) ⟨by decide, by decide, by decide, by decide, by decide, by decide⟩
  have H4 : Hid (∀ w, Calls Try.prog 21 #[.agg #[.int .i64 100, .int .i64 0, .int .i64 0, .int .i64 0], .agg #[.int .i64 0, .int .i64 0, .int .i64 0, .int .i64 (-10)]] w fun e w' => e = .returned (.tuple #[.int .i64 1, .int .i64 0]) ∧ Q w w') :=
    Lib.hid fun w => direction_c ⟨100, 0, 0, 0⟩ ⟨0, 0, 0, -10⟩ w (by unfold Cy.In; decide) (by unfold Cy.In; decide)
  have E1 : Hid (loopV ⟨100, 0, 0, 0⟩ ⟨0, 0, 0, 0⟩ ⟨0, 0, 0, 0⟩ 0 = ⟨10000, 0, 0, 0⟩) := Lib.hid rfl
  have E2 : Hid (loopI ⟨0, 0, 0, -10⟩ ⟨0, 0, 0, 0⟩ ⟨0, 0, 0, 0⟩ 0 0 0 = ⟨0, 0, 0, -1000⟩) := Lib.hid rfl
  go_enter Try.func15, Try.ntmps15
  go_wp2_with (first | (go_at_call 23; (with_reducible refine (H1.out _).mono ?_); rintro e w' ⟨rfl, kj, rfl⟩) | (go_at_call 18; rw [E1.out, E2.out]; (with_reducible refine (H2.out _).mono ?_); rintro e w' ⟨rfl, kj, rfl⟩) | (go_at_call 18; rw [E1.out, E2.out]; (with_reducible refine (H3.out _).mono ?_); rintro e w' ⟨rfl, kj, rfl⟩) | (go_at_call 21; (with_reducible refine (H4.out _).mono ?_); rintro e w' ⟨rfl, kj, rfl⟩))
  go_ret
  refine ⟨rfl, ?_⟩
  repeat' (first | exact Q.refl _ | refine Q.alloc ?_ _ | refine Q.jk ?_ _ | refine Q.drew ?_)
end Go.Proofs.Ytomodppdolfinaa
