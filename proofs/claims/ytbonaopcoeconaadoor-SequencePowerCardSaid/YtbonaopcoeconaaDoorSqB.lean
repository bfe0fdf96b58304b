
/- What Split, Residual, Balanced and Join of package sequence, and the helpers of its laws, return for numbers that are not too great. -/
import Derived.Test.YtbonaopcoeconaaDoorSqA
import Derived.Test.YtbonaopcoeconaaDoorEq3
import Derived.Test.YtbonaopcoeconaaDoorCyRoots
import Derived.Test.YtbonaopcoeconaaDoorSuC
namespace Go.Sub
theorem comb_in {x y z : Cy} {l : Int} (t k : Int) (hx : x.In l) (hy : y.In l) (hz : z.In l) : (comb t k x y z).In (6 * l) :=
  (Cy.add_in (Cy.add_in (Go.Proofs.YtbonaopcoeconaaDoor.turn_in 0 hx) (Go.Proofs.YtbonaopcoeconaaDoor.turn_in _ hy)) (Go.Proofs.YtbonaopcoeconaaDoor.turn_in _ hz)).mono (by omega)
def smallS (x : Cy) : Cy := ⟨x.a.tmod 65536, x.b.tmod 65536, x.c.tmod 65536, x.d.tmod 65536⟩
theorem smallS_in (x : Cy) : (smallS x).In 65535 := by
  have h1 := tmod_bd x.a 65536 (by decide)
  have h2 := tmod_bd x.b 65536 (by decide)
  have h3 := tmod_bd x.c 65536 (by decide)
  have h4 := tmod_bd x.d 65536 (by decide)
  unfold Cy.In smallS
  dsimp only
  omega
end Go.Sub
namespace Go.Proofs.YtbonaopcoeconaaDoor
open Go.RowKit Go.Sub
@[go_sem high] theorem eqlCyc3 (w : World) (x0 x1 x2 x3 x4 x5 x6 x7 x8 x9 x10 x11 y0 y1 y2 y3 y4 y5 y6 y7 y8 y9 y10 y11 : Int) :
    (binOp .eql 24 (.agg #[.int .i64 x0, .int .i64 x1, .int .i64 x2, .int .i64 x3, .int .i64 x4, .int .i64 x5, .int .i64 x6, .int .i64 x7, .int .i64 x8, .int .i64 x9, .int .i64 x10, .int .i64 x11]) (.agg #[.int .i64 y0, .int .i64 y1, .int .i64 y2, .int .i64 y3, .int .i64 y4, .int .i64 y5, .int .i64 y6, .int .i64 y7, .int .i64 y8, .int .i64 y9, .int .i64 y10, .int .i64 y11])).run Tryd.prog w = .ok (.bool (eqAll [⟨x0, x1, x2, x3⟩, ⟨x4, x5, x6, x7⟩, ⟨x8, x9, x10, x11⟩] [⟨y0, y1, y2, y3⟩, ⟨y4, y5, y6, y7⟩, ⟨y8, y9, y10, y11⟩])) w :=
  run_eql_cycs (P := Tryd.prog) w 24 23 3 3 Tryd.underlying24 Tryd.underlying23 Tryd.underlying3 (fun _ => by kernel_rfl) (fun _ => by kernel_rfl) [⟨x0, x1, x2, x3⟩, ⟨x4, x5, x6, x7⟩, ⟨x8, x9, x10, x11⟩] [⟨y0, y1, y2, y3⟩, ⟨y4, y5, y6, y7⟩, ⟨y8, y9, y10, y11⟩] rfl rfl

set_option maxHeartbeats 1000000 in
theorem split_c (x y z : Cy) (w : World) (hx : x.In 1125899906842624) (hy : y.In 1125899906842624) (hz : z.In 1125899906842624) :
    Calls Tryd.prog 20 #[.agg #[.int .i64 x.a, .int .i64 x.b, .int .i64 x.c, .int .i64 x.d, .int .i64 y.a, .int .i64 y.b, .int .i64 y.c, .int .i64 y.d, .int .i64 z.a, .int .i64 z.b, .int .i64 z.c, .int .i64 z.d]] w fun e w' => e = .returned (.tuple #[.agg #[.int .i64 (comb 1 0 x y z).a, .int .i64 (comb 1 0 x y z).b, .int .i64 (comb 1 0 x y z).c, .int .i64 (comb 1 0 x y z).d, .int .i64 (comb 1 1 x y z).a, .int .i64 (comb 1 1 x y z).b, .int .i64 (comb 1 1 x y z).c, .int .i64 (comb 1 1 x y z).d, .int .i64 (comb 1 2 x y z).a, .int .i64 (comb 1 2 x y z).b, .int .i64 (comb 1 2 x y z).c, .int .i64 (comb 1 2 x y z).d], .int .i64 0]) ∧ Q w w' := by
  go_enter Tryd.func20, Tryd.ntmps20
  go_wp2_with (go_at_call 47; refine (combine_1 _ _ _ _ hx hy hz).mono ?_; rintro e w' ⟨rfl, kj, rfl⟩)
  refine bodyPost_ret (v := .tuple #[.agg #[.int .i64 (comb 1 0 x y z).a, .int .i64 (comb 1 0 x y z).b, .int .i64 (comb 1 0 x y z).c, .int .i64 (comb 1 0 x y z).d, .int .i64 (comb 1 1 x y z).a, .int .i64 (comb 1 1 x y z).b, .int .i64 (comb 1 1 x y z).c, .int .i64 (comb 1 1 x y z).d, .int .i64 (comb 1 2 x y z).a, .int .i64 (comb 1 2 x y z).b, .int .i64 (comb 1 2 x y z).c, .int .i64 (comb 1 2 x y z).d], .int .i64 0]) (by simp [results, Tryd.results20, go_sem]) rfl ⟨rfl, ?_⟩
  repeat' (first | exact Q.refl _ | refine Q.alloc ?_ _ | refine Q.jk ?_ _ | refine Q.drew ?_)

set_option maxHeartbeats 1000000 in
theorem residual_c (x y z : Cy) (w : World) (hx : x.In 1125899906842624) (hy : y.In 1125899906842624) (hz : z.In 1125899906842624) :
    Calls Tryd.prog 21 #[.agg #[.int .i64 x.a, .int .i64 x.b, .int .i64 x.c, .int .i64 x.d, .int .i64 y.a, .int .i64 y.b, .int .i64 y.c, .int .i64 y.d, .int .i64 z.a, .int .i64 z.b, .int .i64 z.c, .int .i64 z.d]] w fun e w' => e = .returned (.tuple #[.agg #[.int .i64 ((x.add y).add z).a, .int .i64 ((x.add y).add z).b, .int .i64 ((x.add y).add z).c, .int .i64 ((x.add y).add z).d], .int .i64 0]) ∧ Q w w' := by
  have kx := hx.mono (show (1125899906842624 : Int) ≤ 10000000000000000 by decide)
  have ky := hy.mono (show (1125899906842624 : Int) ≤ 10000000000000000 by decide)
  have kz := hz.mono (show (1125899906842624 : Int) ≤ 10000000000000000 by decide)
  go_enter Tryd.func21, Tryd.ntmps21
  go_wp2_with (first | (go_at_call 48; refine (sqwithin_c _ x y z _ (by simp [go_sem]) (by simp [go_sem]) (by simp [go_sem]) (by simp [go_sem]) (by simp [go_sem]) (by simp [go_sem]) (by simp [go_sem]) (by simp [go_sem]) (by simp [go_sem]) (by simp [go_sem]) (by simp [go_sem]) (by simp [go_sem]) hx hy hz).mono ?_; rintro e w' ⟨rfl, kj, rfl⟩) | (go_at_call 49; refine (sqtotal_c _ x y z _ (by simp [go_sem]) (by simp [go_sem]) (by simp [go_sem]) (by simp [go_sem]) (by simp [go_sem]) (by simp [go_sem]) (by simp [go_sem]) (by simp [go_sem]) (by simp [go_sem]) (by simp [go_sem]) (by simp [go_sem]) (by simp [go_sem]) kx ky kz).mono ?_; rintro e w' ⟨rfl, kj, rfl⟩))
  refine bodyPost_ret (v := .tuple #[.agg #[.int .i64 ((x.add y).add z).a, .int .i64 ((x.add y).add z).b, .int .i64 ((x.add y).add z).c, .int .i64 ((x.add y).add z).d], .int .i64 0]) (by simp [results, Tryd.results21, go_sem]) rfl ⟨rfl, ?_⟩
  repeat' (first | exact Q.refl _ | refine Q.alloc ?_ _ | refine Q.jk ?_ _ | refine Q.drew ?_)

set_option maxHeartbeats 1000000 in
theorem balanced_tt (x y z : Cy) (w : World) (hx : x.In 1125899906842624) (hy : y.In 1125899906842624) (hz : z.In 1125899906842624) (h0 : Cy.eqB ⟨(comb 1 0 x y z).a, (comb 1 0 x y z).b, (comb 1 0 x y z).c, (comb 1 0 x y z).d⟩ ⟨0, 0, 0, 0⟩ = true) (h2 : Cy.eqB ⟨(comb 1 2 x y z).a, (comb 1 2 x y z).b, (comb 1 2 x y z).c, (comb 1 2 x y z).d⟩ ⟨0, 0, 0, 0⟩ = true) :
    Calls Tryd.prog 17 #[.agg #[.int .i64 x.a, .int .i64 x.b, .int .i64 x.c, .int .i64 x.d, .int .i64 y.a, .int .i64 y.b, .int .i64 y.c, .int .i64 y.d, .int .i64 z.a, .int .i64 z.b, .int .i64 z.c, .int .i64 z.d]] w fun e w' => e = .returned (.tuple #[.bool true, .int .i64 0]) ∧ Q w w' := by
  go_enter Tryd.func17, Tryd.ntmps17
  go_wp2_with (go_at_call 20; refine (split_c _ _ _ _ hx hy hz).mono ?_; rintro e w' ⟨rfl, kj, rfl⟩)
  go_ret2
  refine ⟨rfl, ?_⟩
  repeat' (first | exact Q.refl _ | refine Q.alloc ?_ _ | refine Q.jk ?_ _ | refine Q.drew ?_)

set_option maxHeartbeats 1000000 in
theorem balanced_tf (x y z : Cy) (w : World) (hx : x.In 1125899906842624) (hy : y.In 1125899906842624) (hz : z.In 1125899906842624) (h0 : Cy.eqB ⟨(comb 1 0 x y z).a, (comb 1 0 x y z).b, (comb 1 0 x y z).c, (comb 1 0 x y z).d⟩ ⟨0, 0, 0, 0⟩ = true) (h2 : Cy.eqB ⟨(comb 1 2 x y z).a, (comb 1 2 x y z).b, (comb 1 2 x y z).c, (comb 1 2 x y z).d⟩ ⟨0, 0, 0, 0⟩ = false) :
    Calls Tryd.prog 17 #[.agg #[.int .i64 x.a, .int .i64 x.b, .int .i64 x.c, .int .i64 x.d, .int .i64 y.a, .int .i64 y.b, .int .i64 y.c, .int .i64 y.d, .int .i64 z.a, .int .i64 z.b, .int .i64 z.c, .int .i64 z.d]] w fun e w' => e = .returned (.tuple #[.bool false, .int .i64 0]) ∧ Q w w' := by
  go_enter Tryd.func17, Tryd.ntmps17
  go_wp2_with (go_at_call 20; refine (split_c _ _ _ _ hx hy hz).mono ?_; rintro e w' ⟨rfl, kj, rfl⟩)
  go_ret2
  refine ⟨rfl, ?_⟩
  repeat' (first | exact Q.refl _ | refine Q.alloc ?_ _ | refine Q.jk ?_ _ | refine Q.drew ?_)

set_option maxHeartbeats 1000000 in
theorem balanced_f (x y z : Cy) (w : World) (hx : x.In 1125899906842624) (hy : y.In 1125899906842624) (hz : z.In 1125899906842624) (h0 : Cy.eqB ⟨(comb 1 0 x y z).a, (comb 1 0 x y z).b, (comb 1 0 x y z).c, (comb 1 0 x y z).d⟩ ⟨0, 0, 0, 0⟩ = false)  :
    Calls Tryd.prog 17 #[.agg #[.int .i64 x.a, .int .i64 x.b, .int .i64 x.c, .int .i64 x.d, .int .i64 y.a, .int .i64 y.b, .int .i64 y.c, .int .i64 y.d, .int .i64 z.a, .int .i64 z.b, .int .i64 z.c, .int .i64 z.d]] w fun e w' => e = .returned (.tuple #[.bool false, .int .i64 0]) ∧ Q w w' := by
  go_enter Tryd.func17, Tryd.ntmps17
  go_wp2_with (go_at_call 20; refine (split_c _ _ _ _ hx hy hz).mono ?_; rintro e w' ⟨rfl, kj, rfl⟩)
  go_ret2
  refine ⟨rfl, ?_⟩
  repeat' (first | exact Q.refl _ | refine Q.alloc ?_ _ | refine Q.jk ?_ _ | refine Q.drew ?_)

theorem balanced_c (x y z : Cy) (w : World) (hx : x.In 1125899906842624) (hy : y.In 1125899906842624) (hz : z.In 1125899906842624) :
    Calls Tryd.prog 17 #[.agg #[.int .i64 x.a, .int .i64 x.b, .int .i64 x.c, .int .i64 x.d, .int .i64 y.a, .int .i64 y.b, .int .i64 y.c, .int .i64 y.d, .int .i64 z.a, .int .i64 z.b, .int .i64 z.c, .int .i64 z.d]] w fun e w' => e = .returned (.tuple #[.bool (Cy.eqB (comb 1 0 x y z) ⟨0, 0, 0, 0⟩ && Cy.eqB (comb 1 2 x y z) ⟨0, 0, 0, 0⟩), .int .i64 0]) ∧ Q w w' := by
  cases h0 : Cy.eqB (comb 1 0 x y z) ⟨0, 0, 0, 0⟩
  · exact balanced_f x y z w hx hy hz h0
  · cases h2 : Cy.eqB (comb 1 2 x y z) ⟨0, 0, 0, 0⟩
    · exact balanced_tf x y z w hx hy hz h0 h2
    · exact balanced_tt x y z w hx hy hz h0 h2

set_option maxHeartbeats 4000000 in
theorem sqsmall_c (x y z : Cy) (w : World) :
    Calls Tryd.prog 16 #[.agg #[.int .i64 x.a, .int .i64 x.b, .int .i64 x.c, .int .i64 x.d, .int .i64 y.a, .int .i64 y.b, .int .i64 y.c, .int .i64 y.d, .int .i64 z.a, .int .i64 z.b, .int .i64 z.c, .int .i64 z.d]] w fun e w' => e = .returned (.agg #[.int .i64 (smallS x).a, .int .i64 (smallS x).b, .int .i64 (smallS x).c, .int .i64 (smallS x).d, .int .i64 (smallS y).a, .int .i64 (smallS y).b, .int .i64 (smallS y).c, .int .i64 (smallS y).d, .int .i64 (smallS z).a, .int .i64 (smallS z).b, .int .i64 (smallS z).c, .int .i64 (smallS z).d]) ∧ Q w w' := by
  show Calls Tryd.prog 16 #[.agg #[.int .i64 x.a, .int .i64 x.b, .int .i64 x.c, .int .i64 x.d, .int .i64 y.a, .int .i64 y.b, .int .i64 y.c, .int .i64 y.d, .int .i64 z.a, .int .i64 z.b, .int .i64 z.c, .int .i64 z.d]] w fun e w' => e = .returned (.agg #[.int .i64 (x.a.tmod 65536), .int .i64 (x.b.tmod 65536), .int .i64 (x.c.tmod 65536), .int .i64 (x.d.tmod 65536), .int .i64 (y.a.tmod 65536), .int .i64 (y.b.tmod 65536), .int .i64 (y.c.tmod 65536), .int .i64 (y.d.tmod 65536), .int .i64 (z.a.tmod 65536), .int .i64 (z.b.tmod 65536), .int .i64 (z.c.tmod 65536), .int .i64 (z.d.tmod 65536)]) ∧ Q w w'
  go_enter Tryd.func16, Tryd.ntmps16
  go_wp2
  refine wp_loop_rounds 4 ?_
  rw [rounds_succ]; go_wp2
  refine wp_loop_rounds 5 ?_
  rw [rounds_succ]; go_wp2
  refine wp_region_tail 10 (by kernel_rfl) (by kernel_rfl) ?_
  simp only [List.take_succ_cons, List.take_zero, List.drop_succ_cons, List.drop_zero]
  repeat (go_big_quiet_step (fail))
  refine wpQuiet_nil ?_
  intro _ hw'
  obtain ⟨kq, rfl⟩ := hw'
  go_wp2
  rw [rounds_succ]; go_wp2
  refine wp_region_tail 10 (by kernel_rfl) (by kernel_rfl) ?_
  simp only [List.take_succ_cons, List.take_zero, List.drop_succ_cons, List.drop_zero]
  repeat (go_big_quiet_step (fail))
  refine wpQuiet_nil ?_
  intro _ hw'
  obtain ⟨kq, rfl⟩ := hw'
  go_wp2
  rw [rounds_succ]; go_wp2
  refine wp_region_tail 10 (by kernel_rfl) (by kernel_rfl) ?_
  simp only [List.take_succ_cons, List.take_zero, List.drop_succ_cons, List.drop_zero]
  repeat (go_big_quiet_step (fail))
  refine wpQuiet_nil ?_
  intro _ hw'
  obtain ⟨kq, rfl⟩ := hw'
  go_wp2
  rw [rounds_succ]; go_wp2
  refine wp_region_tail 10 (by kernel_rfl) (by kernel_rfl) ?_
  simp only [List.take_succ_cons, List.take_zero, List.drop_succ_cons, List.drop_zero]
  repeat (go_big_quiet_step (fail))
  refine wpQuiet_nil ?_
  intro _ hw'
  obtain ⟨kq, rfl⟩ := hw'
  go_wp2
  rw [rounds_succ]; go_wp2
  rw [rounds_succ]; go_wp2
  refine wp_loop_rounds 5 ?_
  rw [rounds_succ]; go_wp2
  refine wp_region_tail 10 (by kernel_rfl) (by kernel_rfl) ?_
  simp only [List.take_succ_cons, List.take_zero, List.drop_succ_cons, List.drop_zero]
  repeat (go_big_quiet_step (fail))
  refine wpQuiet_nil ?_
  intro _ hw'
  obtain ⟨kq, rfl⟩ := hw'
  go_wp2
  rw [rounds_succ]; go_wp2
  refine wp_region_tail 10 (by kernel_rfl) (by kernel_rfl) ?_
  simp only [List.take_succ_cons, List.take_zero, List.drop_succ_cons, List.drop_zero]
  repeat (go_big_quiet_step (fail))
  refine wpQuiet_nil ?_
  intro _ hw'
  obtain ⟨kq, rfl⟩ := hw'
  go_wp2
  rw [rounds_succ]; go_wp2
  refine wp_region_tail 10 (by kernel_rfl) (by kernel_rfl) ?_
  simp only [List.take_succ_cons, List.take_zero, List.drop_succ_cons, List.drop_zero]
  repeat (go_big_quiet_step (fail))
  refine wpQuiet_nil ?_
  intro _ hw'
  obtain ⟨kq, rfl⟩ := hw'
  go_wp2
  rw [rounds_succ]; go_wp2
  refine wp_region_tail 10 (by kernel_rfl) (by kernel_rfl) ?_
  simp only [List.take_succ_cons, List.take_zero, List.drop_succ_cons, List.drop_zero]
  repeat (go_big_quiet_step (fail))
  refine wpQuiet_nil ?_
  intro _ hw'
  obtain ⟨kq, rfl⟩ := hw'
  go_wp2
  rw [rounds_succ]; go_wp2
  rw [rounds_succ]; go_wp2
  refine wp_loop_rounds 5 ?_
  rw [rounds_succ]; go_wp2
  refine wp_region_tail 10 (by kernel_rfl) (by kernel_rfl) ?_
  simp only [List.take_succ_cons, List.take_zero, List.drop_succ_cons, List.drop_zero]
  repeat (go_big_quiet_step (fail))
  refine wpQuiet_nil ?_
  intro _ hw'
  obtain ⟨kq, rfl⟩ := hw'
  go_wp2
  rw [rounds_succ]; go_wp2
  refine wp_region_tail 10 (by kernel_rfl) (by kernel_rfl) ?_
  simp only [List.take_succ_cons, List.take_zero, List.drop_succ_cons, List.drop_zero]
  repeat (go_big_quiet_step (fail))
  refine wpQuiet_nil ?_
  intro _ hw'
  obtain ⟨kq, rfl⟩ := hw'
  go_wp2
  rw [rounds_succ]; go_wp2
  refine wp_region_tail 10 (by kernel_rfl) (by kernel_rfl) ?_
  simp only [List.take_succ_cons, List.take_zero, List.drop_succ_cons, List.drop_zero]
  repeat (go_big_quiet_step (fail))
  refine wpQuiet_nil ?_
  intro _ hw'
  obtain ⟨kq, rfl⟩ := hw'
  go_wp2
  rw [rounds_succ]; go_wp2
  refine wp_region_tail 10 (by kernel_rfl) (by kernel_rfl) ?_
  simp only [List.take_succ_cons, List.take_zero, List.drop_succ_cons, List.drop_zero]
  repeat (go_big_quiet_step (fail))
  refine wpQuiet_nil ?_
  intro _ hw'
  obtain ⟨kq, rfl⟩ := hw'
  go_wp2
  rw [rounds_succ]; go_wp2
  rw [rounds_succ]; go_wp2
  refine bodyPost_ret (v := .agg #[.int .i64 (x.a.tmod 65536), .int .i64 (x.b.tmod 65536), .int .i64 (x.c.tmod 65536), .int .i64 (x.d.tmod 65536), .int .i64 (y.a.tmod 65536), .int .i64 (y.b.tmod 65536), .int .i64 (y.c.tmod 65536), .int .i64 (y.d.tmod 65536), .int .i64 (z.a.tmod 65536), .int .i64 (z.b.tmod 65536), .int .i64 (z.c.tmod 65536), .int .i64 (z.d.tmod 65536)]) (by simp [results, Tryd.results16, go_sem]) rfl ⟨rfl, ?_⟩
  repeat' (first | exact Q.refl _ | refine Q.alloc ?_ _ | refine Q.jk ?_ _ | refine Q.drew ?_)

set_option maxHeartbeats 1000000 in
theorem sqturn_c (x : Cy) (k : Int) (w : World) (hx : x.In 100000000000000000) :
    Calls Tryd.prog 18 #[.agg #[.int .i64 x.a, .int .i64 x.b, .int .i64 x.c, .int .i64 x.d], .int .i64 k] w fun e w' => e = .returned (.agg #[.int .i64 (x.turn k).a, .int .i64 (x.turn k).b, .int .i64 (x.turn k).c, .int .i64 (x.turn k).d]) ∧ Q w w' := by
  go_enter Tryd.func18, Tryd.ntmps18
  go_wp2_with (go_at_call 37; refine (turn_c _ _ _ hx).mono ?_; rintro e w' ⟨rfl, kj, rfl⟩)
  refine bodyPost_ret (v := .agg #[.int .i64 (x.turn k).a, .int .i64 (x.turn k).b, .int .i64 (x.turn k).c, .int .i64 (x.turn k).d]) (by simp [results, Tryd.results18, go_sem]) rfl ⟨rfl, ?_⟩
  repeat' (first | exact Q.refl _ | refine Q.alloc ?_ _ | refine Q.jk ?_ _ | refine Q.drew ?_)

set_option maxHeartbeats 1000000 in
theorem sqknown_any (w : World) (hr : RootsOK w) :
    Calls Tryd.prog 15 #[] w fun e w' => e = .returned (.bool true) ∧ Q w w' := by
  have h0 : comb 1 0 ⟨1, 0, 0, 0⟩ ⟨0, 0, -1, 0⟩ ⟨-1, 0, 1, 0⟩ = ⟨0, 0, 0, 0⟩ := by rfl
  have h1 : comb 1 1 ⟨1, 0, 0, 0⟩ ⟨0, 0, -1, 0⟩ ⟨-1, 0, 1, 0⟩ = ⟨3, 0, 0, 0⟩ := by rfl
  have h2 : comb 1 2 ⟨1, 0, 0, 0⟩ ⟨0, 0, -1, 0⟩ ⟨-1, 0, 1, 0⟩ = ⟨0, 0, 0, 0⟩ := by rfl
  go_enter Tryd.func15, Tryd.ntmps15
  go_wp2_with fail
  refine (root_0 0 _ (by repeat' (first | with_reducible exact hr | refine RootsOK.alloc ?_ _ | refine RootsOK.jk ?_ _ | refine RootsOK.drew ?_)) (by decide)).mono ?_; rintro e w' ⟨rfl, kj, rfl⟩
  go_wp2_with fail
  refine (root_8 8 _ (by repeat' (first | with_reducible exact hr | refine RootsOK.alloc ?_ _ | refine RootsOK.jk ?_ _ | refine RootsOK.drew ?_)) (by decide)).mono ?_; rintro e w' ⟨rfl, kj, rfl⟩
  go_wp2_with fail
  refine (root_4 4 _ (by repeat' (first | with_reducible exact hr | refine RootsOK.alloc ?_ _ | refine RootsOK.jk ?_ _ | refine RootsOK.drew ?_)) (by decide)).mono ?_; rintro e w' ⟨rfl, kj, rfl⟩
  go_wp2_with fail
  refine (split_c ⟨1, 0, 0, 0⟩ ⟨0, 0, -1, 0⟩ ⟨-1, 0, 1, 0⟩ _ (by unfold Cy.In; decide) (by unfold Cy.In; decide) (by unfold Cy.In; decide)).mono ?_; rintro e w' ⟨rfl, kj, rfl⟩
  go_wp2
  go_ret
  refine ⟨rfl, ?_⟩
  repeat' (first | exact Q.refl _ | refine Q.alloc ?_ _ | refine Q.jk ?_ _ | refine Q.drew ?_)

end Go.Proofs.YtbonaopcoeconaaDoor
