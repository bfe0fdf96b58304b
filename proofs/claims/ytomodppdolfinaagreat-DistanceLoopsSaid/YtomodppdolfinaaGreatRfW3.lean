
/- What reduced, product, Mul, Root and Turn of the reference return. -/
import Derived.Test.YtomodppdolfinaaGreatRfW1
import Derived.Test.YtomodppdolfinaaGreatCyL2
namespace Go.Sub
theorem Prods.mono {x y : Cy} {B B' : Int} (h : Prods x y B) (hb : B ≤ B') : Prods x y B' := by
  obtain ⟨h1, h2, h3, h4, h5, h6, h7, h8, h9, h10, h11, h12, h13, h14, h15, h16⟩ := h
  constructor <;> omega
end Go.Sub
namespace Go.Proofs.YtomodppdolfinaaGreat
open Go.RowKit Go.Sub

set_option maxHeartbeats 400000 in
theorem reduced_any (e0 e1 e2 e3 e4 e5 e6 : Int) (w : World)
    (h0 : -9223372036854775808 ≤ e0 - e4) (h0' : e0 - e4 ≤ 9223372036854775807) (h1 : -9223372036854775808 ≤ e0 - e4 - e6) (h1' : e0 - e4 - e6 ≤ 9223372036854775807) (h2 : -9223372036854775808 ≤ e2 + e4) (h2' : e2 + e4 ≤ 9223372036854775807) (h3 : -9223372036854775808 ≤ e3 + e5) (h3' : e3 + e5 ≤ 9223372036854775807) (h4 : -9223372036854775808 ≤ e1 - e5) (h4' : e1 - e5 ≤ 9223372036854775807) :
    Calls Tryz.prog 63 #[.agg #[.int .i64 e0, .int .i64 e1, .int .i64 e2, .int .i64 e3, .int .i64 e4, .int .i64 e5, .int .i64 e6]] w fun e w' => e = .returned (.agg #[.int .i64 (e0 - e4 - e6), .int .i64 (e1 - e5), .int .i64 (e2 + e4), .int .i64 (e3 + e5)]) ∧ Q w w' := by
  go_enter Tryz.func63, Tryz.ntmps63
  go_wp2
  refine bodyPost_ret (v := .agg #[.int .i64 (e0 - e4 - e6), .int .i64 (e1 - e5), .int .i64 (e2 + e4), .int .i64 (e3 + e5)]) (by simp [results, Tryz.results63, go_sem]) rfl ⟨rfl, ?_⟩
  repeat' (first | exact Q.refl _ | refine Q.alloc ?_ _ | refine Q.jk ?_ _ | refine Q.drew ?_)

set_option maxHeartbeats 8000000 in
theorem product_any (a b c d a' b' c' d' : Int) (w : World) (hp : Prods ⟨a, b, c, d⟩ ⟨a', b', c', d'⟩ 576460752303423488) :
    Calls Tryz.prog 43 #[.agg #[.int .i64 a, .int .i64 b, .int .i64 c, .int .i64 d], .agg #[.int .i64 a', .int .i64 b', .int .i64 c', .int .i64 d']] w fun e w' => e = .returned (.agg #[.int .i64 (a * a' - (b * d' + c * c' + d * b') - d * d'), .int .i64 (a * b' + b * a' - (c * d' + d * c')), .int .i64 (a * c' + b * b' + c * a' + (b * d' + c * c' + d * b')), .int .i64 (a * d' + b * c' + c * b' + d * a' + (c * d' + d * c'))]) ∧ Q w w' := by
  obtain ⟨⟨p0, p1⟩, ⟨p2, p3⟩, ⟨p4, p5⟩, ⟨p6, p7⟩, ⟨p8, p9⟩, ⟨p10, p11⟩, ⟨p12, p13⟩, ⟨p14, p15⟩, ⟨p16, p17⟩, ⟨p18, p19⟩, ⟨p20, p21⟩, ⟨p22, p23⟩, ⟨p24, p25⟩, ⟨p26, p27⟩, ⟨p28, p29⟩, ⟨p30, p31⟩⟩ := hp
  dsimp only at p0 p1 p2 p3 p4 p5 p6 p7 p8 p9 p10 p11 p12 p13 p14 p15 p16 p17 p18 p19 p20 p21 p22 p23 p24 p25 p26 p27 p28 p29 p30 p31
  go_enter Tryz.func43, Tryz.ntmps43
  go_wp2
  refine wp_loop_rounds 5 ?_
  rw [rounds_succ]; go_wp2
  refine wp_loop_rounds 5 ?_
  rw [rounds_succ]; go_wp2
  refine wp_region_tail 17 (by kernel_rfl) (by kernel_rfl) ?_
  simp only [List.take_succ_cons, List.take_zero, List.drop_succ_cons, List.drop_zero]
  repeat (go_big_quiet_step (fail))
  refine wpQuiet_nil ?_
  intro _ hw'
  obtain ⟨kq, rfl⟩ := hw'
  go_wp2
  rw [rounds_succ]; go_wp2
  refine wp_region_tail 17 (by kernel_rfl) (by kernel_rfl) ?_
  simp only [List.take_succ_cons, List.take_zero, List.drop_succ_cons, List.drop_zero]
  repeat (go_big_quiet_step (fail))
  refine wpQuiet_nil ?_
  intro _ hw'
  obtain ⟨kq, rfl⟩ := hw'
  go_wp2
  rw [rounds_succ]; go_wp2
  refine wp_region_tail 17 (by kernel_rfl) (by kernel_rfl) ?_
  simp only [List.take_succ_cons, List.take_zero, List.drop_succ_cons, List.drop_zero]
  repeat (go_big_quiet_step (fail))
  refine wpQuiet_nil ?_
  intro _ hw'
  obtain ⟨kq, rfl⟩ := hw'
  go_wp2
  rw [rounds_succ]; go_wp2
  refine wp_region_tail 17 (by kernel_rfl) (by kernel_rfl) ?_
  simp only [List.take_succ_cons, List.take_zero, List.drop_succ_cons, List.drop_zero]
  repeat (go_big_quiet_step (fail))
  refine wpQuiet_nil ?_
  intro _ hw'
  obtain ⟨kq, rfl⟩ := hw'
  go_wp2
  rw [rounds_succ]; go_wp2
  rw [rounds_succ]; go_wp2
  refine wp_loop_rounds 5 ?_
  rw [rounds_succ]; go_wp2
  refine wp_region_tail 17 (by kernel_rfl) (by kernel_rfl) ?_
  simp only [List.take_succ_cons, List.take_zero, List.drop_succ_cons, List.drop_zero]
  repeat (go_big_quiet_step (fail))
  refine wpQuiet_nil ?_
  intro _ hw'
  obtain ⟨kq, rfl⟩ := hw'
  go_wp2
  rw [rounds_succ]; go_wp2
  refine wp_region_tail 17 (by kernel_rfl) (by kernel_rfl) ?_
  simp only [List.take_succ_cons, List.take_zero, List.drop_succ_cons, List.drop_zero]
  repeat (go_big_quiet_step (fail))
  refine wpQuiet_nil ?_
  intro _ hw'
  obtain ⟨kq, rfl⟩ := hw'
  go_wp2
  rw [rounds_succ]; go_wp2
  refine wp_region_tail 17 (by kernel_rfl) (by kernel_rfl) ?_
  simp only [List.take_succ_cons, List.take_zero, List.drop_succ_cons, List.drop_zero]
  repeat (go_big_quiet_step (fail))
  refine wpQuiet_nil ?_
  intro _ hw'
  obtain ⟨kq, rfl⟩ := hw'
  go_wp2
  rw [rounds_succ]; go_wp2
  refine wp_region_tail 17 (by kernel_rfl) (by kernel_rfl) ?_
  simp only [List.take_succ_cons, List.take_zero, List.drop_succ_cons, List.drop_zero]
  repeat (go_big_quiet_step (fail))
  refine wpQuiet_nil ?_
  intro _ hw'
  obtain ⟨kq, rfl⟩ := hw'
  go_wp2
  rw [rounds_succ]; go_wp2
  rw [rounds_succ]; go_wp2
  refine wp_loop_rounds 5 ?_
  rw [rounds_succ]; go_wp2
  refine wp_region_tail 17 (by kernel_rfl) (by kernel_rfl) ?_
  simp only [List.take_succ_cons, List.take_zero, List.drop_succ_cons, List.drop_zero]
  repeat (go_big_quiet_step (fail))
  refine wpQuiet_nil ?_
  intro _ hw'
  obtain ⟨kq, rfl⟩ := hw'
  go_wp2
  rw [rounds_succ]; go_wp2
  refine wp_region_tail 17 (by kernel_rfl) (by kernel_rfl) ?_
  simp only [List.take_succ_cons, List.take_zero, List.drop_succ_cons, List.drop_zero]
  repeat (go_big_quiet_step (fail))
  refine wpQuiet_nil ?_
  intro _ hw'
  obtain ⟨kq, rfl⟩ := hw'
  go_wp2
  rw [rounds_succ]; go_wp2
  refine wp_region_tail 17 (by kernel_rfl) (by kernel_rfl) ?_
  simp only [List.take_succ_cons, List.take_zero, List.drop_succ_cons, List.drop_zero]
  repeat (go_big_quiet_step (fail))
  refine wpQuiet_nil ?_
  intro _ hw'
  obtain ⟨kq, rfl⟩ := hw'
  go_wp2
  rw [rounds_succ]; go_wp2
  refine wp_region_tail 17 (by kernel_rfl) (by kernel_rfl) ?_
  simp only [List.take_succ_cons, List.take_zero, List.drop_succ_cons, List.drop_zero]
  repeat (go_big_quiet_step (fail))
  refine wpQuiet_nil ?_
  intro _ hw'
  obtain ⟨kq, rfl⟩ := hw'
  go_wp2
  rw [rounds_succ]; go_wp2
  rw [rounds_succ]; go_wp2
  refine wp_loop_rounds 5 ?_
  rw [rounds_succ]; go_wp2
  refine wp_region_tail 17 (by kernel_rfl) (by kernel_rfl) ?_
  simp only [List.take_succ_cons, List.take_zero, List.drop_succ_cons, List.drop_zero]
  repeat (go_big_quiet_step (fail))
  refine wpQuiet_nil ?_
  intro _ hw'
  obtain ⟨kq, rfl⟩ := hw'
  go_wp2
  rw [rounds_succ]; go_wp2
  refine wp_region_tail 17 (by kernel_rfl) (by kernel_rfl) ?_
  simp only [List.take_succ_cons, List.take_zero, List.drop_succ_cons, List.drop_zero]
  repeat (go_big_quiet_step (fail))
  refine wpQuiet_nil ?_
  intro _ hw'
  obtain ⟨kq, rfl⟩ := hw'
  go_wp2
  rw [rounds_succ]; go_wp2
  refine wp_region_tail 17 (by kernel_rfl) (by kernel_rfl) ?_
  simp only [List.take_succ_cons, List.take_zero, List.drop_succ_cons, List.drop_zero]
  repeat (go_big_quiet_step (fail))
  refine wpQuiet_nil ?_
  intro _ hw'
  obtain ⟨kq, rfl⟩ := hw'
  go_wp2
  rw [rounds_succ]; go_wp2
  refine wp_region_tail 17 (by kernel_rfl) (by kernel_rfl) ?_
  simp only [List.take_succ_cons, List.take_zero, List.drop_succ_cons, List.drop_zero]
  repeat (go_big_quiet_step (fail))
  refine wpQuiet_nil ?_
  intro _ hw'
  obtain ⟨kq, rfl⟩ := hw'
  go_wp2
  rw [rounds_succ]; go_wp2
  rw [rounds_succ]; go_wp2_with (go_at_call 63; refine (reduced_any _ _ _ _ _ _ _ _ (by omega) (by omega) (by omega) (by omega) (by omega) (by omega) (by omega) (by omega) (by omega) (by omega)).mono ?_; rintro e w' ⟨rfl, kj, rfl⟩)
  refine bodyPost_ret (v := .agg #[.int .i64 (a * a' - (b * d' + c * c' + d * b') - d * d'), .int .i64 (a * b' + b * a' - (c * d' + d * c')), .int .i64 (a * c' + b * b' + c * a' + (b * d' + c * c' + d * b')), .int .i64 (a * d' + b * c' + c * b' + d * a' + (c * d' + d * c'))]) (by simp [results, Tryz.results43, go_sem]) rfl ⟨rfl, ?_⟩
  repeat' (first | exact Q.refl _ | refine Q.alloc ?_ _ | refine Q.jk ?_ _ | refine Q.drew ?_)

theorem rproduct_c (x y : Cy) (w : World) (hp : Prods x y 576460752303423488) :
    Calls Tryz.prog 43 #[.agg #[.int .i64 x.a, .int .i64 x.b, .int .i64 x.c, .int .i64 x.d], .agg #[.int .i64 y.a, .int .i64 y.b, .int .i64 y.c, .int .i64 y.d]] w fun e w' => e = .returned (.agg #[.int .i64 (x.mul y).a, .int .i64 (x.mul y).b, .int .i64 (x.mul y).c, .int .i64 (x.mul y).d]) ∧ Q w w' :=
  product_any x.a x.b x.c x.d y.a y.b y.c y.d w hp

set_option maxHeartbeats 400000 in
theorem rroot_0p (k : Int) (w : World) (ht : k.tmod 12 = 0) :
    Calls Tryz.prog 44 #[.int .i64 k] w fun e w' => e = .returned (.agg #[.int .i64 (1), .int .i64 (0), .int .i64 (0), .int .i64 (0)]) ∧ Q w w' := by
  go_enter Tryz.func44, Tryz.ntmps44
  go_wp2
  refine bodyPost_ret (v := .agg #[.int .i64 (1), .int .i64 (0), .int .i64 (0), .int .i64 (0)]) (by simp [results, Tryz.results44, go_sem]) rfl ⟨rfl, ?_⟩
  repeat' (first | exact Q.refl _ | refine Q.alloc ?_ _ | refine Q.jk ?_ _ | refine Q.drew ?_)
set_option maxHeartbeats 400000 in
theorem rroot_1p (k : Int) (w : World) (ht : k.tmod 12 = 1) :
    Calls Tryz.prog 44 #[.int .i64 k] w fun e w' => e = .returned (.agg #[.int .i64 (0), .int .i64 (1), .int .i64 (0), .int .i64 (0)]) ∧ Q w w' := by
  go_enter Tryz.func44, Tryz.ntmps44
  go_wp2
  refine bodyPost_ret (v := .agg #[.int .i64 (0), .int .i64 (1), .int .i64 (0), .int .i64 (0)]) (by simp [results, Tryz.results44, go_sem]) rfl ⟨rfl, ?_⟩
  repeat' (first | exact Q.refl _ | refine Q.alloc ?_ _ | refine Q.jk ?_ _ | refine Q.drew ?_)
set_option maxHeartbeats 400000 in
theorem rroot_1n (k : Int) (w : World) (ht : k.tmod 12 = -11) :
    Calls Tryz.prog 44 #[.int .i64 k] w fun e w' => e = .returned (.agg #[.int .i64 (0), .int .i64 (1), .int .i64 (0), .int .i64 (0)]) ∧ Q w w' := by
  go_enter Tryz.func44, Tryz.ntmps44
  go_wp2
  refine bodyPost_ret (v := .agg #[.int .i64 (0), .int .i64 (1), .int .i64 (0), .int .i64 (0)]) (by simp [results, Tryz.results44, go_sem]) rfl ⟨rfl, ?_⟩
  repeat' (first | exact Q.refl _ | refine Q.alloc ?_ _ | refine Q.jk ?_ _ | refine Q.drew ?_)
set_option maxHeartbeats 400000 in
theorem rroot_2p (k : Int) (w : World) (ht : k.tmod 12 = 2) :
    Calls Tryz.prog 44 #[.int .i64 k] w fun e w' => e = .returned (.agg #[.int .i64 (0), .int .i64 (0), .int .i64 (1), .int .i64 (0)]) ∧ Q w w' := by
  go_enter Tryz.func44, Tryz.ntmps44
  go_wp2
  refine bodyPost_ret (v := .agg #[.int .i64 (0), .int .i64 (0), .int .i64 (1), .int .i64 (0)]) (by simp [results, Tryz.results44, go_sem]) rfl ⟨rfl, ?_⟩
  repeat' (first | exact Q.refl _ | refine Q.alloc ?_ _ | refine Q.jk ?_ _ | refine Q.drew ?_)
set_option maxHeartbeats 400000 in
theorem rroot_2n (k : Int) (w : World) (ht : k.tmod 12 = -10) :
    Calls Tryz.prog 44 #[.int .i64 k] w fun e w' => e = .returned (.agg #[.int .i64 (0), .int .i64 (0), .int .i64 (1), .int .i64 (0)]) ∧ Q w w' := by
  go_enter Tryz.func44, Tryz.ntmps44
  go_wp2
  refine bodyPost_ret (v := .agg #[.int .i64 (0), .int .i64 (0), .int .i64 (1), .int .i64 (0)]) (by simp [results, Tryz.results44, go_sem]) rfl ⟨rfl, ?_⟩
  repeat' (first | exact Q.refl _ | refine Q.alloc ?_ _ | refine Q.jk ?_ _ | refine Q.drew ?_)
set_option maxHeartbeats 400000 in
theorem rroot_3p (k : Int) (w : World) (ht : k.tmod 12 = 3) :
    Calls Tryz.prog 44 #[.int .i64 k] w fun e w' => e = .returned (.agg #[.int .i64 (0), .int .i64 (0), .int .i64 (0), .int .i64 (1)]) ∧ Q w w' := by
  go_enter Tryz.func44, Tryz.ntmps44
  go_wp2
  refine bodyPost_ret (v := .agg #[.int .i64 (0), .int .i64 (0), .int .i64 (0), .int .i64 (1)]) (by simp [results, Tryz.results44, go_sem]) rfl ⟨rfl, ?_⟩
  repeat' (first | exact Q.refl _ | refine Q.alloc ?_ _ | refine Q.jk ?_ _ | refine Q.drew ?_)
set_option maxHeartbeats 400000 in
theorem rroot_3n (k : Int) (w : World) (ht : k.tmod 12 = -9) :
    Calls Tryz.prog 44 #[.int .i64 k] w fun e w' => e = .returned (.agg #[.int .i64 (0), .int .i64 (0), .int .i64 (0), .int .i64 (1)]) ∧ Q w w' := by
  go_enter Tryz.func44, Tryz.ntmps44
  go_wp2
  refine bodyPost_ret (v := .agg #[.int .i64 (0), .int .i64 (0), .int .i64 (0), .int .i64 (1)]) (by simp [results, Tryz.results44, go_sem]) rfl ⟨rfl, ?_⟩
  repeat' (first | exact Q.refl _ | refine Q.alloc ?_ _ | refine Q.jk ?_ _ | refine Q.drew ?_)
set_option maxHeartbeats 400000 in
theorem rroot_4p (k : Int) (w : World) (ht : k.tmod 12 = 4) :
    Calls Tryz.prog 44 #[.int .i64 k] w fun e w' => e = .returned (.agg #[.int .i64 (-1), .int .i64 (0), .int .i64 (1), .int .i64 (0)]) ∧ Q w w' := by
  go_enter Tryz.func44, Tryz.ntmps44
  go_wp2
  refine bodyPost_ret (v := .agg #[.int .i64 (-1), .int .i64 (0), .int .i64 (1), .int .i64 (0)]) (by simp [results, Tryz.results44, go_sem]) rfl ⟨rfl, ?_⟩
  repeat' (first | exact Q.refl _ | refine Q.alloc ?_ _ | refine Q.jk ?_ _ | refine Q.drew ?_)
set_option maxHeartbeats 400000 in
theorem rroot_4n (k : Int) (w : World) (ht : k.tmod 12 = -8) :
    Calls Tryz.prog 44 #[.int .i64 k] w fun e w' => e = .returned (.agg #[.int .i64 (-1), .int .i64 (0), .int .i64 (1), .int .i64 (0)]) ∧ Q w w' := by
  go_enter Tryz.func44, Tryz.ntmps44
  go_wp2
  refine bodyPost_ret (v := .agg #[.int .i64 (-1), .int .i64 (0), .int .i64 (1), .int .i64 (0)]) (by simp [results, Tryz.results44, go_sem]) rfl ⟨rfl, ?_⟩
  repeat' (first | exact Q.refl _ | refine Q.alloc ?_ _ | refine Q.jk ?_ _ | refine Q.drew ?_)
set_option maxHeartbeats 400000 in
theorem rroot_5p (k : Int) (w : World) (ht : k.tmod 12 = 5) :
    Calls Tryz.prog 44 #[.int .i64 k] w fun e w' => e = .returned (.agg #[.int .i64 (0), .int .i64 (-1), .int .i64 (0), .int .i64 (1)]) ∧ Q w w' := by
  go_enter Tryz.func44, Tryz.ntmps44
  go_wp2
  refine bodyPost_ret (v := .agg #[.int .i64 (0), .int .i64 (-1), .int .i64 (0), .int .i64 (1)]) (by simp [results, Tryz.results44, go_sem]) rfl ⟨rfl, ?_⟩
  repeat' (first | exact Q.refl _ | refine Q.alloc ?_ _ | refine Q.jk ?_ _ | refine Q.drew ?_)
set_option maxHeartbeats 400000 in
theorem rroot_5n (k : Int) (w : World) (ht : k.tmod 12 = -7) :
    Calls Tryz.prog 44 #[.int .i64 k] w fun e w' => e = .returned (.agg #[.int .i64 (0), .int .i64 (-1), .int .i64 (0), .int .i64 (1)]) ∧ Q w w' := by
  go_enter Tryz.func44, Tryz.ntmps44
  go_wp2
  refine bodyPost_ret (v := .agg #[.int .i64 (0), .int .i64 (-1), .int .i64 (0), .int .i64 (1)]) (by simp [results, Tryz.results44, go_sem]) rfl ⟨rfl, ?_⟩
  repeat' (first | exact Q.refl _ | refine Q.alloc ?_ _ | refine Q.jk ?_ _ | refine Q.drew ?_)
set_option maxHeartbeats 400000 in
theorem rroot_6p (k : Int) (w : World) (ht : k.tmod 12 = 6) :
    Calls Tryz.prog 44 #[.int .i64 k] w fun e w' => e = .returned (.agg #[.int .i64 (-1), .int .i64 (0), .int .i64 (0), .int .i64 (0)]) ∧ Q w w' := by
  go_enter Tryz.func44, Tryz.ntmps44
  go_wp2
  refine bodyPost_ret (v := .agg #[.int .i64 (-1), .int .i64 (0), .int .i64 (0), .int .i64 (0)]) (by simp [results, Tryz.results44, go_sem]) rfl ⟨rfl, ?_⟩
  repeat' (first | exact Q.refl _ | refine Q.alloc ?_ _ | refine Q.jk ?_ _ | refine Q.drew ?_)
set_option maxHeartbeats 400000 in
theorem rroot_6n (k : Int) (w : World) (ht : k.tmod 12 = -6) :
    Calls Tryz.prog 44 #[.int .i64 k] w fun e w' => e = .returned (.agg #[.int .i64 (-1), .int .i64 (0), .int .i64 (0), .int .i64 (0)]) ∧ Q w w' := by
  go_enter Tryz.func44, Tryz.ntmps44
  go_wp2
  refine bodyPost_ret (v := .agg #[.int .i64 (-1), .int .i64 (0), .int .i64 (0), .int .i64 (0)]) (by simp [results, Tryz.results44, go_sem]) rfl ⟨rfl, ?_⟩
  repeat' (first | exact Q.refl _ | refine Q.alloc ?_ _ | refine Q.jk ?_ _ | refine Q.drew ?_)
set_option maxHeartbeats 400000 in
theorem rroot_7p (k : Int) (w : World) (ht : k.tmod 12 = 7) :
    Calls Tryz.prog 44 #[.int .i64 k] w fun e w' => e = .returned (.agg #[.int .i64 (0), .int .i64 (-1), .int .i64 (0), .int .i64 (0)]) ∧ Q w w' := by
  go_enter Tryz.func44, Tryz.ntmps44
  go_wp2
  refine bodyPost_ret (v := .agg #[.int .i64 (0), .int .i64 (-1), .int .i64 (0), .int .i64 (0)]) (by simp [results, Tryz.results44, go_sem]) rfl ⟨rfl, ?_⟩
  repeat' (first | exact Q.refl _ | refine Q.alloc ?_ _ | refine Q.jk ?_ _ | refine Q.drew ?_)
set_option maxHeartbeats 400000 in
theorem rroot_7n (k : Int) (w : World) (ht : k.tmod 12 = -5) :
    Calls Tryz.prog 44 #[.int .i64 k] w fun e w' => e = .returned (.agg #[.int .i64 (0), .int .i64 (-1), .int .i64 (0), .int .i64 (0)]) ∧ Q w w' := by
  go_enter Tryz.func44, Tryz.ntmps44
  go_wp2
  refine bodyPost_ret (v := .agg #[.int .i64 (0), .int .i64 (-1), .int .i64 (0), .int .i64 (0)]) (by simp [results, Tryz.results44, go_sem]) rfl ⟨rfl, ?_⟩
  repeat' (first | exact Q.refl _ | refine Q.alloc ?_ _ | refine Q.jk ?_ _ | refine Q.drew ?_)
set_option maxHeartbeats 400000 in
theorem rroot_8p (k : Int) (w : World) (ht : k.tmod 12 = 8) :
    Calls Tryz.prog 44 #[.int .i64 k] w fun e w' => e = .returned (.agg #[.int .i64 (0), .int .i64 (0), .int .i64 (-1), .int .i64 (0)]) ∧ Q w w' := by
  go_enter Tryz.func44, Tryz.ntmps44
  go_wp2
  refine bodyPost_ret (v := .agg #[.int .i64 (0), .int .i64 (0), .int .i64 (-1), .int .i64 (0)]) (by simp [results, Tryz.results44, go_sem]) rfl ⟨rfl, ?_⟩
  repeat' (first | exact Q.refl _ | refine Q.alloc ?_ _ | refine Q.jk ?_ _ | refine Q.drew ?_)
set_option maxHeartbeats 400000 in
theorem rroot_8n (k : Int) (w : World) (ht : k.tmod 12 = -4) :
    Calls Tryz.prog 44 #[.int .i64 k] w fun e w' => e = .returned (.agg #[.int .i64 (0), .int .i64 (0), .int .i64 (-1), .int .i64 (0)]) ∧ Q w w' := by
  go_enter Tryz.func44, Tryz.ntmps44
  go_wp2
  refine bodyPost_ret (v := .agg #[.int .i64 (0), .int .i64 (0), .int .i64 (-1), .int .i64 (0)]) (by simp [results, Tryz.results44, go_sem]) rfl ⟨rfl, ?_⟩
  repeat' (first | exact Q.refl _ | refine Q.alloc ?_ _ | refine Q.jk ?_ _ | refine Q.drew ?_)
set_option maxHeartbeats 400000 in
theorem rroot_9p (k : Int) (w : World) (ht : k.tmod 12 = 9) :
    Calls Tryz.prog 44 #[.int .i64 k] w fun e w' => e = .returned (.agg #[.int .i64 (0), .int .i64 (0), .int .i64 (0), .int .i64 (-1)]) ∧ Q w w' := by
  go_enter Tryz.func44, Tryz.ntmps44
  go_wp2
  refine bodyPost_ret (v := .agg #[.int .i64 (0), .int .i64 (0), .int .i64 (0), .int .i64 (-1)]) (by simp [results, Tryz.results44, go_sem]) rfl ⟨rfl, ?_⟩
  repeat' (first | exact Q.refl _ | refine Q.alloc ?_ _ | refine Q.jk ?_ _ | refine Q.drew ?_)
set_option maxHeartbeats 400000 in
theorem rroot_9n (k : Int) (w : World) (ht : k.tmod 12 = -3) :
    Calls Tryz.prog 44 #[.int .i64 k] w fun e w' => e = .returned (.agg #[.int .i64 (0), .int .i64 (0), .int .i64 (0), .int .i64 (-1)]) ∧ Q w w' := by
  go_enter Tryz.func44, Tryz.ntmps44
  go_wp2
  refine bodyPost_ret (v := .agg #[.int .i64 (0), .int .i64 (0), .int .i64 (0), .int .i64 (-1)]) (by simp [results, Tryz.results44, go_sem]) rfl ⟨rfl, ?_⟩
  repeat' (first | exact Q.refl _ | refine Q.alloc ?_ _ | refine Q.jk ?_ _ | refine Q.drew ?_)
set_option maxHeartbeats 400000 in
theorem rroot_10p (k : Int) (w : World) (ht : k.tmod 12 = 10) :
    Calls Tryz.prog 44 #[.int .i64 k] w fun e w' => e = .returned (.agg #[.int .i64 (1), .int .i64 (0), .int .i64 (-1), .int .i64 (0)]) ∧ Q w w' := by
  go_enter Tryz.func44, Tryz.ntmps44
  go_wp2
  refine bodyPost_ret (v := .agg #[.int .i64 (1), .int .i64 (0), .int .i64 (-1), .int .i64 (0)]) (by simp [results, Tryz.results44, go_sem]) rfl ⟨rfl, ?_⟩
  repeat' (first | exact Q.refl _ | refine Q.alloc ?_ _ | refine Q.jk ?_ _ | refine Q.drew ?_)
set_option maxHeartbeats 400000 in
theorem rroot_10n (k : Int) (w : World) (ht : k.tmod 12 = -2) :
    Calls Tryz.prog 44 #[.int .i64 k] w fun e w' => e = .returned (.agg #[.int .i64 (1), .int .i64 (0), .int .i64 (-1), .int .i64 (0)]) ∧ Q w w' := by
  go_enter Tryz.func44, Tryz.ntmps44
  go_wp2
  refine bodyPost_ret (v := .agg #[.int .i64 (1), .int .i64 (0), .int .i64 (-1), .int .i64 (0)]) (by simp [results, Tryz.results44, go_sem]) rfl ⟨rfl, ?_⟩
  repeat' (first | exact Q.refl _ | refine Q.alloc ?_ _ | refine Q.jk ?_ _ | refine Q.drew ?_)
set_option maxHeartbeats 400000 in
theorem rroot_11p (k : Int) (w : World) (ht : k.tmod 12 = 11) :
    Calls Tryz.prog 44 #[.int .i64 k] w fun e w' => e = .returned (.agg #[.int .i64 (0), .int .i64 (1), .int .i64 (0), .int .i64 (-1)]) ∧ Q w w' := by
  go_enter Tryz.func44, Tryz.ntmps44
  go_wp2
  refine bodyPost_ret (v := .agg #[.int .i64 (0), .int .i64 (1), .int .i64 (0), .int .i64 (-1)]) (by simp [results, Tryz.results44, go_sem]) rfl ⟨rfl, ?_⟩
  repeat' (first | exact Q.refl _ | refine Q.alloc ?_ _ | refine Q.jk ?_ _ | refine Q.drew ?_)
set_option maxHeartbeats 400000 in
theorem rroot_11n (k : Int) (w : World) (ht : k.tmod 12 = -1) :
    Calls Tryz.prog 44 #[.int .i64 k] w fun e w' => e = .returned (.agg #[.int .i64 (0), .int .i64 (1), .int .i64 (0), .int .i64 (-1)]) ∧ Q w w' := by
  go_enter Tryz.func44, Tryz.ntmps44
  go_wp2
  refine bodyPost_ret (v := .agg #[.int .i64 (0), .int .i64 (1), .int .i64 (0), .int .i64 (-1)]) (by simp [results, Tryz.results44, go_sem]) rfl ⟨rfl, ?_⟩
  repeat' (first | exact Q.refl _ | refine Q.alloc ?_ _ | refine Q.jk ?_ _ | refine Q.drew ?_)
theorem tmod12 (k : Int) : k.tmod 12 = k % 12 ∨ (k.tmod 12 = k % 12 - 12 ∧ k % 12 ≠ 0) := by
  rcases Int.le_total 0 k with h | h
  · left; exact Int.tmod_eq_emod_of_nonneg h
  · have := Int.tmod_eq_emod (a := k) (b := 12)
    split at this
    · left; omega
    · rename_i hd
      right
      refine ⟨by omega, fun h0 => hd (Or.inr (Int.dvd_of_emod_eq_zero h0))⟩
theorem rroot_any (k : Int) (w : World) :
    Calls Tryz.prog 44 #[.int .i64 k] w fun e w' => e = .returned (.agg #[.int .i64 (rootC k).a, .int .i64 (rootC k).b, .int .i64 (rootC k).c, .int .i64 (rootC k).d]) ∧ Q w w' := by
  have h12 := tmod12 k
  rcases dz_cases k with hk | hk | hk | hk | hk | hk | hk | hk | hk | hk | hk | hk
  · rw [show rootC k = (Cy.mk 1 0 0 0).tn 0 by simp [rootC, hk]]
    exact rroot_0p k w (by omega)
  · rw [show rootC k = (Cy.mk 1 0 0 0).tn 1 by simp [rootC, hk]]
    rcases h12 with h | ⟨h, _⟩
    · exact rroot_1p k w (by omega)
    · exact rroot_1n k w (by omega)
  · rw [show rootC k = (Cy.mk 1 0 0 0).tn 2 by simp [rootC, hk]]
    rcases h12 with h | ⟨h, _⟩
    · exact rroot_2p k w (by omega)
    · exact rroot_2n k w (by omega)
  · rw [show rootC k = (Cy.mk 1 0 0 0).tn 3 by simp [rootC, hk]]
    rcases h12 with h | ⟨h, _⟩
    · exact rroot_3p k w (by omega)
    · exact rroot_3n k w (by omega)
  · rw [show rootC k = (Cy.mk 1 0 0 0).tn 4 by simp [rootC, hk]]
    rcases h12 with h | ⟨h, _⟩
    · exact rroot_4p k w (by omega)
    · exact rroot_4n k w (by omega)
  · rw [show rootC k = (Cy.mk 1 0 0 0).tn 5 by simp [rootC, hk]]
    rcases h12 with h | ⟨h, _⟩
    · exact rroot_5p k w (by omega)
    · exact rroot_5n k w (by omega)
  · rw [show rootC k = (Cy.mk 1 0 0 0).tn 6 by simp [rootC, hk]]
    rcases h12 with h | ⟨h, _⟩
    · exact rroot_6p k w (by omega)
    · exact rroot_6n k w (by omega)
  · rw [show rootC k = (Cy.mk 1 0 0 0).tn 7 by simp [rootC, hk]]
    rcases h12 with h | ⟨h, _⟩
    · exact rroot_7p k w (by omega)
    · exact rroot_7n k w (by omega)
  · rw [show rootC k = (Cy.mk 1 0 0 0).tn 8 by simp [rootC, hk]]
    rcases h12 with h | ⟨h, _⟩
    · exact rroot_8p k w (by omega)
    · exact rroot_8n k w (by omega)
  · rw [show rootC k = (Cy.mk 1 0 0 0).tn 9 by simp [rootC, hk]]
    rcases h12 with h | ⟨h, _⟩
    · exact rroot_9p k w (by omega)
    · exact rroot_9n k w (by omega)
  · rw [show rootC k = (Cy.mk 1 0 0 0).tn 10 by simp [rootC, hk]]
    rcases h12 with h | ⟨h, _⟩
    · exact rroot_10p k w (by omega)
    · exact rroot_10n k w (by omega)
  · rw [show rootC k = (Cy.mk 1 0 0 0).tn 11 by simp [rootC, hk]]
    rcases h12 with h | ⟨h, _⟩
    · exact rroot_11p k w (by omega)
    · exact rroot_11n k w (by omega)

theorem rootC_in1 (k : Int) : (rootC k).In 1 := by
  rcases dz_cases k with hk | hk | hk | hk | hk | hk | hk | hk | hk | hk | hk | hk <;> (unfold rootC; rw [hk]; unfold Cy.In; decide)
theorem rootC_mod (k j : Int) (h : j % 12 = k % 12) : rootC j = rootC k := by unfold rootC; rw [h]
theorem limR_turn (x : Cy) (k : Int) (h : wiB x 576460752303423488 = true) : limR (x.mul (rootC k)) = turnR x k := by
  rw [Cy.mul_root]; simp [turnR, h]

set_option maxHeartbeats 1000000 in
theorem rturn_p (x : Cy) (k : Int) (w : World) (h : wiB x 576460752303423488 = true) (ht : 0 ≤ k.tmod 12) :
    Calls Tryz.prog 20 #[.agg #[.int .i64 x.a, .int .i64 x.b, .int .i64 x.c, .int .i64 x.d], .int .i64 k] w fun e w' => e = .returned (.tuple #[.agg #[.int .i64 (turnR x k).v.a, .int .i64 (turnR x k).v.b, .int .i64 (turnR x k).v.c, .int .i64 (turnR x k).v.d], .int .i64 (turnR x k).e]) ∧ Q w w' := by
  have h12 := tmod12 k
  obtain ⟨t1, t2⟩ := tmod_bd k 12 (by decide)
  have hrk : rootC (k.tmod 12) = rootC k := rootC_mod _ _ (by omega)
  rw [← limR_turn x k h, ← hrk]
  have hp : Prods x (rootC (k.tmod 12)) 576460752303423488 := (prods_of (wiB_in h) (rootC_in1 _)).mono (by decide)
  clear hrk h12
  go_enter Tryz.func20, Tryz.ntmps20
  go_wp2_with (go_at_call 40; refine (rwithin_any _ _ _ _ _ _ (by omega) (by omega)).mono ?_; rintro e w' ⟨rfl, kj, rfl⟩)
  refine wp_region_tail 7 (by kernel_rfl) (by kernel_rfl) ?_
  simp only [List.take_succ_cons, List.take_zero, List.drop_succ_cons, List.drop_zero]
  repeat (go_big_quiet_step (first | (go_at_call 44; exact Calls.jk_of (rroot_any _ _)) | (go_at_call 43; exact Calls.jk_of (rproduct_c _ _ _ hp)) | (go_at_call 42; exact Calls.jk_of (rresult_any _ _ _ _ _))))
  refine wpQuiet_nil ?_
  intro _ hw'
  obtain ⟨kq, rfl⟩ := hw'
  go_wp2
  go_returns
  refine ⟨rfl, ?_⟩
  repeat' (first | exact Q.refl _ | refine Q.alloc ?_ _ | refine Q.jk ?_ _ | refine Q.drew ?_)
set_option maxHeartbeats 1000000 in
theorem rturn_n (x : Cy) (k : Int) (w : World) (h : wiB x 576460752303423488 = true) (ht : k.tmod 12 < 0) :
    Calls Tryz.prog 20 #[.agg #[.int .i64 x.a, .int .i64 x.b, .int .i64 x.c, .int .i64 x.d], .int .i64 k] w fun e w' => e = .returned (.tuple #[.agg #[.int .i64 (turnR x k).v.a, .int .i64 (turnR x k).v.b, .int .i64 (turnR x k).v.c, .int .i64 (turnR x k).v.d], .int .i64 (turnR x k).e]) ∧ Q w w' := by
  have h12 := tmod12 k
  obtain ⟨t1, t2⟩ := tmod_bd k 12 (by decide)
  have hrk : rootC (k.tmod 12 + 12) = rootC k := rootC_mod _ _ (by omega)
  rw [← limR_turn x k h, ← hrk]
  have hp : Prods x (rootC (k.tmod 12 + 12)) 576460752303423488 := (prods_of (wiB_in h) (rootC_in1 _)).mono (by decide)
  clear hrk h12
  go_enter Tryz.func20, Tryz.ntmps20
  go_wp2_with (go_at_call 40; refine (rwithin_any _ _ _ _ _ _ (by omega) (by omega)).mono ?_; rintro e w' ⟨rfl, kj, rfl⟩)
  refine wp_region_tail 7 (by kernel_rfl) (by kernel_rfl) ?_
  simp only [List.take_succ_cons, List.take_zero, List.drop_succ_cons, List.drop_zero]
  repeat (go_big_quiet_step (first | (go_at_call 44; exact Calls.jk_of (rroot_any _ _)) | (go_at_call 43; exact Calls.jk_of (rproduct_c _ _ _ hp)) | (go_at_call 42; exact Calls.jk_of (rresult_any _ _ _ _ _))))
  refine wpQuiet_nil ?_
  intro _ hw'
  obtain ⟨kq, rfl⟩ := hw'
  go_wp2
  go_returns
  refine ⟨rfl, ?_⟩
  repeat' (first | exact Q.refl _ | refine Q.alloc ?_ _ | refine Q.jk ?_ _ | refine Q.drew ?_)

set_option maxHeartbeats 1000000 in
theorem rturn_any (a b c d k : Int) (w : World) :
    Calls Tryz.prog 20 #[.agg #[.int .i64 a, .int .i64 b, .int .i64 c, .int .i64 d], .int .i64 k] w fun e w' => e = .returned (.tuple #[.agg #[.int .i64 (turnR ⟨a, b, c, d⟩ k).v.a, .int .i64 (turnR ⟨a, b, c, d⟩ k).v.b, .int .i64 (turnR ⟨a, b, c, d⟩ k).v.c, .int .i64 (turnR ⟨a, b, c, d⟩ k).v.d], .int .i64 (turnR ⟨a, b, c, d⟩ k).e]) ∧ Q w w' := by
  by_cases h : wiB ⟨a, b, c, d⟩ 576460752303423488 = true
  · by_cases ht : 0 ≤ k.tmod 12
    · exact rturn_p ⟨a, b, c, d⟩ k w h ht
    · exact rturn_n ⟨a, b, c, d⟩ k w h (by omega)
  · have h : wiB ⟨a, b, c, d⟩ 576460752303423488 = false := by simpa using h
    go_enter Tryz.func20, Tryz.ntmps20
    go_wp2_with (go_at_call 40; refine (rwithin_any _ _ _ _ _ _ (by omega) (by omega)).mono ?_; rintro e w' ⟨rfl, kj, rfl⟩)
    refine bodyPost_ret (v := .tuple #[.agg #[.int .i64 (R4.mk zeroC 1).v.a, .int .i64 (R4.mk zeroC 1).v.b, .int .i64 (R4.mk zeroC 1).v.c, .int .i64 (R4.mk zeroC 1).v.d], .int .i64 (R4.mk zeroC 1).e]) (by simp [results, Tryz.results20, go_sem, zeroC]) rfl ⟨by simp [turnR, h], ?_⟩
    repeat' (first | exact Q.refl _ | refine Q.alloc ?_ _ | refine Q.jk ?_ _ | refine Q.drew ?_)
end Go.Proofs.YtomodppdolfinaaGreat
