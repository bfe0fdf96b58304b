
/- DistanceResidual: the walk. -/
import Derived.Test.YtomodppdolfinaaDsF
namespace Go.Proofs.Ytomodppdolfinaa
open Go.RowKit Go.Sub
set_option maxRecDepth 100000 in
set_option maxHeartbeats 8000000 in
theorem res_core (u v t x y z U V T X Y Z N ZN : Cy) (VV A B C : Nat → Cy) (k0 k1 r q : Int) (w : World) (_ : k0.tmod 201 = r) (_ : k1.tmod 201 = q)
    (S1 : Hid (∀ w, Calls Try.prog 22 #[.agg #[.int .i64 u.a, .int .i64 u.b, .int .i64 u.c, .int .i64 u.d, .int .i64 v.a, .int .i64 v.b, .int .i64 v.c, .int .i64 v.d, .int .i64 t.a, .int .i64 t.b, .int .i64 t.c, .int .i64 t.d]] w fun e w' => e = .returned (.agg #[.int .i64 U.a, .int .i64 U.b, .int .i64 U.c, .int .i64 U.d, .int .i64 V.a, .int .i64 V.b, .int .i64 V.c, .int .i64 V.d, .int .i64 T.a, .int .i64 T.b, .int .i64 T.c, .int .i64 T.d]) ∧ Q w w'))
    (S2 : Hid (∀ w, Calls Try.prog 22 #[.agg #[.int .i64 x.a, .int .i64 x.b, .int .i64 x.c, .int .i64 x.d, .int .i64 y.a, .int .i64 y.b, .int .i64 y.c, .int .i64 y.d, .int .i64 z.a, .int .i64 z.b, .int .i64 z.c, .int .i64 z.d]] w fun e w' => e = .returned (.agg #[.int .i64 X.a, .int .i64 X.b, .int .i64 X.c, .int .i64 X.d, .int .i64 Y.a, .int .i64 Y.b, .int .i64 Y.c, .int .i64 Y.d, .int .i64 Z.a, .int .i64 Z.b, .int .i64 Z.c, .int .i64 Z.d]) ∧ Q w w'))
    (L1 : Hid (∀ w, Calls Try.prog 23 #[.agg #[.int .i64 U.a, .int .i64 U.b, .int .i64 U.c, .int .i64 U.d, .int .i64 V.a, .int .i64 V.b, .int .i64 V.c, .int .i64 V.d, .int .i64 T.a, .int .i64 T.b, .int .i64 T.c, .int .i64 T.d], .agg #[.int .i64 X.a, .int .i64 X.b, .int .i64 X.c, .int .i64 X.d, .int .i64 Y.a, .int .i64 Y.b, .int .i64 Y.c, .int .i64 Y.d, .int .i64 Z.a, .int .i64 Z.b, .int .i64 Z.c, .int .i64 Z.d], .int .i64 r, .int .i64 q] w fun e w' => e = .returned (.tuple #[.agg (c48L VV A 6), .int .i64 0]) ∧ Q w w')) (L2 : Hid (∀ w, Calls Try.prog 23 #[.agg #[.int .i64 U.a, .int .i64 U.b, .int .i64 U.c, .int .i64 U.d, .int .i64 V.a, .int .i64 V.b, .int .i64 V.c, .int .i64 V.d, .int .i64 T.a, .int .i64 T.b, .int .i64 T.c, .int .i64 T.d], .agg #[.int .i64 X.a, .int .i64 X.b, .int .i64 X.c, .int .i64 X.d, .int .i64 Y.a, .int .i64 Y.b, .int .i64 Y.c, .int .i64 Y.d, .int .i64 Z.a, .int .i64 Z.b, .int .i64 Z.c, .int .i64 Z.d], .int .i64 0, .int .i64 0] w fun e w' => e = .returned (.tuple #[.agg (c48L VV B 6), .int .i64 0]) ∧ Q w w')) (L3 : Hid (∀ w, Calls Try.prog 23 #[.agg #[.int .i64 U.a, .int .i64 U.b, .int .i64 U.c, .int .i64 U.d, .int .i64 V.a, .int .i64 V.b, .int .i64 V.c, .int .i64 V.d, .int .i64 T.a, .int .i64 T.b, .int .i64 T.c, .int .i64 T.d], .agg #[.int .i64 X.a, .int .i64 X.b, .int .i64 X.c, .int .i64 X.d, .int .i64 Y.a, .int .i64 Y.b, .int .i64 Y.c, .int .i64 Y.d, .int .i64 ZN.a, .int .i64 ZN.b, .int .i64 ZN.c, .int .i64 ZN.d], .int .i64 r, .int .i64 q] w fun e w' => e = .returned (.tuple #[.agg (c48L VV C 6), .int .i64 0]) ∧ Q w w')) (L4 : Hid (∀ w, Calls Try.prog 23 #[.agg #[.int .i64 U.a, .int .i64 U.b, .int .i64 U.c, .int .i64 U.d, .int .i64 V.a, .int .i64 V.b, .int .i64 V.c, .int .i64 V.d, .int .i64 T.a, .int .i64 T.b, .int .i64 T.c, .int .i64 T.d], .agg #[.int .i64 X.a, .int .i64 X.b, .int .i64 X.c, .int .i64 X.d, .int .i64 Y.a, .int .i64 Y.b, .int .i64 Y.c, .int .i64 Y.d, .int .i64 ZN.a, .int .i64 ZN.b, .int .i64 ZN.c, .int .i64 ZN.d], .int .i64 0, .int .i64 0] w fun e w' => e = .returned (.tuple #[.agg (c48L VV C 6), .int .i64 0]) ∧ Q w w'))
    (AD : Hid (∀ w, Calls Try.prog 24 #[.agg #[.int .i64 X.a, .int .i64 X.b, .int .i64 X.c, .int .i64 X.d], .agg #[.int .i64 Y.a, .int .i64 Y.b, .int .i64 Y.c, .int .i64 Y.d]] w fun e w' => e = .returned (.tuple #[.agg #[.int .i64 N.a, .int .i64 N.b, .int .i64 N.c, .int .i64 N.d], .int .i64 0]) ∧ Q w w'))
    (SB : Hid (∀ w, Calls Try.prog 25 #[.agg #[.int .i64 0, .int .i64 0, .int .i64 0, .int .i64 0], .agg #[.int .i64 N.a, .int .i64 N.b, .int .i64 N.c, .int .i64 N.d]] w fun e w' => e = .returned (.tuple #[.agg #[.int .i64 ZN.a, .int .i64 ZN.b, .int .i64 ZN.c, .int .i64 ZN.d], .int .i64 0]) ∧ Q w w'))
    (_ : A 3 = B 3) (_ : A 4 = B 4) (_ : A 5 = B 5) :
    Calls Try.prog 6 #[.agg #[.int .i64 u.a, .int .i64 u.b, .int .i64 u.c, .int .i64 u.d, .int .i64 v.a, .int .i64 v.b, .int .i64 v.c, .int .i64 v.d, .int .i64 t.a, .int .i64 t.b, .int .i64 t.c, .int .i64 t.d], .agg #[.int .i64 x.a, .int .i64 x.b, .int .i64 x.c, .int .i64 x.d, .int .i64 y.a, .int .i64 y.b, .int .i64 y.c, .int .i64 y.d, .int .i64 z.a, .int .i64 z.b, .int .i64 z.c, .int .i64 z.d], .agg #[.int .i64 k0, .int .i64 k1]] w fun e w' => e = .returned (.bool true) ∧ Q w w' := by
  go_enter Try.func6, Try.ntmps6
  go_wp2_with (go_at_call 15; refine (known22 _).mono ?_; rintro e w' ⟨rfl, kj, rfl⟩)
  try simp only [List.append]
  refine wp_region_tail 4 (by kernel_rfl) (by kernel_rfl) ?_
  simp only [List.take_succ_cons, List.take_zero, List.drop_succ_cons, List.drop_zero]
  repeat (go_big_quiet_step ((go_at_call 22; first | (with_reducible exact Calls.jk_of (S1.out _)) | (with_reducible exact Calls.jk_of (S2.out _)))))
  refine wpQuiet_nil ?_
  intro _ hw'
  obtain ⟨kq, rfl⟩ := hw'
  go_wp2_with ((first | (go_at_call 23; first | ((with_reducible refine (L1.out _).mono ?_); rintro e w' ⟨rfl, kj, rfl⟩) | ((with_reducible refine (L2.out _).mono ?_); rintro e w' ⟨rfl, kj, rfl⟩) | ((with_reducible refine (L3.out _).mono ?_); rintro e w' ⟨rfl, kj, rfl⟩) | ((with_reducible refine (L4.out _).mono ?_); rintro e w' ⟨rfl, kj, rfl⟩)) | (go_at_call 24; (with_reducible refine (AD.out _).mono ?_); rintro e w' ⟨rfl, kj, rfl⟩) | (go_at_call 25; (with_reducible refine (SB.out _).mono ?_); rintro e w' ⟨rfl, kj, rfl⟩)))
  refine wp_loop_rounds 7 ?_
  rw [rounds_succ]; go_wp2_with fail
  try simp only [List.append]
  refine wp_region_jk (by kernel_rfl) (by kernel_rfl) ?_
  repeat (go_big_quiet_step (fail))
  refine wpQuiet_nil ?_
  intro _ hw'
  obtain ⟨kq, rfl⟩ := hw'
  go_wp2_with fail
  rw [rounds_succ]; go_wp2_with fail
  try simp only [List.append]
  refine wp_region_jk (by kernel_rfl) (by kernel_rfl) ?_
  repeat (go_big_quiet_step (fail))
  refine wpQuiet_nil ?_
  intro _ hw'
  obtain ⟨kq, rfl⟩ := hw'
  go_wp2_with fail
  rw [rounds_succ]; go_wp2_with fail
  try simp only [List.append]
  refine wp_region_jk (by kernel_rfl) (by kernel_rfl) ?_
  repeat (go_big_quiet_step (fail))
  refine wpQuiet_nil ?_
  intro _ hw'
  obtain ⟨kq, rfl⟩ := hw'
  go_wp2_with fail
  rw [rounds_succ]; go_wp2_with fail
  try simp only [List.append]
  refine wp_region_jk (by kernel_rfl) (by kernel_rfl) ?_
  repeat (go_big_quiet_step (fail))
  refine wpQuiet_nil ?_
  intro _ hw'
  obtain ⟨kq, rfl⟩ := hw'
  go_wp2_with fail
  rw [rounds_succ]; go_wp2_with fail
  try simp only [List.append]
  refine wp_region_jk (by kernel_rfl) (by kernel_rfl) ?_
  repeat (go_big_quiet_step (fail))
  refine wpQuiet_nil ?_
  intro _ hw'
  obtain ⟨kq, rfl⟩ := hw'
  go_wp2_with fail
  rw [rounds_succ]; go_wp2_with fail
  try simp only [List.append]
  refine wp_region_jk (by kernel_rfl) (by kernel_rfl) ?_
  repeat (go_big_quiet_step (fail))
  refine wpQuiet_nil ?_
  intro _ hw'
  obtain ⟨kq, rfl⟩ := hw'
  go_wp2_with fail
  rw [rounds_succ]; go_wp2
  go_ret
  refine ⟨rfl, ?_⟩
  repeat' (first | exact Q.refl _ | refine Q.alloc ?_ _ | refine Q.jk ?_ _ | refine Q.drew ?_)
theorem loopI_none (x y : Cy) (r q : Int) : loopI x y ((Cy.mk 0 0 0 0).sub (x.add y)) r q = loopI x y ((Cy.mk 0 0 0 0).sub (x.add y)) 0 0 := by
  funext n
  unfold loopI
  rw [ext_none, ext_none]
theorem res_walk (u v t x y z : Cy) (k0 k1 : Int) (w : World) :
    Calls Try.prog 6 #[.agg #[.int .i64 u.a, .int .i64 u.b, .int .i64 u.c, .int .i64 u.d, .int .i64 v.a, .int .i64 v.b, .int .i64 v.c, .int .i64 v.d, .int .i64 t.a, .int .i64 t.b, .int .i64 t.c, .int .i64 t.d], .agg #[.int .i64 x.a, .int .i64 x.b, .int .i64 x.c, .int .i64 x.d, .int .i64 y.a, .int .i64 y.b, .int .i64 y.c, .int .i64 y.d, .int .i64 z.a, .int .i64 z.b, .int .i64 z.c, .int .i64 z.d], .agg #[.int .i64 k0, .int .i64 k1]] w fun e w' => e = .returned (.bool true) ∧ Q w w' := by
  have hr := tmod_bd k0 201 (by decide)
  have hq := tmod_bd k1 201 (by decide)
  have I : ∀ c : Cy, (sm22 c).In 65536 := fun c => (sm22_in c).mono (by decide)
  have hN := Cy.add_in (sm22_in x) (sm22_in y)
  have h0 : (Cy.mk 0 0 0 0).In 0 := by unfold Cy.In; decide
  have hZ : ((Cy.mk 0 0 0 0).sub ((sm22 x).add (sm22 y))).In 65536 := (Cy.sub_in h0 hN).mono (by decide)
  refine res_core u v t x y z (sm22 u) (sm22 v) (sm22 t) (sm22 x) (sm22 y) (sm22 z) ((sm22 x).add (sm22 y)) ((Cy.mk 0 0 0 0).sub ((sm22 x).add (sm22 y))) (loopV (sm22 u) (sm22 v) (sm22 t)) (loopI (sm22 x) (sm22 y) (sm22 z) (k0.tmod 201) (k1.tmod 201)) (loopI (sm22 x) (sm22 y) (sm22 z) 0 0) (loopI (sm22 x) (sm22 y) ((Cy.mk 0 0 0 0).sub ((sm22 x).add (sm22 y))) 0 0) k0 k1 _ _ w rfl rfl
    (Lib.hid fun w => small22_c u v t w) (Lib.hid fun w => small22_c x y z w)
    (Lib.hid fun w => loops_c _ _ _ _ _ _ _ _ w (I u) (I v) (I t) (I x) (I y) (I z) (by omega) (by omega) (by omega) (by omega))
    (Lib.hid fun w => loops_c _ _ _ _ _ _ _ _ w (I u) (I v) (I t) (I x) (I y) (I z) (by decide) (by decide) (by decide) (by decide))
    (Lib.hid fun w => ?_)
    (Lib.hid fun w => loops_c _ _ _ _ _ _ _ _ w (I u) (I v) (I t) (I x) (I y) hZ (by decide) (by decide) (by decide) (by decide))
    (Lib.hid fun w => add_c _ _ w ((I x).mono (by decide)) ((I y).mono (by decide)))
    (Lib.hid fun w => sub_c ⟨0, 0, 0, 0⟩ _ w (h0.mono (by decide)) (hN.mono (by decide))) rfl rfl rfl
  have h := loops_c (sm22 u) (sm22 v) (sm22 t) (sm22 x) (sm22 y) ((Cy.mk 0 0 0 0).sub ((sm22 x).add (sm22 y))) (k0.tmod 201) (k1.tmod 201) w (I u) (I v) (I t) (I x) (I y) hZ (by omega) (by omega) (by omega) (by omega)
  rw [loopI_none] at h
  exact h
end Go.Proofs.Ytomodppdolfinaa
