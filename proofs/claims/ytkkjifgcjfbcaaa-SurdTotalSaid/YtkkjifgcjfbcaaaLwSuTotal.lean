
/- SurdTotal: the walk. -/
import Derived.Test.YtkkjifgcjfbcaaaSuN
import Derived.Test.YtkkjifgcjfbcaaaFl
import Derived.Test.YtkkjifgcjfbcaaaCmp
namespace Go.Sub
theorem Su.eqB_false' {x y : Su} (h : x ≠ y) : Su.eqB ⟨x.a, x.b⟩ ⟨y.a, y.b⟩ = false := by
  cases e : Su.eqB ⟨x.a, x.b⟩ ⟨y.a, y.b⟩
  · rfl
  · exact absurd ((Su.eqB_iff x y).1 e) h
theorem su_add_in {x y : Su} (hx : x.In 1048576) (hy : y.In 1048576) : (x.add y).In 4000000 := by
  unfold Su.In Su.add at *
  dsimp only
  omega
end Go.Sub
namespace Go.Proofs.Ytkkjifgcjfbcaaa
open Go.RowKit Go.Sub
set_option maxHeartbeats 2000000 in
theorem total_lt (x y z X Y Z : Su) (w : World) (HX : Hid (smallS x = X)) (HY : Hid (smallS y = Y)) (HZ : Hid (smallS z = Z)) (hX : X.In 1048576) (hY : Y.In 1048576) (hZ : Z.In 1048576) (aY : (X.add Z).In 4000000) (aZ : (Y.add Z).In 4000000) (d h : Int) (A1 : Hid (sgnS (X.sub Y) = -1)) (A2 : Hid (sgnS (Y.sub X) = 1)) (A3 : Hid (sgnS ((X.add Z).sub (Y.add Z)) = -1)) (A4 : Hid (sgnS (Y.sub Z) = d)) (A5 : Hid (sgnS (X.sub Z) = h)) (hne : Su.eqB ⟨X.a, X.b⟩ ⟨Y.a, Y.b⟩ = false) :
    Calls Try.prog 5 #[.agg #[.int .i64 x.a, .int .i64 x.b], .agg #[.int .i64 y.a, .int .i64 y.b], .agg #[.int .i64 z.a, .int .i64 z.b]] w fun e w' => e = .returned (.bool true) ∧ Q w w' := by
  have sx : ∀ w, Calls Try.prog 23 #[.agg #[.int .i64 x.a, .int .i64 x.b]] w fun e w' => e = .returned (.agg #[.int .i64 X.a, .int .i64 X.b]) ∧ Q w w' := fun w => by rw [← HX.out]; exact lsmall_any x w
  have Sx := Lib.hid sx
  clear sx
  have sy : ∀ w, Calls Try.prog 23 #[.agg #[.int .i64 y.a, .int .i64 y.b]] w fun e w' => e = .returned (.agg #[.int .i64 Y.a, .int .i64 Y.b]) ∧ Q w w' := fun w => by rw [← HY.out]; exact lsmall_any y w
  have Sy := Lib.hid sy
  clear sy
  have sz : ∀ w, Calls Try.prog 23 #[.agg #[.int .i64 z.a, .int .i64 z.b]] w fun e w' => e = .returned (.agg #[.int .i64 Z.a, .int .i64 Z.b]) ∧ Q w w' := fun w => by rw [← HZ.out]; exact lsmall_any z w
  have Sz := Lib.hid sz
  clear sz
  clear HX HY HZ
  go_enter Try.func5, Try.ntmps5
  go_wp2_with (go_at_call 16; refine (known02 _).mono ?_; rintro e w' ⟨rfl, kj, rfl⟩)
  try simp only [List.append]
  refine wp_region_tail 6 (by kernel_rfl) (by kernel_rfl) ?_
  simp only [List.take_succ_cons, List.take_zero, List.drop_succ_cons, List.drop_zero]
  repeat (go_big_quiet_step ((go_at_call 23; first | with_reducible exact Calls.jk_of (Sx.out _) | with_reducible exact Calls.jk_of (Sy.out _) | with_reducible exact Calls.jk_of (Sz.out _))))
  refine wpQuiet_nil ?_
  intro _ hw'
  obtain ⟨kq, rfl⟩ := hw'
  go_wp2_with (first | (go_at_call 24; first | ((with_reducible refine (scmp_c X Y _ (Su.In.mono (by with_reducible assumption) (by decide)) (Su.In.mono (by with_reducible assumption) (by decide))).mono ?_); rintro e w' ⟨rfl, kj, rfl⟩; rw [A1.out]) | ((with_reducible refine (scmp_c Y X _ (Su.In.mono (by with_reducible assumption) (by decide)) (Su.In.mono (by with_reducible assumption) (by decide))).mono ?_); rintro e w' ⟨rfl, kj, rfl⟩; rw [A2.out]) | ((with_reducible refine (scmp_c (X.add Z) (Y.add Z) _ (Su.In.mono (by with_reducible assumption) (by decide)) (Su.In.mono (by with_reducible assumption) (by decide))).mono ?_); rintro e w' ⟨rfl, kj, rfl⟩; rw [A3.out]) | ((with_reducible refine (scmp_c Y Z _ (Su.In.mono (by with_reducible assumption) (by decide)) (Su.In.mono (by with_reducible assumption) (by decide))).mono ?_); rintro e w' ⟨rfl, kj, rfl⟩; rw [A4.out]) | ((with_reducible refine (scmp_c X Z _ (Su.In.mono (by with_reducible assumption) (by decide)) (Su.In.mono (by with_reducible assumption) (by decide))).mono ?_); rintro e w' ⟨rfl, kj, rfl⟩; rw [A5.out])) | (go_at_call 25; refine (sadd_c _ _ _ (Su.In.mono (by with_reducible assumption) (by decide)) (Su.In.mono (by with_reducible assumption) (by decide))).mono ?_; rintro e w' ⟨rfl, kj, rfl⟩))
  go_ret
  refine ⟨rfl, ?_⟩
  repeat' (first | exact Q.refl _ | refine Q.alloc ?_ _ | refine Q.jk ?_ _ | refine Q.drew ?_)

set_option maxHeartbeats 2000000 in
theorem total_gt1 (x y z X Y Z : Su) (w : World) (HX : Hid (smallS x = X)) (HY : Hid (smallS y = Y)) (HZ : Hid (smallS z = Z)) (hX : X.In 1048576) (hY : Y.In 1048576) (hZ : Z.In 1048576) (aY : (X.add Z).In 4000000) (aZ : (Y.add Z).In 4000000) (d h : Int) (A1 : Hid (sgnS (X.sub Y) = 1)) (A2 : Hid (sgnS (Y.sub X) = -1)) (A3 : Hid (sgnS ((X.add Z).sub (Y.add Z)) = 1)) (A4 : Hid (sgnS (Y.sub Z) = d)) (A5 : Hid (sgnS (X.sub Z) = h)) (hne : Su.eqB ⟨X.a, X.b⟩ ⟨Y.a, Y.b⟩ = false) (hd : d < 0) :
    Calls Try.prog 5 #[.agg #[.int .i64 x.a, .int .i64 x.b], .agg #[.int .i64 y.a, .int .i64 y.b], .agg #[.int .i64 z.a, .int .i64 z.b]] w fun e w' => e = .returned (.bool true) ∧ Q w w' := by
  have sx : ∀ w, Calls Try.prog 23 #[.agg #[.int .i64 x.a, .int .i64 x.b]] w fun e w' => e = .returned (.agg #[.int .i64 X.a, .int .i64 X.b]) ∧ Q w w' := fun w => by rw [← HX.out]; exact lsmall_any x w
  have Sx := Lib.hid sx
  clear sx
  have sy : ∀ w, Calls Try.prog 23 #[.agg #[.int .i64 y.a, .int .i64 y.b]] w fun e w' => e = .returned (.agg #[.int .i64 Y.a, .int .i64 Y.b]) ∧ Q w w' := fun w => by rw [← HY.out]; exact lsmall_any y w
  have Sy := Lib.hid sy
  clear sy
  have sz : ∀ w, Calls Try.prog 23 #[.agg #[.int .i64 z.a, .int .i64 z.b]] w fun e w' => e = .returned (.agg #[.int .i64 Z.a, .int .i64 Z.b]) ∧ Q w w' := fun w => by rw [← HZ.out]; exact lsmall_any z w
  have Sz := Lib.hid sz
  clear sz
  clear HX HY HZ
  go_enter Try.func5, Try.ntmps5
  go_wp2_with (go_at_call 16; refine (known02 _).mono ?_; rintro e w' ⟨rfl, kj, rfl⟩)
  try simp only [List.append]
  refine wp_region_tail 6 (by kernel_rfl) (by kernel_rfl) ?_
  simp only [List.take_succ_cons, List.take_zero, List.drop_succ_cons, List.drop_zero]
  repeat (go_big_quiet_step ((go_at_call 23; first | with_reducible exact Calls.jk_of (Sx.out _) | with_reducible exact Calls.jk_of (Sy.out _) | with_reducible exact Calls.jk_of (Sz.out _))))
  refine wpQuiet_nil ?_
  intro _ hw'
  obtain ⟨kq, rfl⟩ := hw'
  go_wp2_with (first | (go_at_call 24; first | ((with_reducible refine (scmp_c X Y _ (Su.In.mono (by with_reducible assumption) (by decide)) (Su.In.mono (by with_reducible assumption) (by decide))).mono ?_); rintro e w' ⟨rfl, kj, rfl⟩; rw [A1.out]) | ((with_reducible refine (scmp_c Y X _ (Su.In.mono (by with_reducible assumption) (by decide)) (Su.In.mono (by with_reducible assumption) (by decide))).mono ?_); rintro e w' ⟨rfl, kj, rfl⟩; rw [A2.out]) | ((with_reducible refine (scmp_c (X.add Z) (Y.add Z) _ (Su.In.mono (by with_reducible assumption) (by decide)) (Su.In.mono (by with_reducible assumption) (by decide))).mono ?_); rintro e w' ⟨rfl, kj, rfl⟩; rw [A3.out]) | ((with_reducible refine (scmp_c Y Z _ (Su.In.mono (by with_reducible assumption) (by decide)) (Su.In.mono (by with_reducible assumption) (by decide))).mono ?_); rintro e w' ⟨rfl, kj, rfl⟩; rw [A4.out]) | ((with_reducible refine (scmp_c X Z _ (Su.In.mono (by with_reducible assumption) (by decide)) (Su.In.mono (by with_reducible assumption) (by decide))).mono ?_); rintro e w' ⟨rfl, kj, rfl⟩; rw [A5.out])) | (go_at_call 25; refine (sadd_c _ _ _ (Su.In.mono (by with_reducible assumption) (by decide)) (Su.In.mono (by with_reducible assumption) (by decide))).mono ?_; rintro e w' ⟨rfl, kj, rfl⟩))
  go_ret
  refine ⟨rfl, ?_⟩
  repeat' (first | exact Q.refl _ | refine Q.alloc ?_ _ | refine Q.jk ?_ _ | refine Q.drew ?_)

set_option maxHeartbeats 2000000 in
theorem total_gt2 (x y z X Y Z : Su) (w : World) (HX : Hid (smallS x = X)) (HY : Hid (smallS y = Y)) (HZ : Hid (smallS z = Z)) (hX : X.In 1048576) (hY : Y.In 1048576) (hZ : Z.In 1048576) (aY : (X.add Z).In 4000000) (aZ : (Y.add Z).In 4000000) (d h : Int) (A1 : Hid (sgnS (X.sub Y) = 1)) (A2 : Hid (sgnS (Y.sub X) = -1)) (A3 : Hid (sgnS ((X.add Z).sub (Y.add Z)) = 1)) (A4 : Hid (sgnS (Y.sub Z) = d)) (A5 : Hid (sgnS (X.sub Z) = h)) (hne : Su.eqB ⟨X.a, X.b⟩ ⟨Y.a, Y.b⟩ = false) (hd : 0 ≤ d) (hh : 0 ≤ h) :
    Calls Try.prog 5 #[.agg #[.int .i64 x.a, .int .i64 x.b], .agg #[.int .i64 y.a, .int .i64 y.b], .agg #[.int .i64 z.a, .int .i64 z.b]] w fun e w' => e = .returned (.bool true) ∧ Q w w' := by
  have sx : ∀ w, Calls Try.prog 23 #[.agg #[.int .i64 x.a, .int .i64 x.b]] w fun e w' => e = .returned (.agg #[.int .i64 X.a, .int .i64 X.b]) ∧ Q w w' := fun w => by rw [← HX.out]; exact lsmall_any x w
  have Sx := Lib.hid sx
  clear sx
  have sy : ∀ w, Calls Try.prog 23 #[.agg #[.int .i64 y.a, .int .i64 y.b]] w fun e w' => e = .returned (.agg #[.int .i64 Y.a, .int .i64 Y.b]) ∧ Q w w' := fun w => by rw [← HY.out]; exact lsmall_any y w
  have Sy := Lib.hid sy
  clear sy
  have sz : ∀ w, Calls Try.prog 23 #[.agg #[.int .i64 z.a, .int .i64 z.b]] w fun e w' => e = .returned (.agg #[.int .i64 Z.a, .int .i64 Z.b]) ∧ Q w w' := fun w => by rw [← HZ.out]; exact lsmall_any z w
  have Sz := Lib.hid sz
  clear sz
  clear HX HY HZ
  go_enter Try.func5, Try.ntmps5
  go_wp2_with (go_at_call 16; refine (known02 _).mono ?_; rintro e w' ⟨rfl, kj, rfl⟩)
  try simp only [List.append]
  refine wp_region_tail 6 (by kernel_rfl) (by kernel_rfl) ?_
  simp only [List.take_succ_cons, List.take_zero, List.drop_succ_cons, List.drop_zero]
  repeat (go_big_quiet_step ((go_at_call 23; first | with_reducible exact Calls.jk_of (Sx.out _) | with_reducible exact Calls.jk_of (Sy.out _) | with_reducible exact Calls.jk_of (Sz.out _))))
  refine wpQuiet_nil ?_
  intro _ hw'
  obtain ⟨kq, rfl⟩ := hw'
  go_wp2_with (first | (go_at_call 24; first | ((with_reducible refine (scmp_c X Y _ (Su.In.mono (by with_reducible assumption) (by decide)) (Su.In.mono (by with_reducible assumption) (by decide))).mono ?_); rintro e w' ⟨rfl, kj, rfl⟩; rw [A1.out]) | ((with_reducible refine (scmp_c Y X _ (Su.In.mono (by with_reducible assumption) (by decide)) (Su.In.mono (by with_reducible assumption) (by decide))).mono ?_); rintro e w' ⟨rfl, kj, rfl⟩; rw [A2.out]) | ((with_reducible refine (scmp_c (X.add Z) (Y.add Z) _ (Su.In.mono (by with_reducible assumption) (by decide)) (Su.In.mono (by with_reducible assumption) (by decide))).mono ?_); rintro e w' ⟨rfl, kj, rfl⟩; rw [A3.out]) | ((with_reducible refine (scmp_c Y Z _ (Su.In.mono (by with_reducible assumption) (by decide)) (Su.In.mono (by with_reducible assumption) (by decide))).mono ?_); rintro e w' ⟨rfl, kj, rfl⟩; rw [A4.out]) | ((with_reducible refine (scmp_c X Z _ (Su.In.mono (by with_reducible assumption) (by decide)) (Su.In.mono (by with_reducible assumption) (by decide))).mono ?_); rintro e w' ⟨rfl, kj, rfl⟩; rw [A5.out])) | (go_at_call 25; refine (sadd_c _ _ _ (Su.In.mono (by with_reducible assumption) (by decide)) (Su.In.mono (by with_reducible assumption) (by decide))).mono ?_; rintro e w' ⟨rfl, kj, rfl⟩))
  go_ret
  refine ⟨rfl, ?_⟩
  repeat' (first | exact Q.refl _ | refine Q.alloc ?_ _ | refine Q.jk ?_ _ | refine Q.drew ?_)

set_option maxHeartbeats 2000000 in
theorem total_eq1 (x y z X Z : Su) (w : World) (HX : Hid (smallS x = X)) (HY : Hid (smallS y = X)) (HZ : Hid (smallS z = Z)) (hX : X.In 1048576) (hZ : Z.In 1048576) (aY : (X.add Z).In 4000000) (d : Int) (A1 : Hid (sgnS (X.sub X) = 0)) (A3 : Hid (sgnS ((X.add Z).sub (X.add Z)) = 0)) (A4 : Hid (sgnS (X.sub Z) = d)) (hd : d < 0) :
    Calls Try.prog 5 #[.agg #[.int .i64 x.a, .int .i64 x.b], .agg #[.int .i64 y.a, .int .i64 y.b], .agg #[.int .i64 z.a, .int .i64 z.b]] w fun e w' => e = .returned (.bool true) ∧ Q w w' := by
  have sx : ∀ w, Calls Try.prog 23 #[.agg #[.int .i64 x.a, .int .i64 x.b]] w fun e w' => e = .returned (.agg #[.int .i64 X.a, .int .i64 X.b]) ∧ Q w w' := fun w => by rw [← HX.out]; exact lsmall_any x w
  have Sx := Lib.hid sx
  clear sx
  have sy : ∀ w, Calls Try.prog 23 #[.agg #[.int .i64 y.a, .int .i64 y.b]] w fun e w' => e = .returned (.agg #[.int .i64 X.a, .int .i64 X.b]) ∧ Q w w' := fun w => by rw [← HY.out]; exact lsmall_any y w
  have Sy := Lib.hid sy
  clear sy
  have sz : ∀ w, Calls Try.prog 23 #[.agg #[.int .i64 z.a, .int .i64 z.b]] w fun e w' => e = .returned (.agg #[.int .i64 Z.a, .int .i64 Z.b]) ∧ Q w w' := fun w => by rw [← HZ.out]; exact lsmall_any z w
  have Sz := Lib.hid sz
  clear sz
  clear HX HY HZ
  go_enter Try.func5, Try.ntmps5
  go_wp2_with (go_at_call 16; refine (known02 _).mono ?_; rintro e w' ⟨rfl, kj, rfl⟩)
  try simp only [List.append]
  refine wp_region_tail 6 (by kernel_rfl) (by kernel_rfl) ?_
  simp only [List.take_succ_cons, List.take_zero, List.drop_succ_cons, List.drop_zero]
  repeat (go_big_quiet_step ((go_at_call 23; first | with_reducible exact Calls.jk_of (Sx.out _) | with_reducible exact Calls.jk_of (Sy.out _) | with_reducible exact Calls.jk_of (Sz.out _))))
  refine wpQuiet_nil ?_
  intro _ hw'
  obtain ⟨kq, rfl⟩ := hw'
  go_wp2_with (first | (go_at_call 24; first | ((with_reducible refine (scmp_c X X _ (Su.In.mono (by with_reducible assumption) (by decide)) (Su.In.mono (by with_reducible assumption) (by decide))).mono ?_); rintro e w' ⟨rfl, kj, rfl⟩; rw [A1.out]) | ((with_reducible refine (scmp_c (X.add Z) (X.add Z) _ (Su.In.mono (by with_reducible assumption) (by decide)) (Su.In.mono (by with_reducible assumption) (by decide))).mono ?_); rintro e w' ⟨rfl, kj, rfl⟩; rw [A3.out]) | ((with_reducible refine (scmp_c X Z _ (Su.In.mono (by with_reducible assumption) (by decide)) (Su.In.mono (by with_reducible assumption) (by decide))).mono ?_); rintro e w' ⟨rfl, kj, rfl⟩; rw [A4.out])) | (go_at_call 25; refine (sadd_c _ _ _ (Su.In.mono (by with_reducible assumption) (by decide)) (Su.In.mono (by with_reducible assumption) (by decide))).mono ?_; rintro e w' ⟨rfl, kj, rfl⟩))
  go_ret
  refine ⟨rfl, ?_⟩
  repeat' (first | exact Q.refl _ | refine Q.alloc ?_ _ | refine Q.jk ?_ _ | refine Q.drew ?_)

set_option maxHeartbeats 2000000 in
theorem total_eq2 (x y z X Z : Su) (w : World) (HX : Hid (smallS x = X)) (HY : Hid (smallS y = X)) (HZ : Hid (smallS z = Z)) (hX : X.In 1048576) (hZ : Z.In 1048576) (aY : (X.add Z).In 4000000) (d : Int) (A1 : Hid (sgnS (X.sub X) = 0)) (A3 : Hid (sgnS ((X.add Z).sub (X.add Z)) = 0)) (A4 : Hid (sgnS (X.sub Z) = d)) (hd : 0 ≤ d) :
    Calls Try.prog 5 #[.agg #[.int .i64 x.a, .int .i64 x.b], .agg #[.int .i64 y.a, .int .i64 y.b], .agg #[.int .i64 z.a, .int .i64 z.b]] w fun e w' => e = .returned (.bool true) ∧ Q w w' := by
  have sx : ∀ w, Calls Try.prog 23 #[.agg #[.int .i64 x.a, .int .i64 x.b]] w fun e w' => e = .returned (.agg #[.int .i64 X.a, .int .i64 X.b]) ∧ Q w w' := fun w => by rw [← HX.out]; exact lsmall_any x w
  have Sx := Lib.hid sx
  clear sx
  have sy : ∀ w, Calls Try.prog 23 #[.agg #[.int .i64 y.a, .int .i64 y.b]] w fun e w' => e = .returned (.agg #[.int .i64 X.a, .int .i64 X.b]) ∧ Q w w' := fun w => by rw [← HY.out]; exact lsmall_any y w
  have Sy := Lib.hid sy
  clear sy
  have sz : ∀ w, Calls Try.prog 23 #[.agg #[.int .i64 z.a, .int .i64 z.b]] w fun e w' => e = .returned (.agg #[.int .i64 Z.a, .int .i64 Z.b]) ∧ Q w w' := fun w => by rw [← HZ.out]; exact lsmall_any z w
  have Sz := Lib.hid sz
  clear sz
  clear HX HY HZ
  go_enter Try.func5, Try.ntmps5
  go_wp2_with (go_at_call 16; refine (known02 _).mono ?_; rintro e w' ⟨rfl, kj, rfl⟩)
  try simp only [List.append]
  refine wp_region_tail 6 (by kernel_rfl) (by kernel_rfl) ?_
  simp only [List.take_succ_cons, List.take_zero, List.drop_succ_cons, List.drop_zero]
  repeat (go_big_quiet_step ((go_at_call 23; first | with_reducible exact Calls.jk_of (Sx.out _) | with_reducible exact Calls.jk_of (Sy.out _) | with_reducible exact Calls.jk_of (Sz.out _))))
  refine wpQuiet_nil ?_
  intro _ hw'
  obtain ⟨kq, rfl⟩ := hw'
  go_wp2_with (first | (go_at_call 24; first | ((with_reducible refine (scmp_c X X _ (Su.In.mono (by with_reducible assumption) (by decide)) (Su.In.mono (by with_reducible assumption) (by decide))).mono ?_); rintro e w' ⟨rfl, kj, rfl⟩; rw [A1.out]) | ((with_reducible refine (scmp_c (X.add Z) (X.add Z) _ (Su.In.mono (by with_reducible assumption) (by decide)) (Su.In.mono (by with_reducible assumption) (by decide))).mono ?_); rintro e w' ⟨rfl, kj, rfl⟩; rw [A3.out]) | ((with_reducible refine (scmp_c X Z _ (Su.In.mono (by with_reducible assumption) (by decide)) (Su.In.mono (by with_reducible assumption) (by decide))).mono ?_); rintro e w' ⟨rfl, kj, rfl⟩; rw [A4.out])) | (go_at_call 25; refine (sadd_c _ _ _ (Su.In.mono (by with_reducible assumption) (by decide)) (Su.In.mono (by with_reducible assumption) (by decide))).mono ?_; rintro e w' ⟨rfl, kj, rfl⟩))
  go_ret
  refine ⟨rfl, ?_⟩
  repeat' (first | exact Q.refl _ | refine Q.alloc ?_ _ | refine Q.jk ?_ _ | refine Q.drew ?_)

theorem total_true (x y z : Su) (w : World) (_ : (-9223372036854775808 ≤ x.a ∧ x.a ≤ 9223372036854775807) ∧ (-9223372036854775808 ≤ x.b ∧ x.b ≤ 9223372036854775807)) (_ : (-9223372036854775808 ≤ y.a ∧ y.a ≤ 9223372036854775807) ∧ (-9223372036854775808 ≤ y.b ∧ y.b ≤ 9223372036854775807)) (_ : (-9223372036854775808 ≤ z.a ∧ z.a ≤ 9223372036854775807) ∧ (-9223372036854775808 ≤ z.b ∧ z.b ≤ 9223372036854775807)) :
    Calls Try.prog 5 #[.agg #[.int .i64 x.a, .int .i64 x.b], .agg #[.int .i64 y.a, .int .i64 y.b], .agg #[.int .i64 z.a, .int .i64 z.b]] w fun e w' => e = .returned (.bool true) ∧ Q w w' := by
  obtain ⟨X, hXe, hX⟩ : ∃ X, smallS x = X ∧ X.In 1048576 := ⟨_, rfl, smallS_in x⟩
  obtain ⟨Y, hYe, hY⟩ : ∃ X, smallS y = X ∧ X.In 1048576 := ⟨_, rfl, smallS_in y⟩
  obtain ⟨Z, hZe, hZ⟩ : ∃ X, smallS z = X ∧ X.In 1048576 := ⟨_, rfl, smallS_in z⟩
  have e1 : Y.sub X = ⟨-(X.sub Y).a, -(X.sub Y).b⟩ := by apply Su.ext' <;> simp only [Su.sub] <;> omega
  have e2 : (X.add Z).sub (Y.add Z) = X.sub Y := by apply Su.ext' <;> simp only [Su.sub, Su.add] <;> omega
  have e3 : (X.sub Y).add (Y.sub Z) = X.sub Z := by apply Su.ext' <;> simp only [Su.sub, Su.add] <;> omega
  have n1 := sgnS_neg (X.sub Y)
  rw [← e1] at n1
  rcases sgnS_range (X.sub Y) with h | h | h
  · have hne : X ≠ Y := by
      rintro rfl
      have : X.sub X = ⟨0, 0⟩ := by apply Su.ext' <;> simp only [Su.sub] <;> omega
      rw [this] at h
      cases h
    exact total_lt x y z X Y Z w (Lib.hid hXe) (Lib.hid hYe) (Lib.hid hZe) hX hY hZ (su_add_in hX hZ) (su_add_in hY hZ) _ _ (Lib.hid h) (Lib.hid (by omega)) (Lib.hid (by rw [e2]; exact h)) (Lib.hid rfl) (Lib.hid rfl) (Su.eqB_false' hne)
  · have hz := (sgnS_zero _).1 h
    have ea : X.a - Y.a = 0 := congrArg Su.a hz
    have eb : X.b - Y.b = 0 := congrArg Su.b hz
    obtain rfl : X = Y := Su.ext' (by omega) (by omega)
    rcases Int.lt_or_le (sgnS (X.sub Z)) 0 with hd | hd
    · exact total_eq1 x y z X Z w (Lib.hid hXe) (Lib.hid hYe) (Lib.hid hZe) hX hZ (su_add_in hX hZ) _ (Lib.hid h) (Lib.hid (by rw [e2]; exact h)) (Lib.hid rfl) hd
    · exact total_eq2 x y z X Z w (Lib.hid hXe) (Lib.hid hYe) (Lib.hid hZe) hX hZ (su_add_in hX hZ) _ (Lib.hid h) (Lib.hid (by rw [e2]; exact h)) (Lib.hid rfl) hd
  · have hne : X ≠ Y := by
      rintro rfl
      have : X.sub X = ⟨0, 0⟩ := by apply Su.ext' <;> simp only [Su.sub] <;> omega
      rw [this] at h
      cases h
    rcases Int.lt_or_le (sgnS (Y.sub Z)) 0 with hd | hd
    · exact total_gt1 x y z X Y Z w (Lib.hid hXe) (Lib.hid hYe) (Lib.hid hZe) hX hY hZ (su_add_in hX hZ) (su_add_in hY hZ) _ _ (Lib.hid h) (Lib.hid (by omega)) (Lib.hid (by rw [e2]; exact h)) (Lib.hid rfl) (Lib.hid rfl) (Su.eqB_false' hne) hd
    · have hh := sgnS_add (show 0 ≤ sgnS (X.sub Y) by omega) hd
      rw [e3] at hh
      exact total_gt2 x y z X Y Z w (Lib.hid hXe) (Lib.hid hYe) (Lib.hid hZe) hX hY hZ (su_add_in hX hZ) (su_add_in hY hZ) _ _ (Lib.hid h) (Lib.hid (by omega)) (Lib.hid (by rw [e2]; exact h)) (Lib.hid rfl) (Lib.hid rfl) (Su.eqB_false' hne) hd hh
end Go.Proofs.Ytkkjifgcjfbcaaa
