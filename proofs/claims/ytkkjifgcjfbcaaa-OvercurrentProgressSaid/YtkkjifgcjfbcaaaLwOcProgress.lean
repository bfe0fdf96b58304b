
/- OvercurrentProgress: the walk. -/
import Derived.Test.YtkkjifgcjfbcaaaOcC
namespace Go.Proofs.Ytkkjifgcjfbcaaa
open Go.RowKit Go.Sub
set_option maxHeartbeats 4000000 in
theorem progress_up (g0 : Int) (x y z : Cy) (k1 k2 : Int) (X Y Z : Cy) (p d g n : Int) (w : World)
    (SM : Hid (∀ w, Calls Try.prog 44 #[.agg #[.int .i64 x.a, .int .i64 x.b, .int .i64 x.c, .int .i64 x.d, .int .i64 y.a, .int .i64 y.b, .int .i64 y.c, .int .i64 y.d, .int .i64 z.a, .int .i64 z.b, .int .i64 z.c, .int .i64 z.d]] w fun e w' => e = .returned (.agg #[.int .i64 X.a, .int .i64 X.b, .int .i64 X.c, .int .i64 X.d, .int .i64 Y.a, .int .i64 Y.b, .int .i64 Y.c, .int .i64 Y.d, .int .i64 Z.a, .int .i64 Z.b, .int .i64 Z.c, .int .i64 Z.d]) ∧ Q w w'))
    (ST : Hid (∀ w, Calls Try.prog 45 #[.agg #[.int .i64 k1, .int .i64 k2]] w fun e w' => e = .returned (.tuple #[.int .i64 p, .int .i64 d]) ∧ Q w w'))
    (WT : Hid (∀ w, Calls Try.prog 46 #[.int .i64 g0, .int .i64 549755813888] w fun e w' => e = .returned (.int .i64 g) ∧ w = w'))
    (AD : Hid (∀ w, Calls Try.prog 40 #[.int .i64 g, .agg #[.int .i64 X.a, .int .i64 X.b, .int .i64 X.c, .int .i64 X.d, .int .i64 Y.a, .int .i64 Y.b, .int .i64 Y.c, .int .i64 Y.d, .int .i64 Z.a, .int .i64 Z.b, .int .i64 Z.c, .int .i64 Z.d], .int .i64 p, .int .i64 d] w fun e w' => e = .returned (.tuple #[.int .i64 n, .bool (decide (1000 * d ≤ n)), .int .i64 0]) ∧ Q w w'))
    (AB : Hid (∀ w, Calls Try.prog 36 #[.agg #[.int .i64 X.a, .int .i64 X.b, .int .i64 X.c, .int .i64 X.d, .int .i64 Y.a, .int .i64 Y.b, .int .i64 Y.c, .int .i64 Y.d, .int .i64 Z.a, .int .i64 Z.b, .int .i64 Z.c, .int .i64 Z.d], .int .i64 p] w fun e w' => e = .returned (.tuple #[.bool true, .int .i64 0]) ∧ Q w w'))
    (d0 : 1 ≤ d) (d1 : d ≤ 1000) (g1 : 0 ≤ g) (g2 : g < 549755813888) (n0 : g < n) (n1 : n ≤ g + 40000) :
    Calls Try.prog 11 #[.int .i64 g0, .agg #[.int .i64 x.a, .int .i64 x.b, .int .i64 x.c, .int .i64 x.d, .int .i64 y.a, .int .i64 y.b, .int .i64 y.c, .int .i64 y.d, .int .i64 z.a, .int .i64 z.b, .int .i64 z.c, .int .i64 z.d], .agg #[.int .i64 k1, .int .i64 k2]] w fun e w' => e = .returned (.bool true) ∧ Q w w' := by
  go_enter Try.func11, Try.ntmps11
  go_wp2_with (first | (go_at_call 33; refine (known24 _).mono ?_; rintro e w' ⟨rfl, kj, rfl⟩) | (go_at_call 44; refine (SM.out _).mono ?_; rintro e w' ⟨rfl, kj, rfl⟩) | (go_at_call 45; refine (ST.out _).mono ?_; rintro e w' ⟨rfl, kj, rfl⟩) | (go_at_call 46; refine (WT.out _).mono ?_; rintro e w' ⟨rfl, rfl⟩) | (go_at_call 40; refine (AD.out _).mono ?_; rintro e w' ⟨rfl, kj, rfl⟩) | (go_at_call 36; refine (AB.out _).mono ?_; rintro e w' ⟨rfl, kj, rfl⟩))
  go_ret
  refine ⟨rfl, ?_⟩
  repeat' (first | exact Q.refl _ | refine Q.alloc ?_ _ | refine Q.jk ?_ _ | refine Q.drew ?_)
set_option maxHeartbeats 4000000 in
theorem progress_no (g0 : Int) (x y z : Cy) (k1 k2 : Int) (X Y Z : Cy) (p d g : Int) (w : World)
    (SM : Hid (∀ w, Calls Try.prog 44 #[.agg #[.int .i64 x.a, .int .i64 x.b, .int .i64 x.c, .int .i64 x.d, .int .i64 y.a, .int .i64 y.b, .int .i64 y.c, .int .i64 y.d, .int .i64 z.a, .int .i64 z.b, .int .i64 z.c, .int .i64 z.d]] w fun e w' => e = .returned (.agg #[.int .i64 X.a, .int .i64 X.b, .int .i64 X.c, .int .i64 X.d, .int .i64 Y.a, .int .i64 Y.b, .int .i64 Y.c, .int .i64 Y.d, .int .i64 Z.a, .int .i64 Z.b, .int .i64 Z.c, .int .i64 Z.d]) ∧ Q w w'))
    (ST : Hid (∀ w, Calls Try.prog 45 #[.agg #[.int .i64 k1, .int .i64 k2]] w fun e w' => e = .returned (.tuple #[.int .i64 p, .int .i64 d]) ∧ Q w w'))
    (WT : Hid (∀ w, Calls Try.prog 46 #[.int .i64 g0, .int .i64 549755813888] w fun e w' => e = .returned (.int .i64 g) ∧ w = w'))
    (AD : Hid (∀ w, Calls Try.prog 40 #[.int .i64 g, .agg #[.int .i64 X.a, .int .i64 X.b, .int .i64 X.c, .int .i64 X.d, .int .i64 Y.a, .int .i64 Y.b, .int .i64 Y.c, .int .i64 Y.d, .int .i64 Z.a, .int .i64 Z.b, .int .i64 Z.c, .int .i64 Z.d], .int .i64 p, .int .i64 d] w fun e w' => e = .returned (.tuple #[.int .i64 (max (g - 50) 0), .bool (decide (1000 * d ≤ max (g - 50) 0)), .int .i64 0]) ∧ Q w w'))
    (AB : Hid (∀ w, Calls Try.prog 36 #[.agg #[.int .i64 X.a, .int .i64 X.b, .int .i64 X.c, .int .i64 X.d, .int .i64 Y.a, .int .i64 Y.b, .int .i64 Y.c, .int .i64 Y.d, .int .i64 Z.a, .int .i64 Z.b, .int .i64 Z.c, .int .i64 Z.d], .int .i64 p] w fun e w' => e = .returned (.tuple #[.bool false, .int .i64 0]) ∧ Q w w'))
    (d0 : 1 ≤ d) (d1 : d ≤ 1000) (g1 : 0 ≤ g) (g2 : g < 549755813888)  :
    Calls Try.prog 11 #[.int .i64 g0, .agg #[.int .i64 x.a, .int .i64 x.b, .int .i64 x.c, .int .i64 x.d, .int .i64 y.a, .int .i64 y.b, .int .i64 y.c, .int .i64 y.d, .int .i64 z.a, .int .i64 z.b, .int .i64 z.c, .int .i64 z.d], .agg #[.int .i64 k1, .int .i64 k2]] w fun e w' => e = .returned (.bool true) ∧ Q w w' := by
  go_enter Try.func11, Try.ntmps11
  go_wp2_with (first | (go_at_call 33; refine (known24 _).mono ?_; rintro e w' ⟨rfl, kj, rfl⟩) | (go_at_call 44; refine (SM.out _).mono ?_; rintro e w' ⟨rfl, kj, rfl⟩) | (go_at_call 45; refine (ST.out _).mono ?_; rintro e w' ⟨rfl, kj, rfl⟩) | (go_at_call 46; refine (WT.out _).mono ?_; rintro e w' ⟨rfl, rfl⟩) | (go_at_call 40; refine (AD.out _).mono ?_; rintro e w' ⟨rfl, kj, rfl⟩) | (go_at_call 36; refine (AB.out _).mono ?_; rintro e w' ⟨rfl, kj, rfl⟩))
  go_ret
  refine ⟨rfl, ?_⟩
  repeat' (first | exact Q.refl _ | refine Q.alloc ?_ _ | refine Q.jk ?_ _ | refine Q.drew ?_)

theorem progress_true (g0 : Int) (x y z : Cy) (k1 k2 : Int) (w : World) (_ : -9223372036854775808 ≤ g0 ∧ g0 ≤ 9223372036854775807) :
    Calls Try.prog 11 #[.int .i64 g0, .agg #[.int .i64 x.a, .int .i64 x.b, .int .i64 x.c, .int .i64 x.d, .int .i64 y.a, .int .i64 y.b, .int .i64 y.c, .int .i64 y.d, .int .i64 z.a, .int .i64 z.b, .int .i64 z.c, .int .i64 z.d], .agg #[.int .i64 k1, .int .i64 k2]] w fun e w' => e = .returned (.bool true) ∧ Q w w' := by
  have hx := small3_in x
  have hy := small3_in y
  have hz := small3_in z
  have r := rateI_bd (small3 x) (small3 y) (small3 z) (1 + k1 % 2000)
  cases hu : upB (small3 x) (small3 y) (small3 z) (1 + k1 % 2000)
  · exact progress_no g0 x y z k1 k2 _ _ _ _ _ _ w (Lib.hid fun w => small3_c x y z w) (Lib.hid fun w => settings24_any k1 k2 w) (Lib.hid fun w => within24_any g0 549755813888 w (by decide) (by decide))
      (Lib.hid fun w => advance_no (g0 % 549755813888) _ _ _ (1 + k1 % 2000) (1 + k2 % 3) w hx hy hz (by omega) (by omega) (by omega) (by omega) (by omega) (by omega) hu)
      (Lib.hid fun w => by have h := ocabove_c _ _ _ (1 + k1 % 2000) w hx hy hz (by omega) (by omega); unfold upB at hu; rw [hu] at h; exact h) (by omega) (by omega) (by omega) (by omega)
  · exact progress_up g0 x y z k1 k2 _ _ _ _ _ _ _ w (Lib.hid fun w => small3_c x y z w) (Lib.hid fun w => settings24_any k1 k2 w) (Lib.hid fun w => within24_any g0 549755813888 w (by decide) (by decide))
      (Lib.hid fun w => advance_up (g0 % 549755813888) _ _ _ (1 + k1 % 2000) (1 + k2 % 3) w hx hy hz (by omega) (by omega) (by omega) (by omega) (by omega) (by omega) hu)
      (Lib.hid fun w => by have h := ocabove_c _ _ _ (1 + k1 % 2000) w hx hy hz (by omega) (by omega); unfold upB at hu; rw [hu] at h; exact h) (by omega) (by omega) (by omega) (by omega) (by omega) (by omega)
end Go.Proofs.Ytkkjifgcjfbcaaa
