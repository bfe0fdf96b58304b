
/- SurdVersus: the walk. -/
import Derived.Test.YtkkjifgcjfbcaaaSuN
import Derived.Test.YtkkjifgcjfbcaaaFl
import Derived.Test.YtkkjifgcjfbcaaaVs
namespace Go.Sub
theorem versS_pos {x y : Su} {k : Int} (hk : 0 < k) : versS x k y k = sgnS (x.sub y) := by
  unfold versS
  rw [← Int.mul_sub, ← Int.mul_sub]
  exact sgnS_smul (x := x.sub y) hk
end Go.Sub
namespace Go.Proofs.Ytkkjifgcjfbcaaa
open Go.RowKit Go.Sub
set_option maxHeartbeats 2000000 in
theorem versus_core (x y X Y : Su) (n m a : Int) (w : World) (HX : Hid (smallS x = X)) (HY : Hid (smallS y = Y)) (HN : Hid (n % 1073741824 = m)) (m0 : 0 ≤ m) (m1 : m < 1073741824) (ha : a = -1 ∨ a = 0 ∨ a = 1)
    (CM : Hid (∀ w, Calls Try.prog 24 #[.agg #[.int .i64 X.a, .int .i64 X.b], .agg #[.int .i64 Y.a, .int .i64 Y.b]] w fun e w' => e = .returned (.tuple #[.int .i64 a, .int .i64 0]) ∧ Q w w'))
    (V1 : Hid (∀ w, Calls Try.prog 51 #[.agg #[.int .i64 X.a, .int .i64 X.b], .int .i64 1, .agg #[.int .i64 Y.a, .int .i64 Y.b], .int .i64 1] w fun e w' => e = .returned (.tuple #[.int .i64 a, .int .i64 0]) ∧ Q w w')) (V2 : Hid (∀ w, Calls Try.prog 51 #[.agg #[.int .i64 X.a, .int .i64 X.b], .int .i64 (1 + m), .agg #[.int .i64 Y.a, .int .i64 Y.b], .int .i64 (1 + m)] w fun e w' => e = .returned (.tuple #[.int .i64 a, .int .i64 0]) ∧ Q w w')) (V3 : Hid (∀ w, Calls Try.prog 51 #[.agg #[.int .i64 Y.a, .int .i64 Y.b], .int .i64 (1 + m), .agg #[.int .i64 X.a, .int .i64 X.b], .int .i64 (1 + m)] w fun e w' => e = .returned (.tuple #[.int .i64 (-a), .int .i64 0]) ∧ Q w w')) :
    Calls Try.prog 15 #[.agg #[.int .i64 x.a, .int .i64 x.b], .agg #[.int .i64 y.a, .int .i64 y.b], .int .i64 n] w fun e w' => e = .returned (.bool true) ∧ Q w w' := by
  have sx : ∀ w, Calls Try.prog 23 #[.agg #[.int .i64 x.a, .int .i64 x.b]] w fun e w' => e = .returned (.agg #[.int .i64 X.a, .int .i64 X.b]) ∧ Q w w' := fun w => by rw [← HX.out]; exact lsmall_any x w
  have Sx := Lib.hid sx
  clear sx
  have sy : ∀ w, Calls Try.prog 23 #[.agg #[.int .i64 y.a, .int .i64 y.b]] w fun e w' => e = .returned (.agg #[.int .i64 Y.a, .int .i64 Y.b]) ∧ Q w w' := fun w => by rw [← HY.out]; exact lsmall_any y w
  have Sy := Lib.hid sy
  clear sy
  clear HX HY
  rcases ha with rfl | rfl | rfl
  all_goals
    go_enter Try.func15, Try.ntmps15
    go_wp2_with (go_at_call 16; refine (known02 _).mono ?_; rintro e w' ⟨rfl, kj, rfl⟩)
    try simp only [List.append]
    refine wp_region_tail 4 (by kernel_rfl) (by kernel_rfl) ?_
    simp only [List.take_succ_cons, List.take_zero, List.drop_succ_cons, List.drop_zero]
    repeat (go_big_quiet_step ((go_at_call 23; first | with_reducible exact Calls.jk_of (Sx.out _) | with_reducible exact Calls.jk_of (Sy.out _))))
    refine wpQuiet_nil ?_
    intro _ hw'
    obtain ⟨kq, rfl⟩ := hw'
    go_wp2_with (first | (go_at_call 53; refine (lwithin_any n 1073741824 _ (by omega) (by omega)).mono ?_; rintro e w' ⟨rfl, rfl⟩; rw [HN.out]) | (go_at_call 24; (with_reducible refine (CM.out _).mono ?_); rintro e w' ⟨rfl, kj, rfl⟩) | (go_at_call 51; first | ((with_reducible refine (V1.out _).mono ?_); rintro e w' ⟨rfl, kj, rfl⟩) | ((with_reducible refine (V2.out _).mono ?_); rintro e w' ⟨rfl, kj, rfl⟩) | ((with_reducible refine (V3.out _).mono ?_); rintro e w' ⟨rfl, kj, rfl⟩)))
    go_ret
    refine ⟨rfl, ?_⟩
    repeat' (first | exact Q.refl _ | refine Q.alloc ?_ _ | refine Q.jk ?_ _ | refine Q.drew ?_)
theorem versus_true (x y : Su) (n : Int) (w : World) (_ : (-9223372036854775808 ≤ x.a ∧ x.a ≤ 9223372036854775807) ∧ (-9223372036854775808 ≤ x.b ∧ x.b ≤ 9223372036854775807)) (_ : (-9223372036854775808 ≤ y.a ∧ y.a ≤ 9223372036854775807) ∧ (-9223372036854775808 ≤ y.b ∧ y.b ≤ 9223372036854775807)) (_ : -9223372036854775808 ≤ n ∧ n ≤ 9223372036854775807) :
    Calls Try.prog 15 #[.agg #[.int .i64 x.a, .int .i64 x.b], .agg #[.int .i64 y.a, .int .i64 y.b], .int .i64 n] w fun e w' => e = .returned (.bool true) ∧ Q w w' := by
  have hX := smallS_in x
  have hY := smallS_in y
  have m0 : 0 ≤ n % 1073741824 := by omega
  have m1 : n % 1073741824 < 1073741824 := by omega
  refine versus_core x y _ _ n _ (sgnS ((smallS x).sub (smallS y))) w (Lib.hid rfl) (Lib.hid rfl) (Lib.hid rfl) m0 m1 (sgnS_range _) (Lib.hid fun w => scmp_c _ _ w (hX.mono (by decide)) (hY.mono (by decide))) (Lib.hid fun w => ?_) (Lib.hid fun w => ?_) (Lib.hid fun w => ?_)
  · have h := vers_c (smallS x) 1 (smallS y) 1 w (hX.mono (by decide)) (hY.mono (by decide)) (by decide) (by decide) (by decide) (by decide) (VsSmall.of hX hY (m := 1) (by decide) (by decide) (by decide) (by decide) (by decide))
    rwa [versS_pos (by decide)] at h
  · have h := vers_c (smallS x) (1 + n % 1073741824) (smallS y) (1 + n % 1073741824) w (hX.mono (by decide)) (hY.mono (by decide)) (by omega) (by omega) (by omega) (by omega) (VsSmall.of hX hY (m := 1073741824) (by omega) (by omega) (by omega) (by omega) (by decide))
    rwa [versS_pos (by omega)] at h
  · have h := vers_c (smallS y) (1 + n % 1073741824) (smallS x) (1 + n % 1073741824) w (hY.mono (by decide)) (hX.mono (by decide)) (by omega) (by omega) (by omega) (by omega) (VsSmall.of hY hX (m := 1073741824) (by omega) (by omega) (by omega) (by omega) (by decide))
    rw [versS_pos (by omega)] at h
    have e : (smallS y).sub (smallS x) = ⟨-((smallS x).sub (smallS y)).a, -((smallS x).sub (smallS y)).b⟩ := by apply Su.ext' <;> simp only [Su.sub] <;> omega
    rw [e, sgnS_neg] at h
    exact h
end Go.Proofs.Ytkkjifgcjfbcaaa
