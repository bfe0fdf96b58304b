
/- OvercurrentSteps: the walk. -/
import Derived.Test.YtkkjifgcjfbcaaaOcM
namespace Go.Proofs.Ytkkjifgcjfbcaaa
open Go.RowKit Go.Sub
set_option maxHeartbeats 4000000 in
theorem ocsteps_no (x y z : Cy) (k1 k2 : Int) (X Y Z : Cy) (p d : Int)  (w : World)
    (SM : Hid (∀ w, Calls Try.prog 44 #[.agg #[.int .i64 x.a, .int .i64 x.b, .int .i64 x.c, .int .i64 x.d, .int .i64 y.a, .int .i64 y.b, .int .i64 y.c, .int .i64 y.d, .int .i64 z.a, .int .i64 z.b, .int .i64 z.c, .int .i64 z.d]] w fun e w' => e = .returned (.agg #[.int .i64 X.a, .int .i64 X.b, .int .i64 X.c, .int .i64 X.d, .int .i64 Y.a, .int .i64 Y.b, .int .i64 Y.c, .int .i64 Y.d, .int .i64 Z.a, .int .i64 Z.b, .int .i64 Z.c, .int .i64 Z.d]) ∧ Q w w'))
    (ST : Hid (∀ w, Calls Try.prog 45 #[.agg #[.int .i64 k1, .int .i64 k2]] w fun e w' => e = .returned (.tuple #[.int .i64 p, .int .i64 d]) ∧ Q w w'))
    (d0 : 1 ≤ d) (d1 : d ≤ 3) (SP : Hid (∀ w, Calls Try.prog 42 #[.agg #[.int .i64 X.a, .int .i64 X.b, .int .i64 X.c, .int .i64 X.d, .int .i64 Y.a, .int .i64 Y.b, .int .i64 Y.c, .int .i64 Y.d, .int .i64 Z.a, .int .i64 Z.b, .int .i64 Z.c, .int .i64 Z.d], .int .i64 p, .int .i64 d] w fun e w' => e = .returned (.tuple #[.int .i64 0, .bool false, .int .i64 0]) ∧ Q w w')) (AD : Hid (∀ w, Calls Try.prog 40 #[.int .i64 0, .agg #[.int .i64 X.a, .int .i64 X.b, .int .i64 X.c, .int .i64 X.d, .int .i64 Y.a, .int .i64 Y.b, .int .i64 Y.c, .int .i64 Y.d, .int .i64 Z.a, .int .i64 Z.b, .int .i64 Z.c, .int .i64 Z.d], .int .i64 p, .int .i64 d] w fun e w' => e = .returned (.tuple #[.int .i64 0, .bool false, .int .i64 0]) ∧ Q w w')) :
    Calls Try.prog 10 #[.agg #[.int .i64 x.a, .int .i64 x.b, .int .i64 x.c, .int .i64 x.d, .int .i64 y.a, .int .i64 y.b, .int .i64 y.c, .int .i64 y.d, .int .i64 z.a, .int .i64 z.b, .int .i64 z.c, .int .i64 z.d], .agg #[.int .i64 k1, .int .i64 k2]] w fun e w' => e = .returned (.bool true) ∧ Q w w' := by
  go_enter Try.func10, Try.ntmps10
  go_wp2_with (first | (go_at_call 33; refine (known24 _).mono ?_; rintro e w' ⟨rfl, kj, rfl⟩) | (go_at_call 44; refine (SM.out _).mono ?_; rintro e w' ⟨rfl, kj, rfl⟩) | (go_at_call 45; refine (ST.out _).mono ?_; rintro e w' ⟨rfl, kj, rfl⟩) | (go_at_call 42; refine (SP.out _).mono ?_; rintro e w' ⟨rfl, kj, rfl⟩))
  go_loopw [10, 11, 12] (fun s10 s11 s12 wr => ∃ i : Nat, s10 = .int .i64 0 ∧ s11 = .int .i64 0 ∧ s12 = .int .i64 i ∧ 1 ≤ i ∧ i ≤ 50 ∧ Q (w.alloc (.cells #[.int .i64 X.a, .int .i64 X.b, .int .i64 X.c, .int .i64 X.d, .int .i64 Y.a, .int .i64 Y.b, .int .i64 Y.c, .int .i64 Y.d, .int .i64 Z.a, .int .i64 Z.b, .int .i64 Z.c, .int .i64 Z.d] 41)) wr) (fun _ _ i _ => 50 - (intOf i).toNat)
  case atStart => exact ⟨1, rfl, rfl, rfl, by omega, by omega, by repeat' (first | exact Q.refl _ | refine Q.alloc ?_ _ | refine Q.jk ?_ _ | refine Q.drew ?_)⟩
  case round =>
    obtain ⟨i, rfl, rfl, rfl, i0, i1, kw, rfl⟩ := hrel
    have hi : (i : Int) ≤ 1000 * d := by omega
    by_cases hlt : i < 50
    · go_wp2_with (go_at_call 40; refine (AD.out _).mono ?_; rintro e w' ⟨rfl, kj, rfl⟩)
      go_roundw
      case rel => exact ⟨i + 1, rfl, rfl, by go_num, by omega, by omega, by repeat' (first | exact Q.refl _ | refine Q.alloc ?_ _ | refine Q.jk ?_ _ | refine Q.drew ?_)⟩
      case measure => simp [intOf]; omega
    · go_wp2
      go_ret
      refine ⟨rfl, ?_⟩
      repeat' (first | exact Q.refl _ | refine Q.alloc ?_ _ | refine Q.jk ?_ _ | refine Q.drew ?_)
set_option maxHeartbeats 4000000 in
theorem ocsteps_up (x y z : Cy) (k1 k2 : Int) (X Y Z : Cy) (p d : Int) (n r : Int) (w : World)
    (SM : Hid (∀ w, Calls Try.prog 44 #[.agg #[.int .i64 x.a, .int .i64 x.b, .int .i64 x.c, .int .i64 x.d, .int .i64 y.a, .int .i64 y.b, .int .i64 y.c, .int .i64 y.d, .int .i64 z.a, .int .i64 z.b, .int .i64 z.c, .int .i64 z.d]] w fun e w' => e = .returned (.agg #[.int .i64 X.a, .int .i64 X.b, .int .i64 X.c, .int .i64 X.d, .int .i64 Y.a, .int .i64 Y.b, .int .i64 Y.c, .int .i64 Y.d, .int .i64 Z.a, .int .i64 Z.b, .int .i64 Z.c, .int .i64 Z.d]) ∧ Q w w'))
    (ST : Hid (∀ w, Calls Try.prog 45 #[.agg #[.int .i64 k1, .int .i64 k2]] w fun e w' => e = .returned (.tuple #[.int .i64 p, .int .i64 d]) ∧ Q w w'))
    (d0 : 1 ≤ d) (d1 : d ≤ 3) (SP : Hid (∀ w, Calls Try.prog 42 #[.agg #[.int .i64 X.a, .int .i64 X.b, .int .i64 X.c, .int .i64 X.d, .int .i64 Y.a, .int .i64 Y.b, .int .i64 Y.c, .int .i64 Y.d, .int .i64 Z.a, .int .i64 Z.b, .int .i64 Z.c, .int .i64 Z.d], .int .i64 p, .int .i64 d] w fun e w' => e = .returned (.tuple #[.int .i64 n, .bool true, .int .i64 0]) ∧ Q w w')) (AD : Hid (∀ i : Nat, (i : Int) < n → ∀ w, Calls Try.prog 40 #[.int .i64 (i * r), .agg #[.int .i64 X.a, .int .i64 X.b, .int .i64 X.c, .int .i64 X.d, .int .i64 Y.a, .int .i64 Y.b, .int .i64 Y.c, .int .i64 Y.d, .int .i64 Z.a, .int .i64 Z.b, .int .i64 Z.c, .int .i64 Z.d], .int .i64 p, .int .i64 d] w fun e w' => e = .returned (.tuple #[.int .i64 ((i + 1) * r), .bool (decide (n ≤ i + 1)), .int .i64 0]) ∧ Q w w')) (n0 : 1 ≤ n) (n1 : n ≤ 1000 * d) (_ : 1 ≤ r) (_ : r ≤ 40000) :
    Calls Try.prog 10 #[.agg #[.int .i64 x.a, .int .i64 x.b, .int .i64 x.c, .int .i64 x.d, .int .i64 y.a, .int .i64 y.b, .int .i64 y.c, .int .i64 y.d, .int .i64 z.a, .int .i64 z.b, .int .i64 z.c, .int .i64 z.d], .agg #[.int .i64 k1, .int .i64 k2]] w fun e w' => e = .returned (.bool true) ∧ Q w w' := by
  go_enter Try.func10, Try.ntmps10
  go_wp2_with (first | (go_at_call 33; refine (known24 _).mono ?_; rintro e w' ⟨rfl, kj, rfl⟩) | (go_at_call 44; refine (SM.out _).mono ?_; rintro e w' ⟨rfl, kj, rfl⟩) | (go_at_call 45; refine (ST.out _).mono ?_; rintro e w' ⟨rfl, kj, rfl⟩) | (go_at_call 42; refine (SP.out _).mono ?_; rintro e w' ⟨rfl, kj, rfl⟩))
  go_loopw [10, 11, 12] (fun s10 s11 s12 wr => ∃ i : Nat, s12 = .int .i64 ((i : Int) + 1) ∧ s10 = .int .i64 (i * r) ∧ (((i : Int) < n ∧ s11 = .int .i64 0) ∨ ((i : Int) = n ∧ s11 = .int .i64 n)) ∧ Q (w.alloc (.cells #[.int .i64 X.a, .int .i64 X.b, .int .i64 X.c, .int .i64 X.d, .int .i64 Y.a, .int .i64 Y.b, .int .i64 Y.c, .int .i64 Y.d, .int .i64 Z.a, .int .i64 Z.b, .int .i64 Z.c, .int .i64 Z.d] 41)) wr) (fun _ _ i _ => 4000 - (intOf i).toNat)
  case atStart => exact ⟨0, rfl, by simp, .inl ⟨by omega, rfl⟩, by repeat' (first | exact Q.refl _ | refine Q.alloc ?_ _ | refine Q.jk ?_ _ | refine Q.drew ?_)⟩
  case round =>
    obtain ⟨i, rfl, rfl, hcase, kw, rfl⟩ := hrel
    rcases hcase with ⟨hlt, rfl⟩ | ⟨heq, rfl⟩
    · have AI := Lib.hid (AD.out i hlt)
      by_cases hl : (i : Int) + 1 < n
      · have e : decide (n ≤ (i : Int) + 1) = false := by simp; omega
        rw [e] at AI
        clear e
        go_wp2_with (go_at_call 40; refine (AI.out _).mono ?_; rintro e w' ⟨rfl, kj, rfl⟩)
        go_roundw
        case rel => exact ⟨i + 1, by go_num, by simp, .inl ⟨by omega, rfl⟩, by repeat' (first | exact Q.refl _ | refine Q.alloc ?_ _ | refine Q.jk ?_ _ | refine Q.drew ?_)⟩
        case measure => simp [intOf]; omega
      · have e : decide (n ≤ (i : Int) + 1) = true := by simp; omega
        rw [e] at AI
        clear e
        have EN : Hid (n = (i : Int) + 1) := Lib.hid (by omega)
        go_wp2_with (go_at_call 40; refine (AI.out _).mono ?_; rintro e w' ⟨rfl, kj, rfl⟩)
        go_roundw
        case rel => exact ⟨i + 1, by go_num, by simp, .inr ⟨by have := EN.out; omega, by rw [EN.out]⟩, by repeat' (first | exact Q.refl _ | refine Q.alloc ?_ _ | refine Q.jk ?_ _ | refine Q.drew ?_)⟩
        case measure => simp [intOf]; omega
    · have hz : (n == 0) = false := by simp; omega
      have hn0 : 0 < n := by omega
      go_wp2
      all_goals
        go_ret
        refine ⟨rfl, ?_⟩
        repeat' (first | exact Q.refl _ | refine Q.alloc ?_ _ | refine Q.jk ?_ _ | refine Q.drew ?_)
theorem ocsteps_true (x y z : Cy) (k1 k2 : Int) (w : World) :
    Calls Try.prog 10 #[.agg #[.int .i64 x.a, .int .i64 x.b, .int .i64 x.c, .int .i64 x.d, .int .i64 y.a, .int .i64 y.b, .int .i64 y.c, .int .i64 y.d, .int .i64 z.a, .int .i64 z.b, .int .i64 z.c, .int .i64 z.d], .agg #[.int .i64 k1, .int .i64 k2]] w fun e w' => e = .returned (.bool true) ∧ Q w w' := by
  have hx := small3_in x
  have hy := small3_in y
  have hz := small3_in z
  obtain ⟨r0, r1⟩ := rateI_bd (small3 x) (small3 y) (small3 z) (1 + k1 % 2000)
  cases hu : upB (small3 x) (small3 y) (small3 z) (1 + k1 % 2000)
  · refine ocsteps_no x y z k1 k2 _ _ _ _ _ w (Lib.hid fun w => small3_c x y z w) (Lib.hid fun w => settings24_any k1 k2 w) (by omega) (by omega)
      (Lib.hid fun w => steps_no _ _ _ (1 + k1 % 2000) (1 + k2 % 3) w hx hy hz (by omega) (by omega) (by omega) (by omega) hu) (Lib.hid fun w => ?_)
    have h := advance_no 0 _ _ _ (1 + k1 % 2000) (1 + k2 % 3) w hx hy hz (by omega) (by omega) (by omega) (by omega) (by omega) (by omega) hu
    rw [show max ((0 : Int) - 50) 0 = 0 by decide, show decide (1000 * (1 + k2 % 3) ≤ 0) = false by simp; omega] at h
    exact h
  · obtain ⟨r, hr⟩ : ∃ r, rateI (small3 x) (small3 y) (small3 z) (1 + k1 % 2000) = r := ⟨_, rfl⟩
    rw [hr] at r0 r1
    have key := fun i => ceil_step (m := 1000 * (1 + k2 % 3)) r0 i
    refine ocsteps_up x y z k1 k2 _ _ _ _ _ ((1000 * (1 + k2 % 3) + r - 1) / r) r w (Lib.hid fun w => small3_c x y z w) (Lib.hid fun w => settings24_any k1 k2 w) (by omega) (by omega)
      (Lib.hid fun w => ?_) (Lib.hid fun i hi w => ?_) ?_ ?_ r0 r1
    · have h := steps_up _ _ _ (1 + k1 % 2000) (1 + k2 % 3) w hx hy hz (by omega) (by omega) (by omega) (by omega) hu
      rw [hr] at h
      exact h
    · have hb : (i : Int) * r < 1000 * (1 + k2 % 3) := by
        rcases Int.lt_or_le ((i : Int) * r) (1000 * (1 + k2 % 3)) with h | h
        · exact h
        · have := (key ((i : Int) - 1)).1 (by rw [Int.sub_add_cancel]; exact h)
          omega
      have hb0 : 0 ≤ (i : Int) * r := Int.mul_nonneg (by omega) (by omega)
      have h := advance_up ((i : Int) * r) _ _ _ (1 + k1 % 2000) (1 + k2 % 3) w hx hy hz hb0 (by omega) (by omega) (by omega) (by omega) (by omega) hu
      have e1 : ((i : Int) + 1) * r = (i : Int) * r + r := by rw [Int.add_mul, Int.one_mul]
      rw [hr, show min ((i : Int) * r + r) 1099511627776 = ((i : Int) + 1) * r by omega] at h
      rw [show decide (1000 * (1 + k2 % 3) ≤ ((i : Int) + 1) * r) = decide ((1000 * (1 + k2 % 3) + r - 1) / r ≤ (i : Int) + 1) from decide_eq_decide.2 (key i)] at h
      exact h
    · rw [Int.le_ediv_iff_mul_le (by omega)]
      omega
    · have := (key (1000 * (1 + k2 % 3) - 1)).1 (by
        rw [Int.sub_add_cancel]
        have := Int.mul_le_mul_of_nonneg_left r0 (show 0 ≤ 1000 * (1 + k2 % 3) by omega)
        omega)
      omega
end Go.Proofs.Ytkkjifgcjfbcaaa
