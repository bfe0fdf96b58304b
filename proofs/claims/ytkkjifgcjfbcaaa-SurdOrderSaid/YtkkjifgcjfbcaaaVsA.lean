
/- What apart of package surd returns where the products are not small. -/
import Derived.Test.YtkkjifgcjfbcaaaVs
namespace Go.Proofs.Ytkkjifgcjfbcaaa
open Go.RowKit Go.Sub
set_option maxHeartbeats 1000000 in
theorem apart_no1 (j a k b : Int) (w : World) (j0 : -1152921504606846976 ≤ j) (j1 : j ≤ 1152921504606846976) (a0 : -1152921504606846976 ≤ a) (a1 : a ≤ 1152921504606846976) (k0 : -1152921504606846976 ≤ k) (k1 : k ≤ 1152921504606846976) (b0 : -1152921504606846976 ≤ b) (b1 : b ≤ 1152921504606846976) (pa : ¬ (-4611686018427387904 ≤ j * a ∧ j * a ≤ 4611686018427387904)) (pb : -4611686018427387904 ≤ k * b ∧ k * b ≤ 4611686018427387904) :
    Calls Try.prog 84 #[.int .i64 j, .int .i64 a, .int .i64 k, .int .i64 b] w fun e w' => e = .returned (.tuple #[.int .i64 0, .bool false]) ∧ Q w w' := by
  have HA := Lib.hid (fun w => times_no j a w (by omega) (by omega) (by omega) (by omega) pa)
  have HB := Lib.hid (fun w => times_ok k b w (by omega) (by omega) (by omega) (by omega) pb.1 pb.2)
  clear pa pb
  go_enter Try.func84, Try.ntmps84
  go_wp2_with (go_at_call 65; first | ((with_reducible refine (HA.out _).mono ?_); rintro e w' ⟨rfl, rfl⟩) | ((with_reducible refine (HB.out _).mono ?_); rintro e w' ⟨rfl, rfl⟩))
  go_ret2
  refine ⟨rfl, ?_⟩
  repeat' (first | exact Q.refl _ | refine Q.alloc ?_ _ | refine Q.jk ?_ _ | refine Q.drew ?_)
set_option maxHeartbeats 1000000 in
theorem apart_no2 (j a k b : Int) (w : World) (j0 : -1152921504606846976 ≤ j) (j1 : j ≤ 1152921504606846976) (a0 : -1152921504606846976 ≤ a) (a1 : a ≤ 1152921504606846976) (k0 : -1152921504606846976 ≤ k) (k1 : k ≤ 1152921504606846976) (b0 : -1152921504606846976 ≤ b) (b1 : b ≤ 1152921504606846976) (pa : ¬ (-4611686018427387904 ≤ j * a ∧ j * a ≤ 4611686018427387904)) (pb : ¬ (-4611686018427387904 ≤ k * b ∧ k * b ≤ 4611686018427387904)) :
    Calls Try.prog 84 #[.int .i64 j, .int .i64 a, .int .i64 k, .int .i64 b] w fun e w' => e = .returned (.tuple #[.int .i64 0, .bool false]) ∧ Q w w' := by
  have HA := Lib.hid (fun w => times_no j a w (by omega) (by omega) (by omega) (by omega) pa)
  have HB := Lib.hid (fun w => times_no k b w (by omega) (by omega) (by omega) (by omega) pb)
  clear pa pb
  go_enter Try.func84, Try.ntmps84
  go_wp2_with (go_at_call 65; first | ((with_reducible refine (HA.out _).mono ?_); rintro e w' ⟨rfl, rfl⟩) | ((with_reducible refine (HB.out _).mono ?_); rintro e w' ⟨rfl, rfl⟩))
  go_ret2
  refine ⟨rfl, ?_⟩
  repeat' (first | exact Q.refl _ | refine Q.alloc ?_ _ | refine Q.jk ?_ _ | refine Q.drew ?_)
set_option maxHeartbeats 1000000 in
theorem apart_no3 (j a k b : Int) (w : World) (j0 : -1152921504606846976 ≤ j) (j1 : j ≤ 1152921504606846976) (a0 : -1152921504606846976 ≤ a) (a1 : a ≤ 1152921504606846976) (k0 : -1152921504606846976 ≤ k) (k1 : k ≤ 1152921504606846976) (b0 : -1152921504606846976 ≤ b) (b1 : b ≤ 1152921504606846976) (pa : -4611686018427387904 ≤ j * a ∧ j * a ≤ 4611686018427387904) (pb : ¬ (-4611686018427387904 ≤ k * b ∧ k * b ≤ 4611686018427387904)) :
    Calls Try.prog 84 #[.int .i64 j, .int .i64 a, .int .i64 k, .int .i64 b] w fun e w' => e = .returned (.tuple #[.int .i64 0, .bool false]) ∧ Q w w' := by
  have HA := Lib.hid (fun w => times_ok j a w (by omega) (by omega) (by omega) (by omega) pa.1 pa.2)
  have HB := Lib.hid (fun w => times_no k b w (by omega) (by omega) (by omega) (by omega) pb)
  clear pa pb
  go_enter Try.func84, Try.ntmps84
  go_wp2_with (go_at_call 65; first | ((with_reducible refine (HA.out _).mono ?_); rintro e w' ⟨rfl, rfl⟩) | ((with_reducible refine (HB.out _).mono ?_); rintro e w' ⟨rfl, rfl⟩))
  go_ret2
  refine ⟨rfl, ?_⟩
  repeat' (first | exact Q.refl _ | refine Q.alloc ?_ _ | refine Q.jk ?_ _ | refine Q.drew ?_)
set_option maxHeartbeats 1000000 in
theorem apart_no4 (j a k b : Int) (w : World) (j0 : -1152921504606846976 ≤ j) (j1 : j ≤ 1152921504606846976) (a0 : -1152921504606846976 ≤ a) (a1 : a ≤ 1152921504606846976) (k0 : -1152921504606846976 ≤ k) (k1 : k ≤ 1152921504606846976) (b0 : -1152921504606846976 ≤ b) (b1 : b ≤ 1152921504606846976) (pa : -4611686018427387904 ≤ j * a ∧ j * a ≤ 4611686018427387904) (pb : -4611686018427387904 ≤ k * b ∧ k * b ≤ 4611686018427387904) (hw : wi2 2305843009213693952 (j * a) (k * b) = false) :
    Calls Try.prog 84 #[.int .i64 j, .int .i64 a, .int .i64 k, .int .i64 b] w fun e w' => e = .returned (.tuple #[.int .i64 0, .bool false]) ∧ Q w w' := by
  have HA := Lib.hid (fun w => times_ok j a w (by omega) (by omega) (by omega) (by omega) pa.1 pa.2)
  have HB := Lib.hid (fun w => times_ok k b w (by omega) (by omega) (by omega) (by omega) pb.1 pb.2)
  clear pa pb
  go_enter Try.func84, Try.ntmps84
  go_wp2_with (first | (go_at_call 65; first | ((with_reducible refine (HA.out _).mono ?_); rintro e w' ⟨rfl, rfl⟩) | ((with_reducible refine (HB.out _).mono ?_); rintro e w' ⟨rfl, rfl⟩)) | (go_at_call 61; (with_reducible show Calls _ _ #[_, .slice _ 2 _] _ _); refine (swithin2 _ (j * a) (k * b) 2305843009213693952 _ (by omega) (by omega) (by simp [go_sem]) (by simp [go_sem])).mono ?_; rintro e w' ⟨rfl, rfl⟩))
  go_ret2
  refine ⟨rfl, ?_⟩
  repeat' (first | exact Q.refl _ | refine Q.alloc ?_ _ | refine Q.jk ?_ _ | refine Q.drew ?_)

theorem apart_bad (j a k b : Int) (w : World) (j0 : -1152921504606846976 ≤ j) (j1 : j ≤ 1152921504606846976) (a0 : -1152921504606846976 ≤ a) (a1 : a ≤ 1152921504606846976) (k0 : -1152921504606846976 ≤ k) (k1 : k ≤ 1152921504606846976) (b0 : -1152921504606846976 ≤ b) (b1 : b ≤ 1152921504606846976) (h : ¬ ((-2305843009213693952 ≤ j * a ∧ j * a ≤ 2305843009213693952) ∧ (-2305843009213693952 ≤ k * b ∧ k * b ≤ 2305843009213693952))) :
    Calls Try.prog 84 #[.int .i64 j, .int .i64 a, .int .i64 k, .int .i64 b] w fun e w' => e = .returned (.tuple #[.int .i64 0, .bool false]) ∧ Q w w' := by
  by_cases pa : -4611686018427387904 ≤ j * a ∧ j * a ≤ 4611686018427387904
  · by_cases pb : -4611686018427387904 ≤ k * b ∧ k * b ≤ 4611686018427387904
    · refine apart_no4 j a k b w j0 j1 a0 a1 k0 k1 b0 b1 pa pb ?_
      cases e : wi2 2305843009213693952 (j * a) (k * b)
      · rfl
      · have := (wi2_iff _ _ _).1 e
        exact absurd ⟨⟨this.1, this.2.1⟩, this.2.2⟩ h
    · exact apart_no3 j a k b w j0 j1 a0 a1 k0 k1 b0 b1 pa pb
  · by_cases pb : -4611686018427387904 ≤ k * b ∧ k * b ≤ 4611686018427387904
    · exact apart_no1 j a k b w j0 j1 a0 a1 k0 k1 b0 b1 pa pb
    · exact apart_no2 j a k b w j0 j1 a0 a1 k0 k1 b0 b1 pa pb
end Go.Proofs.Ytkkjifgcjfbcaaa
