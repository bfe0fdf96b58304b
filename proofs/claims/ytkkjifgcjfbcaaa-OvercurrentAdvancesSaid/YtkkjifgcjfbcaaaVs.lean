
/- What apart and Versus of package surd return where the products are small. -/
import Derived.Test.YtkkjifgcjfbcaaaSuT
import Derived.Test.YtkkjifgcjfbcaaaCmp
namespace Go.Sub
/-- The sign of j*x - k*y. -/
def versS (x : Su) (j : Int) (y : Su) (k : Int) : Int := sgnS ⟨j * x.a - k * y.a, j * x.b - k * y.b⟩
/-- The products are found with small numbers. -/
def VsSmall (x : Su) (j : Int) (y : Su) (k : Int) : Prop := (-2305843009213693952 ≤ j * x.a ∧ j * x.a ≤ 2305843009213693952) ∧ (-2305843009213693952 ≤ k * y.a ∧ k * y.a ≤ 2305843009213693952) ∧ (-2305843009213693952 ≤ j * x.b ∧ j * x.b ≤ 2305843009213693952) ∧ (-2305843009213693952 ≤ k * y.b ∧ k * y.b ≤ 2305843009213693952)
theorem VsSmall.of {x y : Su} {j k l m : Int} (hx : x.In l) (hy : y.In l) (h1 : -m ≤ j) (h2 : j ≤ m) (h3 : -m ≤ k) (h4 : k ≤ m) (hb : m * l ≤ 2305843009213693952) : VsSmall x j y k := by
  obtain ⟨a1, a2, a3, a4⟩ := hx
  obtain ⟨b1, b2, b3, b4⟩ := hy
  have p1 := bd_mul h1 h2 a1 a2
  have p2 := bd_mul h3 h4 b1 b2
  have p3 := bd_mul h1 h2 a3 a4
  have p4 := bd_mul h3 h4 b3 b4
  unfold VsSmall
  omega
end Go.Sub
namespace Go.Proofs.Ytkkjifgcjfbcaaa
open Go.RowKit Go.Sub
set_option maxHeartbeats 1000000 in
theorem apart_ok (j a k b : Int) (w : World) (j0 : -1152921504606846976 ≤ j) (j1 : j ≤ 1152921504606846976) (a0 : -1152921504606846976 ≤ a) (a1 : a ≤ 1152921504606846976) (k0 : -1152921504606846976 ≤ k) (k1 : k ≤ 1152921504606846976) (b0 : -1152921504606846976 ≤ b) (b1 : b ≤ 1152921504606846976) (p0 : -2305843009213693952 ≤ j * a) (p1 : j * a ≤ 2305843009213693952) (q0 : -2305843009213693952 ≤ k * b) (q1 : k * b ≤ 2305843009213693952) :
    Calls Try.prog 84 #[.int .i64 j, .int .i64 a, .int .i64 k, .int .i64 b] w fun e w' => e = .returned (.tuple #[.int .i64 (j * a - k * b), .bool true]) ∧ Q w w' := by
  have hta := fun w => times_ok j a w (by omega) (by omega) (by omega) (by omega) (by omega) (by omega)
  have htb := fun w => times_ok k b w (by omega) (by omega) (by omega) (by omega) (by omega) (by omega)
  have HA := Lib.hid hta
  have HB := Lib.hid htb
  clear hta htb
  have hw : wi2 2305843009213693952 (j * a) (k * b) = true := (wi2_iff _ _ _).2 (by omega)
  go_enter Try.func84, Try.ntmps84
  go_wp2_with (first | (go_at_call 65; first | ((with_reducible refine (HA.out _).mono ?_); rintro e w' ⟨rfl, rfl⟩) | ((with_reducible refine (HB.out _).mono ?_); rintro e w' ⟨rfl, rfl⟩)) | (go_at_call 61; (with_reducible show Calls _ _ #[_, .slice _ 2 _] _ _); refine (swithin2 _ (j * a) (k * b) 2305843009213693952 _ (by omega) (by omega) (by simp [go_sem]) (by simp [go_sem])).mono ?_; rintro e w' ⟨rfl, rfl⟩))
  go_ret2
  refine ⟨rfl, ?_⟩
  repeat' (first | exact Q.refl _ | refine Q.alloc ?_ _ | refine Q.jk ?_ _ | refine Q.drew ?_)
set_option maxHeartbeats 2000000 in
theorem vers_c (x : Su) (j : Int) (y : Su) (k : Int) (w : World) (hx : x.In 1152921504606846976) (hy : y.In 1152921504606846976) (j0 : -1073741824 ≤ j) (j1 : j ≤ 1073741824) (k0 : -1073741824 ≤ k) (k1 : k ≤ 1073741824) (hs : VsSmall x j y k) :
    Calls Try.prog 51 #[.agg #[.int .i64 x.a, .int .i64 x.b], .int .i64 j, .agg #[.int .i64 y.a, .int .i64 y.b], .int .i64 k] w fun e w' => e = .returned (.tuple #[.int .i64 (versS x j y k), .int .i64 0]) ∧ Q w w' := by
  obtain ⟨a1, a2, a3, a4⟩ := hx
  obtain ⟨b1, b2, b3, b4⟩ := hy
  obtain ⟨⟨s1, s2⟩, ⟨s3, s4⟩, ⟨s5, s6⟩, s7, s8⟩ := hs
  have h4 : wi4 1152921504606846976 x.a x.b y.a y.b = true := (wi4_iff _ _ _ _ _).2 (by omega)
  have h2 : wi2 1073741824 j k = true := (wi2_iff _ _ _).2 (by omega)
  have hpa := fun w => apart_ok j x.a k y.a w (by omega) (by omega) (by omega) (by omega) (by omega) (by omega) (by omega) (by omega) s1 s2 s3 s4
  have hpb := fun w => apart_ok j x.b k y.b w (by omega) (by omega) (by omega) (by omega) (by omega) (by omega) (by omega) (by omega) s5 s6 s7 s8
  have HA := Lib.hid hpa
  have HB := Lib.hid hpb
  have HS := Lib.hid (fun w => sgnS_any (j * x.a - k * y.a) (j * x.b - k * y.b) w (by omega) (by omega) (by omega) (by omega))
  clear hpa hpb s1 s2 s3 s4 s5 s6 s7 s8
  unfold versS
  go_enter Try.func51, Try.ntmps51
  go_wp2_with (first | (go_at_call 61; (with_reducible show Calls _ _ #[_, .slice _ 4 _] _ _); refine (swithin4 _ x.a x.b y.a y.b 1152921504606846976 _ (by omega) (by omega) (by simp [go_sem]) (by simp [go_sem]) (by simp [go_sem]) (by simp [go_sem])).mono ?_; rintro e w' ⟨rfl, rfl⟩) | (go_at_call 61; (with_reducible show Calls _ _ #[_, .slice _ 2 _] _ _); refine (swithin2 _ j k 1073741824 _ (by omega) (by omega) (by simp [go_sem]) (by simp [go_sem])).mono ?_; rintro e w' ⟨rfl, rfl⟩) | (go_at_call 84; first | ((with_reducible refine (HA.out _).mono ?_); rintro e w' ⟨rfl, kj, rfl⟩) | ((with_reducible refine (HB.out _).mono ?_); rintro e w' ⟨rfl, kj, rfl⟩)) | (go_at_call 17; (with_reducible refine (HS.out _).mono ?_); rintro e w' ⟨rfl, kj, rfl⟩))
  go_ret2
  refine ⟨rfl, ?_⟩
  repeat' (first | exact Q.refl _ | refine Q.alloc ?_ _ | refine Q.jk ?_ _ | refine Q.drew ?_)
end Go.Proofs.Ytkkjifgcjfbcaaa
