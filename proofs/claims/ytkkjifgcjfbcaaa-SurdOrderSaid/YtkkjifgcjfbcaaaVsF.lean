
/- What Versus of package surd returns. -/
import Derived.Test.YtkkjifgcjfbcaaaVsA
import Derived.Test.YtkkjifgcjfbcaaaPiE
namespace Go.Proofs.Ytkkjifgcjfbcaaa
open Go.RowKit Go.Sub
set_option maxHeartbeats 4000000 in
theorem vers_big1 (x : Su) (j : Int) (y : Su) (k : Int) (w : World) (h4 : wi4 1152921504606846976 x.a x.b y.a y.b = true) (h2 : wi2 1073741824 j k = true)
    (PA : Hid (∀ w, Calls Try.prog 84 #[.int .i64 j, .int .i64 x.a, .int .i64 k, .int .i64 y.a] w fun e w' => e = .returned (.tuple #[.int .i64 0, .bool false]) ∧ Q w w'))
    (PB : Hid (∀ w, Calls Try.prog 84 #[.int .i64 j, .int .i64 x.b, .int .i64 k, .int .i64 y.b] w fun e w' => e = .returned (.tuple #[.int .i64 0, .bool false]) ∧ Q w w')) :
    Calls Try.prog 51 #[.agg #[.int .i64 x.a, .int .i64 x.b], .int .i64 j, .agg #[.int .i64 y.a, .int .i64 y.b], .int .i64 k] w fun e w' => e = .returned (.tuple #[.int .i64 (versS x j y k), .int .i64 0]) ∧ Q w w' := by
  obtain ⟨a1, a2, a3, a4, b1, b2, b3, b4⟩ := (wi4_iff _ _ _ _ _).1 h4
  obtain ⟨j0, j1, k0, k1⟩ := (wi2_iff _ _ _).1 h2
  have Fa := Lib.hid (fun w => far_z j x.a k y.a w (by omega) (by omega) (by omega) (by omega) (by omega) (by omega) (by omega) (by omega))
  have Fb := Lib.hid (fun w => far_z j x.b k y.b w (by omega) (by omega) (by omega) (by omega) (by omega) (by omega) (by omega) (by omega))
  have q1 := bd_mul j0 j1 a1 a2
  have q2 := bd_mul j0 j1 a3 a4
  have q3 := bd_mul k0 k1 b1 b2
  have q4 := bd_mul k0 k1 b3 b4
  have HQ : Hid ((-1267650600228229401496703205376 ≤ j * x.a - k * y.a ∧ j * x.a - k * y.a ≤ 1267650600228229401496703205376) ∧ (-1267650600228229401496703205376 ≤ j * x.b - k * y.b ∧ j * x.b - k * y.b ≤ 1267650600228229401496703205376)) := Lib.hid (by omega)
  unfold versS
  clear q1 q2 q3 q4 a1 a2 a3 a4 b1 b2 b3 b4 j0 j1 k0 k1
  go_enter Try.func51, Try.ntmps51
  go_wp2_with (first | (go_at_call 61; (with_reducible show Calls _ _ #[_, .slice _ 4 _] _ _); refine (swithin4 _ x.a x.b y.a y.b 1152921504606846976 _ (by omega) (by omega) (by simp [go_sem]) (by simp [go_sem]) (by simp [go_sem]) (by simp [go_sem])).mono ?_; rintro e w' ⟨rfl, rfl⟩) | (go_at_call 61; (with_reducible show Calls _ _ #[_, .slice _ 2 _] _ _); refine (swithin2 _ j k 1073741824 _ (by omega) (by omega) (by simp [go_sem]) (by simp [go_sem])).mono ?_; rintro e w' ⟨rfl, rfl⟩) | (go_at_call 84; first | ((with_reducible refine (PA.out _).mono ?_); rintro e w' ⟨rfl, kj, rfl⟩) | ((with_reducible refine (PB.out _).mono ?_); rintro e w' ⟨rfl, kj, rfl⟩)))
  go_region_held3 (fun w' => w'.cell? ⟨w.heap.size, 0, none⟩ = some (.int .i64 x.a) ∧ w'.cell? ⟨w.heap.size, 1, none⟩ = some (.int .i64 x.b) ∧ w'.cell? ⟨w.heap.size + 1, 0, none⟩ = some (.int .i64 y.a) ∧ w'.cell? ⟨w.heap.size + 1, 1, none⟩ = some (.int .i64 y.b)) (simp [go_sem])
    (first
     | (go_at_call 86; first | ((with_reducible refine (Fa.out _).mono ?_); rintro e w' ⟨A1, n1, c1, k1, rfl, rfl, hr1, hf1⟩; have HR1 := Lib.hid hr1; clear hr1 hf1; obtain ⟨nb1, hnb1⟩ : ∃ nb, decide (j * x.a - k * y.a < 0) = nb := ⟨_, rfl⟩; rw [hnb1]; have HB1 := Lib.hid hnb1; clear hnb1) | ((with_reducible refine (Fb.out _).mono ?_); rintro e w' ⟨A2, n2, c2, k2, rfl, rfl, hr2, hf2⟩; have HR2 := Lib.hid hr2; clear hr2 hf2; obtain ⟨nb2, hnb2⟩ : ∃ nb, decide (j * x.b - k * y.b < 0) = nb := ⟨_, rfl⟩; rw [hnb2]; have HB2 := Lib.hid hnb2; clear hnb2))
     | (go_at_call 85; refine (wideSign_z _ _ _ _ (j * x.a - k * y.a) _ _ _ _ (j * x.b - k * y.b) _ HB1.out.symm (HR1.out.q (by repeat' (first | exact Q.refl _ | refine Q.alloc ?_ _ | refine Q.jk ?_ _ | refine Q.drew ?_))) HB2.out.symm (HR2.out.q (by repeat' (first | exact Q.refl _ | refine Q.alloc ?_ _ | refine Q.jk ?_ _ | refine Q.drew ?_))) HQ.out.1.1 HQ.out.1.2 HQ.out.2.1 HQ.out.2.2).mono ?_; rintro e w' ⟨rfl, kj, rfl⟩))
  rename_i hHeld
  clear hHeld
  go_wp2
  go_ret2
  refine ⟨rfl, ?_⟩
  repeat' (first | exact Q.refl _ | refine Q.alloc ?_ _ | refine Q.jk ?_ _ | refine Q.drew ?_)
set_option maxHeartbeats 4000000 in
theorem vers_big2 (x : Su) (j : Int) (y : Su) (k : Int) (w : World) (h4 : wi4 1152921504606846976 x.a x.b y.a y.b = true) (h2 : wi2 1073741824 j k = true)
    (PA : Hid (∀ w, Calls Try.prog 84 #[.int .i64 j, .int .i64 x.a, .int .i64 k, .int .i64 y.a] w fun e w' => e = .returned (.tuple #[.int .i64 0, .bool false]) ∧ Q w w'))
    (PB : Hid (∀ w, Calls Try.prog 84 #[.int .i64 j, .int .i64 x.b, .int .i64 k, .int .i64 y.b] w fun e w' => e = .returned (.tuple #[.int .i64 (j * x.b - k * y.b), .bool true]) ∧ Q w w')) :
    Calls Try.prog 51 #[.agg #[.int .i64 x.a, .int .i64 x.b], .int .i64 j, .agg #[.int .i64 y.a, .int .i64 y.b], .int .i64 k] w fun e w' => e = .returned (.tuple #[.int .i64 (versS x j y k), .int .i64 0]) ∧ Q w w' := by
  obtain ⟨a1, a2, a3, a4, b1, b2, b3, b4⟩ := (wi4_iff _ _ _ _ _).1 h4
  obtain ⟨j0, j1, k0, k1⟩ := (wi2_iff _ _ _).1 h2
  have Fa := Lib.hid (fun w => far_z j x.a k y.a w (by omega) (by omega) (by omega) (by omega) (by omega) (by omega) (by omega) (by omega))
  have Fb := Lib.hid (fun w => far_z j x.b k y.b w (by omega) (by omega) (by omega) (by omega) (by omega) (by omega) (by omega) (by omega))
  have q1 := bd_mul j0 j1 a1 a2
  have q2 := bd_mul j0 j1 a3 a4
  have q3 := bd_mul k0 k1 b1 b2
  have q4 := bd_mul k0 k1 b3 b4
  have HQ : Hid ((-1267650600228229401496703205376 ≤ j * x.a - k * y.a ∧ j * x.a - k * y.a ≤ 1267650600228229401496703205376) ∧ (-1267650600228229401496703205376 ≤ j * x.b - k * y.b ∧ j * x.b - k * y.b ≤ 1267650600228229401496703205376)) := Lib.hid (by omega)
  unfold versS
  clear q1 q2 q3 q4 a1 a2 a3 a4 b1 b2 b3 b4 j0 j1 k0 k1
  go_enter Try.func51, Try.ntmps51
  go_wp2_with (first | (go_at_call 61; (with_reducible show Calls _ _ #[_, .slice _ 4 _] _ _); refine (swithin4 _ x.a x.b y.a y.b 1152921504606846976 _ (by omega) (by omega) (by simp [go_sem]) (by simp [go_sem]) (by simp [go_sem]) (by simp [go_sem])).mono ?_; rintro e w' ⟨rfl, rfl⟩) | (go_at_call 61; (with_reducible show Calls _ _ #[_, .slice _ 2 _] _ _); refine (swithin2 _ j k 1073741824 _ (by omega) (by omega) (by simp [go_sem]) (by simp [go_sem])).mono ?_; rintro e w' ⟨rfl, rfl⟩) | (go_at_call 84; first | ((with_reducible refine (PA.out _).mono ?_); rintro e w' ⟨rfl, kj, rfl⟩) | ((with_reducible refine (PB.out _).mono ?_); rintro e w' ⟨rfl, kj, rfl⟩)))
  go_region_held3 (fun w' => w'.cell? ⟨w.heap.size, 0, none⟩ = some (.int .i64 x.a) ∧ w'.cell? ⟨w.heap.size, 1, none⟩ = some (.int .i64 x.b) ∧ w'.cell? ⟨w.heap.size + 1, 0, none⟩ = some (.int .i64 y.a) ∧ w'.cell? ⟨w.heap.size + 1, 1, none⟩ = some (.int .i64 y.b)) (simp [go_sem])
    (first
     | (go_at_call 86; first | ((with_reducible refine (Fa.out _).mono ?_); rintro e w' ⟨A1, n1, c1, k1, rfl, rfl, hr1, hf1⟩; have HR1 := Lib.hid hr1; clear hr1 hf1; obtain ⟨nb1, hnb1⟩ : ∃ nb, decide (j * x.a - k * y.a < 0) = nb := ⟨_, rfl⟩; rw [hnb1]; have HB1 := Lib.hid hnb1; clear hnb1) | ((with_reducible refine (Fb.out _).mono ?_); rintro e w' ⟨A2, n2, c2, k2, rfl, rfl, hr2, hf2⟩; have HR2 := Lib.hid hr2; clear hr2 hf2; obtain ⟨nb2, hnb2⟩ : ∃ nb, decide (j * x.b - k * y.b < 0) = nb := ⟨_, rfl⟩; rw [hnb2]; have HB2 := Lib.hid hnb2; clear hnb2))
     | (go_at_call 85; refine (wideSign_z _ _ _ _ (j * x.a - k * y.a) _ _ _ _ (j * x.b - k * y.b) _ HB1.out.symm (HR1.out.q (by repeat' (first | exact Q.refl _ | refine Q.alloc ?_ _ | refine Q.jk ?_ _ | refine Q.drew ?_))) HB2.out.symm (HR2.out.q (by repeat' (first | exact Q.refl _ | refine Q.alloc ?_ _ | refine Q.jk ?_ _ | refine Q.drew ?_))) HQ.out.1.1 HQ.out.1.2 HQ.out.2.1 HQ.out.2.2).mono ?_; rintro e w' ⟨rfl, kj, rfl⟩))
  rename_i hHeld
  clear hHeld
  go_wp2
  go_ret2
  refine ⟨rfl, ?_⟩
  repeat' (first | exact Q.refl _ | refine Q.alloc ?_ _ | refine Q.jk ?_ _ | refine Q.drew ?_)
set_option maxHeartbeats 4000000 in
theorem vers_big3 (x : Su) (j : Int) (y : Su) (k : Int) (w : World) (h4 : wi4 1152921504606846976 x.a x.b y.a y.b = true) (h2 : wi2 1073741824 j k = true)
    (PA : Hid (∀ w, Calls Try.prog 84 #[.int .i64 j, .int .i64 x.a, .int .i64 k, .int .i64 y.a] w fun e w' => e = .returned (.tuple #[.int .i64 (j * x.a - k * y.a), .bool true]) ∧ Q w w'))
    (PB : Hid (∀ w, Calls Try.prog 84 #[.int .i64 j, .int .i64 x.b, .int .i64 k, .int .i64 y.b] w fun e w' => e = .returned (.tuple #[.int .i64 0, .bool false]) ∧ Q w w')) :
    Calls Try.prog 51 #[.agg #[.int .i64 x.a, .int .i64 x.b], .int .i64 j, .agg #[.int .i64 y.a, .int .i64 y.b], .int .i64 k] w fun e w' => e = .returned (.tuple #[.int .i64 (versS x j y k), .int .i64 0]) ∧ Q w w' := by
  obtain ⟨a1, a2, a3, a4, b1, b2, b3, b4⟩ := (wi4_iff _ _ _ _ _).1 h4
  obtain ⟨j0, j1, k0, k1⟩ := (wi2_iff _ _ _).1 h2
  have Fa := Lib.hid (fun w => far_z j x.a k y.a w (by omega) (by omega) (by omega) (by omega) (by omega) (by omega) (by omega) (by omega))
  have Fb := Lib.hid (fun w => far_z j x.b k y.b w (by omega) (by omega) (by omega) (by omega) (by omega) (by omega) (by omega) (by omega))
  have q1 := bd_mul j0 j1 a1 a2
  have q2 := bd_mul j0 j1 a3 a4
  have q3 := bd_mul k0 k1 b1 b2
  have q4 := bd_mul k0 k1 b3 b4
  have HQ : Hid ((-1267650600228229401496703205376 ≤ j * x.a - k * y.a ∧ j * x.a - k * y.a ≤ 1267650600228229401496703205376) ∧ (-1267650600228229401496703205376 ≤ j * x.b - k * y.b ∧ j * x.b - k * y.b ≤ 1267650600228229401496703205376)) := Lib.hid (by omega)
  unfold versS
  clear q1 q2 q3 q4 a1 a2 a3 a4 b1 b2 b3 b4 j0 j1 k0 k1
  go_enter Try.func51, Try.ntmps51
  go_wp2_with (first | (go_at_call 61; (with_reducible show Calls _ _ #[_, .slice _ 4 _] _ _); refine (swithin4 _ x.a x.b y.a y.b 1152921504606846976 _ (by omega) (by omega) (by simp [go_sem]) (by simp [go_sem]) (by simp [go_sem]) (by simp [go_sem])).mono ?_; rintro e w' ⟨rfl, rfl⟩) | (go_at_call 61; (with_reducible show Calls _ _ #[_, .slice _ 2 _] _ _); refine (swithin2 _ j k 1073741824 _ (by omega) (by omega) (by simp [go_sem]) (by simp [go_sem])).mono ?_; rintro e w' ⟨rfl, rfl⟩) | (go_at_call 84; first | ((with_reducible refine (PA.out _).mono ?_); rintro e w' ⟨rfl, kj, rfl⟩) | ((with_reducible refine (PB.out _).mono ?_); rintro e w' ⟨rfl, kj, rfl⟩)))
  go_region_held3 (fun w' => w'.cell? ⟨w.heap.size, 0, none⟩ = some (.int .i64 x.a) ∧ w'.cell? ⟨w.heap.size, 1, none⟩ = some (.int .i64 x.b) ∧ w'.cell? ⟨w.heap.size + 1, 0, none⟩ = some (.int .i64 y.a) ∧ w'.cell? ⟨w.heap.size + 1, 1, none⟩ = some (.int .i64 y.b)) (simp [go_sem])
    (first
     | (go_at_call 86; first | ((with_reducible refine (Fa.out _).mono ?_); rintro e w' ⟨A1, n1, c1, k1, rfl, rfl, hr1, hf1⟩; have HR1 := Lib.hid hr1; clear hr1 hf1; obtain ⟨nb1, hnb1⟩ : ∃ nb, decide (j * x.a - k * y.a < 0) = nb := ⟨_, rfl⟩; rw [hnb1]; have HB1 := Lib.hid hnb1; clear hnb1) | ((with_reducible refine (Fb.out _).mono ?_); rintro e w' ⟨A2, n2, c2, k2, rfl, rfl, hr2, hf2⟩; have HR2 := Lib.hid hr2; clear hr2 hf2; obtain ⟨nb2, hnb2⟩ : ∃ nb, decide (j * x.b - k * y.b < 0) = nb := ⟨_, rfl⟩; rw [hnb2]; have HB2 := Lib.hid hnb2; clear hnb2))
     | (go_at_call 85; refine (wideSign_z _ _ _ _ (j * x.a - k * y.a) _ _ _ _ (j * x.b - k * y.b) _ HB1.out.symm (HR1.out.q (by repeat' (first | exact Q.refl _ | refine Q.alloc ?_ _ | refine Q.jk ?_ _ | refine Q.drew ?_))) HB2.out.symm (HR2.out.q (by repeat' (first | exact Q.refl _ | refine Q.alloc ?_ _ | refine Q.jk ?_ _ | refine Q.drew ?_))) HQ.out.1.1 HQ.out.1.2 HQ.out.2.1 HQ.out.2.2).mono ?_; rintro e w' ⟨rfl, kj, rfl⟩))
  rename_i hHeld
  clear hHeld
  go_wp2
  go_ret2
  refine ⟨rfl, ?_⟩
  repeat' (first | exact Q.refl _ | refine Q.alloc ?_ _ | refine Q.jk ?_ _ | refine Q.drew ?_)

theorem vers_ok (x : Su) (j : Int) (y : Su) (k : Int) (w : World) (h4 : wi4 1152921504606846976 x.a x.b y.a y.b = true) (h2 : wi2 1073741824 j k = true) :
    Calls Try.prog 51 #[.agg #[.int .i64 x.a, .int .i64 x.b], .int .i64 j, .agg #[.int .i64 y.a, .int .i64 y.b], .int .i64 k] w fun e w' => e = .returned (.tuple #[.int .i64 (versS x j y k), .int .i64 0]) ∧ Q w w' := by
  obtain ⟨a1, a2, a3, a4, b1, b2, b3, b4⟩ := (wi4_iff _ _ _ _ _).1 h4
  obtain ⟨j0, j1, k0, k1⟩ := (wi2_iff _ _ _).1 h2
  by_cases ha : (-2305843009213693952 ≤ j * x.a ∧ j * x.a ≤ 2305843009213693952) ∧ (-2305843009213693952 ≤ k * y.a ∧ k * y.a ≤ 2305843009213693952)
  · by_cases hb : (-2305843009213693952 ≤ j * x.b ∧ j * x.b ≤ 2305843009213693952) ∧ (-2305843009213693952 ≤ k * y.b ∧ k * y.b ≤ 2305843009213693952)
    · exact vers_c x j y k w ⟨a1, a2, a3, a4⟩ ⟨b1, b2, b3, b4⟩ j0 j1 k0 k1 ⟨ha.1, ha.2, hb.1, hb.2⟩
    · exact vers_big3 x j y k w h4 h2 (Lib.hid fun w => apart_ok j x.a k y.a w (by omega) (by omega) (by omega) (by omega) (by omega) (by omega) (by omega) (by omega) ha.1.1 ha.1.2 ha.2.1 ha.2.2) (Lib.hid fun w => apart_bad j x.b k y.b w (by omega) (by omega) (by omega) (by omega) (by omega) (by omega) (by omega) (by omega) hb)
  · by_cases hb : (-2305843009213693952 ≤ j * x.b ∧ j * x.b ≤ 2305843009213693952) ∧ (-2305843009213693952 ≤ k * y.b ∧ k * y.b ≤ 2305843009213693952)
    · exact vers_big2 x j y k w h4 h2 (Lib.hid fun w => apart_bad j x.a k y.a w (by omega) (by omega) (by omega) (by omega) (by omega) (by omega) (by omega) (by omega) ha) (Lib.hid fun w => apart_ok j x.b k y.b w (by omega) (by omega) (by omega) (by omega) (by omega) (by omega) (by omega) (by omega) hb.1.1 hb.1.2 hb.2.1 hb.2.2)
    · exact vers_big1 x j y k w h4 h2 (Lib.hid fun w => apart_bad j x.a k y.a w (by omega) (by omega) (by omega) (by omega) (by omega) (by omega) (by omega) (by omega) ha) (Lib.hid fun w => apart_bad j x.b k y.b w (by omega) (by omega) (by omega) (by omega) (by omega) (by omega) (by omega) (by omega) hb)
set_option maxHeartbeats 1000000 in
theorem vers_no1 (x : Su) (j : Int) (y : Su) (k : Int) (w : World) (h4 : wi4 1152921504606846976 x.a x.b y.a y.b = false) :
    Calls Try.prog 51 #[.agg #[.int .i64 x.a, .int .i64 x.b], .int .i64 j, .agg #[.int .i64 y.a, .int .i64 y.b], .int .i64 k] w fun e w' => e = .returned (.tuple #[.int .i64 0, .int .i64 1]) ∧ Q w w' := by
  go_enter Try.func51, Try.ntmps51
  go_wp2_with (go_at_call 61; (with_reducible show Calls _ _ #[_, .slice _ 4 _] _ _); refine (swithin4 _ x.a x.b y.a y.b 1152921504606846976 _ (by omega) (by omega) (by simp [go_sem]) (by simp [go_sem]) (by simp [go_sem]) (by simp [go_sem])).mono ?_; rintro e w' ⟨rfl, rfl⟩)
  go_ret2
  refine ⟨rfl, ?_⟩
  repeat' (first | exact Q.refl _ | refine Q.alloc ?_ _ | refine Q.jk ?_ _ | refine Q.drew ?_)
set_option maxHeartbeats 1000000 in
theorem vers_no2 (x : Su) (j : Int) (y : Su) (k : Int) (w : World) (h4 : wi4 1152921504606846976 x.a x.b y.a y.b = true) (h2 : wi2 1073741824 j k = false) :
    Calls Try.prog 51 #[.agg #[.int .i64 x.a, .int .i64 x.b], .int .i64 j, .agg #[.int .i64 y.a, .int .i64 y.b], .int .i64 k] w fun e w' => e = .returned (.tuple #[.int .i64 0, .int .i64 1]) ∧ Q w w' := by
  go_enter Try.func51, Try.ntmps51
  go_wp2_with (first | (go_at_call 61; (with_reducible show Calls _ _ #[_, .slice _ 4 _] _ _); refine (swithin4 _ x.a x.b y.a y.b 1152921504606846976 _ (by omega) (by omega) (by simp [go_sem]) (by simp [go_sem]) (by simp [go_sem]) (by simp [go_sem])).mono ?_; rintro e w' ⟨rfl, rfl⟩) | (go_at_call 61; (with_reducible show Calls _ _ #[_, .slice _ 2 _] _ _); refine (swithin2 _ j k 1073741824 _ (by omega) (by omega) (by simp [go_sem]) (by simp [go_sem])).mono ?_; rintro e w' ⟨rfl, rfl⟩))
  go_ret2
  refine ⟨rfl, ?_⟩
  repeat' (first | exact Q.refl _ | refine Q.alloc ?_ _ | refine Q.jk ?_ _ | refine Q.drew ?_)
theorem vers_any (x : Su) (j : Int) (y : Su) (k : Int) (w : World) :
    Calls Try.prog 51 #[.agg #[.int .i64 x.a, .int .i64 x.b], .int .i64 j, .agg #[.int .i64 y.a, .int .i64 y.b], .int .i64 k] w fun e w' => e = .returned (.tuple #[.int .i64 (versR x j y k).1, .int .i64 (versR x j y k).2]) ∧ Q w w' := by
  cases h4 : wi4 1152921504606846976 x.a x.b y.a y.b
  · have e : versR x j y k = (0, 1) := by simp [versR, h4]
    rw [e]
    exact vers_no1 x j y k w h4
  · cases h2 : wi2 1073741824 j k
    · have e : versR x j y k = (0, 1) := by simp [versR, h2]
      rw [e]
      exact vers_no2 x j y k w h4 h2
    · have e : versR x j y k = (versS x j y k, 0) := by simp [versR, h4, h2]
      rw [e]
      exact vers_ok x j y k w h4 h2
end Go.Proofs.Ytkkjifgcjfbcaaa
