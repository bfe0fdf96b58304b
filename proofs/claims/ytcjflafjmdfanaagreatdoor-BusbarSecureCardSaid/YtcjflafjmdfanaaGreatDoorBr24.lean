
/- What distorted and operates of package busbar return. -/
import Derived.Test.YtcjflafjmdfanaaGreatDoorBr20
import Derived.Test.YtcjflafjmdfanaaGreatDoorBr23
import Derived.Test.YtcjflafjmdfanaaGreatDoorBr18
import Derived.Test.YtcjflafjmdfanaaGreatDoorBr19
set_option linter.unusedSimpArgs false
set_option linter.unusedVariables false
/- What Versus of package surd returns. -/
namespace Go.Proofs.YtcjflafjmdfanaaGreatDoor
open Go.RowKit Go.Sub
set_option maxHeartbeats 4000000 in
theorem vers_big1 (x : Su) (j : Int) (y : Su) (k : Int) (w : World) (h4 : wi4 1152921504606846976 x.a x.b y.a y.b = true) (h2 : wi2 1073741824 j k = true)
    (PA : Hid (∀ w, Calls Tryz.prog 135 #[.int .i64 j, .int .i64 x.a, .int .i64 k, .int .i64 y.a] w fun e w' => e = .returned (.tuple #[.int .i64 0, .bool false]) ∧ Q w w'))
    (PB : Hid (∀ w, Calls Tryz.prog 135 #[.int .i64 j, .int .i64 x.b, .int .i64 k, .int .i64 y.b] w fun e w' => e = .returned (.tuple #[.int .i64 0, .bool false]) ∧ Q w w')) :
    Calls Tryz.prog 105 #[.agg #[.int .i64 x.a, .int .i64 x.b], .int .i64 j, .agg #[.int .i64 y.a, .int .i64 y.b], .int .i64 k] w fun e w' => e = .returned (.tuple #[.int .i64 (versS x j y k), .int .i64 0]) ∧ Q w w' := by
  obtain ⟨a1, a2, a3, a4, b1, b2, b3, b4⟩ := (wi4_iff _ _ _ _ _).1 h4
  obtain ⟨j0, j1, k0, k1⟩ := (wi2_iff _ _ _).1 h2
  have Fa := Lib.hid (fun w => far_z j x.a k y.a w (by omega) (by omega) (by omega) (by omega) (by omega) (by omega) (by omega) (by omega))
  have Fb := Lib.hid (fun w => far_z j x.b k y.b w (by omega) (by omega) (by omega) (by omega) (by omega) (by omega) (by omega) (by omega))
  have q1 := bd_mul j0 j1 a1 a2
  have q2 := bd_mul j0 j1 a3 a4
  have q3 := bd_mul k0 k1 b1 b2
  have q4 := bd_mul k0 k1 b3 b4
  have HQ : Hid ((-1267650600228229401496703205376 ≤ j * x.a - k * y.a ∧ j * x.a - k * y.a ≤ 1267650600228229401496703205376) ∧ (-1267650600228229401496703205376 ≤ j * x.b - k * y.b ∧ j * x.b - k * y.b ≤ 1267650600228229401496703205376)) := Lib.hid (by omega)
  unfold versS
  clear q1 q2 q3 q4 a1 a2 a3 a4 b1 b2 b3 b4 j0 j1 k0 k1
  go_enter Tryz.func105, Tryz.ntmps105
  go_wp2_with (first | (go_at_call 133; (with_reducible show Calls _ _ #[_, .slice _ 4 _] _ _); refine (swithin4 _ x.a x.b y.a y.b 1152921504606846976 _ (by omega) (by omega) (by simp [go_sem]) (by simp [go_sem]) (by simp [go_sem]) (by simp [go_sem])).mono ?_; rintro e w' ⟨rfl, rfl⟩) | (go_at_call 133; (with_reducible show Calls _ _ #[_, .slice _ 2 _] _ _); refine (swithin2 _ j k 1073741824 _ (by omega) (by omega) (by simp [go_sem]) (by simp [go_sem])).mono ?_; rintro e w' ⟨rfl, rfl⟩) | (go_at_call 135; first | ((with_reducible refine (PA.out _).mono ?_); rintro e w' ⟨rfl, kj, rfl⟩) | ((with_reducible refine (PB.out _).mono ?_); rintro e w' ⟨rfl, kj, rfl⟩)))
  go_region_held3 (fun w' => w'.cell? ⟨w.heap.size, 0, none⟩ = some (.int .i64 x.a) ∧ w'.cell? ⟨w.heap.size, 1, none⟩ = some (.int .i64 x.b) ∧ w'.cell? ⟨w.heap.size + 1, 0, none⟩ = some (.int .i64 y.a) ∧ w'.cell? ⟨w.heap.size + 1, 1, none⟩ = some (.int .i64 y.b)) (simp [go_sem])
    (first
     | (go_at_call 137; first | ((with_reducible refine (Fa.out _).mono ?_); rintro e w' ⟨A1, n1, c1, k1, rfl, rfl, hr1, hf1⟩; have HR1 := Lib.hid hr1; clear hr1 hf1; obtain ⟨nb1, hnb1⟩ : ∃ nb, decide (j * x.a - k * y.a < 0) = nb := ⟨_, rfl⟩; rw [hnb1]; have HB1 := Lib.hid hnb1; clear hnb1) | ((with_reducible refine (Fb.out _).mono ?_); rintro e w' ⟨A2, n2, c2, k2, rfl, rfl, hr2, hf2⟩; have HR2 := Lib.hid hr2; clear hr2 hf2; obtain ⟨nb2, hnb2⟩ : ∃ nb, decide (j * x.b - k * y.b < 0) = nb := ⟨_, rfl⟩; rw [hnb2]; have HB2 := Lib.hid hnb2; clear hnb2))
     | (go_at_call 136; refine (wideSign_z _ _ _ _ (j * x.a - k * y.a) _ _ _ _ (j * x.b - k * y.b) _ HB1.out.symm (HR1.out.q (by repeat' (first | exact Q.refl _ | refine Q.alloc ?_ _ | refine Q.jk ?_ _ | refine Q.drew ?_))) HB2.out.symm (HR2.out.q (by repeat' (first | exact Q.refl _ | refine Q.alloc ?_ _ | refine Q.jk ?_ _ | refine Q.drew ?_))) HQ.out.1.1 HQ.out.1.2 HQ.out.2.1 HQ.out.2.2).mono ?_; rintro e w' ⟨rfl, kj, rfl⟩))
  rename_i hHeld
  clear hHeld
  go_wp2
  go_ret2
  refine ⟨rfl, ?_⟩
  repeat' (first | exact Q.refl _ | refine Q.alloc ?_ _ | refine Q.jk ?_ _ | refine Q.drew ?_)
set_option maxHeartbeats 4000000 in
theorem vers_big2 (x : Su) (j : Int) (y : Su) (k : Int) (w : World) (h4 : wi4 1152921504606846976 x.a x.b y.a y.b = true) (h2 : wi2 1073741824 j k = true)
    (PA : Hid (∀ w, Calls Tryz.prog 135 #[.int .i64 j, .int .i64 x.a, .int .i64 k, .int .i64 y.a] w fun e w' => e = .returned (.tuple #[.int .i64 0, .bool false]) ∧ Q w w'))
    (PB : Hid (∀ w, Calls Tryz.prog 135 #[.int .i64 j, .int .i64 x.b, .int .i64 k, .int .i64 y.b] w fun e w' => e = .returned (.tuple #[.int .i64 (j * x.b - k * y.b), .bool true]) ∧ Q w w')) :
    Calls Tryz.prog 105 #[.agg #[.int .i64 x.a, .int .i64 x.b], .int .i64 j, .agg #[.int .i64 y.a, .int .i64 y.b], .int .i64 k] w fun e w' => e = .returned (.tuple #[.int .i64 (versS x j y k), .int .i64 0]) ∧ Q w w' := by
  obtain ⟨a1, a2, a3, a4, b1, b2, b3, b4⟩ := (wi4_iff _ _ _ _ _).1 h4
  obtain ⟨j0, j1, k0, k1⟩ := (wi2_iff _ _ _).1 h2
  have Fa := Lib.hid (fun w => far_z j x.a k y.a w (by omega) (by omega) (by omega) (by omega) (by omega) (by omega) (by omega) (by omega))
  have Fb := Lib.hid (fun w => far_z j x.b k y.b w (by omega) (by omega) (by omega) (by omega) (by omega) (by omega) (by omega) (by omega))
  have q1 := bd_mul j0 j1 a1 a2
  have q2 := bd_mul j0 j1 a3 a4
  have q3 := bd_mul k0 k1 b1 b2
  have q4 := bd_mul k0 k1 b3 b4
  have HQ : Hid ((-1267650600228229401496703205376 ≤ j * x.a - k * y.a ∧ j * x.a - k * y.a ≤ 1267650600228229401496703205376) ∧ (-1267650600228229401496703205376 ≤ j * x.b - k * y.b ∧ j * x.b - k * y.b ≤ 1267650600228229401496703205376)) := Lib.hid (by omega)
  unfold versS
  clear q1 q2 q3 q4 a1 a2 a3 a4 b1 b2 b3 b4 j0 j1 k0 k1
  go_enter Tryz.func105, Tryz.ntmps105
  go_wp2_with (first | (go_at_call 133; (with_reducible show Calls _ _ #[_, .slice _ 4 _] _ _); refine (swithin4 _ x.a x.b y.a y.b 1152921504606846976 _ (by omega) (by omega) (by simp [go_sem]) (by simp [go_sem]) (by simp [go_sem]) (by simp [go_sem])).mono ?_; rintro e w' ⟨rfl, rfl⟩) | (go_at_call 133; (with_reducible show Calls _ _ #[_, .slice _ 2 _] _ _); refine (swithin2 _ j k 1073741824 _ (by omega) (by omega) (by simp [go_sem]) (by simp [go_sem])).mono ?_; rintro e w' ⟨rfl, rfl⟩) | (go_at_call 135; first | ((with_reducible refine (PA.out _).mono ?_); rintro e w' ⟨rfl, kj, rfl⟩) | ((with_reducible refine (PB.out _).mono ?_); rintro e w' ⟨rfl, kj, rfl⟩)))
  go_region_held3 (fun w' => w'.cell? ⟨w.heap.size, 0, none⟩ = some (.int .i64 x.a) ∧ w'.cell? ⟨w.heap.size, 1, none⟩ = some (.int .i64 x.b) ∧ w'.cell? ⟨w.heap.size + 1, 0, none⟩ = some (.int .i64 y.a) ∧ w'.cell? ⟨w.heap.size + 1, 1, none⟩ = some (.int .i64 y.b)) (simp [go_sem])
    (first
     | (go_at_call 137; first | ((with_reducible refine (Fa.out _).mono ?_); rintro e w' ⟨A1, n1, c1, k1, rfl, rfl, hr1, hf1⟩; have HR1 := Lib.hid hr1; clear hr1 hf1; obtain ⟨nb1, hnb1⟩ : ∃ nb, decide (j * x.a - k * y.a < 0) = nb := ⟨_, rfl⟩; rw [hnb1]; have HB1 := Lib.hid hnb1; clear hnb1) | ((with_reducible refine (Fb.out _).mono ?_); rintro e w' ⟨A2, n2, c2, k2, rfl, rfl, hr2, hf2⟩; have HR2 := Lib.hid hr2; clear hr2 hf2; obtain ⟨nb2, hnb2⟩ : ∃ nb, decide (j * x.b - k * y.b < 0) = nb := ⟨_, rfl⟩; rw [hnb2]; have HB2 := Lib.hid hnb2; clear hnb2))
     | (go_at_call 136; refine (wideSign_z _ _ _ _ (j * x.a - k * y.a) _ _ _ _ (j * x.b - k * y.b) _ HB1.out.symm (HR1.out.q (by repeat' (first | exact Q.refl _ | refine Q.alloc ?_ _ | refine Q.jk ?_ _ | refine Q.drew ?_))) HB2.out.symm (HR2.out.q (by repeat' (first | exact Q.refl _ | refine Q.alloc ?_ _ | refine Q.jk ?_ _ | refine Q.drew ?_))) HQ.out.1.1 HQ.out.1.2 HQ.out.2.1 HQ.out.2.2).mono ?_; rintro e w' ⟨rfl, kj, rfl⟩))
  rename_i hHeld
  clear hHeld
  go_wp2
  go_ret2
  refine ⟨rfl, ?_⟩
  repeat' (first | exact Q.refl _ | refine Q.alloc ?_ _ | refine Q.jk ?_ _ | refine Q.drew ?_)
set_option maxHeartbeats 4000000 in
theorem vers_big3 (x : Su) (j : Int) (y : Su) (k : Int) (w : World) (h4 : wi4 1152921504606846976 x.a x.b y.a y.b = true) (h2 : wi2 1073741824 j k = true)
    (PA : Hid (∀ w, Calls Tryz.prog 135 #[.int .i64 j, .int .i64 x.a, .int .i64 k, .int .i64 y.a] w fun e w' => e = .returned (.tuple #[.int .i64 (j * x.a - k * y.a), .bool true]) ∧ Q w w'))
    (PB : Hid (∀ w, Calls Tryz.prog 135 #[.int .i64 j, .int .i64 x.b, .int .i64 k, .int .i64 y.b] w fun e w' => e = .returned (.tuple #[.int .i64 0, .bool false]) ∧ Q w w')) :
    Calls Tryz.prog 105 #[.agg #[.int .i64 x.a, .int .i64 x.b], .int .i64 j, .agg #[.int .i64 y.a, .int .i64 y.b], .int .i64 k] w fun e w' => e = .returned (.tuple #[.int .i64 (versS x j y k), .int .i64 0]) ∧ Q w w' := by
  obtain ⟨a1, a2, a3, a4, b1, b2, b3, b4⟩ := (wi4_iff _ _ _ _ _).1 h4
  obtain ⟨j0, j1, k0, k1⟩ := (wi2_iff _ _ _).1 h2
  have Fa := Lib.hid (fun w => far_z j x.a k y.a w (by omega) (by omega) (by omega) (by omega) (by omega) (by omega) (by omega) (by omega))
  have Fb := Lib.hid (fun w => far_z j x.b k y.b w (by omega) (by omega) (by omega) (by omega) (by omega) (by omega) (by omega) (by omega))
  have q1 := bd_mul j0 j1 a1 a2
  have q2 := bd_mul j0 j1 a3 a4
  have q3 := bd_mul k0 k1 b1 b2
  have q4 := bd_mul k0 k1 b3 b4
  have HQ : Hid ((-1267650600228229401496703205376 ≤ j * x.a - k * y.a ∧ j * x.a - k * y.a ≤ 1267650600228229401496703205376) ∧ (-1267650600228229401496703205376 ≤ j * x.b - k * y.b ∧ j * x.b - k * y.b ≤ 1267650600228229401496703205376)) := Lib.hid (by omega)
  unfold versS
  clear q1 q2 q3 q4 a1 a2 a3 a4 b1 b2 b3 b4 j0 j1 k0 k1
  go_enter Tryz.func105, Tryz.ntmps105
  go_wp2_with (first | (go_at_call 133; (with_reducible show Calls _ _ #[_, .slice _ 4 _] _ _); refine (swithin4 _ x.a x.b y.a y.b 1152921504606846976 _ (by omega) (by omega) (by simp [go_sem]) (by simp [go_sem]) (by simp [go_sem]) (by simp [go_sem])).mono ?_; rintro e w' ⟨rfl, rfl⟩) | (go_at_call 133; (with_reducible show Calls _ _ #[_, .slice _ 2 _] _ _); refine (swithin2 _ j k 1073741824 _ (by omega) (by omega) (by simp [go_sem]) (by simp [go_sem])).mono ?_; rintro e w' ⟨rfl, rfl⟩) | (go_at_call 135; first | ((with_reducible refine (PA.out _).mono ?_); rintro e w' ⟨rfl, kj, rfl⟩) | ((with_reducible refine (PB.out _).mono ?_); rintro e w' ⟨rfl, kj, rfl⟩)))
  go_region_held3 (fun w' => w'.cell? ⟨w.heap.size, 0, none⟩ = some (.int .i64 x.a) ∧ w'.cell? ⟨w.heap.size, 1, none⟩ = some (.int .i64 x.b) ∧ w'.cell? ⟨w.heap.size + 1, 0, none⟩ = some (.int .i64 y.a) ∧ w'.cell? ⟨w.heap.size + 1, 1, none⟩ = some (.int .i64 y.b)) (simp [go_sem])
    (first
     | (go_at_call 137; first | ((with_reducible refine (Fa.out _).mono ?_); rintro e w' ⟨A1, n1, c1, k1, rfl, rfl, hr1, hf1⟩; have HR1 := Lib.hid hr1; clear hr1 hf1; obtain ⟨nb1, hnb1⟩ : ∃ nb, decide (j * x.a - k * y.a < 0) = nb := ⟨_, rfl⟩; rw [hnb1]; have HB1 := Lib.hid hnb1; clear hnb1) | ((with_reducible refine (Fb.out _).mono ?_); rintro e w' ⟨A2, n2, c2, k2, rfl, rfl, hr2, hf2⟩; have HR2 := Lib.hid hr2; clear hr2 hf2; obtain ⟨nb2, hnb2⟩ : ∃ nb, decide (j * x.b - k * y.b < 0) = nb := ⟨_, rfl⟩; rw [hnb2]; have HB2 := Lib.hid hnb2; clear hnb2))
     | (go_at_call 136; refine (wideSign_z _ _ _ _ (j * x.a - k * y.a) _ _ _ _ (j * x.b - k * y.b) _ HB1.out.symm (HR1.out.q (by repeat' (first | exact Q.refl _ | refine Q.alloc ?_ _ | refine Q.jk ?_ _ | refine Q.drew ?_))) HB2.out.symm (HR2.out.q (by repeat' (first | exact Q.refl _ | refine Q.alloc ?_ _ | refine Q.jk ?_ _ | refine Q.drew ?_))) HQ.out.1.1 HQ.out.1.2 HQ.out.2.1 HQ.out.2.2).mono ?_; rintro e w' ⟨rfl, kj, rfl⟩))
  rename_i hHeld
  clear hHeld
  go_wp2
  go_ret2
  refine ⟨rfl, ?_⟩
  repeat' (first | exact Q.refl _ | refine Q.alloc ?_ _ | refine Q.jk ?_ _ | refine Q.drew ?_)

theorem vers_ok (x : Su) (j : Int) (y : Su) (k : Int) (w : World) (h4 : wi4 1152921504606846976 x.a x.b y.a y.b = true) (h2 : wi2 1073741824 j k = true) :
  Calls Tryz.prog 105 #[.agg #[.int .i64 x.a, .int .i64 x.b], .int .i64 j, .agg #[.int .i64 y.a, .int .i64 y.b], .int .i64 k] w fun e w' => e = .returned (.tuple #[.int .i64 (versS x j y k), .int .i64 0]) ∧ Q w w' := by
 obtain ⟨a1, a2, a3, a4, b1, b2, b3, b4⟩ := (wi4_iff _ _ _ _ _).1 h4
 obtain ⟨j0, j1, k0, k1⟩ := (wi2_iff _ _ _).1 h2
 by_cases ha : (-2305843009213693952 ≤ j * x.a ∧ j * x.a ≤ 2305843009213693952) ∧ (-2305843009213693952 ≤ k * y.a ∧ k * y.a ≤ 2305843009213693952)
 ·by_cases hb : (-2305843009213693952 ≤ j * x.b ∧ j * x.b ≤ 2305843009213693952) ∧ (-2305843009213693952 ≤ k * y.b ∧ k * y.b ≤ 2305843009213693952)
  ·exact vers_c x j y k w ⟨a1, a2, a3, a4⟩ ⟨b1, b2, b3, b4⟩ j0 j1 k0 k1 ⟨ha.1, ha.2, hb.1, hb.2⟩
  ·exact vers_big3 x j y k w h4 h2 (Lib.hid fun w => apart_ok j x.a k y.a w (by omega) (by omega) (by omega) (by omega) (by omega) (by omega) (by omega) (by omega) ha.1.1 ha.1.2 ha.2.1 ha.2.2) (Lib.hid fun w => apart_bad j x.b k y.b w (by omega) (by omega) (by omega) (by omega) (by omega) (by omega) (by omega) (by omega) hb)
 ·by_cases hb : (-2305843009213693952 ≤ j * x.b ∧ j * x.b ≤ 2305843009213693952) ∧ (-2305843009213693952 ≤ k * y.b ∧ k * y.b ≤ 2305843009213693952)
  ·exact vers_big2 x j y k w h4 h2 (Lib.hid fun w => apart_bad j x.a k y.a w (by omega) (by omega) (by omega) (by omega) (by omega) (by omega) (by omega) (by omega) ha) (Lib.hid fun w => apart_ok j x.b k y.b w (by omega) (by omega) (by omega) (by omega) (by omega) (by omega) (by omega) (by omega) hb.1.1 hb.1.2 hb.2.1 hb.2.2)
  ·exact vers_big1 x j y k w h4 h2 (Lib.hid fun w => apart_bad j x.a k y.a w (by omega) (by omega) (by omega) (by omega) (by omega) (by omega) (by omega) (by omega) ha) (Lib.hid fun w => apart_bad j x.b k y.b w (by omega) (by omega) (by omega) (by omega) (by omega) (by omega) (by omega) (by omega) hb)
set_option maxHeartbeats 1000000 in
theorem vers_no1 (x : Su) (j : Int) (y : Su) (k : Int) (w : World) (h4 : wi4 1152921504606846976 x.a x.b y.a y.b = false) :
  Calls Tryz.prog 105 #[.agg #[.int .i64 x.a, .int .i64 x.b], .int .i64 j, .agg #[.int .i64 y.a, .int .i64 y.b], .int .i64 k] w fun e w' => e = .returned (.tuple #[.int .i64 0, .int .i64 1]) ∧ Q w w' := by
 go_enter Tryz.func105, Tryz.ntmps105
 go_wp2_with (go_at_call 133; (with_reducible show Calls _ _ #[_, .slice _ 4 _] _ _); refine (swithin4 _ x.a x.b y.a y.b 1152921504606846976 _ (by omega) (by omega) (by simp [go_sem]) (by simp [go_sem]) (by simp [go_sem]) (by simp [go_sem])).mono ?_; rintro e w' ⟨rfl, rfl⟩)
 go_ret2
 refine ⟨rfl, ?_⟩
 repeat' (first | exact Q.refl _ | refine Q.alloc ?_ _ | refine Q.jk ?_ _ | refine Q.drew ?_)
set_option maxHeartbeats 1000000 in
theorem vers_no2 (x : Su) (j : Int) (y : Su) (k : Int) (w : World) (h4 : wi4 1152921504606846976 x.a x.b y.a y.b = true) (h2 : wi2 1073741824 j k = false) :
  Calls Tryz.prog 105 #[.agg #[.int .i64 x.a, .int .i64 x.b], .int .i64 j, .agg #[.int .i64 y.a, .int .i64 y.b], .int .i64 k] w fun e w' => e = .returned (.tuple #[.int .i64 0, .int .i64 1]) ∧ Q w w' := by
 go_enter Tryz.func105, Tryz.ntmps105
 go_wp2_with (first | (go_at_call 133; (with_reducible show Calls _ _ #[_, .slice _ 4 _] _ _); refine (swithin4 _ x.a x.b y.a y.b 1152921504606846976 _ (by omega) (by omega) (by simp [go_sem]) (by simp [go_sem]) (by simp [go_sem]) (by simp [go_sem])).mono ?_; rintro e w' ⟨rfl, rfl⟩) | (go_at_call 133; (with_reducible show Calls _ _ #[_, .slice _ 2 _] _ _); refine (swithin2 _ j k 1073741824 _ (by omega) (by omega) (by simp [go_sem]) (by simp [go_sem])).mono ?_; rintro e w' ⟨rfl, rfl⟩))
 go_ret2
 refine ⟨rfl, ?_⟩
 repeat' (first | exact Q.refl _ | refine Q.alloc ?_ _ | refine Q.jk ?_ _ | refine Q.drew ?_)
theorem vers_any (x : Su) (j : Int) (y : Su) (k : Int) (w : World) :
  Calls Tryz.prog 105 #[.agg #[.int .i64 x.a, .int .i64 x.b], .int .i64 j, .agg #[.int .i64 y.a, .int .i64 y.b], .int .i64 k] w fun e w' => e = .returned (.tuple #[.int .i64 (versR x j y k).1, .int .i64 (versR x j y k).2]) ∧ Q w w' := by
 cases h4 : wi4 1152921504606846976 x.a x.b y.a y.b
 ·have e : versR x j y k = (0, 1) := by simp [versR, h4]
  rw [e]
  exact vers_no1 x j y k w h4
 ·cases h2 : wi2 1073741824 j k
  ·have e : versR x j y k = (0, 1) := by simp [versR, h2]
   rw [e]
   exact vers_no2 x j y k w h4 h2
  ·have e : versR x j y k = (versS x j y k, 0) := by simp [versR, h4, h2]
   rw [e]
   exact vers_ok x j y k w h4 h2
end Go.Proofs.YtcjflafjmdfanaaGreatDoor
/- What Sum, Restraint and Operate of package differential return for arguments in their range. -/
namespace Go.Sub
def minS (m : Int) : Su := ⟨36 * m * m, 0⟩
/-- Whether a differential element operates. -/
def opB (l : List Cur) (m n d : Int) : Bool := decide (0 ≤ sgnS ((sumW l).norm.sub (minS m))) && decide (0 < versS (sumW l).norm (d * d) (resW l) (n * n))
theorem minS_in {m : Int} (h0 : 1 ≤ m) (h1 : m ≤ 1638300) : (minS m).In 100000000000000 := by
 have hp := bd_mul (show -1638300 ≤ m by omega) h1 (show -1638300 ≤ m by omega) h1
 unfold Su.In minS
 dsimp only
 rw [Int.mul_assoc]
 omega
end Go.Sub
namespace Go.Proofs.YtcjflafjmdfanaaGreatDoor
open Go.RowKit Go.Sub
set_option maxHeartbeats 1000000 in
theorem dsum_c (g o cap : Nat) (l : List Cur) (w : World) (hl : 1 ≤ l.length) (hl' : l.length ≤ 16) (hr : RdC w g o l) (hok : ∀ c ∈ l, c.OK) :
  Calls Tryz.prog 101 #[.slice (some ⟨g, o, none⟩) l.length cap] w fun e w' => e = .returned (.tuple #[.agg #[.int .i64 (sumW l).a, .int .i64 (sumW l).b, .int .i64 (sumW l).c, .int .i64 (sumW l).d], .int .i64 0]) ∧ Q w w' := by
 have HG := Lib.hid fun w' (hq : Q w w') => dgatherC_c g o cap l w' hl hl' (hr.q hq) hok
 clear hr hok
 go_enter Tryz.func101, Tryz.ntmps101
 go_wp2_with (go_at_call 128; refine (HG.out _ (by repeat' (first | exact Q.refl _ | refine Q.alloc ?_ _ | refine Q.jk ?_ _ | refine Q.drew ?_))).mono ?_; rintro e w' ⟨rfl, kj, rfl⟩)
 refine bodyPost_ret (v := .tuple #[.agg #[.int .i64 (sumW l).a, .int .i64 (sumW l).b, .int .i64 (sumW l).c, .int .i64 (sumW l).d], .int .i64 0]) (by simp [results, Tryz.results101, go_sem]) rfl ⟨rfl, ?_⟩
 repeat' (first | exact Q.refl _ | refine Q.alloc ?_ _ | refine Q.jk ?_ _ | refine Q.drew ?_)
set_option maxHeartbeats 1000000 in
theorem drestr_c (g o cap : Nat) (l : List Cur) (w : World) (hl : 1 ≤ l.length) (hl' : l.length ≤ 16) (hr : RdC w g o l) (hok : ∀ c ∈ l, c.OK) :
  Calls Tryz.prog 102 #[.slice (some ⟨g, o, none⟩) l.length cap] w fun e w' => e = .returned (.tuple #[.agg #[.int .i64 (resW l).a, .int .i64 (resW l).b], .int .i64 0]) ∧ Q w w' := by
 have HG := Lib.hid fun w' (hq : Q w w') => dgatherS_c g o cap l w' hl hl' (hr.q hq) hok
 clear hr hok
 go_enter Tryz.func102, Tryz.ntmps102
 go_wp2_with (go_at_call 130; refine (HG.out _ (by repeat' (first | exact Q.refl _ | refine Q.alloc ?_ _ | refine Q.jk ?_ _ | refine Q.drew ?_))).mono ?_; rintro e w' ⟨rfl, kj, rfl⟩)
 refine bodyPost_ret (v := .tuple #[.agg #[.int .i64 (resW l).a, .int .i64 (resW l).b], .int .i64 0]) (by simp [results, Tryz.results102, go_sem]) rfl ⟨rfl, ?_⟩
 repeat' (first | exact Q.refl _ | refine Q.alloc ?_ _ | refine Q.jk ?_ _ | refine Q.drew ?_)
theorem versus_c (x : Su) (j : Int) (y : Su) (k : Int) (w : World) (hx : x.In 100000000000000000) (hy : y.In 100000000000000000) (hj : -1000000000 ≤ j ∧ j ≤ 1000000000) (hk : -1000000000 ≤ k ∧ k ≤ 1000000000) :
  Calls Tryz.prog 105 #[.agg #[.int .i64 x.a, .int .i64 x.b], .int .i64 j, .agg #[.int .i64 y.a, .int .i64 y.b], .int .i64 k] w fun e w' => e = .returned (.tuple #[.int .i64 (versS x j y k), .int .i64 0]) ∧ Q w w' := by
 have h := vers_any x j y k w
 have e : versR x j y k = (versS x j y k, 0) := by
  unfold Su.In at hx hy
  have h4 : wi4 1152921504606846976 x.a x.b y.a y.b = true := (wi4_iff _ _ _ _ _).2 (by omega)
  have h2 : wi2 1073741824 j k = true := (wi2_iff _ _ _).2 (by omega)
  simp [versR, h4, h2]
 rw [e] at h
 exact h
set_option maxRecDepth 100000 in
set_option maxHeartbeats 4000000 in
theorem doperate_b (g o cap : Nat) (l : List Cur) (m n d s1 s2 : Int) (b1 b2 : Bool) (w : World) (hl : 1 ≤ l.length) (hl' : l.length ≤ 16) (hr : RdC w g o l) (hok : ∀ c ∈ l, c.OK) (m0 : 1 ≤ m) (m1 : m ≤ 1638300) (d0 : 1 ≤ d) (d1 : d ≤ 100) (n0 : 0 ≤ n) (n1 : n ≤ d)
  (h1 : sgnS ((sumW l).norm.sub (minS m)) = s1) (h2 : versS (sumW l).norm (d * d) (resW l) (n * n) = s2) (hb1 : if b1 then 0 ≤ s1 else s1 < 0) (hb2 : if b2 then 0 < s2 else s2 ≤ 0) :
  Calls Tryz.prog 69 #[.slice (some ⟨g, o, none⟩) l.length cap, .int .i64 m, .int .i64 n, .int .i64 d] w fun e w' => e = .returned (.tuple #[.bool (b1 && b2), .int .i64 0]) ∧ Q w w' := by
 have hs := sumW_bd hok hl'
 have hrs := resW_bd hok hl'
 have hn := norm_in hs
 have hm := minS_in m0 m1
 have q1 : -100000000000000 ≤ 36 * m * m := hm.1
 have q2 : 36 * m * m ≤ 100000000000000 := hm.2.1
 obtain ⟨e1, e2⟩ := bd_mul (show -100 ≤ d by omega) d1 (show -100 ≤ d by omega) d1
 obtain ⟨e3, e4⟩ := bd_mul (show -100 ≤ n by omega) (show n ≤ 100 by omega) (show -100 ≤ n by omega) (show n ≤ 100 by omega)
 have HG := Lib.hid fun w' (hq : Q w w') => dsum_c g o cap l w' hl hl' (hr.q hq) hok
 have HR := Lib.hid fun w' (hq : Q w w') => drestr_c g o cap l w' hl hl' (hr.q hq) hok
 have HN := Lib.hid fun w => norm_c (sumW l) w (hs.mono (by decide))
 have HC := Lib.hid fun w => scmp_c (sumW l).norm (minS m) w (hn.mono (by decide)) (hm.mono (by decide))
 have HV := Lib.hid fun w => versus_c (sumW l).norm (d * d) (resW l) (n * n) w (hn.mono (by decide)) (hrs.mono (by decide)) (by omega) (by omega)
 rw [h1] at HC
 rw [h2] at HV
 change Hid (∀ w, Calls _ _ #[_, .agg #[.int .i64 (36 * m * m), .int .i64 0]] w _) at HC
 clear hr hok hs hrs hn hm h1 h2
 cases b1 <;> cases b2
 all_goals
  simp only [if_true, if_false, Bool.false_eq_true] at hb1 hb2
  go_enter Tryz.func69, Tryz.ntmps69
  go_wp2_with (first | (go_at_call 101; refine (HG.out _ (by repeat' (first | exact Q.refl _ | refine Q.alloc ?_ _ | refine Q.jk ?_ _ | refine Q.drew ?_))).mono ?_; rintro e w' ⟨rfl, kj, rfl⟩) | (go_at_call 102; refine (HR.out _ (by repeat' (first | exact Q.refl _ | refine Q.alloc ?_ _ | refine Q.jk ?_ _ | refine Q.drew ?_))).mono ?_; rintro e w' ⟨rfl, kj, rfl⟩) | (go_at_call 103; (with_reducible refine (HN.out _).mono ?_); rintro e w' ⟨rfl, kj, rfl⟩) | (go_at_call 104; (with_reducible refine (HC.out _).mono ?_); rintro e w' ⟨rfl, kj, rfl⟩) | (go_at_call 105; (with_reducible refine (HV.out _).mono ?_); rintro e w' ⟨rfl, kj, rfl⟩))
  go_ret2
  refine ⟨by first | rfl | (show Ending.returned (Value.tuple #[Value.bool (decide (0 < s2)), _]) = _; rw [decide_eq_true hb2]; rfl) | (show Ending.returned (Value.tuple #[Value.bool (decide (0 < s2)), _]) = _; rw [decide_eq_false (Int.not_lt.2 hb2)]; rfl), ?_⟩
  repeat' (first | exact Q.refl _ | refine Q.alloc ?_ _ | refine Q.jk ?_ _ | refine Q.drew ?_)
theorem doperate_c (g o cap : Nat) (l : List Cur) (m n d : Int) (w : World) (hl : 1 ≤ l.length) (hl' : l.length ≤ 16) (hr : RdC w g o l) (hok : ∀ c ∈ l, c.OK) (m0 : 1 ≤ m) (m1 : m ≤ 1638300) (d0 : 1 ≤ d) (d1 : d ≤ 100) (n0 : 0 ≤ n) (n1 : n ≤ d) :
  Calls Tryz.prog 69 #[.slice (some ⟨g, o, none⟩) l.length cap, .int .i64 m, .int .i64 n, .int .i64 d] w fun e w' => e = .returned (.tuple #[.bool (opB l m n d), .int .i64 0]) ∧ Q w w' := by
 refine doperate_b g o cap l m n d _ _ _ _ w hl hl' hr hok m0 m1 d0 d1 n0 n1 rfl rfl ?_ ?_
 ·split
  ·rename_i h; exact of_decide_eq_true h
  ·rename_i h
   rw [decide_eq_true_eq] at h
   omega
 ·split
  ·rename_i h; exact of_decide_eq_true h
  ·rename_i h
   rw [decide_eq_true_eq] at h
   omega
end Go.Proofs.YtcjflafjmdfanaaGreatDoor
set_option linter.unusedVariables false
set_option linter.unusedSimpArgs false
namespace Go.Sub
open Go
/-- The current of a member in a phase. -/
def cuM (s : Sta) (W : List Int) (ph : Nat) (m : Int × Int) : Cur := ⟨harm (wvF W m.1.toNat ph) 1, (match s.bays[m.1.toNat]? with | some y => y.ct | none => 0), decide (m.2 = -1)⟩
/-- The element of a phase operates. -/
def opM (s : Sta) (W : List Int) (r : Rel) (ml : List (Int × Int)) (ph : Nat) : Bool := if r.dm = 0 ∨ ml = [] then false else opB (ml.map (cuM s W ph)) r.dm r.nu r.de
theorem harm1_bd {x : Nat → Int} {l : Int} (hx : WinOK x l) : (harm x 1).In (4 * l) := by
 have h0 := hx 0 (by decide)
 have h1 := hx 1 (by decide)
 have h2 := hx 2 (by decide)
 have h3 := hx 3 (by decide)
 have h4 := hx 4 (by decide)
 have h5 := hx 5 (by decide)
 have h6 := hx 6 (by decide)
 have h7 := hx 7 (by decide)
 have h8 := hx 8 (by decide)
 have h9 := hx 9 (by decide)
 have h10 := hx 10 (by decide)
 have h11 := hx 11 (by decide)
 have e0 : hterm x 1 0 = ⟨x 0, 0, 0, 0⟩ := by
  unfold hterm; rw [show rootC (-1 * ((0 : Nat) : Int)) = ⟨1, 0, 0, 0⟩ by rfl]; apply Cy.ext' <;> simp [Cy.scl]
 have e1 : hterm x 1 1 = ⟨0, x 1, 0, -x 1⟩ := by
  unfold hterm; rw [show rootC (-1 * ((1 : Nat) : Int)) = ⟨0, 1, 0, -1⟩ by rfl]; apply Cy.ext' <;> simp [Cy.scl]
 have e2 : hterm x 1 2 = ⟨x 2, 0, -x 2, 0⟩ := by
  unfold hterm; rw [show rootC (-1 * ((2 : Nat) : Int)) = ⟨1, 0, -1, 0⟩ by rfl]; apply Cy.ext' <;> simp [Cy.scl]
 have e3 : hterm x 1 3 = ⟨0, 0, 0, -x 3⟩ := by
  unfold hterm; rw [show rootC (-1 * ((3 : Nat) : Int)) = ⟨0, 0, 0, -1⟩ by rfl]; apply Cy.ext' <;> simp [Cy.scl]
 have e4 : hterm x 1 4 = ⟨0, 0, -x 4, 0⟩ := by
  unfold hterm; rw [show rootC (-1 * ((4 : Nat) : Int)) = ⟨0, 0, -1, 0⟩ by rfl]; apply Cy.ext' <;> simp [Cy.scl]
 have e5 : hterm x 1 5 = ⟨0, -x 5, 0, 0⟩ := by
  unfold hterm; rw [show rootC (-1 * ((5 : Nat) : Int)) = ⟨0, -1, 0, 0⟩ by rfl]; apply Cy.ext' <;> simp [Cy.scl]
 have e6 : hterm x 1 6 = ⟨-x 6, 0, 0, 0⟩ := by
  unfold hterm; rw [show rootC (-1 * ((6 : Nat) : Int)) = ⟨-1, 0, 0, 0⟩ by rfl]; apply Cy.ext' <;> simp [Cy.scl]
 have e7 : hterm x 1 7 = ⟨0, -x 7, 0, x 7⟩ := by
  unfold hterm; rw [show rootC (-1 * ((7 : Nat) : Int)) = ⟨0, -1, 0, 1⟩ by rfl]; apply Cy.ext' <;> simp [Cy.scl]
 have e8 : hterm x 1 8 = ⟨-x 8, 0, x 8, 0⟩ := by
  unfold hterm; rw [show rootC (-1 * ((8 : Nat) : Int)) = ⟨-1, 0, 1, 0⟩ by rfl]; apply Cy.ext' <;> simp [Cy.scl]
 have e9 : hterm x 1 9 = ⟨0, 0, 0, x 9⟩ := by
  unfold hterm; rw [show rootC (-1 * ((9 : Nat) : Int)) = ⟨0, 0, 0, 1⟩ by rfl]; apply Cy.ext' <;> simp [Cy.scl]
 have e10 : hterm x 1 10 = ⟨0, 0, x 10, 0⟩ := by
  unfold hterm; rw [show rootC (-1 * ((10 : Nat) : Int)) = ⟨0, 0, 1, 0⟩ by rfl]; apply Cy.ext' <;> simp [Cy.scl]
 have e11 : hterm x 1 11 = ⟨0, x 11, 0, 0⟩ := by
  unfold hterm; rw [show rootC (-1 * ((11 : Nat) : Int)) = ⟨0, 1, 0, 0⟩ by rfl]; apply Cy.ext' <;> simp [Cy.scl]
 unfold harm
 simp only [sumC, e0, e1, e2, e3, e4, e5, e6, e7, e8, e9, e10, e11, Cy.add]
 clear e0 e1 e2 e3 e4 e5 e6 e7 e8 e9 e10 e11
 unfold Cy.In
 dsimp only
 refine ⟨?_, ?_, ?_, ?_, ?_, ?_, ?_, ?_⟩ <;> omega
def cuC (c : Cur) : List Value := [.int .i64 c.i.a, .int .i64 c.i.b, .int .i64 c.i.c, .int .i64 c.i.d, .int .i64 c.r, .bool c.v]
/-- A member that is a bay with usable windows. -/
structure MemOK (s : Sta) (W : List Int) (nW : Nat) (m : Int × Int) (k : Nat) (y : Byr) : Prop where
 e : m.1 = (k : Int)
 lt : k < nW
 hy : s.bays[k]? = some y
 c0 : 1 ≤ y.ct
 c1 : y.ct ≤ 100
 w : ∀ ph, ph < 3 → WinOK (wvF W k ph) 16383
end Go.Sub
namespace Go.Proofs.YtcjflafjmdfanaaGreatDoor
open Go.RowKit Go.Sub
attribute [local go_sem ↓] Go.wp_at_zero Go.wp_at_succ
/-- Some member's window in a phase is distorted. -/
def dsM (W : List Int) (hm : Int) (ml : List (Int × Int)) (ph : Nat) : Bool := if hm = 0 then false else ml.any fun m => dstB (wvF W m.1.toNat ph) hm
set_option maxRecDepth 100000 in
set_option maxHeartbeats 8000000 in
theorem distorted_c (s : Sta) (cs : Array Value) (r : Rel) [hR : RelC cs r] (aW : Option Addr) (nW cW : Nat) (W : List Int) (A : Option Addr) (n c : Nat) (ml : List (Int × Int)) (ph : Nat) (w : World) (hr : RootsOK w) (hW : WvAt w aW nW cW W) (hm : RdV w A n c 2 (ml.flatMap mmC)) (hn : n < 1000) (hp : ph < 3) (hu : usB r = true) (hb : ∀ m ∈ ml, ∃ k y, MemOK s W nW m k y) :
  Calls Tryz.prog 38 #[.agg cs, .slice aW nW cW, .slice A n c, .int .i64 ph] w fun e w' => e = .returned (.tuple #[.bool (dsM W r.hm ml ph), .int .i64 0]) ∧ Q w w' := by
 have c4 := hR.hm
 have hm0 : 0 ≤ r.hm ∧ r.hm ≤ 100 := by
  unfold usB at hu
  split at hu
  ·simp only [Bool.and_eq_true, decide_eq_true_eq] at hu
   omega
  ·simp only [Bool.and_eq_true, decide_eq_true_eq] at hu
   omega
 obtain ⟨m0, m1⟩ := hm0
 generalize r.hm = h at c4 m0 m1 ⊢
 have HL := Lib.hid (mem_len hm)
 have HM := Lib.hid hm
 have HW := Lib.hid hW
 have HB' := Lib.hid hb
 have HC : Hid (dsM W h ml ph = if h = 0 then false else ml.any fun m => dstB (wvF W m.1.toNat ph) h) := Lib.hid rfl
 generalize dsM W h ml ph = C at HC ⊢
 have n0 : (0 : Int) ≤ (n : Int) := by omega
 have p0 : (0 : Int) ≤ (ph : Int) := by omega
 have p1 : (ph : Int) < 3 := by omega
 clear hm hW hb hu
 by_cases h0 : h = 0
 ·have HC1 := Lib.hid (HC.out.trans (if_pos h0))
  subst h0
  clear HC
  go_enter Tryz.func38, Tryz.ntmps38
  go_wp2_with fail
  go_ret2
  exact ⟨by rw [HC1.out]; rfl, (by repeat' (first | exact Q.refl _ | refine Q.alloc ?_ _ | refine Q.jk ?_ _ | refine Q.drew ?_))⟩
 ·have HC1 := Lib.hid (HC.out.trans (if_neg h0))
  have h0' : (h == 0) = false := by simpa using h0
  clear HC h0
  go_enter Tryz.func38, Tryz.ntmps38
  go_wp2_with fail
  go_loopw [19] (fun i wr => ∃ k : Nat, i = .int .i64 k ∧ k ≤ n ∧ Hid (∀ j m, j < k → ml[j]? = some m → dstB (wvF W m.1.toNat ph) h = false) ∧ Q (w.alloc (Obj.cells cs 44)) wr) (fun i _ => n - (intOf i).toNat)
  case atStart => exact ⟨0, rfl, Nat.zero_le _, Lib.hid (fun j m hj => absurd hj (Nat.not_lt_zero _)), Q.refl _⟩
  case round =>
   obtain ⟨k, rfl, hk, HZ, kk, rfl⟩ := hrel
   by_cases hlt : k < n
   ·obtain ⟨m, hm⟩ : ∃ m, ml[k]? = some m := ⟨_, List.getElem?_eq_getElem (by rw [HL.out]; exact hlt)⟩
    obtain ⟨g, o, rfl, og, hc⟩ := mem_at HM.out (by omega)
    obtain ⟨a1, a2⟩ := hc.out k m hm
    obtain ⟨q, y, hq⟩ := HB'.out m (List.mem_of_getElem? hm)
    obtain ⟨g2, o2, rfl, og2, hc2⟩ := HW.out.at_ (by have := hq.lt; omega)
    have hlq := hq.lt
    have HWN := Lib.hid (hc2.out q ph hlq (by omega))
    have HWK := Lib.hid (hq.w ph hp)
    rw [hq.e] at a1
    have EM : Hid (m.1.toNat = q) := Lib.hid (by rw [hq.e]; exact Int.toNat_natCast q)
    have EMK := Lib.hid hm
    have k0 : (0 : Int) ≤ (k : Int) := by omega
    have k1 : (k : Int) < (n : Int) := by omega
    have q0 : (0 : Int) ≤ (q : Int) := by omega
    have q1 : (q : Int) < (nW : Int) := by omega
    have PH := Lib.hid fun w' hq hr => phdist_c g2 (o2 + q * 72 + ph * 12) 12 (wvF W q ph) h w' hr (HWN.out.q hq) HWK.out m0 m1
    have WC := Lib.hid fun w' => window_c g2 o2 nW cW q ph w' hlq hp
    obtain ⟨b, eb⟩ : ∃ b, dstB (wvF W q ph) h = b := ⟨_, rfl⟩
    rw [eb] at PH
    have EB := Lib.hid eb
    clear hc hc2 hm eb hq HWN HWK
    go_wp2_with fail
    refine wp_region_jk (by kernel_rfl) (by kernel_rfl) ?_
    repeat (go_big_quiet_step (first
     | (go_at_call 34; exact Calls.jk_of (WC.out _))
     | (go_at_call 70; exact Calls.jk_of (PH.out _ (by repeat' (first | exact Q.refl _ | refine Q.alloc ?_ _ | refine Q.jk ?_ _ | refine Q.drew ?_)) (by repeat' (first | with_reducible exact hr | refine RootsOK.alloc ?_ _ | refine RootsOK.jk ?_ _ | refine RootsOK.drew ?_))))))
    refine wpQuiet_nil ?_
    intro _ hw'
    obtain ⟨kq, rfl⟩ := hw'
    cases b with
    | false =>
     go_wp2_with fail
     go_roundw
     case rel =>
      refine ⟨k + 1, by go_num, by omega, Lib.hid (fun j m' hj hm' => ?_), (by repeat' (first | exact Q.refl _ | refine Q.alloc ?_ _ | refine Q.jk ?_ _ | refine Q.drew ?_))⟩
      by_cases e : j = k
      ·subst e
       rw [EMK.out] at hm'
       obtain rfl := Option.some.inj hm'
       rw [EM.out, EB.out]
      ·exact HZ.out j m' (by omega) hm'
     case measure => simp [intOf] <;> omega
    | true =>
     have EC : Hid (C = true) := Lib.hid (by
      rw [HC1.out, List.any_eq_true]
      exact ⟨m, List.mem_of_getElem? EMK.out, by rw [EM.out, EB.out]⟩)
     go_wp2_with fail
     go_ret2
     exact ⟨by rw [EC.out]; rfl, (by repeat' (first | exact Q.refl _ | refine Q.alloc ?_ _ | refine Q.jk ?_ _ | refine Q.drew ?_))⟩
   ·obtain rfl : n = k := by omega
    have EC : Hid (C = false) := Lib.hid (by
     rw [HC1.out, List.any_eq_false]
     intro m hm
     obtain ⟨j, hj⟩ := List.getElem?_of_mem hm
     rw [HZ.out j m (by rw [← HL.out]; exact (List.getElem?_eq_some_iff.1 hj).1) hj]
     decide)
    go_wp2_with fail
    go_ret2
    exact ⟨by rw [EC.out]; rfl, (by repeat' (first | exact Q.refl _ | refine Q.alloc ?_ _ | refine Q.jk ?_ _ | refine Q.drew ?_))⟩
theorem infoCur : ∃ i, Tryz.prog.info? 145 = some i ∧ i.zero = some (.agg #[.int .i64 0, .int .i64 0, .int .i64 0, .int .i64 0, .int .i64 0, .bool false]) ∧ i.size = 6 ∧ i.bytes = 48 := by
 have h : (Tryz.prog.info? 145).map (fun i => (i.zero, i.size, i.bytes)) = some (some (.agg #[.int .i64 0, .int .i64 0, .int .i64 0, .int .i64 0, .int .i64 0, .bool false]), 6, 48) := by kernel_rfl
 cases hi : Tryz.prog.info? 145 with
 | none => rw [hi] at h; cases h
 | some i =>
  rw [hi] at h
  simp only [Option.map_some, Option.some.injEq, Prod.mk.injEq] at h
  exact ⟨i, rfl, h.1, h.2.1, h.2.2⟩

theorem make_cur (w : World) (n : Nat) (hn : n < 1000) : (Instr.makeSlice 139 (.int .i64 n) (.int .i64 n)).run Tryz.prog w = .ok (.slice (some ⟨w.heap.size, 0, none⟩) n n) (w.alloc (.cells (arrF (fun j => (#[.int .i64 0, .int .i64 0, .int .i64 0, .int .i64 0, .int .i64 0, .bool false] : Array Value)[j % 6]!) (n * 6)) 145)) := by
 obtain ⟨i, hi, hz, hs1, hb⟩ := infoCur
 have := run_makeSlice (P := Tryz.prog) w 139 145 i _ Tryz.underlying139 hi hz .i64 .i64 n n (by omega) (by omega) (by rw [hs1]; omega) (by rw [hb]; omega) (by omega)
 rw [this, hs1, madeCells_arrF, Int.toNat_natCast]
 rfl
theorem pick_ct (s : Sta) (m : Int × Int) (k : Nat) (y : Byr) (e : m.1 = (k : Int)) (hy : s.bays[k]? = some y) (W : List Int) (ph : Nat) : cuM s W ph m = ⟨harm (wvF W k ph) 1, y.ct, decide (m.2 = -1)⟩ := by
 unfold cuM
 rw [e, Int.toNat_natCast, hy]
set_option maxRecDepth 100000 in
set_option maxHeartbeats 16000000 in
theorem operates_c (s : Sta) (cs : Array Value) (r : Rel) [hR : RelC cs r] (aW : Option Addr) (nW cW : Nat) (W : List Int) (A : Option Addr) (n c : Nat) (ml : List (Int × Int)) (ph : Nat) (w : World) (hr : RootsOK w) (hs : StAt w s) (hW : WvAt w aW nW cW W) (hm : RdV w A n c 2 (ml.flatMap mmC)) (hn : n ≤ 16) (hp : ph < 3) (hu : usB r = true) (hb : ∀ m ∈ ml, ∃ k y, MemOK s W nW m k y) (hY : s.bays.length < 1000) :
  Calls Tryz.prog 37 #[.agg #[Value.string s.nm, Value.slice s.aB s.buses.length s.cB, Value.slice s.aL s.lines.length s.cL, Value.slice s.aS s.srcs.length s.cS, Value.slice s.aY s.bays.length s.cY], .agg cs, .slice aW nW cW, .slice A n c, .int .i64 ph] w fun e w' => e = .returned (.tuple #[.bool (opM s W r ml ph), .int .i64 0]) ∧ Q w w' := by
 have c1 := hR.dm
 have c2 := hR.nu
 have c3 := hR.de
 have HU : Hid (r.dm ≠ 0 → 1 ≤ r.dm ∧ r.dm ≤ 16383 ∧ 1 ≤ r.de ∧ r.de ≤ 100 ∧ 0 ≤ r.nu ∧ r.nu ≤ r.de) := Lib.hid fun h0 => by
  unfold usB at hu
  rw [if_neg h0] at hu
  simp only [Bool.and_eq_true, decide_eq_true_eq] at hu
  omega
 have HL := Lib.hid (mem_len hm)
 have HM := Lib.hid hm
 have HW := Lib.hid hW
 have HB' := Lib.hid hb
 have HAY := Lib.hid fun k y (hy : s.bays[k]? = some y) => hs.bayAt hy
 have HC : Hid (opM s W r ml ph = if r.dm = 0 ∨ ml = [] then false else opB (ml.map (cuM s W ph)) r.dm r.nu r.de) := Lib.hid rfl
 generalize opM s W r ml ph = C at HC ⊢
 obtain ⟨aY, eaY⟩ : ∃ a, s.aY = a := ⟨_, rfl⟩
 obtain ⟨nY, eY⟩ : ∃ n, s.bays.length = n := ⟨_, rfl⟩
 rw [eaY] at HAY
 rw [eY] at hY
 rw [eaY, eY]
 have HYL := Lib.hid eY
 have n0 : (0 : Int) ≤ (n : Int) := by omega
 have p0 : (0 : Int) ≤ (ph : Int) := by omega
 have p1 : (ph : Int) < 3 := by omega
 clear hm hW hb hs hu eaY eY
 generalize r.dm = dm at *
 generalize r.nu = nu at *
 generalize r.de = de at *
 by_cases h0 : dm = 0
 ·have HC1 := Lib.hid (HC.out.trans (if_pos (.inl h0)))
  subst h0
  clear HC HU
  go_enter Tryz.func37, Tryz.ntmps37
  go_wp2_with fail
  go_ret2
  exact ⟨by rw [HC1.out]; rfl, (by repeat' (first | exact Q.refl _ | refine Q.alloc ?_ _ | refine Q.jk ?_ _ | refine Q.drew ?_))⟩
 ·have h0' : (dm == 0) = false := by simpa using h0
  by_cases hnil : n = 0
  ·have HC1 := Lib.hid (HC.out.trans (if_pos (.inr (List.eq_nil_of_length_eq_zero (by rw [HL.out]; exact hnil)))))
   subst hnil
   clear HC HU h0
   go_enter Tryz.func37, Tryz.ntmps37
   go_wp2_with fail
   go_ret2
   exact ⟨by rw [HC1.out]; rfl, (by repeat' (first | exact Q.refl _ | refine Q.alloc ?_ _ | refine Q.jk ?_ _ | refine Q.drew ?_))⟩
  ·have HC1 := Lib.hid (HC.out.trans (if_neg fun h => h.elim h0 fun h => hnil (by rw [← HL.out, h]; rfl)))
   have n1 : ((n : Int) == 0) = false := by simpa using (by omega : ¬ (n : Int) = 0)
   have HU1 := Lib.hid (HU.out h0)
   have hmk := fun w => make_cur w n (by omega)
   clear HC HU h0
   go_enter Tryz.func37, Tryz.ntmps37
   go_wp2_with fail
   go_loopw [30] (fun i wr => ∃ (k : Nat) (F : Nat → Value), i = .int .i64 k ∧ k ≤ n ∧ Q ((((w.alloc (Obj.cells #[Value.string s.nm, Value.slice s.aB s.buses.length s.cB, Value.slice s.aL s.lines.length s.cL, Value.slice s.aS s.srcs.length s.cS, Value.slice aY nY s.cY] 27)).alloc (Obj.cells cs 44))).alloc (Obj.cells (arrF F (n * 6)) 145)) wr ∧ Hid (∀ j m q, j < k → ml[j]? = some m → q < 6 → some (F (j * 6 + q)) = (cuC (cuM s W ph m))[q]?)) (fun i _ => n - (intOf i).toNat)
   case atStart => exact ⟨0, _, rfl, Nat.zero_le _, (by repeat' (first | exact Q.refl _ | refine Q.alloc ?_ _ | refine Q.jk ?_ _ | refine Q.drew ?_)), Lib.hid (fun j m q hj => absurd hj (Nat.not_lt_zero _))⟩
   case round =>
    obtain ⟨k, F, rfl, hk, ⟨kk, rfl⟩, HZ⟩ := hrel
    by_cases hlt : k < n
    ·obtain ⟨m, hm⟩ : ∃ m, ml[k]? = some m := ⟨_, List.getElem?_eq_getElem (by rw [HL.out]; exact hlt)⟩
     obtain ⟨g, o, rfl, og, hc⟩ := mem_at HM.out (by omega)
     obtain ⟨a1, a2⟩ := hc.out k m hm
     obtain ⟨q, y, hq⟩ := HB'.out m (List.mem_of_getElem? hm)
     obtain ⟨g2, o2, rfl, og2, hc2⟩ := HW.out.at_ (by have := hq.lt; omega)
     obtain ⟨g3, o3, rfl, og3, hc3⟩ := HAY.out q y hq.hy
     have q8 : w.cell? ⟨g3, o3 + q * 12 + 8, none⟩ = some (.int .i64 y.ct) := hc3.out 8 _ rfl
     have hlq := hq.lt
     have HWN := Lib.hid (hc2.out q ph hlq (by omega))
     have HWK := Lib.hid (hq.w ph hp)
     rw [hq.e] at a1
     have EM : Hid (cuM s W ph m = ⟨harm (wvF W q ph) 1, y.ct, decide (m.2 = -1)⟩) := Lib.hid (pick_ct s m q y hq.e hq.hy W ph)
     have EMK := Lib.hid hm
     have k0 : (0 : Int) ≤ (k : Int) := by omega
     have k1 : (k : Int) < (n : Int) := by omega
     have q0 : (0 : Int) ≤ (q : Int) := by omega
     have q1 : (q : Int) < (nW : Int) := by omega
     have qy : q < nY := by rw [← HYL.out]; exact (List.getElem?_eq_some_iff.1 hq.hy).1
     have q2 : (q : Int) < (nY : Int) := by omega
     have PH := Lib.hid fun w' hq hr => phharm_c 1 g2 (o2 + q * 72 + ph * 12) 12 (wvF W q ph) w' hr (HWN.out.q hq) HWK.out
     have WC := Lib.hid fun w' => window_c g2 o2 nW cW q ph w' hlq hp
     have N6 : k * 6 + 5 < n * 6 := by omega
     have e0 : (arrF F (n * 6))[k * 6]? = some (F (k * 6)) := arrF_get F (by omega)
     have e1 : (arrF F (n * 6))[k * 6 + 1]? = some (F (k * 6 + 1)) := arrF_get F (by omega)
     have e2 : (arrF F (n * 6))[k * 6 + 2]? = some (F (k * 6 + 2)) := arrF_get F (by omega)
     have e3 : (arrF F (n * 6))[k * 6 + 3]? = some (F (k * 6 + 3)) := arrF_get F (by omega)
     have e4 : (arrF F (n * 6))[k * 6 + 4]? = some (F (k * 6 + 4)) := arrF_get F (by omega)
     have e5 : (arrF F (n * 6))[k * 6 + 5]? = some (F (k * 6 + 5)) := arrF_get F (by omega)
     generalize harm (wvF W q ph) 1 = H at PH EM
     generalize y.ct = ct at q8 EM
     clear hc hc2 hc3 hm hq HWN HWK
     go_wp2_with (first
      | (go_at_call 34; (with_reducible refine (WC.out _).mono ?_); rintro e w' ⟨rfl, kv, rfl⟩)
      | (go_at_call 68; (with_reducible refine (PH.out _ (by repeat' (first | exact Q.refl _ | refine Q.alloc ?_ _ | refine Q.jk ?_ _ | refine Q.drew ?_)) (by repeat' (first | with_reducible exact hr | refine RootsOK.alloc ?_ _ | refine RootsOK.jk ?_ _ | refine RootsOK.drew ?_))).mono ?_); rintro e w' ⟨rfl, kh, rfl⟩)
      | fail)
     refine wp_region_tail 14 (by kernel_rfl) (by kernel_rfl) ?_
     simp only [List.take_succ_cons, List.take_zero, List.drop_succ_cons, List.drop_zero]
     repeat (go_big_quiet_step (fail))
     refine wpQuiet_nil ?_
     intro _ hw'
     obtain ⟨kq, rfl⟩ := hw'
     go_wp2_with fail
     go_roundw
     case rel =>
      simp only [arrF_set]
      refine ⟨k + 1, _, by go_num, by omega, (by repeat' (first | exact Q.refl _ | refine Q.alloc ?_ _ | refine Q.jk ?_ _ | refine Q.drew ?_)), Lib.hid (fun j m' i hj hm' hi => ?_)⟩
      by_cases e : j = k
      ·subst e
       rw [EMK.out] at hm'
       obtain rfl := Option.some.inj hm'
       rw [EM.out]
       rcases i with _ | _ | _ | _ | _ | _ | i
       ·simp [updF, cuC]
       ·simp [updF, cuC]
       ·simp [updF, cuC]
       ·simp [updF, cuC]
       ·simp [updF, cuC]
       ·simp [updF, cuC]
        rfl
       ·omega
      ·rw [updF_other _ _ (by omega), updF_other _ _ (by omega), updF_other _ _ (by omega), updF_other _ _ (by omega), updF_other _ _ (by omega), updF_other _ _ (by omega)]
       exact HZ.out j m' i (by omega) hm' hi
     case measure => simp [intOf] <;> omega
    ·obtain rfl : n = k := by omega
     have HOP : Hid (∀ w', RdC w' (w.heap.size + 1 + 1) 0 (ml.map (cuM s W ph)) → Calls Tryz.prog 69 #[.slice (some ⟨w.heap.size + 1 + 1, 0, none⟩) n n, .int .i64 dm, .int .i64 nu, .int .i64 de] w' fun e w'' => e = .returned (.tuple #[.bool C, .int .i64 0]) ∧ Q w' w'') := Lib.hid fun w' hrd => by
      obtain ⟨u1, u2, u3, u4, u5, u6⟩ := HU1.out
      have := doperate_c (w.heap.size + 1 + 1) 0 n (ml.map (cuM s W ph)) dm nu de w' (by rw [List.length_map, HL.out]; omega) (by rw [List.length_map, HL.out]; omega) hrd (fun c hc => by
       obtain ⟨m, hm, rfl⟩ := List.mem_map.1 hc
       obtain ⟨q, y, hq⟩ := HB'.out m hm
       rw [pick_ct s m q y hq.e hq.hy W ph]
       exact ⟨(harm1_bd (hq.w ph hp)).mono (by decide), hq.c0, hq.c1⟩) u1 (by omega) u3 u4 u5 u6
      rw [List.length_map, HL.out, ← HC1.out] at this
      exact this
     have HRD : Hid (RdC (((((w.alloc (Obj.cells #[Value.string s.nm, Value.slice s.aB s.buses.length s.cB, Value.slice s.aL s.lines.length s.cL, Value.slice s.aS s.srcs.length s.cS, Value.slice aY nY s.cY] 27)).alloc (Obj.cells cs 44))).alloc (Obj.cells (arrF F (n * 6)) 145)).jk kk) (w.heap.size + 1 + 1) 0 (ml.map (cuM s W ph))) := Lib.hid fun j c hc => by
      rw [List.getElem?_map, Option.map_eq_some_iff] at hc
      obtain ⟨m, hm, rfl⟩ := hc
      have hj : j < n := by rw [← HL.out]; exact (List.getElem?_eq_some_iff.1 hm).1
      have hb : HB (((((w.alloc (Obj.cells #[Value.string s.nm, Value.slice s.aB s.buses.length s.cB, Value.slice s.aL s.lines.length s.cL, Value.slice s.aS s.srcs.length s.cS, Value.slice aY nY s.cY] 27)).alloc (Obj.cells cs 44))).alloc (Obj.cells (arrF F (n * 6)) 145)).jk kk) (w.heap.size + 1 + 1) (arrF F (n * 6)) 145 := (HB.new _ _ _ _ (by simp)).jk kk
      have z := HZ.out j m
      rw [Nat.zero_add]
      refine ⟨?_, ?_, ?_, ?_, ?_, ?_⟩
      ·rw [hb.cell, arrF_get _ (by omega)]; exact z 0 hj hm (by omega)
      ·rw [hb.cell, arrF_get _ (by omega)]; exact z 1 hj hm (by omega)
      ·rw [hb.cell, arrF_get _ (by omega)]; exact z 2 hj hm (by omega)
      ·rw [hb.cell, arrF_get _ (by omega)]; exact z 3 hj hm (by omega)
      ·rw [hb.cell, arrF_get _ (by omega)]; exact z 4 hj hm (by omega)
      ·rw [hb.cell, arrF_get _ (by omega)]; exact z 5 hj hm (by omega)
     clear HM HW HAY HB' HL HU1 HC1 HZ
     go_wp2_with (first
      | (go_at_call 69; (with_reducible refine (HOP.out _ (HRD.out.q (by repeat' (first | exact Q.refl _ | refine Q.alloc ?_ _ | refine Q.jk ?_ _ | refine Q.drew ?_)))).mono ?_); rintro e w' ⟨rfl, ko, rfl⟩)
      | fail)
     go_ret2
     exact ⟨rfl, (by repeat' (first | exact Q.refl _ | refine Q.alloc ?_ _ | refine Q.jk ?_ _ | refine Q.drew ?_))⟩
end Go.Proofs.YtcjflafjmdfanaaGreatDoor
