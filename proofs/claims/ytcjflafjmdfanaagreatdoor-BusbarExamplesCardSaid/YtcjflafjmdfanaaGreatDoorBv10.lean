
/- What Check, Harmonic, All and Energy of package phasor return for windows that are in their range. -/
import Derived.Test.YtcjflafjmdfanaaGreatDoorBv03
import Derived.Test.YtcjflafjmdfanaaGreatDoorBv09
import Derived.Test.YtcjflafjmdfanaaGreatDoorBv02
import Derived.Test.YtcjflafjmdfanaaGreatDoorBv01
import Derived.ProofKit
import Derived.OpenShut
import Derived.Lib.LaidTab
import Derived.Lib.SmallJoins
import Derived.Carry
import Derived.Deep.DeepHandedRow
import Derived.MakeChecks
import Derived.Outline
set_option maxHeartbeats 64000000
set_option maxRecDepth 100000
set_option linter.unusedSimpArgs false
set_option linter.unusedVariables false
/- What Versus of package surd returns. -/
namespace Go.Proofs.YtcjflafjmdfanaaGreatDoor
open Go.RowKit Go.Sub
theorem vers_big1 (x : Su) (j : Int) (y : Su) (k : Int) (w : World) (h4 : wi4 1152921504606846976 x.a x.b y.a y.b = true) (h2 : wi2 1073741824 j k = true)
  (PA : Hid (∀ w, Calls Tryz.prog 135 #[.int .i64 j, .int .i64 x.a, .int .i64 k, .int .i64 y.a] w fun e w' => e = .returned (.tuple #[.int .i64 0, .bool false]) ∧ Q w w'))
  (PB : Hid (∀ w, Calls Tryz.prog 135 #[.int .i64 j, .int .i64 x.b, .int .i64 k, .int .i64 y.b] w fun e w' => e = .returned (.tuple #[.int .i64 0, .bool false]) ∧ Q w w')) :
  Calls Tryz.prog 105 #[.agg #[.int .i64 x.a, .int .i64 x.b], .int .i64 j, .agg #[.int .i64 y.a, .int .i64 y.b], .int .i64 k] w fun e w' => e = .returned (.tuple #[.int .i64 (versS x j y k), .int .i64 0]) ∧ Q w w' := by
 obtain ⟨a1, a2, a3, a4, b1, b2, b3, b4⟩ := (wi4_iff _ _ _ _ _).1 h4
 obtain ⟨j0, j1, k0, k1⟩ := (wi2_iff _ _ _).1 h2
 have Fa := hh (fun w => far_z j x.a k y.a w (by omega) (by omega) (by omega) (by omega) (by omega) (by omega) (by omega) (by omega))
 have Fb := hh (fun w => far_z j x.b k y.b w (by omega) (by omega) (by omega) (by omega) (by omega) (by omega) (by omega) (by omega))
 have q1 := bd_mul j0 j1 a1 a2
 have q2 := bd_mul j0 j1 a3 a4
 have q3 := bd_mul k0 k1 b1 b2
 have q4 := bd_mul k0 k1 b3 b4
 have HQ : Hid ((-1267650600228229401496703205376 ≤ j * x.a - k * y.a ∧ j * x.a - k * y.a ≤ 1267650600228229401496703205376) ∧ (-1267650600228229401496703205376 ≤ j * x.b - k * y.b ∧ j * x.b - k * y.b ≤ 1267650600228229401496703205376)) := hh (by omega)
 unfold versS
 clear q1 q2 q3 q4 a1 a2 a3 a4 b1 b2 b3 b4 j0 j1 k0 k1
 go_enter Tryz.func105, Tryz.ntmps105
 go_wp2_with (first | (go_at_call 133; (with_reducible show Calls _ _ #[_, .slice _ 4 _] _ _); refine (swithin4 _ x.a x.b y.a y.b 1152921504606846976 _ (by omega) (by omega) (by simp [go_sem]) (by simp [go_sem]) (by simp [go_sem]) (by simp [go_sem])).p ?_) | (go_at_call 133; (with_reducible show Calls _ _ #[_, .slice _ 2 _] _ _); refine (swithin2 _ j k 1073741824 _ (by omega) (by omega) (by simp [go_sem]) (by simp [go_sem])).p ?_) | (go_at_call 135; first | ((with_reducible refine (PA.o _).q ?_); intro kj) | ((with_reducible refine (PB.o _).q ?_); intro kj)))
 go_region_held3 (fun w' => w'.cell? ⟨w.heap.size, 0, none⟩ = some (.int .i64 x.a) ∧ w'.cell? ⟨w.heap.size, 1, none⟩ = some (.int .i64 x.b) ∧ w'.cell? ⟨w.heap.size + 1, 0, none⟩ = some (.int .i64 y.a) ∧ w'.cell? ⟨w.heap.size + 1, 1, none⟩ = some (.int .i64 y.b)) (simp [go_sem])
  (first | (go_at_call 137; first | ((with_reducible refine (Fa.o _).mono ?_); rintro e w' ⟨A1, n1, c1, k1, rfl, rfl, hr1, hf1⟩; have HR1 := hh hr1; clear hr1 hf1; obtain ⟨nb1, hnb1⟩ : ∃ nb, decide (j * x.a - k * y.a < 0) = nb := ⟨_, rfl⟩; rw [hnb1]; have HB1 := hh hnb1; clear hnb1) | ((with_reducible refine (Fb.o _).mono ?_); rintro e w' ⟨A2, n2, c2, k2, rfl, rfl, hr2, hf2⟩; have HR2 := hh hr2; clear hr2 hf2; obtain ⟨nb2, hnb2⟩ : ∃ nb, decide (j * x.b - k * y.b < 0) = nb := ⟨_, rfl⟩; rw [hnb2]; have HB2 := hh hnb2; clear hnb2)) | (go_at_call 136; refine (wideSign_z _ _ _ _ (j * x.a - k * y.a) _ _ _ _ (j * x.b - k * y.b) _ HB1.o.symm (HR1.o.q Q.i) HB2.o.symm (HR2.o.q Q.i) HQ.o.1.1 HQ.o.1.2 HQ.o.2.1 HQ.o.2.2).q ?_; intro kj))
 rename_i hHeld
 clear hHeld
 go_wp2
 go_ret2
 refine ⟨rfl, ?_⟩
 exact Q.i
theorem vers_big2 (x : Su) (j : Int) (y : Su) (k : Int) (w : World) (h4 : wi4 1152921504606846976 x.a x.b y.a y.b = true) (h2 : wi2 1073741824 j k = true)
  (PA : Hid (∀ w, Calls Tryz.prog 135 #[.int .i64 j, .int .i64 x.a, .int .i64 k, .int .i64 y.a] w fun e w' => e = .returned (.tuple #[.int .i64 0, .bool false]) ∧ Q w w'))
  (PB : Hid (∀ w, Calls Tryz.prog 135 #[.int .i64 j, .int .i64 x.b, .int .i64 k, .int .i64 y.b] w fun e w' => e = .returned (.tuple #[.int .i64 (j * x.b - k * y.b), .bool true]) ∧ Q w w')) :
  Calls Tryz.prog 105 #[.agg #[.int .i64 x.a, .int .i64 x.b], .int .i64 j, .agg #[.int .i64 y.a, .int .i64 y.b], .int .i64 k] w fun e w' => e = .returned (.tuple #[.int .i64 (versS x j y k), .int .i64 0]) ∧ Q w w' := by
 obtain ⟨a1, a2, a3, a4, b1, b2, b3, b4⟩ := (wi4_iff _ _ _ _ _).1 h4
 obtain ⟨j0, j1, k0, k1⟩ := (wi2_iff _ _ _).1 h2
 have Fa := hh (fun w => far_z j x.a k y.a w (by omega) (by omega) (by omega) (by omega) (by omega) (by omega) (by omega) (by omega))
 have Fb := hh (fun w => far_z j x.b k y.b w (by omega) (by omega) (by omega) (by omega) (by omega) (by omega) (by omega) (by omega))
 have q1 := bd_mul j0 j1 a1 a2
 have q2 := bd_mul j0 j1 a3 a4
 have q3 := bd_mul k0 k1 b1 b2
 have q4 := bd_mul k0 k1 b3 b4
 have HQ : Hid ((-1267650600228229401496703205376 ≤ j * x.a - k * y.a ∧ j * x.a - k * y.a ≤ 1267650600228229401496703205376) ∧ (-1267650600228229401496703205376 ≤ j * x.b - k * y.b ∧ j * x.b - k * y.b ≤ 1267650600228229401496703205376)) := hh (by omega)
 unfold versS
 clear q1 q2 q3 q4 a1 a2 a3 a4 b1 b2 b3 b4 j0 j1 k0 k1
 go_enter Tryz.func105, Tryz.ntmps105
 go_wp2_with (first | (go_at_call 133; (with_reducible show Calls _ _ #[_, .slice _ 4 _] _ _); refine (swithin4 _ x.a x.b y.a y.b 1152921504606846976 _ (by omega) (by omega) (by simp [go_sem]) (by simp [go_sem]) (by simp [go_sem]) (by simp [go_sem])).p ?_) | (go_at_call 133; (with_reducible show Calls _ _ #[_, .slice _ 2 _] _ _); refine (swithin2 _ j k 1073741824 _ (by omega) (by omega) (by simp [go_sem]) (by simp [go_sem])).p ?_) | (go_at_call 135; first | ((with_reducible refine (PA.o _).q ?_); intro kj) | ((with_reducible refine (PB.o _).q ?_); intro kj)))
 go_region_held3 (fun w' => w'.cell? ⟨w.heap.size, 0, none⟩ = some (.int .i64 x.a) ∧ w'.cell? ⟨w.heap.size, 1, none⟩ = some (.int .i64 x.b) ∧ w'.cell? ⟨w.heap.size + 1, 0, none⟩ = some (.int .i64 y.a) ∧ w'.cell? ⟨w.heap.size + 1, 1, none⟩ = some (.int .i64 y.b)) (simp [go_sem])
  (first | (go_at_call 137; first | ((with_reducible refine (Fa.o _).mono ?_); rintro e w' ⟨A1, n1, c1, k1, rfl, rfl, hr1, hf1⟩; have HR1 := hh hr1; clear hr1 hf1; obtain ⟨nb1, hnb1⟩ : ∃ nb, decide (j * x.a - k * y.a < 0) = nb := ⟨_, rfl⟩; rw [hnb1]; have HB1 := hh hnb1; clear hnb1) | ((with_reducible refine (Fb.o _).mono ?_); rintro e w' ⟨A2, n2, c2, k2, rfl, rfl, hr2, hf2⟩; have HR2 := hh hr2; clear hr2 hf2; obtain ⟨nb2, hnb2⟩ : ∃ nb, decide (j * x.b - k * y.b < 0) = nb := ⟨_, rfl⟩; rw [hnb2]; have HB2 := hh hnb2; clear hnb2)) | (go_at_call 136; refine (wideSign_z _ _ _ _ (j * x.a - k * y.a) _ _ _ _ (j * x.b - k * y.b) _ HB1.o.symm (HR1.o.q Q.i) HB2.o.symm (HR2.o.q Q.i) HQ.o.1.1 HQ.o.1.2 HQ.o.2.1 HQ.o.2.2).q ?_; intro kj))
 rename_i hHeld
 clear hHeld
 go_wp2
 go_ret2
 refine ⟨rfl, ?_⟩
 exact Q.i
theorem vers_big3 (x : Su) (j : Int) (y : Su) (k : Int) (w : World) (h4 : wi4 1152921504606846976 x.a x.b y.a y.b = true) (h2 : wi2 1073741824 j k = true)
  (PA : Hid (∀ w, Calls Tryz.prog 135 #[.int .i64 j, .int .i64 x.a, .int .i64 k, .int .i64 y.a] w fun e w' => e = .returned (.tuple #[.int .i64 (j * x.a - k * y.a), .bool true]) ∧ Q w w'))
  (PB : Hid (∀ w, Calls Tryz.prog 135 #[.int .i64 j, .int .i64 x.b, .int .i64 k, .int .i64 y.b] w fun e w' => e = .returned (.tuple #[.int .i64 0, .bool false]) ∧ Q w w')) :
  Calls Tryz.prog 105 #[.agg #[.int .i64 x.a, .int .i64 x.b], .int .i64 j, .agg #[.int .i64 y.a, .int .i64 y.b], .int .i64 k] w fun e w' => e = .returned (.tuple #[.int .i64 (versS x j y k), .int .i64 0]) ∧ Q w w' := by
 obtain ⟨a1, a2, a3, a4, b1, b2, b3, b4⟩ := (wi4_iff _ _ _ _ _).1 h4
 obtain ⟨j0, j1, k0, k1⟩ := (wi2_iff _ _ _).1 h2
 have Fa := hh (fun w => far_z j x.a k y.a w (by omega) (by omega) (by omega) (by omega) (by omega) (by omega) (by omega) (by omega))
 have Fb := hh (fun w => far_z j x.b k y.b w (by omega) (by omega) (by omega) (by omega) (by omega) (by omega) (by omega) (by omega))
 have q1 := bd_mul j0 j1 a1 a2
 have q2 := bd_mul j0 j1 a3 a4
 have q3 := bd_mul k0 k1 b1 b2
 have q4 := bd_mul k0 k1 b3 b4
 have HQ : Hid ((-1267650600228229401496703205376 ≤ j * x.a - k * y.a ∧ j * x.a - k * y.a ≤ 1267650600228229401496703205376) ∧ (-1267650600228229401496703205376 ≤ j * x.b - k * y.b ∧ j * x.b - k * y.b ≤ 1267650600228229401496703205376)) := hh (by omega)
 unfold versS
 clear q1 q2 q3 q4 a1 a2 a3 a4 b1 b2 b3 b4 j0 j1 k0 k1
 go_enter Tryz.func105, Tryz.ntmps105
 go_wp2_with (first | (go_at_call 133; (with_reducible show Calls _ _ #[_, .slice _ 4 _] _ _); refine (swithin4 _ x.a x.b y.a y.b 1152921504606846976 _ (by omega) (by omega) (by simp [go_sem]) (by simp [go_sem]) (by simp [go_sem]) (by simp [go_sem])).p ?_) | (go_at_call 133; (with_reducible show Calls _ _ #[_, .slice _ 2 _] _ _); refine (swithin2 _ j k 1073741824 _ (by omega) (by omega) (by simp [go_sem]) (by simp [go_sem])).p ?_) | (go_at_call 135; first | ((with_reducible refine (PA.o _).q ?_); intro kj) | ((with_reducible refine (PB.o _).q ?_); intro kj)))
 go_region_held3 (fun w' => w'.cell? ⟨w.heap.size, 0, none⟩ = some (.int .i64 x.a) ∧ w'.cell? ⟨w.heap.size, 1, none⟩ = some (.int .i64 x.b) ∧ w'.cell? ⟨w.heap.size + 1, 0, none⟩ = some (.int .i64 y.a) ∧ w'.cell? ⟨w.heap.size + 1, 1, none⟩ = some (.int .i64 y.b)) (simp [go_sem])
  (first | (go_at_call 137; first | ((with_reducible refine (Fa.o _).mono ?_); rintro e w' ⟨A1, n1, c1, k1, rfl, rfl, hr1, hf1⟩; have HR1 := hh hr1; clear hr1 hf1; obtain ⟨nb1, hnb1⟩ : ∃ nb, decide (j * x.a - k * y.a < 0) = nb := ⟨_, rfl⟩; rw [hnb1]; have HB1 := hh hnb1; clear hnb1) | ((with_reducible refine (Fb.o _).mono ?_); rintro e w' ⟨A2, n2, c2, k2, rfl, rfl, hr2, hf2⟩; have HR2 := hh hr2; clear hr2 hf2; obtain ⟨nb2, hnb2⟩ : ∃ nb, decide (j * x.b - k * y.b < 0) = nb := ⟨_, rfl⟩; rw [hnb2]; have HB2 := hh hnb2; clear hnb2)) | (go_at_call 136; refine (wideSign_z _ _ _ _ (j * x.a - k * y.a) _ _ _ _ (j * x.b - k * y.b) _ HB1.o.symm (HR1.o.q Q.i) HB2.o.symm (HR2.o.q Q.i) HQ.o.1.1 HQ.o.1.2 HQ.o.2.1 HQ.o.2.2).q ?_; intro kj))
 rename_i hHeld
 clear hHeld
 go_wp2
 go_ret2
 refine ⟨rfl, ?_⟩
 exact Q.i
theorem vers_ok (x : Su) (j : Int) (y : Su) (k : Int) (w : World) (h4 : wi4 1152921504606846976 x.a x.b y.a y.b = true) (h2 : wi2 1073741824 j k = true) :
  Calls Tryz.prog 105 #[.agg #[.int .i64 x.a, .int .i64 x.b], .int .i64 j, .agg #[.int .i64 y.a, .int .i64 y.b], .int .i64 k] w fun e w' => e = .returned (.tuple #[.int .i64 (versS x j y k), .int .i64 0]) ∧ Q w w' := by
 obtain ⟨a1, a2, a3, a4, b1, b2, b3, b4⟩ := (wi4_iff _ _ _ _ _).1 h4
 obtain ⟨j0, j1, k0, k1⟩ := (wi2_iff _ _ _).1 h2
 by_cases ha : (-2305843009213693952 ≤ j * x.a ∧ j * x.a ≤ 2305843009213693952) ∧ (-2305843009213693952 ≤ k * y.a ∧ k * y.a ≤ 2305843009213693952)
 ·by_cases hb : (-2305843009213693952 ≤ j * x.b ∧ j * x.b ≤ 2305843009213693952) ∧ (-2305843009213693952 ≤ k * y.b ∧ k * y.b ≤ 2305843009213693952)
  ·exact vers_c x j y k w ⟨a1, a2, a3, a4⟩ ⟨b1, b2, b3, b4⟩ j0 j1 k0 k1 ⟨ha.1, ha.2, hb.1, hb.2⟩
  exact vers_big3 x j y k w h4 h2 (hh fun w => apart_ok j x.a k y.a w (by omega) (by omega) (by omega) (by omega) (by omega) (by omega) (by omega) (by omega) ha.1.1 ha.1.2 ha.2.1 ha.2.2) (hh fun w => apart_bad j x.b k y.b w (by omega) (by omega) (by omega) (by omega) (by omega) (by omega) (by omega) (by omega) hb)
 by_cases hb : (-2305843009213693952 ≤ j * x.b ∧ j * x.b ≤ 2305843009213693952) ∧ (-2305843009213693952 ≤ k * y.b ∧ k * y.b ≤ 2305843009213693952)
 ·exact vers_big2 x j y k w h4 h2 (hh fun w => apart_bad j x.a k y.a w (by omega) (by omega) (by omega) (by omega) (by omega) (by omega) (by omega) (by omega) ha) (hh fun w => apart_ok j x.b k y.b w (by omega) (by omega) (by omega) (by omega) (by omega) (by omega) (by omega) (by omega) hb.1.1 hb.1.2 hb.2.1 hb.2.2)
 exact vers_big1 x j y k w h4 h2 (hh fun w => apart_bad j x.a k y.a w (by omega) (by omega) (by omega) (by omega) (by omega) (by omega) (by omega) (by omega) ha) (hh fun w => apart_bad j x.b k y.b w (by omega) (by omega) (by omega) (by omega) (by omega) (by omega) (by omega) (by omega) hb)
theorem vers_no1 (x : Su) (j : Int) (y : Su) (k : Int) (w : World) (h4 : wi4 1152921504606846976 x.a x.b y.a y.b = false) :
  Calls Tryz.prog 105 #[.agg #[.int .i64 x.a, .int .i64 x.b], .int .i64 j, .agg #[.int .i64 y.a, .int .i64 y.b], .int .i64 k] w fun e w' => e = .returned (.tuple #[.int .i64 0, .int .i64 1]) ∧ Q w w' := by
 go_enter Tryz.func105, Tryz.ntmps105
 go_wp2_with (go_at_call 133; (with_reducible show Calls _ _ #[_, .slice _ 4 _] _ _); refine (swithin4 _ x.a x.b y.a y.b 1152921504606846976 _ (by omega) (by omega) (by simp [go_sem]) (by simp [go_sem]) (by simp [go_sem]) (by simp [go_sem])).p ?_)
 go_ret2
 refine ⟨rfl, ?_⟩
 exact Q.i
theorem vers_no2 (x : Su) (j : Int) (y : Su) (k : Int) (w : World) (h4 : wi4 1152921504606846976 x.a x.b y.a y.b = true) (h2 : wi2 1073741824 j k = false) :
  Calls Tryz.prog 105 #[.agg #[.int .i64 x.a, .int .i64 x.b], .int .i64 j, .agg #[.int .i64 y.a, .int .i64 y.b], .int .i64 k] w fun e w' => e = .returned (.tuple #[.int .i64 0, .int .i64 1]) ∧ Q w w' := by
 go_enter Tryz.func105, Tryz.ntmps105
 go_wp2_with (first | (go_at_call 133; (with_reducible show Calls _ _ #[_, .slice _ 4 _] _ _); refine (swithin4 _ x.a x.b y.a y.b 1152921504606846976 _ (by omega) (by omega) (by simp [go_sem]) (by simp [go_sem]) (by simp [go_sem]) (by simp [go_sem])).p ?_) | (go_at_call 133; (with_reducible show Calls _ _ #[_, .slice _ 2 _] _ _); refine (swithin2 _ j k 1073741824 _ (by omega) (by omega) (by simp [go_sem]) (by simp [go_sem])).p ?_))
 go_ret2
 refine ⟨rfl, ?_⟩
 exact Q.i
theorem vers_any (x : Su) (j : Int) (y : Su) (k : Int) (w : World) :
  Calls Tryz.prog 105 #[.agg #[.int .i64 x.a, .int .i64 x.b], .int .i64 j, .agg #[.int .i64 y.a, .int .i64 y.b], .int .i64 k] w fun e w' => e = .returned (.tuple #[.int .i64 (versR x j y k).1, .int .i64 (versR x j y k).2]) ∧ Q w w' := by
 cases h4 : wi4 1152921504606846976 x.a x.b y.a y.b
 ·have e : versR x j y k = (0, 1) := by simp [versR, h4]
  rw [e]
  exact vers_no1 x j y k w h4
 cases h2 : wi2 1073741824 j k
 ·have e : versR x j y k = (0, 1) := by simp [versR, h2]
  rw [e]
  exact vers_no2 x j y k w h4 h2
 have e : versR x j y k = (versS x j y k, 0) := by simp [versR, h4, h2]
 rw [e]
 exact vers_ok x j y k w h4 h2
end Go.Proofs.YtcjflafjmdfanaaGreatDoor
/- What Sum, Restraint and Operate of package differential return for arguments in their range. -/
namespace Go.Sub
def minS (m : Int) : Su := ⟨36 * m * m, 0⟩
def opB (l : List Cur) (m n d : Int) : Bool := decide (0 ≤ sgnS ((sumW l).norm.sub (minS m))) && decide (0 < versS (sumW l).norm (d * d) (resW l) (n * n))
theorem minS_in {m : Int} (h0 : 1 ≤ m) (h1 : m ≤ 1638300) : (minS m).In 100000000000000 := by
 have hp := bd_mul (show -1638300 ≤ m by omega) h1 (show -1638300 ≤ m by omega) h1
 unfold Su.In minS
 dsimp only
 rw [Int.mul_assoc]
 omega
end Go.Sub
namespace Go.Proofs.YtcjflafjmdfanaaGreatDoor
open Go.RowKit Go.Sub
theorem dsum_c (g o cap : Nat) (l : List Cur) (w : World) (hl : 1 ≤ l.length) (hl' : l.length ≤ 16) (hr : RdC w g o l) (hok : ∀ c ∈ l, c.OK) :
  Calls Tryz.prog 101 #[.slice (some ⟨g, o, none⟩) l.length cap] w fun e w' => e = .returned (.tuple #[.agg #[.int .i64 (sumW l).a, .int .i64 (sumW l).b, .int .i64 (sumW l).c, .int .i64 (sumW l).d], .int .i64 0]) ∧ Q w w' := by
 have HG := hh fun w' (hq : Q w w') => dgatherC_c g o cap l w' hl hl' (hr.q hq) hok
 clear hr hok
 go_enter Tryz.func101, Tryz.ntmps101
 go_wp2_with (go_at_call 128; refine (HG.o _ Q.i).q ?_; intro kj)
 refine bodyPost_ret (v := .tuple #[.agg #[.int .i64 (sumW l).a, .int .i64 (sumW l).b, .int .i64 (sumW l).c, .int .i64 (sumW l).d], .int .i64 0]) (by simp [results, Tryz.results101, go_sem]) rfl ⟨rfl, ?_⟩
 exact Q.i
theorem drestr_c (g o cap : Nat) (l : List Cur) (w : World) (hl : 1 ≤ l.length) (hl' : l.length ≤ 16) (hr : RdC w g o l) (hok : ∀ c ∈ l, c.OK) :
  Calls Tryz.prog 102 #[.slice (some ⟨g, o, none⟩) l.length cap] w fun e w' => e = .returned (.tuple #[.agg #[.int .i64 (resW l).a, .int .i64 (resW l).b], .int .i64 0]) ∧ Q w w' := by
 have HG := hh fun w' (hq : Q w w') => dgatherS_c g o cap l w' hl hl' (hr.q hq) hok
 clear hr hok
 go_enter Tryz.func102, Tryz.ntmps102
 go_wp2_with (go_at_call 130; refine (HG.o _ Q.i).q ?_; intro kj)
 refine bodyPost_ret (v := .tuple #[.agg #[.int .i64 (resW l).a, .int .i64 (resW l).b], .int .i64 0]) (by simp [results, Tryz.results102, go_sem]) rfl ⟨rfl, ?_⟩
 exact Q.i
theorem versus_c (x : Su) (j : Int) (y : Su) (k : Int) (w : World) (hx : x.In 100000000000000000) (hy : y.In 100000000000000000) (hj : -1000000000 ≤ j ∧ j ≤ 1000000000) (hk : -1000000000 ≤ k ∧ k ≤ 1000000000) :
  Calls Tryz.prog 105 #[.agg #[.int .i64 x.a, .int .i64 x.b], .int .i64 j, .agg #[.int .i64 y.a, .int .i64 y.b], .int .i64 k] w fun e w' => e = .returned (.tuple #[.int .i64 (versS x j y k), .int .i64 0]) ∧ Q w w' := by
 have h := vers_any x j y k w
 have e : versR x j y k = (versS x j y k, 0) := by
  unfold Su.In at hx hy
  have h4 : wi4 1152921504606846976 x.a x.b y.a y.b = true := (wi4_iff _ _ _ _ _).2 (by omega)
  have h2 : wi2 1073741824 j k = true := (wi2_iff _ _ _).2 (by omega)
  simp [versR, h4, h2]
 rw [e] at h
 exact h
theorem doperate_b (g o cap : Nat) (l : List Cur) (m n d s1 s2 : Int) (b1 b2 : Bool) (w : World) (hl : 1 ≤ l.length) (hl' : l.length ≤ 16) (hr : RdC w g o l) (hok : ∀ c ∈ l, c.OK) (m0 : 1 ≤ m) (m1 : m ≤ 1638300) (d0 : 1 ≤ d) (d1 : d ≤ 100) (n0 : 0 ≤ n) (n1 : n ≤ d)
  (h1 : sgnS ((sumW l).norm.sub (minS m)) = s1) (h2 : versS (sumW l).norm (d * d) (resW l) (n * n) = s2) (hb1 : if b1 then 0 ≤ s1 else s1 < 0) (hb2 : if b2 then 0 < s2 else s2 ≤ 0) :
  Calls Tryz.prog 69 #[.slice (some ⟨g, o, none⟩) l.length cap, .int .i64 m, .int .i64 n, .int .i64 d] w fun e w' => e = .returned (.tuple #[.bool (b1 && b2), .int .i64 0]) ∧ Q w w' := by
 have hs := sumW_bd hok hl'
 have hrs := resW_bd hok hl'
 have hn := norm_in hs
 have hm := minS_in m0 m1
 have q1 : -100000000000000 ≤ 36 * m * m := hm.1
 have q2 : 36 * m * m ≤ 100000000000000 := hm.2.1
 obtain ⟨e1, e2⟩ := bd_mul (show -100 ≤ d by omega) d1 (show -100 ≤ d by omega) d1
 obtain ⟨e3, e4⟩ := bd_mul (show -100 ≤ n by omega) (show n ≤ 100 by omega) (show -100 ≤ n by omega) (show n ≤ 100 by omega)
 have HG := hh fun w' (hq : Q w w') => dsum_c g o cap l w' hl hl' (hr.q hq) hok
 have HR := hh fun w' (hq : Q w w') => drestr_c g o cap l w' hl hl' (hr.q hq) hok
 have HN := hh fun w => norm_c (sumW l) w (hs.mono (by decide))
 have HC := hh fun w => scmp_c (sumW l).norm (minS m) w (hn.mono (by decide)) (hm.mono (by decide))
 have HV := hh fun w => versus_c (sumW l).norm (d * d) (resW l) (n * n) w (hn.mono (by decide)) (hrs.mono (by decide)) (by omega) (by omega)
 rw [h1] at HC
 rw [h2] at HV
 change Hid (∀ w, Calls _ _ #[_, .agg #[.int .i64 (36 * m * m), .int .i64 0]] w _) at HC
 clear hr hok hs hrs hn hm h1 h2
 cases b1 <;> cases b2
 all_goals
  simp only [if_true, if_false, Bool.false_eq_true] at hb1 hb2
  go_enter Tryz.func69, Tryz.ntmps69
  go_wp2_with (first | (go_at_call 101; refine (HG.o _ Q.i).q ?_; intro kj) | (go_at_call 102; refine (HR.o _ Q.i).q ?_; intro kj) | (go_at_call 103; (with_reducible refine (HN.o _).q ?_); intro kj) | (go_at_call 104; (with_reducible refine (HC.o _).q ?_); intro kj) | (go_at_call 105; (with_reducible refine (HV.o _).q ?_); intro kj))
  go_ret2
  refine ⟨by first | rfl | (show Ending.returned (Value.tuple #[Value.bool (decide (0 < s2)), _]) = _; rw [decide_eq_true hb2]; rfl) | (show Ending.returned (Value.tuple #[Value.bool (decide (0 < s2)), _]) = _; rw [decide_eq_false (Int.not_lt.2 hb2)]; rfl), ?_⟩
  exact Q.i
theorem doperate_c (g o cap : Nat) (l : List Cur) (m n d : Int) (w : World) (hl : 1 ≤ l.length) (hl' : l.length ≤ 16) (hr : RdC w g o l) (hok : ∀ c ∈ l, c.OK) (m0 : 1 ≤ m) (m1 : m ≤ 1638300) (d0 : 1 ≤ d) (d1 : d ≤ 100) (n0 : 0 ≤ n) (n1 : n ≤ d) :
  Calls Tryz.prog 69 #[.slice (some ⟨g, o, none⟩) l.length cap, .int .i64 m, .int .i64 n, .int .i64 d] w fun e w' => e = .returned (.tuple #[.bool (opB l m n d), .int .i64 0]) ∧ Q w w' := by
 refine doperate_b g o cap l m n d _ _ _ _ w hl hl' hr hok m0 m1 d0 d1 n0 n1 rfl rfl ?_ ?_
 ·split
  ·rename_i h; exact of_decide_eq_true h
  rename_i h
  rw [decide_eq_true_eq] at h
  omega
 split
 ·rename_i h; exact of_decide_eq_true h
 rename_i h
 rw [decide_eq_true_eq] at h
 omega
end Go.Proofs.YtcjflafjmdfanaaGreatDoor
/- What Within, result and conj of the reference return. -/
namespace Go.Proofs.YtcjflafjmdfanaaGreatDoor
open Go.RowKit Go.Sub
theorem rwithin_any (a b c d l : Int) (w : World) (h0 : 0 ≤ l) (h1 : l ≤ 1000000000000000000) :
  Calls Tryz.prog 114 #[.agg #[.int .i64 a, .int .i64 b, .int .i64 c, .int .i64 d], .int .i64 l] w fun e w' => e = .returned (.bool (wiB ⟨a, b, c, d⟩ l)) ∧ Q w w' := by
 go_enter Tryz.func114, Tryz.ntmps114
 go_wp2
 refine wp_loop_rounds 5 ?_
 repeat any_goals (rw [rounds_succ]; go_wp2)
 all_goals go_ret
 all_goals (refine ⟨?_, (Q.refl _).alloc _⟩; simp [wiB, brkB, *] <;> omega)
theorem rresult_any (a b c d : Int) (w : World) :
  Calls Tryz.prog 160 #[.agg #[.int .i64 a, .int .i64 b, .int .i64 c, .int .i64 d]] w fun e w' => e = .returned (.tuple #[.agg #[.int .i64 (limR ⟨a, b, c, d⟩).v.a, .int .i64 (limR ⟨a, b, c, d⟩).v.b, .int .i64 (limR ⟨a, b, c, d⟩).v.c, .int .i64 (limR ⟨a, b, c, d⟩).v.d], .int .i64 (limR ⟨a, b, c, d⟩).e]) ∧ Q w w' := by
 by_cases h : wiB ⟨a, b, c, d⟩ 576460752303423488 = true
 ·go_enter Tryz.func160, Tryz.ntmps160
  go_wp2_with (go_at_call 114; refine (rwithin_any _ _ _ _ _ _ (by omega) (by omega)).q ?_; intro kj)
  refine bodyPost_ret (v := .tuple #[.agg #[.int .i64 a, .int .i64 b, .int .i64 c, .int .i64 d], .int .i64 0]) (by simp [results, Tryz.results160, go_sem]) rfl ⟨by simp [limR, h], ?_⟩
  exact Q.i
 have h : wiB ⟨a, b, c, d⟩ 576460752303423488 = false := by simpa using h
 go_enter Tryz.func160, Tryz.ntmps160
 go_wp2_with (go_at_call 114; refine (rwithin_any _ _ _ _ _ _ (by omega) (by omega)).q ?_; intro kj)
 refine bodyPost_ret (v := .tuple #[.agg #[.int .i64 0, .int .i64 0, .int .i64 0, .int .i64 0], .int .i64 2]) (by simp [results, Tryz.results160, go_sem]) rfl ⟨by simp [limR, h, zeroC], ?_⟩
 exact Q.i
end Go.Proofs.YtcjflafjmdfanaaGreatDoor
/- What Add, Sub, Conj, Real, Imag and Norm of the reference return. -/
namespace Go.Proofs.YtcjflafjmdfanaaGreatDoor
open Go.RowKit Go.Sub
theorem radd_any (a b c d a' b' c' d' : Int) (w : World) :
  Calls Tryz.prog 138 #[.agg #[.int .i64 a, .int .i64 b, .int .i64 c, .int .i64 d], .agg #[.int .i64 a', .int .i64 b', .int .i64 c', .int .i64 d']] w fun e w' => e = .returned (.tuple #[.agg #[.int .i64 (addR ⟨a, b, c, d⟩ ⟨a', b', c', d'⟩).v.a, .int .i64 (addR ⟨a, b, c, d⟩ ⟨a', b', c', d'⟩).v.b, .int .i64 (addR ⟨a, b, c, d⟩ ⟨a', b', c', d'⟩).v.c, .int .i64 (addR ⟨a, b, c, d⟩ ⟨a', b', c', d'⟩).v.d], .int .i64 (addR ⟨a, b, c, d⟩ ⟨a', b', c', d'⟩).e]) ∧ Q w w' := by
 by_cases h : wiB ⟨a, b, c, d⟩ 576460752303423488 = true
 rotate_left
 ·have h : wiB ⟨a, b, c, d⟩ 576460752303423488 = false := by simpa using h
  go_enter Tryz.func138, Tryz.ntmps138
  go_wp2_with (go_at_call 114; refine (rwithin_any _ _ _ _ _ _ (by omega) (by omega)).q ?_; intro kj)
  refine bodyPost_ret (v := .tuple #[.agg #[.int .i64 (R4.mk zeroC 1).v.a, .int .i64 (R4.mk zeroC 1).v.b, .int .i64 (R4.mk zeroC 1).v.c, .int .i64 (R4.mk zeroC 1).v.d], .int .i64 (R4.mk zeroC 1).e]) (by simp [results, Tryz.results138, go_sem, zeroC]) rfl ⟨by simp [addR, h], ?_⟩
  exact Q.i
 by_cases h' : wiB ⟨a', b', c', d'⟩ 576460752303423488 = true
 rotate_left
 ·have h' : wiB ⟨a', b', c', d'⟩ 576460752303423488 = false := by simpa using h'
  go_enter Tryz.func138, Tryz.ntmps138
  go_wp2_with (go_at_call 114; refine (rwithin_any _ _ _ _ _ _ (by omega) (by omega)).q ?_; intro kj)
  refine bodyPost_ret (v := .tuple #[.agg #[.int .i64 (R4.mk zeroC 1).v.a, .int .i64 (R4.mk zeroC 1).v.b, .int .i64 (R4.mk zeroC 1).v.c, .int .i64 (R4.mk zeroC 1).v.d], .int .i64 (R4.mk zeroC 1).e]) (by simp [results, Tryz.results138, go_sem, zeroC]) rfl ⟨by simp [addR, h, h'], ?_⟩
  exact Q.i
 obtain ⟨l1, l2, l3, l4, l5, l6, l7, l8⟩ := wiB_in h
 obtain ⟨m1, m2, m3, m4, m5, m6, m7, m8⟩ := wiB_in h'
 dsimp only at l1 l2 l3 l4 l5 l6 l7 l8 m1 m2 m3 m4 m5 m6 m7 m8
 have hR : addR ⟨a, b, c, d⟩ ⟨a', b', c', d'⟩ = limR ⟨a + a', b + b', c + c', d + d'⟩ := by simp [addR, h, h', Cy.add]
 rw [hR]
 clear hR
 go_enter Tryz.func138, Tryz.ntmps138
 go_wp2_with (go_at_call 114; refine (rwithin_any _ _ _ _ _ _ (by omega) (by omega)).q ?_; intro kj)
 go_wp2_with (go_at_call 160; refine (rresult_any _ _ _ _ _).q ?_; intro kj)
 refine bodyPost_ret (v := .tuple #[.agg #[.int .i64 (limR ⟨a + a', b + b', c + c', d + d'⟩).v.a, .int .i64 (limR ⟨a + a', b + b', c + c', d + d'⟩).v.b, .int .i64 (limR ⟨a + a', b + b', c + c', d + d'⟩).v.c, .int .i64 (limR ⟨a + a', b + b', c + c', d + d'⟩).v.d], .int .i64 (limR ⟨a + a', b + b', c + c', d + d'⟩).e]) (by simp [results, Tryz.results138, go_sem]) rfl ⟨rfl, ?_⟩
 exact Q.i
theorem rnorm_any (a b c d : Int) (w : World) :
  Calls Tryz.prog 87 #[.agg #[.int .i64 a, .int .i64 b, .int .i64 c, .int .i64 d]] w fun e w' => e = .returned (.tuple #[.agg #[.int .i64 (normR ⟨a, b, c, d⟩).v.a, .int .i64 (normR ⟨a, b, c, d⟩).v.b], .int .i64 (normR ⟨a, b, c, d⟩).e]) ∧ Q w w' := by
 by_cases h : wiB ⟨a, b, c, d⟩ 268435456 = true
 rotate_left
 ·have h : wiB ⟨a, b, c, d⟩ 268435456 = false := by simpa using h
  go_enter Tryz.func87, Tryz.ntmps87
  go_wp2_with (go_at_call 114; refine (rwithin_any _ _ _ _ _ _ (by omega) (by omega)).q ?_; intro kj)
  refine bodyPost_ret (v := .tuple #[.agg #[.int .i64 0, .int .i64 0], .int .i64 1]) (by simp [results, Tryz.results87, go_sem]) rfl ⟨by simp [normR, h], ?_⟩
  exact Q.i
 obtain ⟨l1, l2, l3, l4, l5, l6, l7, l8⟩ := wiB_in h
 dsimp only at l1 l2 l3 l4 l5 l6 l7 l8
 obtain ⟨p0, p1⟩ := bd_mul l1 l2 l1 l2
 obtain ⟨p2, p3⟩ := bd_mul l3 l4 l3 l4
 obtain ⟨p4, p5⟩ := bd_mul l5 l6 l5 l6
 obtain ⟨p6, p7⟩ := bd_mul l7 l8 l7 l8
 obtain ⟨p8, p9⟩ := bd_mul l1 l2 l5 l6
 obtain ⟨p10, p11⟩ := bd_mul l3 l4 l7 l8
 obtain ⟨p12, p13⟩ := bd_mul l1 l2 l3 l4
 obtain ⟨p14, p15⟩ := bd_mul l3 l4 l5 l6
 obtain ⟨p16, p17⟩ := bd_mul l5 l6 l7 l8
 simp only [Int.reduceMul, Int.reduceNeg] at p0 p1 p2 p3 p4 p5 p6 p7 p8 p9 p10 p11 p12 p13 p14 p15 p16 p17
 go_enter Tryz.func87, Tryz.ntmps87
 go_wp2_with (go_at_call 114; refine (rwithin_any _ _ _ _ _ _ (by omega) (by omega)).q ?_; intro kj)
 refine wrj (by kernel_rfl) ?_
 repeat (go_big_quiet_step (fail))
 refine wq0 fun kq => ?_
 go_wp2
 refine bodyPost_ret (v := .tuple #[.agg #[.int .i64 (a*a + b*b + c*c + d*d + a*c + b*d), .int .i64 (a*b + b*c + c*d)], .int .i64 0]) (by simp [results, Tryz.results87, go_sem]) rfl ⟨by simp [normR, h, Cy.norm], ?_⟩
 exact Q.i
end Go.Proofs.YtcjflafjmdfanaaGreatDoor
/- Harmonics of windows: plain arithmetic. No program in sight. -/
namespace Go.Sub
def sumC (y : Nat → Cy) : Nat → Cy
 | 0 => ⟨0, 0, 0, 0⟩
 | n + 1 => (sumC y n).add (y n)
theorem sumC_in {y : Nat → Cy} {l : Int} (n : Nat) (h : ∀ k, k < n → (y k).In l) : (sumC y n).In (n * l) := by
 induction n with
 | zero => unfold Cy.In sumC; simp
 | succ n ih =>
  have h1 := Cy.add_in (ih fun k hk => h k (by omega)) (h n (by omega))
  refine Cy.In.mono h1 ?_
  have : ((n + 1 : Nat) : Int) * l = n * l + l := by rw [Int.natCast_add, Int.add_mul]; simp
  omega
def Cy.scl (x : Cy) (k : Int) : Cy := ⟨x.a * k, x.b * k, x.c * k, x.d * k⟩
def hterm (x : Nat → Int) (h : Int) (k : Nat) : Cy := (rootC (-h * k)).scl (x k)
def harm (x : Nat → Int) (h : Int) : Cy := sumC (hterm x h) 12
theorem hterm_in {x : Nat → Int} {h l : Int} {k : Nat} (h1 : -l ≤ x k) (h2 : x k ≤ l) : (hterm x h k).In (2 * l) := by
 obtain ⟨r1, r2, r3, r4, r5, r6, r7, r8⟩ := rootC_in (-h * k)
 have p1 := bd_mul r1 r2 h1 h2
 have p2 := bd_mul r3 r4 h1 h2
 have p3 := bd_mul r5 r6 h1 h2
 have p4 := bd_mul r7 r8 h1 h2
 unfold Cy.In hterm Cy.scl
 dsimp only
 omega
def WinOK (x : Nat → Int) (l : Int) : Prop := ∀ k, k < 12 → -l ≤ x k ∧ x k ≤ l
theorem harm_in {x : Nat → Int} {l : Int} (h : Int) (hx : WinOK x l) : (harm x h).In (24 * l) :=
 Cy.In.mono (sumC_in (l := 2 * l) 12 fun k hk => hterm_in (hx k hk).1 (hx k hk).2) (by omega)
theorem rootC_congr {j k : Int} (h : j % 12 = k % 12) : rootC j = rootC k := by unfold rootC; rw [h]
theorem neg_tmod (h : Int) (k : Nat) : (-(h.tmod 12) * k) % 12 = (-h * k) % 12 := by
 have e : h = 12 * h.tdiv 12 + h.tmod 12 := (Int.mul_tdiv_add_tmod h 12).symm
 generalize h.tdiv 12 = q at e
 generalize h.tmod 12 = r at e ⊢
 subst e
 have : -(12 * q + r) * (k : Int) = -r * k + 12 * (-(q * k)) := by grind
 rw [this, Int.add_mul_emod_self_left]
theorem hterm_tmod (x : Nat → Int) (h : Int) (k : Nat) : hterm x (h.tmod 12) k = hterm x h k := by
 unfold hterm
 rw [rootC_congr (neg_tmod h k)]
theorem harm_tmod (x : Nat → Int) (h : Int) : harm x (h.tmod 12) = harm x h := by
 have : ∀ n, sumC (hterm x (h.tmod 12)) n = sumC (hterm x h) n := by
  intro n
  induction n with
  | zero => rfl
  | succ n ih => unfold sumC; rw [ih, hterm_tmod]
 exact this 12
theorem scaleR_ok {x : Cy} {k : Int} (hx : x.In 1000000) (hk : -1000000000 ≤ k ∧ k ≤ 1000000000) : scaleR x k = ⟨x.scl k, 0⟩ := by
 obtain ⟨r1, r2, r3, r4, r5, r6, r7, r8⟩ := hx
 have p1 := bd_mul r1 r2 hk.1 hk.2
 have p2 := bd_mul r3 r4 hk.1 hk.2
 have p3 := bd_mul r5 r6 hk.1 hk.2
 have p4 := bd_mul r7 r8 hk.1 hk.2
 have h1 : wiB x 576460752303423488 = true := wiB_of ⟨by omega, by omega, by omega, by omega, by omega, by omega, by omega, by omega⟩
 have h2 : brkB 576460752303423488 k = false := by
  simp only [brkB, Bool.or_eq_false_iff, decide_eq_false_iff_not]
  omega
 have h3 : wiB ⟨x.a * k, x.b * k, x.c * k, x.d * k⟩ 576460752303423488 = true := wiB_of ⟨by dsimp only; omega, by dsimp only; omega, by dsimp only; omega, by dsimp only; omega, by dsimp only; omega, by dsimp only; omega, by dsimp only; omega, by dsimp only; omega⟩
 simp [scaleR, limR, h1, h2, h3, Cy.scl]
def enrg (x : Nat → Int) : Nat → Int
 | 0 => 0
 | n + 1 => enrg x n + x n * x n
end Go.Sub
/- Helpers of the frame of a law's proof, of no program: arrays of integers opened; a call that leaves all that was there meets the specification 'true, and the arguments read as they did'. -/
namespace Go
open Go.ChangeShapes Go.WideShapes Go.ChangeAt Go.RowKit
section
variable {H : Type} {enc : TypeId × Value → H} {P : Program} {w : World} {base : Nat} {spare : Nat → Bool} {held : Bool}
theorem trod_arr_ints {fuel : Nat} {t e : TypeId} {n : Nat} {cs : List Value} {x : DataW H × List MemPlace} (ht : P.underlying t = some (.array n e)) (he : P.underlying e = some (.int .i64)) (hce : P.cellsOf e = 1) (hct : P.cellsOf t = n)
  (h : DataW.trod enc P w base spare held fuel t cs = some x) :
  ∃ ks : List Int, ks.length = n ∧ cs = ks.map (Value.int .i64) ∧ x = (.agg (ks.map fun k => .lit (.int .i64 k)), []) ∧ ∀ k ∈ ks, (Lit.int .i64 k).wf = true := by
 obtain ⟨xs, m, rfl, rfl, hl, hxs, hel⟩ := DataW.trod_array ht h
 rw [hct] at hl
 rw [hce] at hel
 have one : ∀ i, i < n → ∃ k, cs[i]? = some (.int .i64 k) ∧ xs[i]? = some (.lit (.int .i64 k), []) ∧ (Lit.int .i64 k).wf = true := by
  intro i hi
  have h1 := hel i hi
  obtain ⟨y, hy⟩ : ∃ y, xs[i]? = some y := ⟨_, List.getElem?_eq_getElem (by omega)⟩
  rw [hy] at h1
  obtain ⟨k, hk, rfl, hw⟩ := DataW.trod_int he h1
  refine ⟨k, ?_, hy, hw⟩
  have := congrArg (·[0]?) hk
  simpa [List.getElem?_take, List.getElem?_drop] using this
 refine ⟨cs.map intOf, by simp [hl], ?_, ?_, ?_⟩
 ·apply List.ext_getElem?
  intro i
  by_cases hi : i < n
  rotate_left
  ·rw [List.getElem?_eq_none (by omega), List.getElem?_eq_none (by simp; omega)]
  obtain ⟨k, h1, _, _⟩ := one i hi
  simp [h1, intOf]
 ·have e1 : xs.map (·.1) = (cs.map intOf).map fun k => (DataW.lit (.int .i64 k) : DataW H) := by
   apply List.ext_getElem?
   intro i
   by_cases hi : i < n
   rotate_left
   ·rw [List.getElem?_eq_none (by simp; omega), List.getElem?_eq_none (by simp; omega)]
   obtain ⟨k, h1, h2, _⟩ := one i hi
   simp [h1, h2, intOf]
  have e2 : xs.flatMap (·.2) = [] := by
   rw [List.flatMap_eq_nil_iff]
   intro y hy
   obtain ⟨i, hi, rfl⟩ := List.getElem_of_mem hy
   obtain ⟨k, _, h2, _⟩ := one i (by omega)
   rw [List.getElem?_eq_getElem hi] at h2
   rw [Option.some.inj h2]
  rw [e1, e2]
 intro k hk
 obtain ⟨v, hv, rfl⟩ := List.mem_map.1 hk
 obtain ⟨i, hi, rfl⟩ := List.getElem_of_mem hv
 obtain ⟨k, h1, _, hw⟩ := one i (by omega)
 rw [List.getElem?_eq_getElem hi] at h1
 rw [Option.some.inj h1]
 exact hw
theorem trodAll_stays {W W' : World} (hl : laidOutB P = true) (hb : Below W.heap.size W W') : ∀ {ts : List TypeId} {vs : List Value} {ds : List (DataW H)} {ps : List MemPlace} {sp : Nat → Bool},
  (∀ t ∈ ts, P.readableRec t = true ∧ t < P.types.size) → DataW.TrodAll enc P W 0 (fun _ => true) true ts vs ds ps → (∀ x ∈ ps, x.block < W.heap.size) → (∀ x ∈ ps, sp x.block = true) →
  DataW.TrodAll enc P W' 0 sp true ts vs ds ps
 | [], [], [], _, _, _, h, _, _ => h
 | t :: ts, v :: vs, d :: ds, ps, sp, ht, h, hlt, hsp => by
  obtain ⟨p, q, h0, h1, rfl⟩ := h
  refine ⟨p, q, ?_, trodAll_stays hl hb (fun t' ht' => ht t' (List.mem_cons_of_mem _ ht')) h1 (fun x hx => hlt x (List.mem_append_right _ hx)) (fun x hx => hsp x (List.mem_append_right _ hx)), rfl⟩
  have := ht t (List.mem_cons_self ..)
  exact WideElems.Trod_stays hl this.1 this.2 h0 (fun x hx => hb.same (hlt x (List.mem_append_left _ hx))) (fun x hx => hsp x (List.mem_append_left _ hx))
 | [], _ :: _, _, _, _, _, h, _, _ => by exact h.elim
 | _ :: _, [], _, _, _, _, h, _, _ => by exact h.elim
 | [], [], _ :: _, _, _, _, h, _, _ => by exact h.elim
 | _ :: _, _ :: _, [], _, _, _, h, _, _ => by exact h.elim
theorem law_post {f : Func} {s : ChangeSpec} {W W' : World} {args : Array Value} {ds : List (DataW H)} {before : List MemPlace} {tb : TypeId}
  (hl : laidOutB P = true) (hts : ∀ t ∈ f.params.toList, P.readableRec t = true ∧ t < P.types.size) (hr : f.resultTypes = #[tb]) (hbool : P.underlying tb = some .bool) (hvars : s.vars = [])
  (hfn : ∀ ds' : List (DataW H), ds'.length = f.params.size → s.fn H ds' = { results := [.lit (.bool true)], args := ds' })
  (hW : DataW.Whole enc P f.params.toList s.vars false W args.toList ds [] before) (hb : Below W.heap.size W W') (hlen : ds.length = f.params.size) :
  s.post enc P f false true false false W args (.bool true) W' := by
 have hlt : ∀ p ∈ before, p.block < W.heap.size := fun p hp => hW.lt p hp
 have hW' := hW
 obtain ⟨p, q, hA, hV, rfl, hz, hn⟩ := hW
 rw [hvars] at hV
 obtain ⟨_, rfl⟩ := trodVars_none hV
 simp only [List.append_nil] at hlt hz hn hW'
 have efn := hfn ds hlen
 have hold : ∀ x ∈ p, (fun b => decide (b < W.heap.size)) x.block = true := fun x hx => by simpa using hlt x hx
 have hargs : ∀ sp : Nat → Bool, (∀ x ∈ p, sp x.block = true) → DataW.TrodAll enc P W' 0 sp true f.params.toList args.toList ds p := fun sp hsp => trodAll_stays hl hb hts hA hlt hsp
 have hres : ∀ (b : Nat) (sp : Nat → Bool) (hd : Bool), DataW.TrodAll enc P W' b sp hd f.resultTypes.toList ((Value.bool true).resultList f.resultTypes.size) [.lit (.bool true)] [] := by
  intro b sp hd
  rw [hr]
  exact trodAll_cons_mk (shut_bool hbool _) trodAll_mk0
 refine ⟨ds, [], p, [], p, [], hW', ?_, ?_, ?_, ?_, fun h => by cases h⟩
 ·rw [List.append_nil, efn]; exact hres _ _ _
 ·rw [List.append_nil, efn]; exact hargs _ hold
 ·rw [List.append_nil, efn, hvars]; rfl
 exact World.keptBut_mono (fun x hx => ⟨hx, by simpa using hx⟩) (hb.frame (· ∈ p))
end
end Go
/- The table of package cyclo, as the rows list it, lies in its cells; a world for the witnesses. -/
namespace Go
open Go.RowKit
theorem cells_of_tab2 {H : Type} {enc : TypeId × Value → H} {P : Program} {w : World} {base : Nat} {sp : Nat → Bool} {held : Bool} {fuel : Nat} {t e f : TypeId} {n m : Nat} {cs : List Value} {zss : List (List Int)} {p : List MemPlace}
  (ht : P.underlying t = some (.array n e)) (he : P.underlying e = some (.array m f)) (hf : P.underlying f = some (.int .i64)) (hcf : P.cellsOf f = 1) (hce : P.cellsOf e = m)
  (h : DataW.trod enc P w base sp held fuel t cs = some (.agg (zss.map fun zs => .agg (zs.map fun z => .lit (.int .i64 z))), p)) (i j : Nat) (hi : i < n) (hj : j < m) :
  cs[i * m + j]? = some (.int .i64 ((zss.getD i []).getD j 0)) := by
 obtain ⟨xs, k, rfl, hx, hl, hxs, hel⟩ := DataW.trod_array ht h
 have h1 := hel i hi
 obtain ⟨y, hy⟩ : ∃ y, xs[i]? = some y := ⟨_, List.getElem?_eq_getElem (by omega)⟩
 rw [hy, hce] at h1
 obtain ⟨ks, hkl, hcs, rfl, _⟩ := trod_arr_ints he hf hcf hce h1
 simp only [Prod.mk.injEq, DataW.agg.injEq] at hx
 have h2 := congrArg (·[i]?) hx.1
 simp only [List.getElem?_map, hy, Option.map_some, Option.map_eq_some_iff, DataW.agg.injEq] at h2
 obtain ⟨zs, hz, hzs⟩ := h2
 have hk : ks = zs := by
  have hinj : Function.Injective (fun k : Int => (DataW.lit (.int .i64 k) : DataW H)) := fun a b h => by simpa using h
  exact (List.map_inj_right (fun _ _ h => hinj h)).1 hzs.symm
 subst hk
 have h3 := congrArg (·[j]?) hcs
 simp only [List.getElem?_take, List.getElem?_drop, hj, if_true, List.getElem?_map] at h3
 rw [h3]
 simp [List.getD, hz, List.getElem?_eq_getElem (show j < ks.length by omega)]
end Go
namespace Go.Proofs.YtcjflafjmdfanaaGreatDoor
open Go.RowKit Go.Sub
theorem gRoots : Tryz.prog.globalNamed "substation/cyclo.roots" = some 0 := by kernel_rfl
theorem gRootsType : (Tryz.prog.globals[0]?).map (·.type) = some 205 := by kernel_rfl
theorem cellsInt : Tryz.prog.cellsOf 3 = 1 := by kernel_rfl
theorem cellsCyc : Tryz.prog.cellsOf 141 = 4 := by kernel_rfl
theorem roots_of_laid {W : World} (h : laidMetH Tryz.prog [("substation/cyclo.roots", Rows.laid_substation_cyclo_roots)] W) : RootsOK W := by
 rw [MakeChecks.laidMetH_plain _ _ _ (by kernel_rfl)] at h
 obtain ⟨ps, ⟨g', t', cs, fuel, p, q, hg', ht', hvar, hd, _, _⟩, _⟩ := h
 obtain rfl := Option.some.inj (gRoots.symm.trans hg')
 obtain rfl := Option.some.inj (gRootsType.symm.trans ht')
 have hc : ∀ i j, i < 6 → j < 4 → cs.toList[i * 4 + j]? = some (.int .i64 (([[1, 0, 0, 0], [0, 1, 0, 0], [0, 0, 1, 0], [0, 0, 0, 1], [-1, 0, 1, 0], [0, -1, 0, 1]] : List (List Int)).getD i [] |>.getD j 0)) :=
  fun i j hi hj => cells_of_tab2 (zss := [[1, 0, 0, 0], [0, 1, 0, 0], [0, 0, 1, 0], [0, 0, 0, 1], [-1, 0, 1, 0], [0, -1, 0, 1]]) Tryz.underlying205 Tryz.underlying141 Tryz.underlying3 cellsInt cellsCyc hd i j hi hj
 have hcell : ∀ i, i < 24 → W.cell? ⟨0, i, none⟩ = some (.int .i64 (rootTab.getD i 0)) := by
  intro i hi
  rw [World.var?_cell gRoots hvar i]
  have := hc (i / 4) (i % 4) (by omega) (by omega)
  rw [show i / 4 * 4 + i % 4 = i by omega] at this
  have e : (([[1, 0, 0, 0], [0, 1, 0, 0], [0, 0, 1, 0], [0, 0, 0, 1], [-1, 0, 1, 0], [0, -1, 0, 1]] : List (List Int)).getD (i / 4) [] |>.getD (i % 4) 0) = rootTab.getD i 0 := by
   have : ∀ i : Fin 24, (([[1, 0, 0, 0], [0, 1, 0, 0], [0, 0, 1, 0], [0, 0, 0, 1], [-1, 0, 1, 0], [0, -1, 0, 1]] : List (List Int)).getD (i.val / 4) [] |>.getD (i.val % 4) 0) = rootTab.getD i.val 0 := by decide
   exact this ⟨i, hi⟩
  rw [e] at this
  simpa using this
 refine ⟨?_, hcell⟩
 have h0 := hcell 0 (by omega)
 rcases Nat.lt_or_ge 0 W.heap.size with h | h
 ·exact h
 simp [World.cell?, Array.getElem?_eq_none h] at h0
theorem own : ownKnob Tryz.prog.godebug = none := by kernel_rfl
noncomputable def laidWorld (os : Os) : World :=
 { World.holding Tryz.prog os ⟨#[], #[], []⟩ with heap := (World.holding Tryz.prog os ⟨#[], #[], []⟩).heap.modify 0 fun
   | .cells _ t frozen => .cells #[.int .i64 1, .int .i64 0, .int .i64 0, .int .i64 0, .int .i64 0, .int .i64 1, .int .i64 0, .int .i64 0, .int .i64 0, .int .i64 0, .int .i64 1, .int .i64 0, .int .i64 0, .int .i64 0, .int .i64 0, .int .i64 1, .int .i64 (-1), .int .i64 0, .int .i64 1, .int .i64 0, .int .i64 0, .int .i64 (-1), .int .i64 0, .int .i64 1] t frozen
   | o => o }
theorem laidOut : laidOutB Tryz.prog = true := by kernel_rfl
theorem old_at {w : World} {b i : Nat} {v : Value} (h : w.cell? ⟨b, i, none⟩ = some v) : Old b w := ⟨World.block_lt_of_cell? w ⟨b, i, none⟩ h⟩
def Win (w : World) (b o : Nat) (x : Nat → Int) : Prop := ∀ k, k < 12 → w.cell? ⟨b, o + k, none⟩ = some (.int .i64 (x k))
theorem Win.old {w : World} {b o : Nat} {x : Nat → Int} (h : Win w b o x) : Old b w := old_at (h 0 (by omega))
theorem Win.q {w w' : World} {b o : Nat} {x : Nat → Int} (h : Win w b o x) (hq : Q w w') : Win w' b o x := by
 intro k hk
 haveI := h.old
 obtain ⟨kk, rfl⟩ := hq
 rw [World.cell?_jk]
 exact h k hk
theorem phcheck_c (b o c : Nat) (x : Nat → Int) (w : World) (hw : Win w b o x) (hx : WinOK x 16383) :
  Calls Tryz.prog 33 #[.slice (some ⟨b, o, none⟩) 12 c] w fun e w' => e = .returned (.int .i64 0) ∧ w = w' := by
 go_enter Tryz.func33, Tryz.ntmps33
 go_wp2
 go_loop [10] (fun i => ∃ k : Nat, k ≤ 12 ∧ i = .int .i64 k) (fun i => 12 - (intOf i).toNat)
 case atStart => exact ⟨0, by omega, rfl⟩
 case round =>
  obtain ⟨k, hk, rfl⟩ := hrel
  by_cases hlt : k < 12
  rotate_left
  ·clear hw hx
   go_wp2
   go_ret
   exact ⟨rfl, rfl⟩
  have hc := hw k hlt
  obtain ⟨h1, h2⟩ := hx k hlt
  clear hw hx
  go_wp2
  go_round
  case rel => exact ⟨k + 1, by omega, by go_num⟩
  case measure => simp [intOf]; omega
def Term (F : FuncId) (cap : Array Value) (y : Nat → Cy) (w : World) : Prop :=
 ∀ (k : Nat) (w' : World), k < 12 → Q w w' → Calls Tryz.prog F (#[.int .i64 (k : Int)] ++ cap) w' fun e w'' => e = .returned (.tuple #[.agg #[.int .i64 (y k).a, .int .i64 (y k).b, .int .i64 (y k).c, .int .i64 (y k).d], .int .i64 0]) ∧ Q w' w''
theorem phsum_c (F : FuncId) (cap : Array Value) (y : Nat → Cy) (w : World) (hF : ∀ (args : Array Value) (w : World), (callFunc F args).run Tryz.prog w = .ok (.enter F args) w) (ht : Term F cap y w) (hy : ∀ k, k < 12 → (y k).In 1000000000000000) :
  Calls Tryz.prog 97 #[.func (.func F) #[] cap] w fun e w' => e = .returned (.tuple #[.agg #[.int .i64 (sumC y 12).a, .int .i64 (sumC y 12).b, .int .i64 (sumC y 12).c, .int .i64 (sumC y 12).d], .int .i64 0]) ∧ Q w w' := by
 go_enter Tryz.func97, Tryz.ntmps97
 go_wp2
 go_loopw [8] (fun i wr => ∃ k : Nat, k ≤ 12 ∧ i = .int .i64 k ∧ Q ((w.alloc (.cells #[.int .i64 0, .int .i64 0, .int .i64 0, .int .i64 0] 141)).alloc (.cells #[.int .i64 (sumC y k).a, .int .i64 (sumC y k).b, .int .i64 (sumC y k).c, .int .i64 (sumC y k).d] 141)) wr) (fun i _ => 12 - (intOf i).toNat)
 case atStart => exact ⟨0, by omega, rfl, Q.refl _⟩
 case round =>
  obtain ⟨k, hk, rfl, kw, rfl⟩ := hrel
  by_cases hlt : k < 12
  rotate_left
  ·obtain rfl : k = 12 := by omega
   clear hy ht
   go_wp2
   refine bodyPost_ret (v := .tuple #[.agg #[.int .i64 (sumC y 12).a, .int .i64 (sumC y 12).b, .int .i64 (sumC y 12).c, .int .i64 (sumC y 12).d], .int .i64 0]) (by simp [results, Tryz.results97, go_sem]) rfl ⟨rfl, ?_⟩
   exact Q.i
  have hyk := hy k hlt
  have hsk := sumC_in (l := 1000000000000000) k fun j hj => hy j (by omega)
  have hs2 := hsk.mono (show (k : Int) * 1000000000000000 ≤ 50000000000000000 by omega)
  clear hsk
  have HT := fun w' => ht k w' hlt
  have HH := hh HT
  clear HT hy ht
  go_wp2_with (first | (refine (HH.o _ Q.i).q ?_; intro kj) | (go_at_call 121; refine (add_c _ _ _ (Cy.In.mono (by assumption) (by decide)) (Cy.In.mono (by assumption) (by decide))).q ?_; intro kj))
  go_roundw
  case rel =>
   refine ⟨k + 1, by omega, by go_num, ?_⟩
   repeat' (first | exact Q.refl _ | refine Q.jk ?_ _ | refine Q.alloc ?_ _ | refine Q.drew ?_)
  case measure => simp [intOf]; omega
theorem scale_c (x : Cy) (k : Int) (w : World) (hx : x.In 1000000) (hk : -1000000000 ≤ k ∧ k ≤ 1000000000) :
  Calls Tryz.prog 99 #[.agg #[.int .i64 x.a, .int .i64 x.b, .int .i64 x.c, .int .i64 x.d], .int .i64 k] w fun e w' => e = .returned (.tuple #[.agg #[.int .i64 (x.scl k).a, .int .i64 (x.scl k).b, .int .i64 (x.scl k).c, .int .i64 (x.scl k).d], .int .i64 0]) ∧ Q w w' := by
 have h := scale_any x.a x.b x.c x.d k w
 rw [scaleR_ok hx hk] at h
 exact h
theorem phterm_c (k : Nat) (h : Int) (bh bx b o c : Nat) (x : Nat → Int) (w : World) (hr : RootsOK w) (hk : k < 12) (ch : w.cell? ⟨bh, 0, none⟩ = some (.int .i64 h)) (cx : w.cell? ⟨bx, 0, none⟩ = some (.slice (some ⟨b, o, none⟩) 12 c))
  (ck : w.cell? ⟨b, o + k, none⟩ = some (.int .i64 (x k))) (h1 : -16383 ≤ x k) (h2 : x k ≤ 16383) (hh1 : -12 ≤ h) (hh2 : h ≤ 12) :
  Calls Tryz.prog 98 #[.int .i64 (k : Int), .pointer (some ⟨bh, 0, none⟩), .pointer (some ⟨bx, 0, none⟩)] w fun e w' => e = .returned (.tuple #[.agg #[.int .i64 (hterm x h k).a, .int .i64 (hterm x h k).b, .int .i64 (hterm x h k).c, .int .i64 (hterm x h k).d], .int .i64 0]) ∧ Q w w' := by
 haveI := old_at ch
 haveI := old_at cx
 haveI := old_at ck
 have kk : (0 : Int) ≤ (k : Int) := by omega
 have kk2 : (k : Int) < 12 := by omega
 have hm := bd_mul hh1 hh2 (show -12 ≤ (k : Int) by omega) (show (k : Int) ≤ 12 by omega)
 have hm1 : -1000 ≤ -h * (k : Int) := by rw [Int.neg_mul]; omega
 have hm2 : -h * (k : Int) ≤ 1000 := by rw [Int.neg_mul]; omega
 clear hm
 have hri := rootC_in (-h * k)
 go_enter Tryz.func98, Tryz.ntmps98
 go_wp2
 try simp only [List.append]
 refine wp_region_tail 12 (by kernel_rfl) (by kernel_rfl) ?_
 simp only [List.take_succ_cons, List.take_zero, List.drop_succ_cons, List.drop_zero]
 repeat (go_big_quiet_step ((first | (go_at_call 100; exact Calls.jk_of (root_any _ _ (hr.q Q.i))) | (go_at_call 99; exact Calls.jk_of (scale_c _ _ _ (Cy.In.mono (by assumption) (by decide)) (by omega))))))
 refine wq0 fun kq => ?_
 go_wp2
 refine bodyPost_ret (v := .tuple #[.agg #[.int .i64 (hterm x h k).a, .int .i64 (hterm x h k).b, .int .i64 (hterm x h k).c, .int .i64 (hterm x h k).d], .int .i64 0]) (by simp [results, Tryz.results98, go_sem, hterm]) rfl ⟨rfl, ?_⟩
 exact Q.i
theorem phharm_c (h : Int) (b o c : Nat) (x : Nat → Int) (w : World) (hr : RootsOK w) (hw : Win w b o x) (hx : WinOK x 16383) :
  Calls Tryz.prog 68 #[.slice (some ⟨b, o, none⟩) 12 c, .int .i64 h] w fun e w' => e = .returned (.tuple #[.agg #[.int .i64 (harm x h).a, .int .i64 (harm x h).b, .int .i64 (harm x h).c, .int .i64 (harm x h).d], .int .i64 0]) ∧ Q w w' := by
 rw [← harm_tmod]
 have tb := tmod_bd h 12 (by decide)
 haveI := hw.old
 have HW := hh hw
 have HX := hh hx
 have hty : ∀ k, k < 12 → (hterm x (h.tmod 12) k).In 1000000000000000 := fun k hk => (hterm_in (hx k hk).1 (hx k hk).2).mono (by decide)
 have HT := hh hty
 clear hw hx hty
 go_enter Tryz.func68, Tryz.ntmps68
 go_wp2_with (go_at_call 33; refine (phcheck_c _ _ _ x _ (HW.o.q Q.i) HX.o).p ?_)
 go_at_call 97
 refine (phsum_c _ _ (hterm x (h.tmod 12)) _ (fun _ _ => by kernel_rfl) ?_ HT.o).mono ?_
 ·rintro k w' hk ⟨kw, rfl⟩
  refine phterm_c k (h.tmod 12) _ _ b o c x _ (hr.q Q.i) hk (by simp [go_sem]) (by simp [go_sem]) ?_ (HX.o k hk).1 (HX.o k hk).2 (by omega) (by omega)
  have := HW.o k hk
  simp only [World.cell?_jk, World.cell?_alloc_old']
  exact this
 rintro e w' ⟨rfl, kj, rfl⟩
 go_wp2
 refine bodyPost_ret (v := .tuple #[.agg #[.int .i64 (harm x (h.tmod 12)).a, .int .i64 (harm x (h.tmod 12)).b, .int .i64 (harm x (h.tmod 12)).c, .int .i64 (harm x (h.tmod 12)).d], .int .i64 0]) (by simp [results, Tryz.results68, go_sem, harm]) rfl ⟨rfl, ?_⟩
 exact Q.i
def cells48 (y : Nat → Cy) (k : Nat) : Array Value :=
 ((List.range 12).flatMap fun h => if h < k then [.int .i64 (y h).a, .int .i64 (y h).b, .int .i64 (y h).c, .int .i64 (y h).d] else [.int .i64 0, .int .i64 0, .int .i64 0, .int .i64 0]).toArray
@[go_sem] theorem cells48_size (y : Nat → Cy) (k : Nat) : (cells48 y k).size = 48 := by
 unfold cells48
 simp only [List.range_succ, List.range_zero, List.nil_append, List.flatMap_append, List.flatMap_cons, List.flatMap_nil, List.append_nil, List.size_toArray, List.length_append]
 have e : ∀ h : Nat, (if h < k then [Value.int .i64 (y h).a, .int .i64 (y h).b, .int .i64 (y h).c, .int .i64 (y h).d] else [.int .i64 0, .int .i64 0, .int .i64 0, .int .i64 0]).length = 4 := by
  intro h; split <;> rfl
 simp only [e]
instance cells48_one (y : Nat → Cy) (k : Nat) : Ones (cells48 y k) := by
 refine ⟨?_⟩
 apply Array.all_eq_true_iff_forall_mem.2
 intro v hv
 unfold cells48 at hv
 simp only [List.mem_toArray, List.mem_flatMap] at hv
 obtain ⟨h, _, hv⟩ := hv
 split at hv <;> simp at hv <;> rcases hv with rfl | rfl | rfl | rfl <;> rfl
end Go.Proofs.YtcjflafjmdfanaaGreatDoor
