
/- What product, sign, Sign and Compare of package substationref02 return. -/
import Derived.Test.YtkkjifgcjfbcaaaBgC
import Derived.Test.YtkkjifgcjfbcaaaSuN
import Derived.Test.YtkkjifgcjfbcaaaCmp
namespace Go.Sub
theorem Sm.sq {x y : Int} (h0 : -1267650600228229401496703205376 ≤ x) (h1 : x ≤ 1267650600228229401496703205376) (k0 : -1267650600228229401496703205376 ≤ y) (k1 : y ≤ 1267650600228229401496703205376) : Sm (x * y) := by
  have := bd_mul h0 h1 k0 k1
  exact Sm.of (by omega) (by omega)
theorem Sm.sq3 {x : Int} (h0 : -1267650600228229401496703205376 ≤ x) (h1 : x ≤ 1267650600228229401496703205376) : Sm (3 * (x * x)) := by
  have := bd_mul h0 h1 h0 h1
  exact Sm.of (by omega) (by omega)
theorem Sm.b100 {x : Int} (h0 : -1267650600228229401496703205376 ≤ x) (h1 : x ≤ 1267650600228229401496703205376) : Sm x := Sm.of (by omega) (by omega)
theorem ref_sgn (x y : Int) : (sgn x = 0 → sgnS ⟨x, y⟩ = sgn y) ∧ (sgn y = 0 → sgnS ⟨x, y⟩ = sgn x) ∧ (sgn x = sgn y → sgnS ⟨x, y⟩ = sgn x) := by
  unfold sgnS
  dsimp only
  refine ⟨fun h => ?_, fun h => ?_, fun h => ?_⟩
  · rw [h]
    by_cases h2 : 0 = sgn y ∨ sgn y = 0
    · rw [if_pos h2]; omega
    · rw [if_neg h2, if_pos rfl]
  · rw [if_pos (.inr h)]
  · rw [if_pos (.inl h)]
theorem ref_sgn2 (x y : Int) (h1 : sgn x ≠ 0) (h2 : sgn y = -sgn x) : sgnS ⟨x, y⟩ = sgn x * cmpI (x * x) (3 * (y * y)) := by
  have hne : x * x ≠ 3 * (y * y) := fun e => by
    obtain ⟨e1, _⟩ := sq3 x y e
    rw [e1] at h1
    exact h1 rfl
  rw [sgnS_eq]
  dsimp only
  rw [if_neg (by omega), if_neg h1]
  rcases Int.lt_trichotomy (x * x) (3 * (y * y)) with h | h | h
  · rw [if_neg (by omega), show cmpI (x * x) (3 * (y * y)) = -1 by simp [cmpI, h]]
    omega
  · exact absurd h hne
  · rw [if_pos h, show cmpI (x * x) (3 * (y * y)) = 1 by simp [cmpI, h]; omega]
    omega
end Go.Sub
namespace Go.Proofs.Ytkkjifgcjfbcaaa
open Go.RowKit Go.Sub
set_option maxHeartbeats 2000000 in
theorem r2prod_z (b : Bool) (A : Option Addr) (n c : Nat) (x : Int) (b' : Bool) (B : Option Addr) (m d : Nat) (y : Int) (w : World) (bx : b = decide (x < 0)) (rx : Rd w A n c (dig x.natAbs)) (hx : Sm x) (by' : b' = decide (y < 0)) (ry : Rd w B m d (dig y.natAbs)) (hy : Sm y) (hxy : Sm (x * y)) :
    Calls Try.prog 91 #[.agg #[.bool b, .slice A n c], .agg #[.bool b', .slice B m d]] w (RetZ (x * y) w) := by
  have HX := Lib.hid rx
  have HY := Lib.hid ry
  have BX := Lib.hid bx
  have BY := Lib.hid by'
  clear rx ry bx by'
  go_enter Try.func91, Try.ntmps91
  go_wp2_with (go_at_call 108; refine (r1mul_b _ _ _ _ x _ _ _ _ y _ BX.out (HX.out.q (by repeat' (first | exact Q.refl _ | refine Q.alloc ?_ _ | refine Q.jk ?_ _ | refine Q.drew ?_))) hx BY.out (HY.out.q (by repeat' (first | exact Q.refl _ | refine Q.alloc ?_ _ | refine Q.jk ?_ _ | refine Q.drew ?_))) hy hxy).mono ?_; rintro e w' ⟨A1, n1, c1, k1, rfl, rfl, hr1, hf1⟩; have HR1 := Lib.hid hr1; have HF1 := Lib.hid hf1; clear hr1 hf1)
  refine bodyPost_ret (v := .agg #[.bool (decide (x * y < 0)), .slice A1 n1 c1]) (by simp [results, Try.results91, go_sem]) rfl (RetI.of (A := A1) (n := n1) (c := c1) rfl ?_ ?_ (HF1.out.q (by repeat' (first | exact Q.refl _ | refine Q.alloc ?_ _ | refine Q.jk ?_ _ | refine Q.drew ?_))))
  · repeat' (first | exact Q.refl _ | refine Q.alloc ?_ _ | refine Q.jk ?_ _ | refine Q.drew ?_)
  · exact (HR1.out.swap (by simp) HF1.out).q ((Q.refl _).alloc _)
set_option maxHeartbeats 2000000 in
theorem r2sign_0m (b : Bool) (A : Option Addr) (n c : Nat) (x : Int) (b' : Bool) (B : Option Addr) (m d : Nat) (y : Int) (w : World) (_ : Hid (b = decide (x < 0))) (_ : Hid (Rd w A n c (dig x.natAbs))) (_ : Hid (b' = decide (y < 0))) (_ : Hid (Rd w B m d (dig y.natAbs)))  (SX : Hid (∀ w', Q w w' → Calls Try.prog 89 #[.agg #[.bool b, .slice A n c]] w' fun e w'' => e = .returned (.int .i64 (0)) ∧ Q w' w'')) (SY : Hid (∀ w', Q w w' → Calls Try.prog 89 #[.agg #[.bool b', .slice B m d]] w' fun e w'' => e = .returned (.int .i64 (-1)) ∧ Q w' w'')) :
    Calls Try.prog 59 #[.agg #[.bool b, .slice A n c], .agg #[.bool b', .slice B m d]] w fun e w' => e = .returned (.int .i64 (-1)) ∧ Q w w' := by
  go_enter Try.func59, Try.ntmps59
  go_wp2
  try simp only [List.append]
  refine wp_region_jk (by kernel_rfl) (by kernel_rfl) ?_
  repeat (go_big_quiet_step (((go_at_call 89; first | with_reducible exact Calls.jk_of (SX.out _ (by repeat' (first | exact Q.refl _ | refine Q.alloc ?_ _ | refine Q.jk ?_ _ | refine Q.drew ?_))) | with_reducible exact Calls.jk_of (SY.out _ (by repeat' (first | exact Q.refl _ | refine Q.alloc ?_ _ | refine Q.jk ?_ _ | refine Q.drew ?_)))))))
  refine wpQuiet_nil ?_
  intro _ hw'
  obtain ⟨kq, rfl⟩ := hw'
  go_wp2
  go_ret
  refine ⟨rfl, ?_⟩
  repeat' (first | exact Q.refl _ | refine Q.alloc ?_ _ | refine Q.jk ?_ _ | refine Q.drew ?_)
set_option maxHeartbeats 2000000 in
theorem r2sign_00 (b : Bool) (A : Option Addr) (n c : Nat) (x : Int) (b' : Bool) (B : Option Addr) (m d : Nat) (y : Int) (w : World) (_ : Hid (b = decide (x < 0))) (_ : Hid (Rd w A n c (dig x.natAbs))) (_ : Hid (b' = decide (y < 0))) (_ : Hid (Rd w B m d (dig y.natAbs)))  (SX : Hid (∀ w', Q w w' → Calls Try.prog 89 #[.agg #[.bool b, .slice A n c]] w' fun e w'' => e = .returned (.int .i64 (0)) ∧ Q w' w'')) (SY : Hid (∀ w', Q w w' → Calls Try.prog 89 #[.agg #[.bool b', .slice B m d]] w' fun e w'' => e = .returned (.int .i64 (0)) ∧ Q w' w'')) :
    Calls Try.prog 59 #[.agg #[.bool b, .slice A n c], .agg #[.bool b', .slice B m d]] w fun e w' => e = .returned (.int .i64 (0)) ∧ Q w w' := by
  go_enter Try.func59, Try.ntmps59
  go_wp2
  try simp only [List.append]
  refine wp_region_jk (by kernel_rfl) (by kernel_rfl) ?_
  repeat (go_big_quiet_step (((go_at_call 89; first | with_reducible exact Calls.jk_of (SX.out _ (by repeat' (first | exact Q.refl _ | refine Q.alloc ?_ _ | refine Q.jk ?_ _ | refine Q.drew ?_))) | with_reducible exact Calls.jk_of (SY.out _ (by repeat' (first | exact Q.refl _ | refine Q.alloc ?_ _ | refine Q.jk ?_ _ | refine Q.drew ?_)))))))
  refine wpQuiet_nil ?_
  intro _ hw'
  obtain ⟨kq, rfl⟩ := hw'
  go_wp2
  go_ret
  refine ⟨rfl, ?_⟩
  repeat' (first | exact Q.refl _ | refine Q.alloc ?_ _ | refine Q.jk ?_ _ | refine Q.drew ?_)
set_option maxHeartbeats 2000000 in
theorem r2sign_0p (b : Bool) (A : Option Addr) (n c : Nat) (x : Int) (b' : Bool) (B : Option Addr) (m d : Nat) (y : Int) (w : World) (_ : Hid (b = decide (x < 0))) (_ : Hid (Rd w A n c (dig x.natAbs))) (_ : Hid (b' = decide (y < 0))) (_ : Hid (Rd w B m d (dig y.natAbs)))  (SX : Hid (∀ w', Q w w' → Calls Try.prog 89 #[.agg #[.bool b, .slice A n c]] w' fun e w'' => e = .returned (.int .i64 (0)) ∧ Q w' w'')) (SY : Hid (∀ w', Q w w' → Calls Try.prog 89 #[.agg #[.bool b', .slice B m d]] w' fun e w'' => e = .returned (.int .i64 (1)) ∧ Q w' w'')) :
    Calls Try.prog 59 #[.agg #[.bool b, .slice A n c], .agg #[.bool b', .slice B m d]] w fun e w' => e = .returned (.int .i64 (1)) ∧ Q w w' := by
  go_enter Try.func59, Try.ntmps59
  go_wp2
  try simp only [List.append]
  refine wp_region_jk (by kernel_rfl) (by kernel_rfl) ?_
  repeat (go_big_quiet_step (((go_at_call 89; first | with_reducible exact Calls.jk_of (SX.out _ (by repeat' (first | exact Q.refl _ | refine Q.alloc ?_ _ | refine Q.jk ?_ _ | refine Q.drew ?_))) | with_reducible exact Calls.jk_of (SY.out _ (by repeat' (first | exact Q.refl _ | refine Q.alloc ?_ _ | refine Q.jk ?_ _ | refine Q.drew ?_)))))))
  refine wpQuiet_nil ?_
  intro _ hw'
  obtain ⟨kq, rfl⟩ := hw'
  go_wp2
  go_ret
  refine ⟨rfl, ?_⟩
  repeat' (first | exact Q.refl _ | refine Q.alloc ?_ _ | refine Q.jk ?_ _ | refine Q.drew ?_)
set_option maxHeartbeats 2000000 in
theorem r2sign_pp (b : Bool) (A : Option Addr) (n c : Nat) (x : Int) (b' : Bool) (B : Option Addr) (m d : Nat) (y : Int) (w : World) (_ : Hid (b = decide (x < 0))) (_ : Hid (Rd w A n c (dig x.natAbs))) (_ : Hid (b' = decide (y < 0))) (_ : Hid (Rd w B m d (dig y.natAbs)))  (SX : Hid (∀ w', Q w w' → Calls Try.prog 89 #[.agg #[.bool b, .slice A n c]] w' fun e w'' => e = .returned (.int .i64 (1)) ∧ Q w' w'')) (SY : Hid (∀ w', Q w w' → Calls Try.prog 89 #[.agg #[.bool b', .slice B m d]] w' fun e w'' => e = .returned (.int .i64 (1)) ∧ Q w' w'')) :
    Calls Try.prog 59 #[.agg #[.bool b, .slice A n c], .agg #[.bool b', .slice B m d]] w fun e w' => e = .returned (.int .i64 (1)) ∧ Q w w' := by
  go_enter Try.func59, Try.ntmps59
  go_wp2
  try simp only [List.append]
  refine wp_region_jk (by kernel_rfl) (by kernel_rfl) ?_
  repeat (go_big_quiet_step (((go_at_call 89; first | with_reducible exact Calls.jk_of (SX.out _ (by repeat' (first | exact Q.refl _ | refine Q.alloc ?_ _ | refine Q.jk ?_ _ | refine Q.drew ?_))) | with_reducible exact Calls.jk_of (SY.out _ (by repeat' (first | exact Q.refl _ | refine Q.alloc ?_ _ | refine Q.jk ?_ _ | refine Q.drew ?_)))))))
  refine wpQuiet_nil ?_
  intro _ hw'
  obtain ⟨kq, rfl⟩ := hw'
  go_wp2
  go_ret
  refine ⟨rfl, ?_⟩
  repeat' (first | exact Q.refl _ | refine Q.alloc ?_ _ | refine Q.jk ?_ _ | refine Q.drew ?_)
set_option maxHeartbeats 2000000 in
theorem r2sign_mm (b : Bool) (A : Option Addr) (n c : Nat) (x : Int) (b' : Bool) (B : Option Addr) (m d : Nat) (y : Int) (w : World) (_ : Hid (b = decide (x < 0))) (_ : Hid (Rd w A n c (dig x.natAbs))) (_ : Hid (b' = decide (y < 0))) (_ : Hid (Rd w B m d (dig y.natAbs)))  (SX : Hid (∀ w', Q w w' → Calls Try.prog 89 #[.agg #[.bool b, .slice A n c]] w' fun e w'' => e = .returned (.int .i64 (-1)) ∧ Q w' w'')) (SY : Hid (∀ w', Q w w' → Calls Try.prog 89 #[.agg #[.bool b', .slice B m d]] w' fun e w'' => e = .returned (.int .i64 (-1)) ∧ Q w' w'')) :
    Calls Try.prog 59 #[.agg #[.bool b, .slice A n c], .agg #[.bool b', .slice B m d]] w fun e w' => e = .returned (.int .i64 (-1)) ∧ Q w w' := by
  go_enter Try.func59, Try.ntmps59
  go_wp2
  try simp only [List.append]
  refine wp_region_jk (by kernel_rfl) (by kernel_rfl) ?_
  repeat (go_big_quiet_step (((go_at_call 89; first | with_reducible exact Calls.jk_of (SX.out _ (by repeat' (first | exact Q.refl _ | refine Q.alloc ?_ _ | refine Q.jk ?_ _ | refine Q.drew ?_))) | with_reducible exact Calls.jk_of (SY.out _ (by repeat' (first | exact Q.refl _ | refine Q.alloc ?_ _ | refine Q.jk ?_ _ | refine Q.drew ?_)))))))
  refine wpQuiet_nil ?_
  intro _ hw'
  obtain ⟨kq, rfl⟩ := hw'
  go_wp2
  go_ret
  refine ⟨rfl, ?_⟩
  repeat' (first | exact Q.refl _ | refine Q.alloc ?_ _ | refine Q.jk ?_ _ | refine Q.drew ?_)
set_option maxHeartbeats 2000000 in
theorem r2sign_p0 (b : Bool) (A : Option Addr) (n c : Nat) (x : Int) (b' : Bool) (B : Option Addr) (m d : Nat) (y : Int) (w : World) (_ : Hid (b = decide (x < 0))) (_ : Hid (Rd w A n c (dig x.natAbs))) (_ : Hid (b' = decide (y < 0))) (_ : Hid (Rd w B m d (dig y.natAbs)))  (SX : Hid (∀ w', Q w w' → Calls Try.prog 89 #[.agg #[.bool b, .slice A n c]] w' fun e w'' => e = .returned (.int .i64 (1)) ∧ Q w' w'')) (SY : Hid (∀ w', Q w w' → Calls Try.prog 89 #[.agg #[.bool b', .slice B m d]] w' fun e w'' => e = .returned (.int .i64 (0)) ∧ Q w' w'')) :
    Calls Try.prog 59 #[.agg #[.bool b, .slice A n c], .agg #[.bool b', .slice B m d]] w fun e w' => e = .returned (.int .i64 (1)) ∧ Q w w' := by
  go_enter Try.func59, Try.ntmps59
  go_wp2
  try simp only [List.append]
  refine wp_region_jk (by kernel_rfl) (by kernel_rfl) ?_
  repeat (go_big_quiet_step (((go_at_call 89; first | with_reducible exact Calls.jk_of (SX.out _ (by repeat' (first | exact Q.refl _ | refine Q.alloc ?_ _ | refine Q.jk ?_ _ | refine Q.drew ?_))) | with_reducible exact Calls.jk_of (SY.out _ (by repeat' (first | exact Q.refl _ | refine Q.alloc ?_ _ | refine Q.jk ?_ _ | refine Q.drew ?_)))))))
  refine wpQuiet_nil ?_
  intro _ hw'
  obtain ⟨kq, rfl⟩ := hw'
  go_wp2
  go_ret
  refine ⟨rfl, ?_⟩
  repeat' (first | exact Q.refl _ | refine Q.alloc ?_ _ | refine Q.jk ?_ _ | refine Q.drew ?_)
set_option maxHeartbeats 2000000 in
theorem r2sign_m0 (b : Bool) (A : Option Addr) (n c : Nat) (x : Int) (b' : Bool) (B : Option Addr) (m d : Nat) (y : Int) (w : World) (_ : Hid (b = decide (x < 0))) (_ : Hid (Rd w A n c (dig x.natAbs))) (_ : Hid (b' = decide (y < 0))) (_ : Hid (Rd w B m d (dig y.natAbs)))  (SX : Hid (∀ w', Q w w' → Calls Try.prog 89 #[.agg #[.bool b, .slice A n c]] w' fun e w'' => e = .returned (.int .i64 (-1)) ∧ Q w' w'')) (SY : Hid (∀ w', Q w w' → Calls Try.prog 89 #[.agg #[.bool b', .slice B m d]] w' fun e w'' => e = .returned (.int .i64 (0)) ∧ Q w' w'')) :
    Calls Try.prog 59 #[.agg #[.bool b, .slice A n c], .agg #[.bool b', .slice B m d]] w fun e w' => e = .returned (.int .i64 (-1)) ∧ Q w w' := by
  go_enter Try.func59, Try.ntmps59
  go_wp2
  try simp only [List.append]
  refine wp_region_jk (by kernel_rfl) (by kernel_rfl) ?_
  repeat (go_big_quiet_step (((go_at_call 89; first | with_reducible exact Calls.jk_of (SX.out _ (by repeat' (first | exact Q.refl _ | refine Q.alloc ?_ _ | refine Q.jk ?_ _ | refine Q.drew ?_))) | with_reducible exact Calls.jk_of (SY.out _ (by repeat' (first | exact Q.refl _ | refine Q.alloc ?_ _ | refine Q.jk ?_ _ | refine Q.drew ?_)))))))
  refine wpQuiet_nil ?_
  intro _ hw'
  obtain ⟨kq, rfl⟩ := hw'
  go_wp2
  go_ret
  refine ⟨rfl, ?_⟩
  repeat' (first | exact Q.refl _ | refine Q.alloc ?_ _ | refine Q.jk ?_ _ | refine Q.drew ?_)
set_option maxHeartbeats 4000000 in
theorem r2sign_pm (b : Bool) (A : Option Addr) (n c : Nat) (x : Int) (b' : Bool) (B : Option Addr) (m d : Nat) (y : Int) (w : World) (BX : Hid (b = decide (x < 0))) (HX : Hid (Rd w A n c (dig x.natAbs))) (BY : Hid (b' = decide (y < 0))) (HY : Hid (Rd w B m d (dig y.natAbs))) (hx : Sm x) (hy : Sm y) (hxx : Sm (x * x)) (hyy : Sm (y * y)) (h3 : Sm 3) (h3y : Sm (3 * (y * y))) (SX : Hid (∀ w', Q w w' → Calls Try.prog 89 #[.agg #[.bool b, .slice A n c]] w' fun e w'' => e = .returned (.int .i64 1) ∧ Q w' w'')) (SY : Hid (∀ w', Q w w' → Calls Try.prog 89 #[.agg #[.bool b', .slice B m d]] w' fun e w'' => e = .returned (.int .i64 (-1)) ∧ Q w' w'')) :
    Calls Try.prog 59 #[.agg #[.bool b, .slice A n c], .agg #[.bool b', .slice B m d]] w fun e w' => e = .returned (.int .i64 (cmpI (x * x) (3 * (y * y)))) ∧ Q w w' := by
  have hc0 : -1 ≤ cmpI (x * x) (3 * (y * y)) := by unfold cmpI; repeat' split <;> omega
  have hc1 : cmpI (x * x) (3 * (y * y)) ≤ 1 := by unfold cmpI; repeat' split <;> omega
  go_enter Try.func59, Try.ntmps59
  go_wp2
  try simp only [List.append]
  refine wp_region_jk (by kernel_rfl) (by kernel_rfl) ?_
  repeat (go_big_quiet_step (((go_at_call 89; first | with_reducible exact Calls.jk_of (SX.out _ (by repeat' (first | exact Q.refl _ | refine Q.alloc ?_ _ | refine Q.jk ?_ _ | refine Q.drew ?_))) | with_reducible exact Calls.jk_of (SY.out _ (by repeat' (first | exact Q.refl _ | refine Q.alloc ?_ _ | refine Q.jk ?_ _ | refine Q.drew ?_)))))))
  refine wpQuiet_nil ?_
  intro _ hw'
  obtain ⟨kq, rfl⟩ := hw'
  go_wp2
  go_region_held3 (fun w' => w'.cell? ⟨w.heap.size, 0, none⟩ = some (.bool b) ∧ w'.cell? ⟨w.heap.size, 1, none⟩ = some (.slice A n c) ∧ w'.cell? ⟨w.heap.size + 1, 0, none⟩ = some (.bool b') ∧ w'.cell? ⟨w.heap.size + 1, 1, none⟩ = some (.slice B m d)) (simp [go_sem])
    (first
     | (go_at_call 91; first | ((with_reducible refine (r2prod_z _ _ _ _ x _ _ _ _ x _ BX.out (HX.out.q (by repeat' (first | exact Q.refl _ | refine Q.alloc ?_ _ | refine Q.jk ?_ _ | refine Q.drew ?_))) hx BX.out (HX.out.q (by repeat' (first | exact Q.refl _ | refine Q.alloc ?_ _ | refine Q.jk ?_ _ | refine Q.drew ?_))) hx hxx).mono ?_); rintro e w' ⟨A1, n1, c1, k1, rfl, rfl, hr1, hf1⟩; have HR1 := Lib.hid hr1; clear hr1 hf1) | ((with_reducible refine (r2prod_z _ _ _ _ y _ _ _ _ y _ BY.out (HY.out.q (by repeat' (first | exact Q.refl _ | refine Q.alloc ?_ _ | refine Q.jk ?_ _ | refine Q.drew ?_))) hy BY.out (HY.out.q (by repeat' (first | exact Q.refl _ | refine Q.alloc ?_ _ | refine Q.jk ?_ _ | refine Q.drew ?_))) hy hyy).mono ?_); rintro e w' ⟨A3, n3, c3, k3, rfl, rfl, hr3, hf3⟩; have HR3 := Lib.hid hr3; clear hr3 hf3) | ((with_reducible refine (r2prod_z _ _ _ _ 3 _ _ _ _ (y * y) _ (by decide) (HR2.out.q (by repeat' (first | exact Q.refl _ | refine Q.alloc ?_ _ | refine Q.jk ?_ _ | refine Q.drew ?_))) h3 (by rfl) (HR3.out.q (by repeat' (first | exact Q.refl _ | refine Q.alloc ?_ _ | refine Q.jk ?_ _ | refine Q.drew ?_))) hyy h3y).mono ?_); rintro e w' ⟨A4, n4, c4, k4, rfl, rfl, hr4, hf4⟩; have HR4 := Lib.hid hr4; clear hr4 hf4))
     | (go_at_call 60; refine (r1of_any 3 _ (by decide) (by decide)).mono ?_; rintro e w' ⟨A2, n2, c2, k2, rfl, rfl, hr2, hf2⟩; have HR2 := Lib.hid hr2; clear hr2 hf2)
     | (go_at_call 90; refine (r1cmp_z _ _ _ _ (x * x) _ _ _ _ (3 * (y * y)) _ rfl (HR1.out.q (by repeat' (first | exact Q.refl _ | refine Q.alloc ?_ _ | refine Q.jk ?_ _ | refine Q.drew ?_))) hxx rfl (HR4.out.q (by repeat' (first | exact Q.refl _ | refine Q.alloc ?_ _ | refine Q.jk ?_ _ | refine Q.drew ?_))) h3y).mono ?_; rintro e w' ⟨rfl, kj, rfl⟩))
  rename_i hHeld
  clear hHeld
  go_wp2
  go_ret
  refine ⟨rfl, ?_⟩
  repeat' (first | exact Q.refl _ | refine Q.alloc ?_ _ | refine Q.jk ?_ _ | refine Q.drew ?_)
set_option maxHeartbeats 4000000 in
theorem r2sign_mp (b : Bool) (A : Option Addr) (n c : Nat) (x : Int) (b' : Bool) (B : Option Addr) (m d : Nat) (y : Int) (w : World) (BX : Hid (b = decide (x < 0))) (HX : Hid (Rd w A n c (dig x.natAbs))) (BY : Hid (b' = decide (y < 0))) (HY : Hid (Rd w B m d (dig y.natAbs))) (hx : Sm x) (hy : Sm y) (hxx : Sm (x * x)) (hyy : Sm (y * y)) (h3 : Sm 3) (h3y : Sm (3 * (y * y))) (SX : Hid (∀ w', Q w w' → Calls Try.prog 89 #[.agg #[.bool b, .slice A n c]] w' fun e w'' => e = .returned (.int .i64 (-1)) ∧ Q w' w'')) (SY : Hid (∀ w', Q w w' → Calls Try.prog 89 #[.agg #[.bool b', .slice B m d]] w' fun e w'' => e = .returned (.int .i64 1) ∧ Q w' w'')) :
    Calls Try.prog 59 #[.agg #[.bool b, .slice A n c], .agg #[.bool b', .slice B m d]] w fun e w' => e = .returned (.int .i64 (-cmpI (x * x) (3 * (y * y)))) ∧ Q w w' := by
  have hc0 : -1 ≤ cmpI (x * x) (3 * (y * y)) := by unfold cmpI; repeat' split <;> omega
  have hc1 : cmpI (x * x) (3 * (y * y)) ≤ 1 := by unfold cmpI; repeat' split <;> omega
  go_enter Try.func59, Try.ntmps59
  go_wp2
  try simp only [List.append]
  refine wp_region_jk (by kernel_rfl) (by kernel_rfl) ?_
  repeat (go_big_quiet_step (((go_at_call 89; first | with_reducible exact Calls.jk_of (SX.out _ (by repeat' (first | exact Q.refl _ | refine Q.alloc ?_ _ | refine Q.jk ?_ _ | refine Q.drew ?_))) | with_reducible exact Calls.jk_of (SY.out _ (by repeat' (first | exact Q.refl _ | refine Q.alloc ?_ _ | refine Q.jk ?_ _ | refine Q.drew ?_)))))))
  refine wpQuiet_nil ?_
  intro _ hw'
  obtain ⟨kq, rfl⟩ := hw'
  go_wp2
  go_region_held3 (fun w' => w'.cell? ⟨w.heap.size, 0, none⟩ = some (.bool b) ∧ w'.cell? ⟨w.heap.size, 1, none⟩ = some (.slice A n c) ∧ w'.cell? ⟨w.heap.size + 1, 0, none⟩ = some (.bool b') ∧ w'.cell? ⟨w.heap.size + 1, 1, none⟩ = some (.slice B m d)) (simp [go_sem])
    (first
     | (go_at_call 91; first | ((with_reducible refine (r2prod_z _ _ _ _ x _ _ _ _ x _ BX.out (HX.out.q (by repeat' (first | exact Q.refl _ | refine Q.alloc ?_ _ | refine Q.jk ?_ _ | refine Q.drew ?_))) hx BX.out (HX.out.q (by repeat' (first | exact Q.refl _ | refine Q.alloc ?_ _ | refine Q.jk ?_ _ | refine Q.drew ?_))) hx hxx).mono ?_); rintro e w' ⟨A1, n1, c1, k1, rfl, rfl, hr1, hf1⟩; have HR1 := Lib.hid hr1; clear hr1 hf1) | ((with_reducible refine (r2prod_z _ _ _ _ y _ _ _ _ y _ BY.out (HY.out.q (by repeat' (first | exact Q.refl _ | refine Q.alloc ?_ _ | refine Q.jk ?_ _ | refine Q.drew ?_))) hy BY.out (HY.out.q (by repeat' (first | exact Q.refl _ | refine Q.alloc ?_ _ | refine Q.jk ?_ _ | refine Q.drew ?_))) hy hyy).mono ?_); rintro e w' ⟨A3, n3, c3, k3, rfl, rfl, hr3, hf3⟩; have HR3 := Lib.hid hr3; clear hr3 hf3) | ((with_reducible refine (r2prod_z _ _ _ _ 3 _ _ _ _ (y * y) _ (by decide) (HR2.out.q (by repeat' (first | exact Q.refl _ | refine Q.alloc ?_ _ | refine Q.jk ?_ _ | refine Q.drew ?_))) h3 (by rfl) (HR3.out.q (by repeat' (first | exact Q.refl _ | refine Q.alloc ?_ _ | refine Q.jk ?_ _ | refine Q.drew ?_))) hyy h3y).mono ?_); rintro e w' ⟨A4, n4, c4, k4, rfl, rfl, hr4, hf4⟩; have HR4 := Lib.hid hr4; clear hr4 hf4))
     | (go_at_call 60; refine (r1of_any 3 _ (by decide) (by decide)).mono ?_; rintro e w' ⟨A2, n2, c2, k2, rfl, rfl, hr2, hf2⟩; have HR2 := Lib.hid hr2; clear hr2 hf2)
     | (go_at_call 90; refine (r1cmp_z _ _ _ _ (x * x) _ _ _ _ (3 * (y * y)) _ rfl (HR1.out.q (by repeat' (first | exact Q.refl _ | refine Q.alloc ?_ _ | refine Q.jk ?_ _ | refine Q.drew ?_))) hxx rfl (HR4.out.q (by repeat' (first | exact Q.refl _ | refine Q.alloc ?_ _ | refine Q.jk ?_ _ | refine Q.drew ?_))) h3y).mono ?_; rintro e w' ⟨rfl, kj, rfl⟩))
  rename_i hHeld
  clear hHeld
  go_wp2
  go_ret
  refine ⟨rfl, ?_⟩
  repeat' (first | exact Q.refl _ | refine Q.alloc ?_ _ | refine Q.jk ?_ _ | refine Q.drew ?_)
theorem sgn_val (x : Int) : (x < 0 ∧ sgn x = -1) ∨ (x = 0 ∧ sgn x = 0) ∨ (0 < x ∧ sgn x = 1) := by
  unfold sgn
  split
  · exact .inl ⟨by assumption, rfl⟩
  · split
    · exact .inr (.inr ⟨by assumption, rfl⟩)
    · exact .inr (.inl ⟨by omega, rfl⟩)
theorem r2sign_z (b : Bool) (A : Option Addr) (n c : Nat) (x : Int) (b' : Bool) (B : Option Addr) (m d : Nat) (y : Int) (w : World) (bx : b = decide (x < 0)) (rx : Rd w A n c (dig x.natAbs)) (by' : b' = decide (y < 0)) (ry : Rd w B m d (dig y.natAbs)) (h0 : -1267650600228229401496703205376 ≤ x) (h1 : x ≤ 1267650600228229401496703205376) (k0 : -1267650600228229401496703205376 ≤ y) (k1 : y ≤ 1267650600228229401496703205376) :
    Calls Try.prog 59 #[.agg #[.bool b, .slice A n c], .agg #[.bool b', .slice B m d]] w fun e w' => e = .returned (.int .i64 (sgnS ⟨x, y⟩)) ∧ Q w w' := by
  have hx := Sm.b100 h0 h1
  have hy := Sm.b100 k0 k1
  have sx : ∀ w', Q w w' → Calls Try.prog 89 #[.agg #[.bool b, .slice A n c]] w' fun e w'' => e = .returned (.int .i64 (sgn x)) ∧ Q w' w'' := fun w' hq => r1sign_z b A n c x w' bx (rx.q hq) hx
  have sy : ∀ w', Q w w' → Calls Try.prog 89 #[.agg #[.bool b', .slice B m d]] w' fun e w'' => e = .returned (.int .i64 (sgn y)) ∧ Q w' w'' := fun w' hq => r1sign_z b' B m d y w' by' (ry.q hq) hy
  obtain ⟨r1, r2, r3⟩ := ref_sgn x y
  have r4 := ref_sgn2 x y
  rcases sgn_val x with ⟨_, ex⟩ | ⟨_, ex⟩ | ⟨_, ex⟩ <;> rcases sgn_val y with ⟨_, ey⟩ | ⟨_, ey⟩ | ⟨_, ey⟩ <;> rw [ex] at sx r1 r2 r3 r4 <;> rw [ey] at sy r1 r2 r3 r4
  · rw [r3 rfl]; exact r2sign_mm b A n c x b' B m d y w (Lib.hid bx) (Lib.hid rx) (Lib.hid by') (Lib.hid ry) (Lib.hid sx) (Lib.hid sy)
  · rw [r2 rfl]; exact r2sign_m0 b A n c x b' B m d y w (Lib.hid bx) (Lib.hid rx) (Lib.hid by') (Lib.hid ry) (Lib.hid sx) (Lib.hid sy)
  · rw [r4 (by decide) (by decide), Int.neg_one_mul]; exact r2sign_mp b A n c x b' B m d y w (Lib.hid bx) (Lib.hid rx) (Lib.hid by') (Lib.hid ry) hx hy (Sm.sq h0 h1 h0 h1) (Sm.sq k0 k1 k0 k1) (Sm.of (by decide) (by decide)) (Sm.sq3 k0 k1) (Lib.hid sx) (Lib.hid sy)
  · rw [r1 rfl]; exact r2sign_0m b A n c x b' B m d y w (Lib.hid bx) (Lib.hid rx) (Lib.hid by') (Lib.hid ry) (Lib.hid sx) (Lib.hid sy)
  · rw [r1 rfl]; exact r2sign_00 b A n c x b' B m d y w (Lib.hid bx) (Lib.hid rx) (Lib.hid by') (Lib.hid ry) (Lib.hid sx) (Lib.hid sy)
  · rw [r1 rfl]; exact r2sign_0p b A n c x b' B m d y w (Lib.hid bx) (Lib.hid rx) (Lib.hid by') (Lib.hid ry) (Lib.hid sx) (Lib.hid sy)
  · rw [r4 (by decide) (by decide), Int.one_mul]; exact r2sign_pm b A n c x b' B m d y w (Lib.hid bx) (Lib.hid rx) (Lib.hid by') (Lib.hid ry) hx hy (Sm.sq h0 h1 h0 h1) (Sm.sq k0 k1 k0 k1) (Sm.of (by decide) (by decide)) (Sm.sq3 k0 k1) (Lib.hid sx) (Lib.hid sy)
  · rw [r2 rfl]; exact r2sign_p0 b A n c x b' B m d y w (Lib.hid bx) (Lib.hid rx) (Lib.hid by') (Lib.hid ry) (Lib.hid sx) (Lib.hid sy)
  · rw [r3 rfl]; exact r2sign_pp b A n c x b' B m d y w (Lib.hid bx) (Lib.hid rx) (Lib.hid by') (Lib.hid ry) (Lib.hid sx) (Lib.hid sy)
set_option maxHeartbeats 4000000 in
theorem r2Sign_any (x y : Int) (w : World) (h0 : -9223372036854775808 ≤ x) (h1 : x ≤ 9223372036854775807) (k0 : -9223372036854775808 ≤ y) (k1 : y ≤ 9223372036854775807) :
    Calls Try.prog 18 #[.agg #[.int .i64 x, .int .i64 y]] w fun e w' => e = .returned (.int .i64 (sgnS ⟨x, y⟩)) ∧ Q w w' := by
  go_enter Try.func18, Try.ntmps18
  go_wp2
  go_region_held3 (fun w' => w'.cell? ⟨w.heap.size, 0, none⟩ = some (.int .i64 x) ∧ w'.cell? ⟨w.heap.size, 1, none⟩ = some (.int .i64 y)) (simp [go_sem])
    (first
     | (go_at_call 60; first | ((with_reducible refine (r1of_any x _ (by omega) (by omega)).mono ?_); rintro e w' ⟨A1, n1, c1, k1, rfl, rfl, hr1, hf1⟩; have HR1 := Lib.hid hr1; clear hr1 hf1) | ((with_reducible refine (r1of_any y _ (by omega) (by omega)).mono ?_); rintro e w' ⟨A2, n2, c2, k2, rfl, rfl, hr2, hf2⟩; have HR2 := Lib.hid hr2; clear hr2 hf2))
     | (go_at_call 59; refine (r2sign_z _ _ _ _ x _ _ _ _ y _ rfl (HR1.out.q (by repeat' (first | exact Q.refl _ | refine Q.alloc ?_ _ | refine Q.jk ?_ _ | refine Q.drew ?_))) rfl (HR2.out.q (by repeat' (first | exact Q.refl _ | refine Q.alloc ?_ _ | refine Q.jk ?_ _ | refine Q.drew ?_))) (by omega) (by omega) (by omega) (by omega)).mono ?_; rintro e w' ⟨rfl, kj, rfl⟩))
  rename_i hHeld
  clear hHeld
  go_wp2
  go_ret
  refine ⟨rfl, ?_⟩
  repeat' (first | exact Q.refl _ | refine Q.alloc ?_ _ | refine Q.jk ?_ _ | refine Q.drew ?_)
set_option maxHeartbeats 2000000 in
theorem r2cmp_any (a b a' b' : Int) (w : World) :
    Calls Try.prog 50 #[.agg #[.int .i64 a, .int .i64 b], .agg #[.int .i64 a', .int .i64 b']] w fun e w' => e = .returned (.tuple #[.int .i64 (scmpR ⟨a, b⟩ ⟨a', b'⟩).1, .int .i64 (scmpR ⟨a, b⟩ ⟨a', b'⟩).2]) ∧ Q w w' := by
  by_cases h : wi4 1152921504606846976 a b a' b' = true
  · obtain ⟨l1, l2, l3, l4, m1, m2, m3, m4⟩ := (wi4_iff _ _ _ _ _).1 h
    have hR : scmpR ⟨a, b⟩ ⟨a', b'⟩ = (sgnS ⟨a - a', b - b'⟩, 0) := by simp [scmpR, h, Su.sub]
    rw [hR]
    clear hR
    have h1 : wi2 1152921504606846976 a b = true := (wi2_iff _ _ _).2 (by omega)
    have h2 : wi2 1152921504606846976 a' b' = true := (wi2_iff _ _ _).2 (by omega)
    go_enter Try.func50, Try.ntmps50
    go_wp2_with (first | (go_at_call 63; refine (r2within_any _ _ 1152921504606846976 _ (by omega) (by omega)).mono ?_; rintro e w' ⟨rfl, kj, rfl⟩) | (go_at_call 18; refine (r2Sign_any _ _ _ (by omega) (by omega) (by omega) (by omega)).mono ?_; rintro e w' ⟨rfl, kj, rfl⟩))
    go_ret2
    refine ⟨rfl, ?_⟩
    repeat' (first | exact Q.refl _ | refine Q.alloc ?_ _ | refine Q.jk ?_ _ | refine Q.drew ?_)
  · have hR : scmpR ⟨a, b⟩ ⟨a', b'⟩ = (0, 1) := by simp [scmpR, h]
    rw [hR]
    clear hR
    by_cases h1 : wi2 1152921504606846976 a b = true
    · have h2 : wi2 1152921504606846976 a' b' = false := by
        cases e : wi2 1152921504606846976 a' b'
        · rfl
        · have k1 := (wi2_iff _ _ _).1 h1
          have k2 := (wi2_iff _ _ _).1 e
          exact absurd ((wi4_iff _ _ _ _ _).2 (by omega)) h
      clear h
      go_enter Try.func50, Try.ntmps50
      go_wp2_with (go_at_call 63; refine (r2within_any _ _ 1152921504606846976 _ (by omega) (by omega)).mono ?_; rintro e w' ⟨rfl, kj, rfl⟩)
      go_ret2
      refine ⟨rfl, ?_⟩
      repeat' (first | exact Q.refl _ | refine Q.alloc ?_ _ | refine Q.jk ?_ _ | refine Q.drew ?_)
    · have h1 : wi2 1152921504606846976 a b = false := by simpa using h1
      clear h
      go_enter Try.func50, Try.ntmps50
      go_wp2_with (go_at_call 63; refine (r2within_any _ _ 1152921504606846976 _ (by omega) (by omega)).mono ?_; rintro e w' ⟨rfl, kj, rfl⟩)
      go_ret2
      refine ⟨rfl, ?_⟩
      repeat' (first | exact Q.refl _ | refine Q.alloc ?_ _ | refine Q.jk ?_ _ | refine Q.drew ?_)
end Go.Proofs.Ytkkjifgcjfbcaaa
