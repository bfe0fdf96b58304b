
/- What Small of package substationref01, and scaled and Scale of substationref02 return. -/
import Derived.Test.YtcjflafjmdfanaaGreatDoorBv02
import Derived.Test.YtcjflafjmdfanaaGreatDoorBv05
import Derived.Test.YtcjflafjmdfanaaGreatDoorBv03
import Derived.Test.YtcjflafjmdfanaaGreatDoorBv01
set_option maxHeartbeats 64000000
set_option maxRecDepth 100000
set_option linter.unusedSimpArgs false
set_option linter.unusedVariables false
/- What Norm, Conj and Sub of package surd, some functions of its reference, and two helpers of its laws return. -/
namespace Go.Sub
def snormR (x : Su) : Int × Int := if wi2 268435456 x.a x.b then (x.norm, 0) else (0, 1)
def sconjR (x : Su) : R2 := if wi2 1152921504606846976 x.a x.b then ⟨x.conj, 0⟩ else ⟨zeroS, 1⟩
def smallS (x : Su) : Su := ⟨x.a.tmod 1048576, x.b.tmod 1048576⟩
def modN (n m : Int) : Int := n % m
end Go.Sub
namespace Go.Proofs.YtcjflafjmdfanaaGreatDoor
open Go.RowKit Go.Sub
theorem r2within_any (a b l : Int) (w : World) (h0 : 0 ≤ l) (h1 : l ≤ 4000000000000000000) :
  Calls Tryz.prog 116 #[.agg #[.int .i64 a, .int .i64 b], .int .i64 l] w fun e w' => e = .returned (.bool (wi2 l a b)) ∧ Q w w' := by
 go_enter Tryz.func116, Tryz.ntmps116
 go_wp2
 all_goals go_ret
 all_goals
  refine ⟨?_, (Q.refl _).alloc _⟩
  show Ending.returned (Value.bool _) = _
  refine congrArg (fun x => Ending.returned (Value.bool x)) ?_
  rw [Bool.eq_iff_iff, wi2_iff]
  simp [*]
  try omega
theorem r2result_any (a b : Int) (w : World) :
  Calls Tryz.prog 162 #[.agg #[.int .i64 a, .int .i64 b]] w fun e w' => e = .returned (.tuple #[.agg #[.int .i64 (limS ⟨a, b⟩).v.a, .int .i64 (limS ⟨a, b⟩).v.b], .int .i64 (limS ⟨a, b⟩).e]) ∧ Q w w' := by
 by_cases h : wi2 1152921504606846976 a b = true
 ·go_enter Tryz.func162, Tryz.ntmps162
  go_wp2_with (go_at_call 116; refine (r2within_any _ _ 1152921504606846976 _ (by omega) (by omega)).q ?_; intro kj)
  refine bodyPost_ret (v := .tuple #[.agg #[.int .i64 a, .int .i64 b], .int .i64 0]) (by simp [results, Tryz.results162, go_sem]) rfl ⟨by simp [limS, h], ?_⟩
  exact Q.i
 have h : wi2 1152921504606846976 a b = false := by simpa using h
 go_enter Tryz.func162, Tryz.ntmps162
 go_wp2_with (go_at_call 116; refine (r2within_any _ _ 1152921504606846976 _ (by omega) (by omega)).q ?_; intro kj)
 refine bodyPost_ret (v := .tuple #[.agg #[.int .i64 0, .int .i64 0], .int .i64 2]) (by simp [results, Tryz.results162, go_sem]) rfl ⟨by simp [limS, h, zeroS], ?_⟩
 exact Q.i
theorem r2add_any (a b a' b' : Int) (w : World) :
  Calls Tryz.prog 140 #[.agg #[.int .i64 a, .int .i64 b], .agg #[.int .i64 a', .int .i64 b']] w fun e w' => e = .returned (.tuple #[.agg #[.int .i64 (saddR ⟨a, b⟩ ⟨a', b'⟩).v.a, .int .i64 (saddR ⟨a, b⟩ ⟨a', b'⟩).v.b], .int .i64 (saddR ⟨a, b⟩ ⟨a', b'⟩).e]) ∧ Q w w' := by
 by_cases h : wi4 1152921504606846976 a b a' b' = true
 ·obtain ⟨l1, l2, l3, l4, m1, m2, m3, m4⟩ := (wi4_iff _ _ _ _ _).1 h
  have hR : saddR ⟨a, b⟩ ⟨a', b'⟩ = limS ⟨a + a', b + b'⟩ := by simp [saddR, h, Su.add]
  rw [hR]
  clear hR
  have h1 : wi2 1152921504606846976 a b = true := (wi2_iff _ _ _).2 (by omega)
  have h2 : wi2 1152921504606846976 a' b' = true := (wi2_iff _ _ _).2 (by omega)
  go_enter Tryz.func140, Tryz.ntmps140
  go_wp2_with (first | (go_at_call 116; refine (r2within_any _ _ 1152921504606846976 _ (by omega) (by omega)).q ?_; intro kj) | (go_at_call 162; refine (r2result_any _ _ _).q ?_; intro kj))
  refine bodyPost_ret (v := .tuple #[.agg #[.int .i64 (limS ⟨a + a', b + b'⟩).v.a, .int .i64 (limS ⟨a + a', b + b'⟩).v.b], .int .i64 (limS ⟨a + a', b + b'⟩).e]) (by simp [results, Tryz.results140, go_sem]) rfl ⟨rfl, ?_⟩
  exact Q.i
 have hR : saddR ⟨a, b⟩ ⟨a', b'⟩ = ⟨zeroS, 1⟩ := by simp [saddR, h]
 rw [hR]
 clear hR
 by_cases h1 : wi2 1152921504606846976 a b = true
 rotate_left
 ·have h1 : wi2 1152921504606846976 a b = false := by simpa using h1
  clear h
  go_enter Tryz.func140, Tryz.ntmps140
  go_wp2_with (go_at_call 116; refine (r2within_any _ _ 1152921504606846976 _ (by omega) (by omega)).q ?_; intro kj)
  refine bodyPost_ret (v := .tuple #[.agg #[.int .i64 (R2.mk zeroS 1).v.a, .int .i64 (R2.mk zeroS 1).v.b], .int .i64 (R2.mk zeroS 1).e]) (by simp [results, Tryz.results140, go_sem, zeroS]) rfl ⟨rfl, ?_⟩
  exact Q.i
 have h2 : wi2 1152921504606846976 a' b' = false := by
  cases e : wi2 1152921504606846976 a' b'
  ·rfl
  have k1 := (wi2_iff _ _ _).1 h1
  have k2 := (wi2_iff _ _ _).1 e
  exact absurd ((wi4_iff _ _ _ _ _).2 (by omega)) h
 clear h
 go_enter Tryz.func140, Tryz.ntmps140
 go_wp2_with (go_at_call 116; refine (r2within_any _ _ 1152921504606846976 _ (by omega) (by omega)).q ?_; intro kj)
 refine bodyPost_ret (v := .tuple #[.agg #[.int .i64 (R2.mk zeroS 1).v.a, .int .i64 (R2.mk zeroS 1).v.b], .int .i64 (R2.mk zeroS 1).e]) (by simp [results, Tryz.results140, go_sem, zeroS]) rfl ⟨rfl, ?_⟩
 exact Q.i
end Go.Proofs.YtcjflafjmdfanaaGreatDoor
/- What product, sign, Sign and Compare of package substationref02 return. -/
namespace Go.Sub
theorem Sm.sq {x y : Int} (h0 : -1267650600228229401496703205376 ≤ x) (h1 : x ≤ 1267650600228229401496703205376) (k0 : -1267650600228229401496703205376 ≤ y) (k1 : y ≤ 1267650600228229401496703205376) : Sm (x * y) := by
 have := bd_mul h0 h1 k0 k1
 exact Sm.of (by omega) (by omega)
theorem Sm.sq3 {x : Int} (h0 : -1267650600228229401496703205376 ≤ x) (h1 : x ≤ 1267650600228229401496703205376) : Sm (3 * (x * x)) := by
 have := bd_mul h0 h1 h0 h1
 exact Sm.of (by omega) (by omega)
theorem Sm.b100 {x : Int} (h0 : -1267650600228229401496703205376 ≤ x) (h1 : x ≤ 1267650600228229401496703205376) : Sm x := Sm.of (by omega) (by omega)
theorem ref_sgn (x y : Int) : (sgn x = 0 → sgnS ⟨x, y⟩ = sgn y) ∧ (sgn y = 0 → sgnS ⟨x, y⟩ = sgn x) ∧ (sgn x = sgn y → sgnS ⟨x, y⟩ = sgn x) := by
 unfold sgnS
 dsimp only
 refine ⟨fun h => ?_, fun h => ?_, fun h => ?_⟩
 ·rw [h]
  by_cases h2 : 0 = sgn y ∨ sgn y = 0
  ·rw [if_pos h2]; omega
  rw [if_neg h2, if_pos rfl]
 ·rw [if_pos (.inr h)]
 rw [if_pos (.inl h)]
theorem ref_sgn2 (x y : Int) (h1 : sgn x ≠ 0) (h2 : sgn y = -sgn x) : sgnS ⟨x, y⟩ = sgn x * cmpI (x * x) (3 * (y * y)) := by
 have hne : x * x ≠ 3 * (y * y) := fun e => by
  obtain ⟨e1, _⟩ := sq3 x y e
  rw [e1] at h1
  exact h1 rfl
 rw [sgnS_eq]
 dsimp only
 rw [if_neg (by omega), if_neg h1]
 rcases Int.lt_trichotomy (x * x) (3 * (y * y)) with h | h | h
 ·rw [if_neg (by omega), show cmpI (x * x) (3 * (y * y)) = -1 by simp [cmpI, h]]
  omega
 ·exact absurd h hne
 rw [if_pos h, show cmpI (x * x) (3 * (y * y)) = 1 by simp [cmpI, h]; omega]
 omega
end Go.Sub
namespace Go.Proofs.YtcjflafjmdfanaaGreatDoor
open Go.RowKit Go.Sub
theorem r2prod_z (b : Bool) (A : Option Addr) (n c : Nat) (x : Int) (b' : Bool) (B : Option Addr) (m d : Nat) (y : Int) (w : World) (bx : b = decide (x < 0)) (rx : Rd w A n c (dig x.natAbs)) (hx : Sm x) (by' : b' = decide (y < 0)) (ry : Rd w B m d (dig y.natAbs)) (hy : Sm y) (hxy : Sm (x * y)) :
  Calls Tryz.prog 144 #[.agg #[.bool b, .slice A n c], .agg #[.bool b', .slice B m d]] w (RetZ (x * y) w) := by
 have HX := hh rx
 have HY := hh ry
 have BX := hh bx
 have BY := hh by'
 clear rx ry bx by'
 go_enter Tryz.func144, Tryz.ntmps144
 go_wp2_with (go_at_call 165; refine (r1mul_b _ _ _ _ x _ _ _ _ y _ BX.o (HX.o.q Q.i) hx BY.o (HY.o.q Q.i) hy hxy).mono ?_; rintro e w' ⟨A1, n1, c1, k1, rfl, rfl, hr1, hf1⟩; have HR1 := hh hr1; have HF1 := hh hf1; clear hr1 hf1)
 refine bodyPost_ret (v := .agg #[.bool (decide (x * y < 0)), .slice A1 n1 c1]) (by simp [results, Tryz.results144, go_sem]) rfl (RetI.of (A := A1) (n := n1) (c := c1) rfl ?_ ?_ (HF1.o.q Q.i))
 ·exact Q.i
 exact (HR1.o.swap (by simp) HF1.o).q ((Q.refl _).alloc _)
theorem r2sign_0m (b : Bool) (A : Option Addr) (n c : Nat) (x : Int) (b' : Bool) (B : Option Addr) (m d : Nat) (y : Int) (w : World) (_ : Hid (b = decide (x < 0))) (_ : Hid (Rd w A n c (dig x.natAbs))) (_ : Hid (b' = decide (y < 0))) (_ : Hid (Rd w B m d (dig y.natAbs)))  (SX : Hid (∀ w', Q w w' → Calls Tryz.prog 142 #[.agg #[.bool b, .slice A n c]] w' fun e w'' => e = .returned (.int .i64 (0)) ∧ Q w' w'')) (SY : Hid (∀ w', Q w w' → Calls Tryz.prog 142 #[.agg #[.bool b', .slice B m d]] w' fun e w'' => e = .returned (.int .i64 (-1)) ∧ Q w' w'')) :
  Calls Tryz.prog 118 #[.agg #[.bool b, .slice A n c], .agg #[.bool b', .slice B m d]] w fun e w' => e = .returned (.int .i64 (-1)) ∧ Q w w' := by
 go_enter Tryz.func118, Tryz.ntmps118
 go_wp2
 try simp only [List.append]
 refine wrj (by kernel_rfl) ?_
 repeat (go_big_quiet_step (((go_at_call 142; first | with_reducible exact Calls.jk_of (SX.o _ Q.i) | with_reducible exact Calls.jk_of (SY.o _ Q.i)))))
 refine wq0 fun kq => ?_
 go_wp2
 go_ret
 refine ⟨rfl, ?_⟩
 exact Q.i
theorem r2sign_00 (b : Bool) (A : Option Addr) (n c : Nat) (x : Int) (b' : Bool) (B : Option Addr) (m d : Nat) (y : Int) (w : World) (_ : Hid (b = decide (x < 0))) (_ : Hid (Rd w A n c (dig x.natAbs))) (_ : Hid (b' = decide (y < 0))) (_ : Hid (Rd w B m d (dig y.natAbs)))  (SX : Hid (∀ w', Q w w' → Calls Tryz.prog 142 #[.agg #[.bool b, .slice A n c]] w' fun e w'' => e = .returned (.int .i64 (0)) ∧ Q w' w'')) (SY : Hid (∀ w', Q w w' → Calls Tryz.prog 142 #[.agg #[.bool b', .slice B m d]] w' fun e w'' => e = .returned (.int .i64 (0)) ∧ Q w' w'')) :
  Calls Tryz.prog 118 #[.agg #[.bool b, .slice A n c], .agg #[.bool b', .slice B m d]] w fun e w' => e = .returned (.int .i64 (0)) ∧ Q w w' := by
 go_enter Tryz.func118, Tryz.ntmps118
 go_wp2
 try simp only [List.append]
 refine wrj (by kernel_rfl) ?_
 repeat (go_big_quiet_step (((go_at_call 142; first | with_reducible exact Calls.jk_of (SX.o _ Q.i) | with_reducible exact Calls.jk_of (SY.o _ Q.i)))))
 refine wq0 fun kq => ?_
 go_wp2
 go_ret
 refine ⟨rfl, ?_⟩
 exact Q.i
theorem r2sign_0p (b : Bool) (A : Option Addr) (n c : Nat) (x : Int) (b' : Bool) (B : Option Addr) (m d : Nat) (y : Int) (w : World) (_ : Hid (b = decide (x < 0))) (_ : Hid (Rd w A n c (dig x.natAbs))) (_ : Hid (b' = decide (y < 0))) (_ : Hid (Rd w B m d (dig y.natAbs)))  (SX : Hid (∀ w', Q w w' → Calls Tryz.prog 142 #[.agg #[.bool b, .slice A n c]] w' fun e w'' => e = .returned (.int .i64 (0)) ∧ Q w' w'')) (SY : Hid (∀ w', Q w w' → Calls Tryz.prog 142 #[.agg #[.bool b', .slice B m d]] w' fun e w'' => e = .returned (.int .i64 (1)) ∧ Q w' w'')) :
  Calls Tryz.prog 118 #[.agg #[.bool b, .slice A n c], .agg #[.bool b', .slice B m d]] w fun e w' => e = .returned (.int .i64 (1)) ∧ Q w w' := by
 go_enter Tryz.func118, Tryz.ntmps118
 go_wp2
 try simp only [List.append]
 refine wrj (by kernel_rfl) ?_
 repeat (go_big_quiet_step (((go_at_call 142; first | with_reducible exact Calls.jk_of (SX.o _ Q.i) | with_reducible exact Calls.jk_of (SY.o _ Q.i)))))
 refine wq0 fun kq => ?_
 go_wp2
 go_ret
 refine ⟨rfl, ?_⟩
 exact Q.i
theorem r2sign_pp (b : Bool) (A : Option Addr) (n c : Nat) (x : Int) (b' : Bool) (B : Option Addr) (m d : Nat) (y : Int) (w : World) (_ : Hid (b = decide (x < 0))) (_ : Hid (Rd w A n c (dig x.natAbs))) (_ : Hid (b' = decide (y < 0))) (_ : Hid (Rd w B m d (dig y.natAbs)))  (SX : Hid (∀ w', Q w w' → Calls Tryz.prog 142 #[.agg #[.bool b, .slice A n c]] w' fun e w'' => e = .returned (.int .i64 (1)) ∧ Q w' w'')) (SY : Hid (∀ w', Q w w' → Calls Tryz.prog 142 #[.agg #[.bool b', .slice B m d]] w' fun e w'' => e = .returned (.int .i64 (1)) ∧ Q w' w'')) :
  Calls Tryz.prog 118 #[.agg #[.bool b, .slice A n c], .agg #[.bool b', .slice B m d]] w fun e w' => e = .returned (.int .i64 (1)) ∧ Q w w' := by
 go_enter Tryz.func118, Tryz.ntmps118
 go_wp2
 try simp only [List.append]
 refine wrj (by kernel_rfl) ?_
 repeat (go_big_quiet_step (((go_at_call 142; first | with_reducible exact Calls.jk_of (SX.o _ Q.i) | with_reducible exact Calls.jk_of (SY.o _ Q.i)))))
 refine wq0 fun kq => ?_
 go_wp2
 go_ret
 refine ⟨rfl, ?_⟩
 exact Q.i
theorem r2sign_mm (b : Bool) (A : Option Addr) (n c : Nat) (x : Int) (b' : Bool) (B : Option Addr) (m d : Nat) (y : Int) (w : World) (_ : Hid (b = decide (x < 0))) (_ : Hid (Rd w A n c (dig x.natAbs))) (_ : Hid (b' = decide (y < 0))) (_ : Hid (Rd w B m d (dig y.natAbs)))  (SX : Hid (∀ w', Q w w' → Calls Tryz.prog 142 #[.agg #[.bool b, .slice A n c]] w' fun e w'' => e = .returned (.int .i64 (-1)) ∧ Q w' w'')) (SY : Hid (∀ w', Q w w' → Calls Tryz.prog 142 #[.agg #[.bool b', .slice B m d]] w' fun e w'' => e = .returned (.int .i64 (-1)) ∧ Q w' w'')) :
  Calls Tryz.prog 118 #[.agg #[.bool b, .slice A n c], .agg #[.bool b', .slice B m d]] w fun e w' => e = .returned (.int .i64 (-1)) ∧ Q w w' := by
 go_enter Tryz.func118, Tryz.ntmps118
 go_wp2
 try simp only [List.append]
 refine wrj (by kernel_rfl) ?_
 repeat (go_big_quiet_step (((go_at_call 142; first | with_reducible exact Calls.jk_of (SX.o _ Q.i) | with_reducible exact Calls.jk_of (SY.o _ Q.i)))))
 refine wq0 fun kq => ?_
 go_wp2
 go_ret
 refine ⟨rfl, ?_⟩
 exact Q.i
theorem r2sign_p0 (b : Bool) (A : Option Addr) (n c : Nat) (x : Int) (b' : Bool) (B : Option Addr) (m d : Nat) (y : Int) (w : World) (_ : Hid (b = decide (x < 0))) (_ : Hid (Rd w A n c (dig x.natAbs))) (_ : Hid (b' = decide (y < 0))) (_ : Hid (Rd w B m d (dig y.natAbs)))  (SX : Hid (∀ w', Q w w' → Calls Tryz.prog 142 #[.agg #[.bool b, .slice A n c]] w' fun e w'' => e = .returned (.int .i64 (1)) ∧ Q w' w'')) (SY : Hid (∀ w', Q w w' → Calls Tryz.prog 142 #[.agg #[.bool b', .slice B m d]] w' fun e w'' => e = .returned (.int .i64 (0)) ∧ Q w' w'')) :
  Calls Tryz.prog 118 #[.agg #[.bool b, .slice A n c], .agg #[.bool b', .slice B m d]] w fun e w' => e = .returned (.int .i64 (1)) ∧ Q w w' := by
 go_enter Tryz.func118, Tryz.ntmps118
 go_wp2
 try simp only [List.append]
 refine wrj (by kernel_rfl) ?_
 repeat (go_big_quiet_step (((go_at_call 142; first | with_reducible exact Calls.jk_of (SX.o _ Q.i) | with_reducible exact Calls.jk_of (SY.o _ Q.i)))))
 refine wq0 fun kq => ?_
 go_wp2
 go_ret
 refine ⟨rfl, ?_⟩
 exact Q.i
theorem r2sign_m0 (b : Bool) (A : Option Addr) (n c : Nat) (x : Int) (b' : Bool) (B : Option Addr) (m d : Nat) (y : Int) (w : World) (_ : Hid (b = decide (x < 0))) (_ : Hid (Rd w A n c (dig x.natAbs))) (_ : Hid (b' = decide (y < 0))) (_ : Hid (Rd w B m d (dig y.natAbs)))  (SX : Hid (∀ w', Q w w' → Calls Tryz.prog 142 #[.agg #[.bool b, .slice A n c]] w' fun e w'' => e = .returned (.int .i64 (-1)) ∧ Q w' w'')) (SY : Hid (∀ w', Q w w' → Calls Tryz.prog 142 #[.agg #[.bool b', .slice B m d]] w' fun e w'' => e = .returned (.int .i64 (0)) ∧ Q w' w'')) :
  Calls Tryz.prog 118 #[.agg #[.bool b, .slice A n c], .agg #[.bool b', .slice B m d]] w fun e w' => e = .returned (.int .i64 (-1)) ∧ Q w w' := by
 go_enter Tryz.func118, Tryz.ntmps118
 go_wp2
 try simp only [List.append]
 refine wrj (by kernel_rfl) ?_
 repeat (go_big_quiet_step (((go_at_call 142; first | with_reducible exact Calls.jk_of (SX.o _ Q.i) | with_reducible exact Calls.jk_of (SY.o _ Q.i)))))
 refine wq0 fun kq => ?_
 go_wp2
 go_ret
 refine ⟨rfl, ?_⟩
 exact Q.i
theorem r2sign_pm (b : Bool) (A : Option Addr) (n c : Nat) (x : Int) (b' : Bool) (B : Option Addr) (m d : Nat) (y : Int) (w : World) (BX : Hid (b = decide (x < 0))) (HX : Hid (Rd w A n c (dig x.natAbs))) (BY : Hid (b' = decide (y < 0))) (HY : Hid (Rd w B m d (dig y.natAbs))) (hx : Sm x) (hy : Sm y) (hxx : Sm (x * x)) (hyy : Sm (y * y)) (h3 : Sm 3) (h3y : Sm (3 * (y * y))) (SX : Hid (∀ w', Q w w' → Calls Tryz.prog 142 #[.agg #[.bool b, .slice A n c]] w' fun e w'' => e = .returned (.int .i64 1) ∧ Q w' w'')) (SY : Hid (∀ w', Q w w' → Calls Tryz.prog 142 #[.agg #[.bool b', .slice B m d]] w' fun e w'' => e = .returned (.int .i64 (-1)) ∧ Q w' w'')) :
  Calls Tryz.prog 118 #[.agg #[.bool b, .slice A n c], .agg #[.bool b', .slice B m d]] w fun e w' => e = .returned (.int .i64 (cmpI (x * x) (3 * (y * y)))) ∧ Q w w' := by
 have hc0 : -1 ≤ cmpI (x * x) (3 * (y * y)) := by unfold cmpI; repeat' split <;> omega
 have hc1 : cmpI (x * x) (3 * (y * y)) ≤ 1 := by unfold cmpI; repeat' split <;> omega
 go_enter Tryz.func118, Tryz.ntmps118
 go_wp2
 try simp only [List.append]
 refine wrj (by kernel_rfl) ?_
 repeat (go_big_quiet_step (((go_at_call 142; first | with_reducible exact Calls.jk_of (SX.o _ Q.i) | with_reducible exact Calls.jk_of (SY.o _ Q.i)))))
 refine wq0 fun kq => ?_
 go_wp2
 go_region_held3 (fun w' => w'.cell? ⟨w.heap.size, 0, none⟩ = some (.bool b) ∧ w'.cell? ⟨w.heap.size, 1, none⟩ = some (.slice A n c) ∧ w'.cell? ⟨w.heap.size + 1, 0, none⟩ = some (.bool b') ∧ w'.cell? ⟨w.heap.size + 1, 1, none⟩ = some (.slice B m d)) (simp [go_sem])
  (first | (go_at_call 144; first | ((with_reducible refine (r2prod_z _ _ _ _ x _ _ _ _ x _ BX.o (HX.o.q Q.i) hx BX.o (HX.o.q Q.i) hx hxx).mono ?_); rintro e w' ⟨A1, n1, c1, k1, rfl, rfl, hr1, hf1⟩; have HR1 := hh hr1; clear hr1 hf1) | ((with_reducible refine (r2prod_z _ _ _ _ y _ _ _ _ y _ BY.o (HY.o.q Q.i) hy BY.o (HY.o.q Q.i) hy hyy).mono ?_); rintro e w' ⟨A3, n3, c3, k3, rfl, rfl, hr3, hf3⟩; have HR3 := hh hr3; clear hr3 hf3) | ((with_reducible refine (r2prod_z _ _ _ _ 3 _ _ _ _ (y * y) _ (by decide) (HR2.o.q Q.i) h3 (by rfl) (HR3.o.q Q.i) hyy h3y).mono ?_); rintro e w' ⟨A4, n4, c4, k4, rfl, rfl, hr4, hf4⟩; have HR4 := hh hr4; clear hr4 hf4)) | (go_at_call 145; refine (r1of_any 3 _ (by decide) (by decide)).mono ?_; rintro e w' ⟨A2, n2, c2, k2, rfl, rfl, hr2, hf2⟩; have HR2 := hh hr2; clear hr2 hf2) | (go_at_call 143; refine (r1cmp_z _ _ _ _ (x * x) _ _ _ _ (3 * (y * y)) _ rfl (HR1.o.q Q.i) hxx rfl (HR4.o.q Q.i) h3y).q ?_; intro kj))
 rename_i hHeld
 clear hHeld
 go_wp2
 go_ret
 refine ⟨rfl, ?_⟩
 exact Q.i
theorem r2sign_mp (b : Bool) (A : Option Addr) (n c : Nat) (x : Int) (b' : Bool) (B : Option Addr) (m d : Nat) (y : Int) (w : World) (BX : Hid (b = decide (x < 0))) (HX : Hid (Rd w A n c (dig x.natAbs))) (BY : Hid (b' = decide (y < 0))) (HY : Hid (Rd w B m d (dig y.natAbs))) (hx : Sm x) (hy : Sm y) (hxx : Sm (x * x)) (hyy : Sm (y * y)) (h3 : Sm 3) (h3y : Sm (3 * (y * y))) (SX : Hid (∀ w', Q w w' → Calls Tryz.prog 142 #[.agg #[.bool b, .slice A n c]] w' fun e w'' => e = .returned (.int .i64 (-1)) ∧ Q w' w'')) (SY : Hid (∀ w', Q w w' → Calls Tryz.prog 142 #[.agg #[.bool b', .slice B m d]] w' fun e w'' => e = .returned (.int .i64 1) ∧ Q w' w'')) :
  Calls Tryz.prog 118 #[.agg #[.bool b, .slice A n c], .agg #[.bool b', .slice B m d]] w fun e w' => e = .returned (.int .i64 (-cmpI (x * x) (3 * (y * y)))) ∧ Q w w' := by
 have hc0 : -1 ≤ cmpI (x * x) (3 * (y * y)) := by unfold cmpI; repeat' split <;> omega
 have hc1 : cmpI (x * x) (3 * (y * y)) ≤ 1 := by unfold cmpI; repeat' split <;> omega
 go_enter Tryz.func118, Tryz.ntmps118
 go_wp2
 try simp only [List.append]
 refine wrj (by kernel_rfl) ?_
 repeat (go_big_quiet_step (((go_at_call 142; first | with_reducible exact Calls.jk_of (SX.o _ Q.i) | with_reducible exact Calls.jk_of (SY.o _ Q.i)))))
 refine wq0 fun kq => ?_
 go_wp2
 go_region_held3 (fun w' => w'.cell? ⟨w.heap.size, 0, none⟩ = some (.bool b) ∧ w'.cell? ⟨w.heap.size, 1, none⟩ = some (.slice A n c) ∧ w'.cell? ⟨w.heap.size + 1, 0, none⟩ = some (.bool b') ∧ w'.cell? ⟨w.heap.size + 1, 1, none⟩ = some (.slice B m d)) (simp [go_sem])
  (first | (go_at_call 144; first | ((with_reducible refine (r2prod_z _ _ _ _ x _ _ _ _ x _ BX.o (HX.o.q Q.i) hx BX.o (HX.o.q Q.i) hx hxx).mono ?_); rintro e w' ⟨A1, n1, c1, k1, rfl, rfl, hr1, hf1⟩; have HR1 := hh hr1; clear hr1 hf1) | ((with_reducible refine (r2prod_z _ _ _ _ y _ _ _ _ y _ BY.o (HY.o.q Q.i) hy BY.o (HY.o.q Q.i) hy hyy).mono ?_); rintro e w' ⟨A3, n3, c3, k3, rfl, rfl, hr3, hf3⟩; have HR3 := hh hr3; clear hr3 hf3) | ((with_reducible refine (r2prod_z _ _ _ _ 3 _ _ _ _ (y * y) _ (by decide) (HR2.o.q Q.i) h3 (by rfl) (HR3.o.q Q.i) hyy h3y).mono ?_); rintro e w' ⟨A4, n4, c4, k4, rfl, rfl, hr4, hf4⟩; have HR4 := hh hr4; clear hr4 hf4)) | (go_at_call 145; refine (r1of_any 3 _ (by decide) (by decide)).mono ?_; rintro e w' ⟨A2, n2, c2, k2, rfl, rfl, hr2, hf2⟩; have HR2 := hh hr2; clear hr2 hf2) | (go_at_call 143; refine (r1cmp_z _ _ _ _ (x * x) _ _ _ _ (3 * (y * y)) _ rfl (HR1.o.q Q.i) hxx rfl (HR4.o.q Q.i) h3y).q ?_; intro kj))
 rename_i hHeld
 clear hHeld
 go_wp2
 go_ret
 refine ⟨rfl, ?_⟩
 exact Q.i
theorem sgn_val (x : Int) : (x < 0 ∧ sgn x = -1) ∨ (x = 0 ∧ sgn x = 0) ∨ (0 < x ∧ sgn x = 1) := by
 unfold sgn
 split
 ·exact .inl ⟨by assumption, rfl⟩
 split
 ·exact .inr (.inr ⟨by assumption, rfl⟩)
 exact .inr (.inl ⟨by omega, rfl⟩)
theorem r2sign_z (b : Bool) (A : Option Addr) (n c : Nat) (x : Int) (b' : Bool) (B : Option Addr) (m d : Nat) (y : Int) (w : World) (bx : b = decide (x < 0)) (rx : Rd w A n c (dig x.natAbs)) (by' : b' = decide (y < 0)) (ry : Rd w B m d (dig y.natAbs)) (h0 : -1267650600228229401496703205376 ≤ x) (h1 : x ≤ 1267650600228229401496703205376) (k0 : -1267650600228229401496703205376 ≤ y) (k1 : y ≤ 1267650600228229401496703205376) :
  Calls Tryz.prog 118 #[.agg #[.bool b, .slice A n c], .agg #[.bool b', .slice B m d]] w fun e w' => e = .returned (.int .i64 (sgnS ⟨x, y⟩)) ∧ Q w w' := by
 have hx := Sm.b100 h0 h1
 have hy := Sm.b100 k0 k1
 have sx : ∀ w', Q w w' → Calls Tryz.prog 142 #[.agg #[.bool b, .slice A n c]] w' fun e w'' => e = .returned (.int .i64 (sgn x)) ∧ Q w' w'' := fun w' hq => r1sign_z b A n c x w' bx (rx.q hq) hx
 have sy : ∀ w', Q w w' → Calls Tryz.prog 142 #[.agg #[.bool b', .slice B m d]] w' fun e w'' => e = .returned (.int .i64 (sgn y)) ∧ Q w' w'' := fun w' hq => r1sign_z b' B m d y w' by' (ry.q hq) hy
 obtain ⟨r1, r2, r3⟩ := ref_sgn x y
 have r4 := ref_sgn2 x y
 rcases sgn_val x with ⟨_, ex⟩ | ⟨_, ex⟩ | ⟨_, ex⟩ <;> rcases sgn_val y with ⟨_, ey⟩ | ⟨_, ey⟩ | ⟨_, ey⟩ <;> rw [ex] at sx r1 r2 r3 r4 <;> rw [ey] at sy r1 r2 r3 r4
 ·rw [r3 rfl]; exact r2sign_mm b A n c x b' B m d y w (hh bx) (hh rx) (hh by') (hh ry) (hh sx) (hh sy)
 ·rw [r2 rfl]; exact r2sign_m0 b A n c x b' B m d y w (hh bx) (hh rx) (hh by') (hh ry) (hh sx) (hh sy)
 ·rw [r4 (by decide) (by decide), Int.neg_one_mul]; exact r2sign_mp b A n c x b' B m d y w (hh bx) (hh rx) (hh by') (hh ry) hx hy (Sm.sq h0 h1 h0 h1) (Sm.sq k0 k1 k0 k1) (Sm.of (by decide) (by decide)) (Sm.sq3 k0 k1) (hh sx) (hh sy)
 ·rw [r1 rfl]; exact r2sign_0m b A n c x b' B m d y w (hh bx) (hh rx) (hh by') (hh ry) (hh sx) (hh sy)
 ·rw [r1 rfl]; exact r2sign_00 b A n c x b' B m d y w (hh bx) (hh rx) (hh by') (hh ry) (hh sx) (hh sy)
 ·rw [r1 rfl]; exact r2sign_0p b A n c x b' B m d y w (hh bx) (hh rx) (hh by') (hh ry) (hh sx) (hh sy)
 ·rw [r4 (by decide) (by decide), Int.one_mul]; exact r2sign_pm b A n c x b' B m d y w (hh bx) (hh rx) (hh by') (hh ry) hx hy (Sm.sq h0 h1 h0 h1) (Sm.sq k0 k1 k0 k1) (Sm.of (by decide) (by decide)) (Sm.sq3 k0 k1) (hh sx) (hh sy)
 ·rw [r2 rfl]; exact r2sign_p0 b A n c x b' B m d y w (hh bx) (hh rx) (hh by') (hh ry) (hh sx) (hh sy)
 rw [r3 rfl]; exact r2sign_pp b A n c x b' B m d y w (hh bx) (hh rx) (hh by') (hh ry) (hh sx) (hh sy)
theorem r2Sign_any (x y : Int) (w : World) (h0 : -9223372036854775808 ≤ x) (h1 : x ≤ 9223372036854775807) (k0 : -9223372036854775808 ≤ y) (k1 : y ≤ 9223372036854775807) :
  Calls Tryz.prog 141 #[.agg #[.int .i64 x, .int .i64 y]] w fun e w' => e = .returned (.int .i64 (sgnS ⟨x, y⟩)) ∧ Q w w' := by
 go_enter Tryz.func141, Tryz.ntmps141
 go_wp2
 go_region_held3 (fun w' => w'.cell? ⟨w.heap.size, 0, none⟩ = some (.int .i64 x) ∧ w'.cell? ⟨w.heap.size, 1, none⟩ = some (.int .i64 y)) (simp [go_sem])
  (first | (go_at_call 145; first | ((with_reducible refine (r1of_any x _ (by omega) (by omega)).mono ?_); rintro e w' ⟨A1, n1, c1, k1, rfl, rfl, hr1, hf1⟩; have HR1 := hh hr1; clear hr1 hf1) | ((with_reducible refine (r1of_any y _ (by omega) (by omega)).mono ?_); rintro e w' ⟨A2, n2, c2, k2, rfl, rfl, hr2, hf2⟩; have HR2 := hh hr2; clear hr2 hf2)) | (go_at_call 118; refine (r2sign_z _ _ _ _ x _ _ _ _ y _ rfl (HR1.o.q Q.i) rfl (HR2.o.q Q.i) (by omega) (by omega) (by omega) (by omega)).q ?_; intro kj))
 rename_i hHeld
 clear hHeld
 go_wp2
 go_ret
 refine ⟨rfl, ?_⟩
 exact Q.i
theorem r2cmp_any (a b a' b' : Int) (w : World) :
  Calls Tryz.prog 113 #[.agg #[.int .i64 a, .int .i64 b], .agg #[.int .i64 a', .int .i64 b']] w fun e w' => e = .returned (.tuple #[.int .i64 (scmpR ⟨a, b⟩ ⟨a', b'⟩).1, .int .i64 (scmpR ⟨a, b⟩ ⟨a', b'⟩).2]) ∧ Q w w' := by
 by_cases h : wi4 1152921504606846976 a b a' b' = true
 ·obtain ⟨l1, l2, l3, l4, m1, m2, m3, m4⟩ := (wi4_iff _ _ _ _ _).1 h
  have hR : scmpR ⟨a, b⟩ ⟨a', b'⟩ = (sgnS ⟨a - a', b - b'⟩, 0) := by simp [scmpR, h, Su.sub]
  rw [hR]
  clear hR
  have h1 : wi2 1152921504606846976 a b = true := (wi2_iff _ _ _).2 (by omega)
  have h2 : wi2 1152921504606846976 a' b' = true := (wi2_iff _ _ _).2 (by omega)
  go_enter Tryz.func113, Tryz.ntmps113
  go_wp2_with (first | (go_at_call 116; refine (r2within_any _ _ 1152921504606846976 _ (by omega) (by omega)).q ?_; intro kj) | (go_at_call 141; refine (r2Sign_any _ _ _ (by omega) (by omega) (by omega) (by omega)).q ?_; intro kj))
  go_ret2
  refine ⟨rfl, ?_⟩
  exact Q.i
 have hR : scmpR ⟨a, b⟩ ⟨a', b'⟩ = (0, 1) := by simp [scmpR, h]
 rw [hR]
 clear hR
 by_cases h1 : wi2 1152921504606846976 a b = true
 rotate_left
 ·have h1 : wi2 1152921504606846976 a b = false := by simpa using h1
  clear h
  go_enter Tryz.func113, Tryz.ntmps113
  go_wp2_with (go_at_call 116; refine (r2within_any _ _ 1152921504606846976 _ (by omega) (by omega)).q ?_; intro kj)
  go_ret2
  refine ⟨rfl, ?_⟩
  exact Q.i
 have h2 : wi2 1152921504606846976 a' b' = false := by
  cases e : wi2 1152921504606846976 a' b'
  ·rfl
  have k1 := (wi2_iff _ _ _).1 h1
  have k2 := (wi2_iff _ _ _).1 e
  exact absurd ((wi4_iff _ _ _ _ _).2 (by omega)) h
 clear h
 go_enter Tryz.func113, Tryz.ntmps113
 go_wp2_with (go_at_call 116; refine (r2within_any _ _ 1152921504606846976 _ (by omega) (by omega)).q ?_; intro kj)
 go_ret2
 refine ⟨rfl, ?_⟩
 exact Q.i
end Go.Proofs.YtcjflafjmdfanaaGreatDoor
namespace Go.Sub
def smallR (z : Int) : Int × Bool := if -9223372036854775808 ≤ z ∧ z ≤ 9223372036854775807 then (z, true) else (0, false)
def scaledR (l n k : Int) : Int := if -l ≤ n * k ∧ n * k ≤ l then n * k else l + 1
theorem or_low {u d : Int} (h0 : 0 ≤ u) (h1 : u < 4294967296) (d0 : 0 ≤ d) (d1 : d < 4294967296) : bits .or .u64 (u * 4294967296) d = u * 4294967296 + d := by
 obtain ⟨a, rfl⟩ := Int.eq_ofNat_of_zero_le h0
 obtain ⟨b, rfl⟩ := Int.eq_ofNat_of_zero_le d0
 have e1 : ((a : Int) * 4294967296) = ((2 ^ 32 * a : Nat) : Int) := by omega
 rw [e1]
 rw [bits_or_u64_nat _ _ (by omega) (by omega), ← Nat.two_pow_add_eq_or_of_lt (show b < 2 ^ 32 by omega)]
 omega
end Go.Sub
namespace Go.Proofs.YtcjflafjmdfanaaGreatDoor
open Go.RowKit Go.Sub
theorem r1small_big (b : Bool) (A : Option Addr) (n c : Nat) (x : Int) (w : World) (bx : b = decide (x < 0)) (rx : Rd w A n c (dig x.natAbs)) (hx : Sm x) (hn : 2 < n) :
  Calls Tryz.prog 185 #[.agg #[.bool b, .slice A n c]] w fun e w' => e = .returned (.tuple #[.int .i64 0, .bool false]) ∧ Q w w' := by
 have ln : n ≤ 12 := by rw [← rx.1]; exact hx.len
 have HX := hh rx
 have BX := hh bx
 have HVX := hh (fun w' (hq : Q w w') => r1valid_z b A n c x w' BX.o (HX.o.q hq) hx)
 clear rx bx hx
 go_enter Tryz.func185, Tryz.ntmps185
 go_wp2_with (go_at_call 163; (with_reducible refine (HVX.o _ Q.i).q ?_); intro kj)
 go_ret2
 refine ⟨rfl, ?_⟩
 exact Q.i
def highD (l : List Int) (k : Nat) : Int := dval (l.drop k)
theorem highD_step (l : List Int) (k : Nat) (h : k < l.length) : highD l k = highD l (k + 1) * 4294967296 + l.getD k 0 := by
 unfold highD
 rw [List.drop_eq_getElem_cons h, getD_lt h]
 simp only [dval]
 omega
theorem highD_lt {l : List Int} (hd : Dg l) (k : Nat) (h : l.length ≤ k + 1) : 0 ≤ highD l k ∧ highD l k < 4294967296 := by
 unfold highD
 have hd' : Dg (l.drop k) := fun x hx => hd x (List.mem_of_mem_drop hx)
 refine ⟨dval_nonneg hd', ?_⟩
 match e : l.drop k with
 | [] => simp [dval]
 | [x] => rw [e] at hd'; have := hd'.head; simp [dval]; omega
 | x :: y :: r =>
  have := congrArg List.length e
  rw [List.length_drop] at this
  simp at this
  omega
theorem r1small_two (b : Bool) (A : Option Addr) (n c : Nat) (x : Int) (w : World) (bx : b = decide (x < 0)) (rx : Rd w A n c (dig x.natAbs)) (hx : Sm x) (hn : n ≤ 2) :
  Calls Tryz.prog 185 #[.agg #[.bool b, .slice A n c]] w fun e w' => e = .returned (.tuple #[.int .i64 (smallR x).1, .bool (smallR x).2]) ∧ Q w w' := by
 have HL := hh rx.1
 have HX := hh rx
 have BX := hh bx
 have hv : dval (dig x.natAbs) = (x.natAbs : Int) := dval_dg x
 have hlt : (x.natAbs : Int) < 18446744073709551616 := by
  have h1 := dval_lt (dig_Dg x.natAbs)
  rw [hv, rx.1] at h1
  have h2 : wt n ≤ wt 2 := by
   have : n = 0 ∨ n = 1 ∨ n = 2 := by omega
   rcases this with rfl | rfl | rfl <;> decide
  have : wt 2 = 18446744073709551616 := by decide
  omega
 have HV := hh hv
 have HVX := hh (fun w' (hq : Q w w') => r1valid_z b A n c x w' BX.o (HX.o.q hq) hx)
 have HLT : Hid (-18446744073709551616 < x ∧ x < 18446744073709551616) := hh (by omega)
 clear rx bx hv hx hlt
 go_enter Tryz.func185, Tryz.ntmps185
 go_upto_block 0 with ((go_at_call 163; (with_reducible refine (HVX.o _ Q.i).q ?_); intro kj))
 go_cut [4] (fun s4 wx => s4 = .int .u64 (x.natAbs : Int) ∧ Q (w.alloc (.cells #[.bool b, .slice A n c] 196)) wx)
 case first =>
  go_wp2_with fail
  go_loopw [4, 5] (fun u i wr => ∃ k : Nat, i = .int .i64 ((k : Int) - 1) ∧ k ≤ n ∧ u = .int .u64 (highD (dig x.natAbs) k) ∧ Q (w.alloc (.cells #[.bool b, .slice A n c] 196)) wr) (fun _ i _ => (intOf i + 1).toNat)
  case atStart => exact ⟨n, rfl, Nat.le_refl _, by unfold highD; rw [List.drop_of_length_le (by rw [HL.o]; exact Nat.le_refl _)]; rfl, by repeat' (first | exact Q.refl _ | refine Q.alloc ?_ _ | refine Q.jk ?_ _ | refine Q.drew ?_)⟩
  case round =>
   obtain ⟨k, rfl, hk, rfl, kw, rfl⟩ := hrel
   rcases k with _ | j
   ·go_wp2
    go_meet
    refine ⟨by unfold highD; rw [List.drop_zero, HV.o], ?_⟩
    exact Q.i
   rw [show ((j + 1 : Nat) : Int) - 1 = (j : Int) by omega]
   obtain ⟨g, rfl, hOld, hc⟩ := HX.o.at_ (by omega)
   have hcj := hc.o j (by omega)
   obtain ⟨d, ed⟩ : ∃ d, (dig x.natAbs).getD j 0 = d := ⟨_, rfl⟩
   rw [ed] at hcj
   have hd : 0 ≤ d ∧ d < 4294967296 := ed ▸ (dig_Dg _).getD j
   obtain ⟨hd0, hd1⟩ := hd
   obtain ⟨u0, u1⟩ := highD_lt (dig_Dg x.natAbs) (j + 1) (by rw [HL.o]; omega)
   have ST := highD_step (dig x.natAbs) j (by rw [HL.o]; omega)
   rw [ed] at ST
   have HS := hh ST
   have HO := hh (or_low u0 u1 hd0 hd1)
   have hj : j < n := by omega
   clear ed ST hc
   go_wp2
   go_roundw
   case rel => exact ⟨j, rfl, by omega, by first | rw [HS.o, ← HO.o] | (rw [HS.o, ← HO.o]; rfl), by exact Q.i⟩
   case measure => simp [intOf]
 case rest =>
  obtain ⟨rfl, kx, rfl⟩ := hcut
  have hb := BX.o
  obtain ⟨hlt0, hlt1⟩ := HLT.o
  cases b
  ·have hx0 : 0 ≤ x := by simpa using hb
   by_cases hf : x ≤ 9223372036854775807
   ·have E : smallR x = (x, true) := by simp [smallR, hf]; omega
    have HE := hh E
    rw [show (x.natAbs : Int) = x by omega]
    clear E hb
    go_wp2
    go_ret2
    refine ⟨by rw [HE.o]; rfl, ?_⟩
    exact Q.i
   have E : smallR x = (0, false) := by simp [smallR, hf]
   have HE := hh E
   rw [show (x.natAbs : Int) = x by omega]
   clear E hb
   go_wp2
   go_ret2
   refine ⟨by rw [HE.o]; rfl, ?_⟩
   exact Q.i
  have hx0 : x < 0 := by simpa using hb
  by_cases hf : -9223372036854775808 ≤ x
  rotate_left
  ·have E : smallR x = (0, false) := by simp [smallR, hf]
   have HE := hh E
   rw [show (x.natAbs : Int) = -x by omega]
   clear E hb
   go_wp2
   go_ret2
   refine ⟨by rw [HE.o]; rfl, ?_⟩
   exact Q.i
  have E : smallR x = (x, true) := by simp [smallR, hf]; omega
  have HE := hh E
  have HN : Hid (wrap64 (IntKind.u64.wrap (bits .xor .u64 IntKind.u64.max (-x) + 1)) = x) := hh (by
   rw [not64 _ (by omega) (by omega), IntKind.wrap_u64]
   unfold wrap64
   omega)
  rw [show (x.natAbs : Int) = -x by omega]
  clear E hb
  go_wp2
  go_ret2
  refine ⟨by rw [HE.o]; show Ending.returned (.tuple #[.int .i64 (wrap64 (IntKind.u64.wrap (bits .xor .u64 IntKind.u64.max (-x) + 1))), .bool true]) = _; rw [HN.o], ?_⟩
  exact Q.i
theorem r1small_z (b : Bool) (A : Option Addr) (n c : Nat) (x : Int) (w : World) (bx : b = decide (x < 0)) (rx : Rd w A n c (dig x.natAbs)) (hx : Sm x) :
  Calls Tryz.prog 185 #[.agg #[.bool b, .slice A n c]] w fun e w' => e = .returned (.tuple #[.int .i64 (smallR x).1, .bool (smallR x).2]) ∧ Q w w' := by
 rcases Nat.lt_or_ge 2 n with hn | hn
 ·have h := r1small_big b A n c x w bx rx hx hn
  have e : smallR x = (0, false) := by
   have hl : ¬ (x.natAbs : Int) < wt 2 := fun h => by
    have := dig_length_le h
    rw [rx.1] at this
    omega
   have e2 : wt 2 = 18446744073709551616 := by decide
   rw [e2] at hl
   unfold smallR
   rw [if_neg (by omega)]
  rw [e]
  exact h
 exact r1small_two b A n c x w bx rx hx hn
theorem r2between_any (n l h : Int) (w : World) :
  Calls Tryz.prog 117 #[.int .i64 n, .int .i64 l, .int .i64 h] w fun e w' => e = .returned (.bool (decide (l ≤ n) && decide (n ≤ h))) ∧ w = w' := by
 go_enter Tryz.func117, Tryz.ntmps117
 go_wp2
 all_goals go_ret
 all_goals
  refine ⟨?_, rfl⟩
  show Ending.returned (Value.bool _) = _
  refine congrArg (fun x => Ending.returned (Value.bool x)) ?_
  rw [Bool.eq_iff_iff]
  simp [*]
  try omega
end Go.Proofs.YtcjflafjmdfanaaGreatDoor
