
/- What Above and Distorted of package phasor and of its reference return for any argument. -/
import Derived.Test.YtomodppdolfinaaDoorPhE
import Derived.Test.YtomodppdolfinaaDoorVs
import Derived.Test.YtomodppdolfinaaDoorBgH
import Derived.Test.YtomodppdolfinaaDoorRfW2
namespace Go.Proofs.YtomodppdolfinaaDoor
open Go.RowKit Go.Sub

/-- Whether a fundamental has at least a peak value, or an error. -/
def abvR (c : Cy) (p : Int) : Bool × Int := if wiB c 16777216 && decide (0 ≤ p) && decide (p ≤ 16383) then (aboveB c p, 0) else (false, 1)
theorem rnorm_c (x : Cy) (w : World) (hx : x.In 268435456) :
    Calls Tryd.prog 46 #[.agg #[.int .i64 x.a, .int .i64 x.b, .int .i64 x.c, .int .i64 x.d]] w fun e w' => e = .returned (.tuple #[.agg #[.int .i64 x.norm.a, .int .i64 x.norm.b], .int .i64 0]) ∧ Q w w' := by
  have h := rnorm_any x.a x.b x.c x.d w
  rw [show normR ⟨x.a, x.b, x.c, x.d⟩ = _ from normR_ok hx] at h
  exact h
theorem r2cmp_c (x y : Su) (w : World) (hx : x.In 1000000000000000000) (hy : y.In 1000000000000000000) :
    Calls Tryd.prog 59 #[.agg #[.int .i64 x.a, .int .i64 x.b], .agg #[.int .i64 y.a, .int .i64 y.b]] w fun e w' => e = .returned (.tuple #[.int .i64 (sgnS (x.sub y)), .int .i64 0]) ∧ Q w w' := by
  have h := r2cmp_any x.a x.b y.a y.b w
  have e : scmpR x y = (sgnS (x.sub y), 0) := by
    unfold Su.In at hx hy
    have : wi4 1152921504606846976 x.a x.b y.a y.b = true := (wi4_iff _ _ _ _ _).2 (by omega)
    simp [scmpR, this]
  rw [show scmpR ⟨x.a, x.b⟩ ⟨y.a, y.b⟩ = _ from e] at h
  exact h
set_option maxHeartbeats 1000000 in
theorem rleast20 (c : Cy) (p : Int) (w : World) (hc : c.In 16777216) (h0 : 0 ≤ p) (h1 : p ≤ 16383) :
    Calls Tryd.prog 41 #[.agg #[.int .i64 c.a, .int .i64 c.b, .int .i64 c.c, .int .i64 c.d], .int .i64 p] w fun e w' => e = .returned (.bool (aboveB c p)) ∧ Q w w' := by
  have hn := norm_in hc
  have hp := bd_mul (show -16383 ≤ p by omega) h1 (show -16383 ≤ p by omega) h1
  have hp2 : (Su.mk (36 * p * p) 0).In 10000000000 := by unfold Su.In; dsimp only; rw [Int.mul_assoc]; omega
  have q1 : -10000000000 ≤ 36 * p * p := hp2.1
  have q2 : 36 * p * p ≤ 10000000000 := hp2.2.1
  clear hp
  go_enter Tryd.func41, Tryd.ntmps41
  go_wp2_with (first | (go_at_call 46; refine (rnorm_c c _ (hc.mono (by decide))).mono ?_; rintro e w' ⟨rfl, kj, rfl⟩) | (go_at_call 59; refine (r2cmp_c c.norm ⟨36 * p * p, 0⟩ _ (hn.mono (by decide)) (hp2.mono (by decide))).mono ?_; rintro e w' ⟨rfl, kj, rfl⟩))
  go_ret
  refine ⟨rfl, ?_⟩
  repeat' (first | exact Q.refl _ | refine Q.alloc ?_ _ | refine Q.jk ?_ _ | refine Q.drew ?_)
set_option maxHeartbeats 1000000 in
theorem phabove_any (c : Cy) (p : Int) (w : World) :
    Calls Tryd.prog 21 #[.agg #[.int .i64 c.a, .int .i64 c.b, .int .i64 c.c, .int .i64 c.d], .int .i64 p] w fun e w' => e = .returned (.tuple #[.bool (abvR c p).1, .int .i64 (abvR c p).2]) ∧ Q w w' := by
  by_cases h1 : wiB c 16777216 = true
  · by_cases h2 : 0 ≤ p
    · by_cases h3 : p ≤ 16383
      · have E : abvR c p = (aboveB c p, 0) := by simp [abvR, h1, h2, h3]
        rw [E]
        clear E
        exact phabove_c c p w (wiB_in h1) h2 h3
      · have h3 : 16383 < p := by omega
        have E : abvR c p = (false, 1) := by simp [abvR, show ¬ p ≤ 16383 by omega]
        rw [E]
        clear E
        go_enter Tryd.func21, Tryd.ntmps21
        go_wp2_with (go_at_call 38; refine (phwithin_any _ _ _ _ _ _ (by decide) (by decide)).mono ?_; rintro e w' ⟨rfl, kj, rfl⟩)
        go_ret2
        refine ⟨rfl, ?_⟩
        repeat' (first | exact Q.refl _ | refine Q.alloc ?_ _ | refine Q.jk ?_ _ | refine Q.drew ?_)
    · have h2 : p < 0 := by omega
      have E : abvR c p = (false, 1) := by simp [abvR, show ¬ 0 ≤ p by omega]
      rw [E]
      clear E
      go_enter Tryd.func21, Tryd.ntmps21
      go_wp2_with (go_at_call 38; refine (phwithin_any _ _ _ _ _ _ (by decide) (by decide)).mono ?_; rintro e w' ⟨rfl, kj, rfl⟩)
      go_ret2
      refine ⟨rfl, ?_⟩
      repeat' (first | exact Q.refl _ | refine Q.alloc ?_ _ | refine Q.jk ?_ _ | refine Q.drew ?_)
  · have h1 : wiB c 16777216 = false := by simpa using h1
    have E : abvR c p = (false, 1) := by simp [abvR, h1]
    rw [E]
    clear E
    go_enter Tryd.func21, Tryd.ntmps21
    go_wp2_with (go_at_call 38; refine (phwithin_any _ _ _ _ _ _ (by decide) (by decide)).mono ?_; rintro e w' ⟨rfl, kj, rfl⟩)
    go_ret2
    refine ⟨rfl, ?_⟩
    repeat' (first | exact Q.refl _ | refine Q.alloc ?_ _ | refine Q.jk ?_ _ | refine Q.drew ?_)
set_option maxHeartbeats 1000000 in
theorem rabove20_any (c : Cy) (p : Int) (w : World) :
    Calls Tryd.prog 22 #[.agg #[.int .i64 c.a, .int .i64 c.b, .int .i64 c.c, .int .i64 c.d], .int .i64 p] w fun e w' => e = .returned (.tuple #[.bool (abvR c p).1, .int .i64 (abvR c p).2]) ∧ Q w w' := by
  by_cases h1 : wiB c 16777216 = true
  · by_cases h2 : 0 ≤ p
    · by_cases h3 : p ≤ 16383
      · have E : abvR c p = (aboveB c p, 0) := by simp [abvR, h1, h2, h3]
        rw [E]
        clear E
        go_enter Tryd.func22, Tryd.ntmps22
        go_wp2_with (first | (go_at_call 30; refine (rwithin_any _ _ _ _ _ _ (by decide) (by decide)).mono ?_; rintro e w' ⟨rfl, kj, rfl⟩) | (go_at_call 41; refine (rleast20 c p _ (wiB_in h1) h2 h3).mono ?_; rintro e w' ⟨rfl, kj, rfl⟩))
        go_ret2
        refine ⟨rfl, ?_⟩
        repeat' (first | exact Q.refl _ | refine Q.alloc ?_ _ | refine Q.jk ?_ _ | refine Q.drew ?_)
      · have h3 : 16383 < p := by omega
        have E : abvR c p = (false, 1) := by simp [abvR, show ¬ p ≤ 16383 by omega]
        rw [E]
        clear E
        go_enter Tryd.func22, Tryd.ntmps22
        go_wp2_with (go_at_call 30; refine (rwithin_any _ _ _ _ _ _ (by decide) (by decide)).mono ?_; rintro e w' ⟨rfl, kj, rfl⟩)
        go_ret2
        refine ⟨rfl, ?_⟩
        repeat' (first | exact Q.refl _ | refine Q.alloc ?_ _ | refine Q.jk ?_ _ | refine Q.drew ?_)
    · have h2 : p < 0 := by omega
      have E : abvR c p = (false, 1) := by simp [abvR, show ¬ 0 ≤ p by omega]
      rw [E]
      clear E
      go_enter Tryd.func22, Tryd.ntmps22
      go_wp2_with (go_at_call 30; refine (rwithin_any _ _ _ _ _ _ (by decide) (by decide)).mono ?_; rintro e w' ⟨rfl, kj, rfl⟩)
      go_ret2
      refine ⟨rfl, ?_⟩
      repeat' (first | exact Q.refl _ | refine Q.alloc ?_ _ | refine Q.jk ?_ _ | refine Q.drew ?_)
  · have h1 : wiB c 16777216 = false := by simpa using h1
    have E : abvR c p = (false, 1) := by simp [abvR, h1]
    rw [E]
    clear E
    go_enter Tryd.func22, Tryd.ntmps22
    go_wp2_with (go_at_call 30; refine (rwithin_any _ _ _ _ _ _ (by decide) (by decide)).mono ?_; rintro e w' ⟨rfl, kj, rfl⟩)
    go_ret2
    refine ⟨rfl, ?_⟩
    repeat' (first | exact Q.refl _ | refine Q.alloc ?_ _ | refine Q.jk ?_ _ | refine Q.drew ?_)
theorem harm_norm {x : Nat → Int} (h : Int) (hx : WinOK x 16383) : (harm x h).In 400000 ∧ (harm x h).norm.In 1000000000000 := by
  have h1 := (harm_in h hx).mono (show 24 * 16383 ≤ (400000 : Int) by decide)
  exact ⟨h1, (norm_in h1).mono (by decide)⟩
def dstB (x : Nat → Int) (p : Int) : Bool := decide (0 < versS (harm x 2).norm 10000 (harm x 1).norm (p * p))
set_option maxHeartbeats 1000000 in
theorem phsize_c (h : Int) (b o c : Nat) (x : Nat → Int) (w : World) (hr : RootsOK w) (hw : Win w b o x) (hx : WinOK x 16383) :
    Calls Tryd.prog 43 #[.slice (some ⟨b, o, none⟩) 12 c, .int .i64 h] w fun e w' => e = .returned (.tuple #[.agg #[.int .i64 (harm x h).norm.a, .int .i64 (harm x h).norm.b], .int .i64 0]) ∧ Q w w' := by
  have hn := (harm_norm h hx).1
  have HW := Lib.hid hw
  have HX := Lib.hid hx
  clear hw hx
  go_enter Tryd.func43, Tryd.ntmps43
  go_wp2_with (first | (go_at_call 37; refine (phharm_c h _ _ _ x _ (by repeat' (first | with_reducible exact hr | refine RootsOK.alloc ?_ _ | refine RootsOK.jk ?_ _ | refine RootsOK.drew ?_)) (HW.out.q (by repeat' (first | exact Q.refl _ | refine Q.alloc ?_ _ | refine Q.jk ?_ _ | refine Q.drew ?_))) HX.out).mono ?_; rintro e w' ⟨rfl, kj, rfl⟩) | (go_at_call 39; refine (norm_c (harm x h) _ (hn.mono (by decide))).mono ?_; rintro e w' ⟨rfl, kj, rfl⟩))
  refine bodyPost_ret (v := .tuple #[.agg #[.int .i64 (harm x h).norm.a, .int .i64 (harm x h).norm.b], .int .i64 0]) (by simp [results, Tryd.results43, go_sem]) rfl ⟨rfl, ?_⟩
  repeat' (first | exact Q.refl _ | refine Q.alloc ?_ _ | refine Q.jk ?_ _ | refine Q.drew ?_)
set_option maxHeartbeats 2000000 in
theorem phdist_c (b o c : Nat) (x : Nat → Int) (p : Int) (w : World) (hr : RootsOK w) (hw : Win w b o x) (hx : WinOK x 16383) (p0 : 0 ≤ p) (p1 : p ≤ 100) :
    Calls Tryd.prog 23 #[.slice (some ⟨b, o, none⟩) 12 c, .int .i64 p] w fun e w' => e = .returned (.tuple #[.bool (dstB x p), .int .i64 0]) ∧ Q w w' := by
  obtain ⟨m2, n2⟩ := harm_norm 2 hx
  obtain ⟨m1, n1⟩ := harm_norm 1 hx
  have hp := bd_mul (show -100 ≤ p by omega) p1 (show -100 ≤ p by omega) p1
  have hpp : 0 ≤ p * p := Int.mul_nonneg p0 p0
  have hs : VsSmall (harm x 2).norm 10000 (harm x 1).norm (p * p) := VsSmall.of (l := 1000000000000) (m := 10000) n2 n1 (by decide) (by decide) (by omega) (by omega) (by decide)
  have h4 : wi4 1152921504606846976 (harm x 2).norm.a (harm x 2).norm.b (harm x 1).norm.a (harm x 1).norm.b = true := (wi4_iff _ _ _ _ _).2 (by unfold Su.In at n1 n2; omega)
  have h2 : wi2 1073741824 10000 (p * p) = true := (wi2_iff _ _ _).2 (by omega)
  have HW := Lib.hid hw
  have HX := Lib.hid hx
  have ck := chkE_ok hx
  have CK := Lib.hid (fun w' (hq : Q w w') => phcheck_any b o c x w' (HW.out.q hq))
  rw [ck] at CK
  have Z2 := Lib.hid (fun w' (hq : Q w w') => phsize_c 2 b o c x w' (hr.q hq) (HW.out.q hq) HX.out)
  have Z1 := Lib.hid (fun w' (hq : Q w w') => phsize_c 1 b o c x w' (hr.q hq) (HW.out.q hq) HX.out)
  have VS := Lib.hid (fun w => vers_c (harm x 2).norm 10000 (harm x 1).norm (p * p) w (n2.mono (by decide)) (n1.mono (by decide)) (by decide) (by decide) (by omega) (by omega) hs)
  obtain ⟨q1, q2⟩ := hp
  simp only [Int.reduceMul, Int.reduceNeg] at q1 q2
  unfold dstB
  obtain ⟨A, hA⟩ : ∃ A, A = (harm x 2).norm := ⟨_, rfl⟩
  obtain ⟨B, hB⟩ : ∃ B, B = (harm x 1).norm := ⟨_, rfl⟩
  clear hw hx ck hs h4 h2
  go_enter Tryd.func23, Tryd.ntmps23
  go_wp2_with (first | (go_at_call 42; refine (CK.out _ (by repeat' (first | exact Q.refl _ | refine Q.alloc ?_ _ | refine Q.jk ?_ _ | refine Q.drew ?_))).mono ?_; rintro e w' ⟨rfl, rfl⟩) | (go_at_call 43; first | ((with_reducible refine (Z2.out _ (by repeat' (first | exact Q.refl _ | refine Q.alloc ?_ _ | refine Q.jk ?_ _ | refine Q.drew ?_))).mono ?_); rintro e w' ⟨rfl, kj, rfl⟩) | ((with_reducible refine (Z1.out _ (by repeat' (first | exact Q.refl _ | refine Q.alloc ?_ _ | refine Q.jk ?_ _ | refine Q.drew ?_))).mono ?_); rintro e w' ⟨rfl, kj, rfl⟩)) | (go_at_call 44; (with_reducible refine (VS.out _).mono ?_); rintro e w' ⟨rfl, kj, rfl⟩))
  go_ret2
  refine ⟨rfl, ?_⟩
  repeat' (first | exact Q.refl _ | refine Q.alloc ?_ _ | refine Q.jk ?_ _ | refine Q.drew ?_)
set_option maxHeartbeats 1000000 in
theorem phdist_arg (b o c : Nat) (x : Nat → Int) (p : Int) (w : World) (hw : Win w b o x) (hx : WinOK x 16383) (hp : p < 0 ∨ 100 < p) :
    Calls Tryd.prog 23 #[.slice (some ⟨b, o, none⟩) 12 c, .int .i64 p] w fun e w' => e = .returned (.tuple #[.bool false, .int .i64 1]) ∧ Q w w' := by
  have ck := chkE_ok hx
  have CK := Lib.hid (fun w' (hq : Q w w') => phcheck_any b o c x w' (hw.q hq))
  rw [ck] at CK
  clear hw hx ck
  rcases hp with hp | hp
  all_goals
    go_enter Tryd.func23, Tryd.ntmps23
    go_wp2_with (go_at_call 42; refine (CK.out _ (by repeat' (first | exact Q.refl _ | refine Q.alloc ?_ _ | refine Q.jk ?_ _ | refine Q.drew ?_))).mono ?_; rintro e w' ⟨rfl, rfl⟩)
    go_ret2
    refine ⟨rfl, ?_⟩
    repeat' (first | exact Q.refl _ | refine Q.alloc ?_ _ | refine Q.jk ?_ _ | refine Q.drew ?_)
set_option maxHeartbeats 1000000 in
theorem phdist_err (p : Int) (a : Option Addr) (n c : Nat) (E : Int) (w : World) (hE : E ≠ 0) (hc : Fails 42 (.slice a n c) E w) :
    Calls Tryd.prog 23 #[.slice a n c, .int .i64 p] w fun e w' => e = .returned (.tuple #[.bool false, .int .i64 E]) ∧ Q w w' := by
  have HC := Lib.hid hc
  have h1 : (E != 0) = true := by simpa using hE
  clear hc
  go_enter Tryd.func23, Tryd.ntmps23
  go_wp2_with (go_at_call 42; refine (HC.out _ (by repeat' (first | exact Q.refl _ | refine Q.alloc ?_ _ | refine Q.jk ?_ _ | refine Q.drew ?_))).mono ?_; rintro e w' ⟨rfl, rfl⟩)
  go_ret2
  refine ⟨rfl, ?_⟩
  repeat' (first | exact Q.refl _ | refine Q.alloc ?_ _ | refine Q.jk ?_ _ | refine Q.drew ?_)
set_option maxHeartbeats 2000000 in
theorem rdist_c (b o c : Nat) (x : Nat → Int) (p : Int) (w : World) (hw : Win w b o x) (hx : WinOK x 16383) (p0 : 0 ≤ p) (p1 : p ≤ 100) :
    Calls Tryd.prog 24 #[.slice (some ⟨b, o, none⟩) 12 c, .int .i64 p] w fun e w' => e = .returned (.tuple #[.bool (dstB x p), .int .i64 0]) ∧ Q w w' := by
  obtain ⟨m2, n2⟩ := harm_norm 2 hx
  obtain ⟨m1, n1⟩ := harm_norm 1 hx
  have hp := bd_mul (show -100 ≤ p by omega) p1 (show -100 ≤ p by omega) p1
  have hpp : 0 ≤ p * p := Int.mul_nonneg p0 p0
  have hs : VsSmall (harm x 2).norm 10000 (harm x 1).norm (p * p) := VsSmall.of (l := 1000000000000) (m := 10000) n2 n1 (by decide) (by decide) (by omega) (by omega) (by decide)
  have h4 : wi4 1152921504606846976 (harm x 2).norm.a (harm x 2).norm.b (harm x 1).norm.a (harm x 1).norm.b = true := (wi4_iff _ _ _ _ _).2 (by unfold Su.In at n1 n2; omega)
  have h2 : wi2 1073741824 10000 (p * p) = true := (wi2_iff _ _ _).2 (by omega)
  have HW := Lib.hid hw
  have HX := Lib.hid hx
  have ck := chkE_ok hx
  have CK := Lib.hid (fun w' (hq : Q w w') => rcheck_any b o c x w' (HW.out.q hq))
  rw [ck] at CK
  have Z2 := Lib.hid (fun w' (hq : Q w w') => rharm0_c 2 b o c x w' (HW.out.q hq) HX.out)
  have Z1 := Lib.hid (fun w' (hq : Q w w') => rharm0_c 1 b o c x w' (HW.out.q hq) HX.out)
  have N2 := Lib.hid (fun w => rnorm_c (harm x 2) w (m2.mono (by decide)))
  have N1 := Lib.hid (fun w => rnorm_c (harm x 1) w (m1.mono (by decide)))
  have VS := Lib.hid (fun w => r2vers_ok (harm x 2).norm 10000 (harm x 1).norm (p * p) w h4 h2)
  obtain ⟨q1, q2⟩ := hp
  simp only [Int.reduceMul, Int.reduceNeg] at q1 q2
  unfold dstB
  obtain ⟨A, hA⟩ : ∃ A, A = (harm x 2).norm := ⟨_, rfl⟩
  obtain ⟨B, hB⟩ : ∃ B, B = (harm x 1).norm := ⟨_, rfl⟩
  clear hw hx ck hs h4 h2
  go_enter Tryd.func24, Tryd.ntmps24
  go_wp2_with (first | (go_at_call 45; refine (CK.out _ (by repeat' (first | exact Q.refl _ | refine Q.alloc ?_ _ | refine Q.jk ?_ _ | refine Q.drew ?_))).mono ?_; rintro e w' ⟨rfl, rfl⟩) | (go_at_call 47; first | ((with_reducible refine (Z2.out _ (by repeat' (first | exact Q.refl _ | refine Q.alloc ?_ _ | refine Q.jk ?_ _ | refine Q.drew ?_))).mono ?_); rintro e w' ⟨rfl, kj, rfl⟩) | ((with_reducible refine (Z1.out _ (by repeat' (first | exact Q.refl _ | refine Q.alloc ?_ _ | refine Q.jk ?_ _ | refine Q.drew ?_))).mono ?_); rintro e w' ⟨rfl, kj, rfl⟩)) | (go_at_call 46; first | ((with_reducible refine (N2.out _).mono ?_); rintro e w' ⟨rfl, kj, rfl⟩) | ((with_reducible refine (N1.out _).mono ?_); rintro e w' ⟨rfl, kj, rfl⟩)) | (go_at_call 48; (with_reducible refine (VS.out _).mono ?_); rintro e w' ⟨rfl, kj, rfl⟩))
  go_ret2
  refine ⟨rfl, ?_⟩
  repeat' (first | exact Q.refl _ | refine Q.alloc ?_ _ | refine Q.jk ?_ _ | refine Q.drew ?_)
set_option maxHeartbeats 1000000 in
theorem rdist_arg (b o c : Nat) (x : Nat → Int) (p : Int) (w : World) (hw : Win w b o x) (hx : WinOK x 16383) (hp : p < 0 ∨ 100 < p) :
    Calls Tryd.prog 24 #[.slice (some ⟨b, o, none⟩) 12 c, .int .i64 p] w fun e w' => e = .returned (.tuple #[.bool false, .int .i64 1]) ∧ Q w w' := by
  have ck := chkE_ok hx
  have CK := Lib.hid (fun w' (hq : Q w w') => rcheck_any b o c x w' (hw.q hq))
  rw [ck] at CK
  clear hw hx ck
  rcases hp with hp | hp
  all_goals
    go_enter Tryd.func24, Tryd.ntmps24
    go_wp2_with (go_at_call 45; refine (CK.out _ (by repeat' (first | exact Q.refl _ | refine Q.alloc ?_ _ | refine Q.jk ?_ _ | refine Q.drew ?_))).mono ?_; rintro e w' ⟨rfl, rfl⟩)
    go_ret2
    refine ⟨rfl, ?_⟩
    repeat' (first | exact Q.refl _ | refine Q.alloc ?_ _ | refine Q.jk ?_ _ | refine Q.drew ?_)
set_option maxHeartbeats 1000000 in
theorem rdist_err (p : Int) (a : Option Addr) (n c : Nat) (E : Int) (w : World) (hE : E ≠ 0) (hc : Fails 45 (.slice a n c) E w) :
    Calls Tryd.prog 24 #[.slice a n c, .int .i64 p] w fun e w' => e = .returned (.tuple #[.bool false, .int .i64 E]) ∧ Q w w' := by
  have HC := Lib.hid hc
  have h1 : (E != 0) = true := by simpa using hE
  clear hc
  go_enter Tryd.func24, Tryd.ntmps24
  go_wp2_with (go_at_call 45; refine (HC.out _ (by repeat' (first | exact Q.refl _ | refine Q.alloc ?_ _ | refine Q.jk ?_ _ | refine Q.drew ?_))).mono ?_; rintro e w' ⟨rfl, rfl⟩)
  go_ret2
  refine ⟨rfl, ?_⟩
  repeat' (first | exact Q.refl _ | refine Q.alloc ?_ _ | refine Q.jk ?_ _ | refine Q.drew ?_)
end Go.Proofs.YtomodppdolfinaaDoor
