
/- What operates of the reference 34 returns. -/
import Derived.Test.YtcjflafjmdfanaaGreatDoorBv07
import Derived.Test.YtcjflafjmdfanaaGreatDoorBv10
import Derived.Test.YtcjflafjmdfanaaGreatDoorBv02
import Derived.Test.YtcjflafjmdfanaaGreatDoorBv11
import Derived.Test.YtcjflafjmdfanaaGreatDoorBv20
import Derived.Deep.RegionLaw
import Derived.Test.YtcjflafjmdfanaaGreatDoorBv24
set_option maxHeartbeats 64000000
set_option maxRecDepth 100000
set_option linter.unusedSimpArgs false
set_option linter.unusedVariables false
/- What scaled and Scale of package substationref03 return. -/
namespace Go.Proofs.YtcjflafjmdfanaaGreatDoor
open Go.RowKit Go.Sub
theorem r3scaled_any (n k : Int) (w : World) (n0 : -576460752303423488 ≤ n) (n1 : n ≤ 576460752303423488) (k0 : -576460752303423488 ≤ k) (k1 : k ≤ 576460752303423488) :
  Calls Tryz.prog 177 #[.int .i64 n, .int .i64 k] w fun e w' => e = .returned (.int .i64 (scaledR 576460752303423488 n k)) ∧ Q w w' := by
 have OF1 := hh (fun w => r1of_any n w (by omega) (by omega))
 have OF2 := hh (fun w => r1of_any k w (by omega) (by omega))
 have S1 := hh (Sm.b100 (x := n) (by omega) (by omega))
 have S2 := hh (Sm.b100 (x := k) (by omega) (by omega))
 have S3 := hh (Sm.sq (x := n) (y := k) (by omega) (by omega) (by omega) (by omega))
 by_cases hf : -9223372036854775808 ≤ n * k ∧ n * k ≤ 9223372036854775807
 rotate_left
 ·have SM : Hid (smallR (n * k) = (0, false)) := hh (by unfold smallR; rw [if_neg hf])
  have SR : Hid (scaledR 576460752303423488 n k = 576460752303423488 + 1) := hh (by unfold scaledR; rw [if_neg (by omega)])
  clear hf
  go_enter Tryz.func177, Tryz.ntmps177
  go_wp2_with (first | (go_at_call 145; first | ((with_reducible refine (OF1.o _).mono ?_); rintro e w' ⟨A1, n1, c1, k1, rfl, rfl, hr1, hf1⟩; have HR1 := hh hr1; clear hr1 hf1) | ((with_reducible refine (OF2.o _).mono ?_); rintro e w' ⟨A2, n2, c2, k2, rfl, rfl, hr2, hf2⟩; have HR2 := hh hr2; clear hr2 hf2)) | (go_at_call 165; refine (r1mul_b _ _ _ _ n _ _ _ _ k _ rfl (HR1.o.q Q.i) S1.o rfl (HR2.o.q Q.i) S2.o S3.o).mono ?_; rintro e w' ⟨A3, n3, c3, k3, rfl, rfl, hr3, hf3⟩; have HR3 := hh hr3; clear hr3 hf3) | (go_at_call 185; refine (r1small_z _ _ _ _ (n * k) _ rfl (HR3.o.q Q.i) S3.o).q ?_; intro kj; rw [SM.o]))
  go_ret
  refine ⟨by rw [SR.o]; rfl, ?_⟩
  exact Q.i
 have SM : Hid (smallR (n * k) = (n * k, true)) := hh (by unfold smallR; rw [if_pos hf])
 obtain ⟨hf0, hf1⟩ := hf
 by_cases hl : n * k < -576460752303423488
 ·have SR : Hid (scaledR 576460752303423488 n k = 576460752303423488 + 1) := hh (by unfold scaledR; rw [if_neg (by omega)])
  go_enter Tryz.func177, Tryz.ntmps177
  go_wp2_with (first | (go_at_call 145; first | ((with_reducible refine (OF1.o _).mono ?_); rintro e w' ⟨A1, n1, c1, k1, rfl, rfl, hr1, hf1⟩; have HR1 := hh hr1; clear hr1 hf1) | ((with_reducible refine (OF2.o _).mono ?_); rintro e w' ⟨A2, n2, c2, k2, rfl, rfl, hr2, hf2⟩; have HR2 := hh hr2; clear hr2 hf2)) | (go_at_call 165; refine (r1mul_b _ _ _ _ n _ _ _ _ k _ rfl (HR1.o.q Q.i) S1.o rfl (HR2.o.q Q.i) S2.o S3.o).mono ?_; rintro e w' ⟨A3, n3, c3, k3, rfl, rfl, hr3, hf3⟩; have HR3 := hh hr3; clear hr3 hf3) | (go_at_call 185; refine (r1small_z _ _ _ _ (n * k) _ rfl (HR3.o.q Q.i) S3.o).q ?_; intro kj; rw [SM.o]))
  go_ret
  refine ⟨by rw [SR.o]; rfl, ?_⟩
  exact Q.i
 by_cases hl2 : 576460752303423488 < n * k
 ·have SR : Hid (scaledR 576460752303423488 n k = 576460752303423488 + 1) := hh (by unfold scaledR; rw [if_neg (by omega)])
  go_enter Tryz.func177, Tryz.ntmps177
  go_wp2_with (first | (go_at_call 145; first | ((with_reducible refine (OF1.o _).mono ?_); rintro e w' ⟨A1, n1, c1, k1, rfl, rfl, hr1, hf1⟩; have HR1 := hh hr1; clear hr1 hf1) | ((with_reducible refine (OF2.o _).mono ?_); rintro e w' ⟨A2, n2, c2, k2, rfl, rfl, hr2, hf2⟩; have HR2 := hh hr2; clear hr2 hf2)) | (go_at_call 165; refine (r1mul_b _ _ _ _ n _ _ _ _ k _ rfl (HR1.o.q Q.i) S1.o rfl (HR2.o.q Q.i) S2.o S3.o).mono ?_; rintro e w' ⟨A3, n3, c3, k3, rfl, rfl, hr3, hf3⟩; have HR3 := hh hr3; clear hr3 hf3) | (go_at_call 185; refine (r1small_z _ _ _ _ (n * k) _ rfl (HR3.o.q Q.i) S3.o).q ?_; intro kj; rw [SM.o]))
  go_ret
  refine ⟨by rw [SR.o]; rfl, ?_⟩
  exact Q.i
 obtain ⟨m, hm⟩ : ∃ m, n * k = m := ⟨_, rfl⟩
 have SR : Hid (scaledR 576460752303423488 n k = m) := hh (by unfold scaledR; rw [if_pos (by omega), hm])
 have SM : Hid (smallR (n * k) = (m, true)) := hh (by rw [SM.o, hm])
 have a0 : decide (m < -576460752303423488) = false := decide_eq_false (by omega)
 have a1 : decide (576460752303423488 < m) = false := decide_eq_false (by omega)
 clear hf0 hf1 hl hl2 hm n0 n1 k0 k1
 go_enter Tryz.func177, Tryz.ntmps177
 go_wp2_with (first | (go_at_call 145; first | ((with_reducible refine (OF1.o _).mono ?_); rintro e w' ⟨A1, n1, c1, k1, rfl, rfl, hr1, hf1⟩; have HR1 := hh hr1; clear hr1 hf1) | ((with_reducible refine (OF2.o _).mono ?_); rintro e w' ⟨A2, n2, c2, k2, rfl, rfl, hr2, hf2⟩; have HR2 := hh hr2; clear hr2 hf2)) | (go_at_call 165; refine (r1mul_b _ _ _ _ n _ _ _ _ k _ rfl (HR1.o.q Q.i) S1.o rfl (HR2.o.q Q.i) S2.o S3.o).mono ?_; rintro e w' ⟨A3, n3, c3, k3, rfl, rfl, hr3, hf3⟩; have HR3 := hh hr3; clear hr3 hf3) | (go_at_call 185; refine (r1small_z _ _ _ _ (n * k) _ rfl (HR3.o.q Q.i) S3.o).q ?_; intro kj; rw [SM.o]))
 go_ret
 refine ⟨by rw [SR.o]; rfl, ?_⟩
 exact Q.i
theorem limR_scaled (a b c d k : Int) : limR ⟨scaledR 576460752303423488 a k, scaledR 576460752303423488 b k, scaledR 576460752303423488 c k, scaledR 576460752303423488 d k⟩ = limR ⟨a * k, b * k, c * k, d * k⟩ := by
 by_cases h : wiB ⟨a * k, b * k, c * k, d * k⟩ 576460752303423488 = true
 ·have h1 := wiB_in h
  unfold Cy.In at h1
  dsimp only at h1
  rw [show scaledR 576460752303423488 a k = a * k by unfold scaledR; rw [if_pos (by omega)], show scaledR 576460752303423488 b k = b * k by unfold scaledR; rw [if_pos (by omega)], show scaledR 576460752303423488 c k = c * k by unfold scaledR; rw [if_pos (by omega)], show scaledR 576460752303423488 d k = d * k by unfold scaledR; rw [if_pos (by omega)]]
 have h2 : wiB ⟨scaledR 576460752303423488 a k, scaledR 576460752303423488 b k, scaledR 576460752303423488 c k, scaledR 576460752303423488 d k⟩ 576460752303423488 = false := by
  cases e : wiB ⟨scaledR 576460752303423488 a k, scaledR 576460752303423488 b k, scaledR 576460752303423488 c k, scaledR 576460752303423488 d k⟩ 576460752303423488
  ·rfl
  exfalso
  have h1 := wiB_in e
  unfold Cy.In at h1
  dsimp only at h1
  have key : ∀ n : Int, -576460752303423488 ≤ scaledR 576460752303423488 n k → scaledR 576460752303423488 n k ≤ 576460752303423488 → -576460752303423488 ≤ n * k ∧ n * k ≤ 576460752303423488 := by
   intro n h3 h4
   unfold scaledR at h3 h4
   by_cases hn : -576460752303423488 ≤ n * k ∧ n * k ≤ 576460752303423488
   ·exact hn
   rw [if_neg hn] at h4; omega
  obtain ⟨q1, q2, q3, q4, q5, q6, q7, q8⟩ := h1
  have ka := key a q1 q2
  have kb := key b q3 q4
  have kc := key c q5 q6
  have kd := key d q7 q8
  exact h (wiB_of ⟨ka.1, ka.2, kb.1, kb.2, kc.1, kc.2, kd.1, kd.2⟩)
 have h3 : wiB ⟨a * k, b * k, c * k, d * k⟩ 576460752303423488 = false := by simpa using h
 simp [limR, h2, h3]
theorem r3scale_any (a b c d k : Int) (w : World) :
  Calls Tryz.prog 161 #[.agg #[.int .i64 a, .int .i64 b, .int .i64 c, .int .i64 d], .int .i64 k] w fun e w' => e = .returned (.tuple #[.agg #[.int .i64 (scaleR ⟨a, b, c, d⟩ k).v.a, .int .i64 (scaleR ⟨a, b, c, d⟩ k).v.b, .int .i64 (scaleR ⟨a, b, c, d⟩ k).v.c, .int .i64 (scaleR ⟨a, b, c, d⟩ k).v.d], .int .i64 (scaleR ⟨a, b, c, d⟩ k).e]) ∧ Q w w' := by
 by_cases h : wiB ⟨a, b, c, d⟩ 576460752303423488 = true
 rotate_left
 ·have h1 : wiB ⟨a, b, c, d⟩ 576460752303423488 = false := by simpa using h
  have hR : scaleR ⟨a, b, c, d⟩ k = ⟨zeroC, 1⟩ := by simp [scaleR, h1]
  rw [hR]
  clear hR h
  go_enter Tryz.func161, Tryz.ntmps161
  go_wp2_with (go_at_call 114; refine (rwithin_any _ _ _ _ 576460752303423488 _ (by omega) (by omega)).q ?_; intro kj)
  refine bodyPost_ret (v := .tuple #[.agg #[.int .i64 (R4.mk zeroC 1).v.a, .int .i64 (R4.mk zeroC 1).v.b, .int .i64 (R4.mk zeroC 1).v.c, .int .i64 (R4.mk zeroC 1).v.d], .int .i64 (R4.mk zeroC 1).e]) (by simp [results, Tryz.results161, go_sem, zeroC]) rfl ⟨rfl, ?_⟩
  exact Q.i
 by_cases hk1 : k < -576460752303423488
 ·have hR : scaleR ⟨a, b, c, d⟩ k = ⟨zeroC, 1⟩ := by simp [scaleR, brkB, hk1]
  rw [hR]
  clear hR
  go_enter Tryz.func161, Tryz.ntmps161
  go_wp2_with (go_at_call 114; refine (rwithin_any _ _ _ _ 576460752303423488 _ (by omega) (by omega)).q ?_; intro kj)
  refine bodyPost_ret (v := .tuple #[.agg #[.int .i64 (R4.mk zeroC 1).v.a, .int .i64 (R4.mk zeroC 1).v.b, .int .i64 (R4.mk zeroC 1).v.c, .int .i64 (R4.mk zeroC 1).v.d], .int .i64 (R4.mk zeroC 1).e]) (by simp [results, Tryz.results161, go_sem, zeroC]) rfl ⟨rfl, ?_⟩
  exact Q.i
 by_cases hk2 : 576460752303423488 < k
 ·have hR : scaleR ⟨a, b, c, d⟩ k = ⟨zeroC, 1⟩ := by simp [scaleR, brkB, hk2]
  rw [hR]
  clear hR
  go_enter Tryz.func161, Tryz.ntmps161
  go_wp2_with (go_at_call 114; refine (rwithin_any _ _ _ _ 576460752303423488 _ (by omega) (by omega)).q ?_; intro kj)
  refine bodyPost_ret (v := .tuple #[.agg #[.int .i64 (R4.mk zeroC 1).v.a, .int .i64 (R4.mk zeroC 1).v.b, .int .i64 (R4.mk zeroC 1).v.c, .int .i64 (R4.mk zeroC 1).v.d], .int .i64 (R4.mk zeroC 1).e]) (by simp [results, Tryz.results161, go_sem, zeroC]) rfl ⟨rfl, ?_⟩
  exact Q.i
 have hR : scaleR ⟨a, b, c, d⟩ k = limR ⟨scaledR 576460752303423488 a k, scaledR 576460752303423488 b k, scaledR 576460752303423488 c k, scaledR 576460752303423488 d k⟩ := by
  have : brkB 576460752303423488 k = false := by simp [brkB]; omega
  rw [limR_scaled]; simp [scaleR, h, this]
 rw [hR]
 clear hR
 obtain ⟨l1, l2, l3, l4, l5, l6, l7, l8⟩ := wiB_in h
 dsimp only at l1 l2 l3 l4 l5 l6 l7 l8
 go_enter Tryz.func161, Tryz.ntmps161
 go_wp2_with (go_at_call 114; refine (rwithin_any _ _ _ _ 576460752303423488 _ (by omega) (by omega)).q ?_; intro kj)
 refine wp_region_tail 20 (by kernel_rfl) (by kernel_rfl) ?_
 simp only [List.take_succ_cons, List.take_zero, List.drop_succ_cons, List.drop_zero]
 repeat (go_big_quiet_step (first | (go_at_call 177; exact Calls.jk_of (r3scaled_any _ _ _ (by omega) (by omega) (by omega) (by omega))) | (go_at_call 160; exact Calls.jk_of (rresult_any _ _ _ _ _))))
 refine wq0 fun kq => ?_
 go_wp2
 refine bodyPost_ret (v := .tuple #[.agg #[.int .i64 (limR ⟨scaledR 576460752303423488 a k, scaledR 576460752303423488 b k, scaledR 576460752303423488 c k, scaledR 576460752303423488 d k⟩).v.a, .int .i64 (limR ⟨scaledR 576460752303423488 a k, scaledR 576460752303423488 b k, scaledR 576460752303423488 c k, scaledR 576460752303423488 d k⟩).v.b, .int .i64 (limR ⟨scaledR 576460752303423488 a k, scaledR 576460752303423488 b k, scaledR 576460752303423488 c k, scaledR 576460752303423488 d k⟩).v.c, .int .i64 (limR ⟨scaledR 576460752303423488 a k, scaledR 576460752303423488 b k, scaledR 576460752303423488 c k, scaledR 576460752303423488 d k⟩).v.d], .int .i64 (limR ⟨scaledR 576460752303423488 a k, scaledR 576460752303423488 b k, scaledR 576460752303423488 c k, scaledR 576460752303423488 d k⟩).e]) (by simp [results, Tryz.results161, go_sem]) rfl ⟨rfl, ?_⟩
 exact Q.i
end Go.Proofs.YtcjflafjmdfanaaGreatDoor
/- What the functions of the reference 23 return for currents in their range. -/
namespace Go.Proofs.YtcjflafjmdfanaaGreatDoor
open Go.RowKit Go.Sub
attribute [local go_sem ↓] Go.wp_at_zero Go.wp_at_succ
theorem r3scale_fit (x : Cy) (k l m : Int) (w : World) (hx : x.In l) (h1 : -m ≤ k) (h2 : k ≤ m) (hl : l ≤ 576460752303423488) (hm : m ≤ 576460752303423488) (hlm : l * m ≤ 576460752303423488) :
  Calls Tryz.prog 161 #[.agg #[.int .i64 (x).a, .int .i64 (x).b, .int .i64 (x).c, .int .i64 (x).d], .int .i64 k] w fun e w' => e = .returned (.tuple #[.agg #[.int .i64 (x.sc k).a, .int .i64 (x.sc k).b, .int .i64 (x.sc k).c, .int .i64 (x.sc k).d], .int .i64 0]) ∧ Q w w' := by
 have h := r3scale_any x.a x.b x.c x.d k w
 rw [show scaleR ⟨x.a, x.b, x.c, x.d⟩ k = _ from scaleR_fit hx h1 h2 hl hm hlm] at h
 exact h
theorem r2add_c (x y : Su) (w : World) (hx : x.In 100000000000000000) (hy : y.In 100000000000000000) :
  Calls Tryz.prog 140 #[.agg #[.int .i64 (x).a, .int .i64 (x).b], .agg #[.int .i64 (y).a, .int .i64 (y).b]] w fun e w' => e = .returned (.tuple #[.agg #[.int .i64 (x.add y).a, .int .i64 (x.add y).b], .int .i64 0]) ∧ Q w w' := by
 have h := r2add_any x.a x.b y.a y.b w
 rw [show saddR ⟨x.a, x.b⟩ ⟨y.a, y.b⟩ = _ from saddR_ok hx hy] at h
 exact h
theorem r2versus_c (x : Su) (j : Int) (y : Su) (k : Int) (w : World) (hx : x.In 100000000000000000) (hy : y.In 100000000000000000) (hj : -1000000000 ≤ j ∧ j ≤ 1000000000) (hk : -1000000000 ≤ k ∧ k ≤ 1000000000) :
  Calls Tryz.prog 89 #[.agg #[.int .i64 (x).a, .int .i64 (x).b], .int .i64 j, .agg #[.int .i64 (y).a, .int .i64 (y).b], .int .i64 k] w fun e w' => e = .returned (.tuple #[.int .i64 (versS x j y k), .int .i64 0]) ∧ Q w w' := by
 unfold Su.In at hx hy
 exact r2vers_ok x j y k w ((wi4_iff _ _ _ _ _).2 (by omega)) ((wi2_iff _ _ _).2 (by omega))
theorem r23weighted_c (c : Cur) (w : World) (hc : c.OK) :
  Calls Tryz.prog 139 #[.agg #[.int .i64 c.i.a, .int .i64 c.i.b, .int .i64 c.i.c, .int .i64 c.i.d, .int .i64 c.r, .bool c.v]] w fun e w' => e = .returned (.agg #[.int .i64 (c.wt).a, .int .i64 (c.wt).b, .int .i64 (c.wt).c, .int .i64 (c.wt).d]) ∧ Q w w' := by
 have hkb := hc.k_bd
 have SC := hh fun w => r3scale_fit c.i c.k 65536 100 w hc.1 hkb.1 hkb.2 (by decide) (by decide) (by decide)
 have HW : Hid (c.wt = c.i.sc c.k) := hh rfl
 generalize c.wt = y at HW ⊢
 obtain ⟨_, r1, r2⟩ := hc
 obtain ⟨ci, cr, cv⟩ := c
 unfold Cur.k at SC HW
 dsimp only at SC HW r1 r2 ⊢
 clear hkb
 cases cv
 all_goals
  simp only [if_true, if_false, Bool.false_eq_true] at SC HW
  go_enter Tryz.func139, Tryz.ntmps139
  go_wp2_with (first | (go_at_call 161; (with_reducible refine (SC.o _).q ?_); intro kj) | fail)
  refine bodyPost_ret (v := .agg #[.int .i64 (y).a, .int .i64 (y).b, .int .i64 (y).c, .int .i64 (y).d]) (by rw [HW.o]; simp [results, Tryz.results139, go_sem]) rfl ⟨rfl, ?_⟩
  exact Q.i
theorem r23check_c (g o cap : Nat) (l : List Cur) (w : World) (hl : 1 ≤ l.length) (hl' : l.length ≤ 16) (hr : RdC w g o l) (hok : ∀ c ∈ l, c.OK) :
  Calls Tryz.prog 110 #[.slice (some ⟨g, o, none⟩) l.length cap] w fun e w' => e = .returned (.int .i64 0) ∧ Q w w' := by
 haveI := hr.old (by intro e; rw [e] at hl; simp at hl)
 obtain ⟨n, hn⟩ : ∃ n, l.length = n := ⟨_, rfl⟩
 rw [hn] at hl hl' ⊢
 have HN := hh hn
 have HR := hh hr
 have HOK := hh hok
 have n1 : ¬ (n : Int) < 1 := by omega
 have n2 : ¬ (16 : Int) < (n : Int) := by omega
 clear hn hr hok
 go_enter Tryz.func110, Tryz.ntmps110
 go_wp2_with fail
 go_loopw [3] (fun i wr => ∃ k : Nat, k ≤ n ∧ i = .int .i64 k ∧ Q w wr) (fun i _ => n - (intOf i).toNat)
 case atStart => exact ⟨0, by omega, rfl, (by repeat' (first | exact Q.refl _ | refine Q.alloc ?_ _ | refine Q.jk ?_ _ | refine Q.drew ?_))⟩
 case round =>
  obtain ⟨k, hk, rfl, kw, rfl⟩ := hrel
  by_cases hlt : k < n
  rotate_left
  ·obtain rfl : k = n := by omega
   go_wp2_with fail
   go_ret
   exact ⟨rfl, Q.i⟩
  obtain ⟨c, hc⟩ : ∃ c, l[k]? = some c := ⟨_, List.getElem?_eq_getElem (by rw [HN.o]; exact hlt)⟩
  obtain ⟨c1, c2, c3, c4, c5, c6⟩ := HR.o k c hc
  obtain ⟨h1, r1, r2⟩ := HOK.o c (List.mem_of_getElem? hc)
  have HWI := hh fun w => rwithin_any c.i.a c.i.b c.i.c c.i.d 65536 w (by decide) (by decide)
  have EW : wiB ⟨c.i.a, c.i.b, c.i.c, c.i.d⟩ 65536 = true := (wiB_iff _ _).2 h1
  rw [EW] at HWI
  have k0 : (0 : Int) ≤ (k : Int) := by omega
  have k1 : (k : Int) < (n : Int) := by omega
  have r3 : ¬ c.r < 1 := by omega
  have r4 : ¬ 100 < c.r := by omega
  clear hc h1 EW
  go_wp2_with (first | (go_at_call 114; (with_reducible refine (HWI.o _).q ?_); intro kj) | fail)
  go_roundw
  case rel => exact ⟨k + 1, by omega, by go_num, Q.i⟩
  case measure => simp [intOf] <;> omega
theorem r23sum_c (g o cap : Nat) (l : List Cur) (w : World) (hl : 1 ≤ l.length) (hl' : l.length ≤ 16) (hr : RdC w g o l) (hok : ∀ c ∈ l, c.OK) :
  Calls Tryz.prog 111 #[.slice (some ⟨g, o, none⟩) l.length cap] w fun e w' => e = .returned (.tuple #[.agg #[.int .i64 (sumW l).a, .int .i64 (sumW l).b, .int .i64 (sumW l).c, .int .i64 (sumW l).d], .int .i64 0]) ∧ Q w w' := by
 have CK := hh fun w' (hq : Q w w') => r23check_c g o cap l w' hl hl' (hr.q hq) hok
 haveI := hr.old (by intro e; rw [e] at hl; simp at hl)
 obtain ⟨n, hn⟩ : ∃ n, l.length = n := ⟨_, rfl⟩
 rw [hn] at hl hl' ⊢
 have HN := hh hn
 have HR := hh hr
 have HOK := hh hok
 rw [hn] at CK
 clear hn hr hok
 go_enter Tryz.func111, Tryz.ntmps111
 go_wp2_with (first | (go_at_call 110; (with_reducible refine (CK.o _ Q.i).q ?_); intro kc) | fail)
 go_loopw [6] (fun i wr => ∃ m : Nat, m ≤ n ∧ i = .int .i64 m ∧ Q (((w.alloc (Obj.cells #[.int .i64 0, .int .i64 0, .int .i64 0, .int .i64 0] 141)).jk kc).alloc (.cells #[.int .i64 (sumW (l.take m)).a, .int .i64 (sumW (l.take m)).b, .int .i64 (sumW (l.take m)).c, .int .i64 (sumW (l.take m)).d] 141)) wr) (fun i _ => n - (intOf i).toNat)
 case atStart => exact ⟨0, by omega, rfl, (by repeat' (first | exact Q.refl _ | refine Q.alloc ?_ _ | refine Q.jk ?_ _ | refine Q.drew ?_))⟩
 case round =>
  obtain ⟨m, hm, rfl, kx, rfl⟩ := hrel
  by_cases hlt : m < n
  rotate_left
  ·obtain rfl : m = n := by omega
   have EL : Hid (l.take m = l) := hh (List.take_of_length_le (by rw [HN.o]; exact Nat.le_refl _))
   rw [EL.o]
   go_wp2_with fail
   refine bodyPost_ret (v := .tuple #[.agg #[.int .i64 (sumW l).a, .int .i64 (sumW l).b, .int .i64 (sumW l).c, .int .i64 (sumW l).d], .int .i64 0]) (by simp [results, Tryz.results111, go_sem]) rfl ⟨rfl, ?_⟩
   exact Q.i
  have hml : m < l.length := by rw [HN.o]; exact hlt
  obtain ⟨c, hc⟩ : ∃ c, l[m]? = some c := ⟨_, List.getElem?_eq_getElem hml⟩
  have hce : l[m] = c := by rw [List.getElem?_eq_getElem hml] at hc; exact Option.some.inj hc
  obtain ⟨c1, c2, c3, c4, c5, c6⟩ := HR.o m c hc
  have hcok := HOK.o c (List.mem_of_getElem? hc)
  have EK := hh (sumW_take hml)
  rw [hce] at EK
  have hs := sumW_bd (ok_take HOK.o m) (by rw [List.length_take]; omega)
  have WT := hh fun w => r23weighted_c c w hcok
  have AD := hh fun w => radd_c (sumW (l.take m)) c.wt w (hs.mono (by decide)) (hcok.wt_in.mono (by decide))
  have m0 : (0 : Int) ≤ (m : Int) := by omega
  have m1 : (m : Int) < (n : Int) := by omega
  generalize sumW (l.take m) = S at AD EK ⊢
  generalize c.wt = y at WT AD EK
  clear hc hce hml hs hcok
  go_wp2_with fail
  go_region_law (first | ((refine step_call2 rfl _ _ _ rfl 139 #[.agg #[.int .i64 c.i.a, .int .i64 c.i.b, .int .i64 c.i.c, .int .i64 c.i.d, .int .i64 c.r, .bool c.v]] _ ?_ (WT.o _) ?_); (focus simp [execOp, resolve, invoke, go_sem]; done); rintro e w' ⟨rfl, kj, rfl⟩; refine ⟨_, rfl, ?_⟩) | ((refine step_call2 rfl _ _ _ rfl 138 #[.agg #[.int .i64 (S).a, .int .i64 (S).b, .int .i64 (S).c, .int .i64 (S).d], .agg #[.int .i64 (y).a, .int .i64 (y).b, .int .i64 (y).c, .int .i64 (y).d]] _ ?_ (AD.o _) ?_); (focus simp [execOp, resolve, invoke, go_sem]; done); rintro e w' ⟨rfl, ka, rfl⟩; refine ⟨_, rfl, ?_⟩))
  all_goals
   go_wp2_with fail
   go_roundw
   case rel => exact ⟨m + 1, by omega, by go_num, by rw [EK.o]; exact Q.i⟩
   case measure => simp [intOf] <;> omega
theorem r23restr_c (g o cap : Nat) (l : List Cur) (w : World) (hl : 1 ≤ l.length) (hl' : l.length ≤ 16) (hr : RdC w g o l) (hok : ∀ c ∈ l, c.OK) :
  Calls Tryz.prog 112 #[.slice (some ⟨g, o, none⟩) l.length cap] w fun e w' => e = .returned (.tuple #[.agg #[.int .i64 (resW l).a, .int .i64 (resW l).b], .int .i64 0]) ∧ Q w w' := by
 have CK := hh fun w' (hq : Q w w') => r23check_c g o cap l w' hl hl' (hr.q hq) hok
 haveI := hr.old (by intro e; rw [e] at hl; simp at hl)
 obtain ⟨n, hn⟩ : ∃ n, l.length = n := ⟨_, rfl⟩
 rw [hn] at hl hl' ⊢
 have HN := hh hn
 have HR := hh hr
 have HOK := hh hok
 rw [hn] at CK
 clear hn hr hok
 go_enter Tryz.func112, Tryz.ntmps112
 go_wp2_with (first | (go_at_call 110; (with_reducible refine (CK.o _ Q.i).q ?_); intro kc) | fail)
 go_loopw [6] (fun i wr => ∃ m : Nat, m ≤ n ∧ i = .int .i64 m ∧ Q (((w.alloc (Obj.cells #[.int .i64 0, .int .i64 0] 166)).jk kc).alloc (.cells #[.int .i64 (resW (l.take m)).a, .int .i64 (resW (l.take m)).b] 166)) wr) (fun i _ => n - (intOf i).toNat)
 case atStart => exact ⟨0, by omega, rfl, (by repeat' (first | exact Q.refl _ | refine Q.alloc ?_ _ | refine Q.jk ?_ _ | refine Q.drew ?_))⟩
 case round =>
  obtain ⟨m, hm, rfl, kx, rfl⟩ := hrel
  by_cases hlt : m < n
  rotate_left
  ·obtain rfl : m = n := by omega
   have EL : Hid (l.take m = l) := hh (List.take_of_length_le (by rw [HN.o]; exact Nat.le_refl _))
   rw [EL.o]
   go_wp2_with fail
   refine bodyPost_ret (v := .tuple #[.agg #[.int .i64 (resW l).a, .int .i64 (resW l).b], .int .i64 0]) (by simp [results, Tryz.results112, go_sem]) rfl ⟨rfl, ?_⟩
   exact Q.i
  have hml : m < l.length := by rw [HN.o]; exact hlt
  obtain ⟨c, hc⟩ : ∃ c, l[m]? = some c := ⟨_, List.getElem?_eq_getElem hml⟩
  have hce : l[m] = c := by rw [List.getElem?_eq_getElem hml] at hc; exact Option.some.inj hc
  obtain ⟨c1, c2, c3, c4, c5, c6⟩ := HR.o m c hc
  have hcok := HOK.o c (List.mem_of_getElem? hc)
  have EK := hh (resW_take hml)
  rw [hce] at EK
  have hs := resW_bd (ok_take HOK.o m) (by rw [List.length_take]; omega)
  have WT := hh fun w => r23weighted_c c w hcok
  have NM := hh fun w => rnorm_c c.wt w (hcok.wt_in.mono (by decide))
  have AD := hh fun w => r2add_c (resW (l.take m)) c.wt.norm w (hs.mono (by decide)) (hcok.norm_in.mono (by decide))
  have m0 : (0 : Int) ≤ (m : Int) := by omega
  have m1 : (m : Int) < (n : Int) := by omega
  generalize resW (l.take m) = S at AD EK ⊢
  generalize c.wt.norm = z at NM AD EK
  generalize c.wt = y at WT NM
  clear hc hce hml hs hcok
  go_wp2_with (first | (go_at_call 139; (with_reducible refine (WT.o _).q ?_); intro kj) | (go_at_call 87; (with_reducible refine (NM.o _).q ?_); intro kn) | (go_at_call 140; (with_reducible refine (AD.o _).q ?_); intro ka) | fail)
  go_roundw
  case rel => exact ⟨m + 1, by omega, by go_num, by rw [EK.o]; exact Q.i⟩
  case measure => simp [intOf] <;> omega
theorem r23operate_b (g o cap : Nat) (l : List Cur) (m n d s1 s2 : Int) (b1 b2 : Bool) (w : World) (hl : 1 ≤ l.length) (hl' : l.length ≤ 16) (hr : RdC w g o l) (hok : ∀ c ∈ l, c.OK) (m0 : 1 ≤ m) (m1 : m ≤ 1638300) (d0 : 1 ≤ d) (d1 : d ≤ 100) (n0 : 0 ≤ n) (n1 : n ≤ d)
  (h1 : sgnS ((sumW l).norm.sub (minS m)) = s1) (h2 : versS (sumW l).norm (d * d) (resW l) (n * n) = s2) (hb1 : if b1 then 0 ≤ s1 else s1 < 0) (hb2 : if b2 then 0 < s2 else s2 ≤ 0) :
  Calls Tryz.prog 86 #[.slice (some ⟨g, o, none⟩) l.length cap, .int .i64 m, .int .i64 n, .int .i64 d] w fun e w' => e = .returned (.tuple #[.bool (b1 && b2), .int .i64 0]) ∧ Q w w' := by
 have hs := sumW_bd hok hl'
 have hrs := resW_bd hok hl'
 have hn := norm_in hs
 have hm := minS_in m0 m1
 have q1 : -100000000000000 ≤ 36 * m * m := hm.1
 have q2 : 36 * m * m ≤ 100000000000000 := hm.2.1
 obtain ⟨e1, e2⟩ := bd_mul (show -100 ≤ d by omega) d1 (show -100 ≤ d by omega) d1
 obtain ⟨e3, e4⟩ := bd_mul (show -100 ≤ n by omega) (show n ≤ 100 by omega) (show -100 ≤ n by omega) (show n ≤ 100 by omega)
 have CK := hh fun w' (hq : Q w w') => r23check_c g o cap l w' hl hl' (hr.q hq) hok
 have HG := hh fun w' (hq : Q w w') => r23sum_c g o cap l w' hl hl' (hr.q hq) hok
 have HR := hh fun w' (hq : Q w w') => r23restr_c g o cap l w' hl hl' (hr.q hq) hok
 have HN := hh fun w => rnorm_c (sumW l) w (hs.mono (by decide))
 have HC := hh fun w => r2cmp_c (sumW l).norm (minS m) w (hn.mono (by decide)) (hm.mono (by decide))
 have HV := hh fun w => r2versus_c (sumW l).norm (d * d) (resW l) (n * n) w (hn.mono (by decide)) (hrs.mono (by decide)) (by omega) (by omega)
 rw [h1] at HC
 rw [h2] at HV
 change Hid (∀ w, Calls _ _ #[_, .agg #[.int .i64 (36 * m * m), .int .i64 0]] w _) at HC
 have x1 : ¬ m < 1 := by omega
 have x2 : ¬ 1638300 < m := by omega
 have x3 : ¬ d < 1 := by omega
 have x4 : ¬ 100 < d := by omega
 have x5 : ¬ n < 0 := by omega
 have x6 : ¬ d < n := by omega
 clear hr hok hs hrs hn hm h1 h2
 cases b1 <;> cases b2
 all_goals
  simp only [if_true, if_false, Bool.false_eq_true] at hb1 hb2
  go_enter Tryz.func86, Tryz.ntmps86
  go_wp2_with (first | (go_at_call 110; (with_reducible refine (CK.o _ Q.i).q ?_); intro kj) | (go_at_call 111; (with_reducible refine (HG.o _ Q.i).q ?_); intro kj) | (go_at_call 112; (with_reducible refine (HR.o _ Q.i).q ?_); intro kj) | (go_at_call 87; (with_reducible refine (HN.o _).q ?_); intro kj) | (go_at_call 113; (with_reducible refine (HC.o _).q ?_); intro kj) | (go_at_call 89; (with_reducible refine (HV.o _).q ?_); intro kj) | fail)
  go_ret2
  refine ⟨by first | rfl | (show Ending.returned (Value.tuple #[Value.bool (decide (0 < s2)), _]) = _; rw [decide_eq_true hb2]; rfl) | (show Ending.returned (Value.tuple #[Value.bool (decide (0 < s2)), _]) = _; rw [decide_eq_false (Int.not_lt.2 hb2)]; rfl), ?_⟩
  exact Q.i
theorem r23operate_c (g o cap : Nat) (l : List Cur) (m n d : Int) (w : World) (hl : 1 ≤ l.length) (hl' : l.length ≤ 16) (hr : RdC w g o l) (hok : ∀ c ∈ l, c.OK) (m0 : 1 ≤ m) (m1 : m ≤ 1638300) (d0 : 1 ≤ d) (d1 : d ≤ 100) (n0 : 0 ≤ n) (n1 : n ≤ d) :
  Calls Tryz.prog 86 #[.slice (some ⟨g, o, none⟩) l.length cap, .int .i64 m, .int .i64 n, .int .i64 d] w fun e w' => e = .returned (.tuple #[.bool (opB l m n d), .int .i64 0]) ∧ Q w w' := by
 refine r23operate_b g o cap l m n d _ _ _ _ w hl hl' hr hok m0 m1 d0 d1 n0 n1 rfl rfl ?_ ?_
 ·split
  ·rename_i h; exact of_decide_eq_true h
  rename_i h
  rw [decide_eq_true_eq] at h
  omega
 split
 ·rename_i h; exact of_decide_eq_true h
 rename_i h
 rw [decide_eq_true_eq] at h
 omega
theorem infoRCur : ∃ i, Tryz.prog.info? 163 = some i ∧ i.zero = some (.agg #[.int .i64 0, .int .i64 0, .int .i64 0, .int .i64 0, .int .i64 0, .bool false]) ∧ i.size = 6 ∧ i.bytes = 48 := by
 have h : (Tryz.prog.info? 163).map (fun i => (i.zero, i.size, i.bytes)) = some (some (.agg #[.int .i64 0, .int .i64 0, .int .i64 0, .int .i64 0, .int .i64 0, .bool false]), 6, 48) := by kernel_rfl
 cases hi : Tryz.prog.info? 163 with
 | none => rw [hi] at h; cases h
 | some i =>
  rw [hi] at h
  simp only [Option.map_some, Option.some.injEq, Prod.mk.injEq] at h
  exact ⟨i, rfl, h.1, h.2.1, h.2.2⟩
def RowK (W0 w : World) (v : Value) (l : List Cur) : Prop := w.ownsRow W0.heap.size 163 6 v l.length (l.flatMap cuC)
theorem cuC_len (l : List Cur) : (l.flatMap cuC).length = l.length * 6 := by
 induction l with
 | nil => rfl
 | cons c l ih =>
  rw [List.flatMap_cons, List.length_append, ih]
  simp only [cuC, List.length_cons, List.length_nil]
  omega
theorem cuC_get (l : List Cur) (k j : Nat) (c : Cur) (h : l[k]? = some c) (hj : j < 6) : (l.flatMap cuC)[k * 6 + j]? = (cuC c)[j]? := by
 induction l generalizing k with
 | nil => simp at h
 | cons d l ih =>
  rw [List.flatMap_cons]
  have e0 : (cuC d).length = 6 := rfl
  cases k with
  | zero =>
   simp only [List.getElem?_cons_zero, Option.some.injEq] at h
   subst h
   rw [List.getElem?_append_left (by rw [e0]; omega), Nat.zero_mul, Nat.zero_add]
  | succ k =>
   simp only [List.getElem?_cons_succ] at h
   rw [List.getElem?_append_right (by rw [e0]; omega)]
   have e : (k + 1) * 6 + j - (cuC d).length = k * 6 + j := by rw [e0]; omega
   rw [e]
   exact ih k h
theorem RowK.rd {W0 w : World} {A : Option Addr} {n c : Nat} {l : List Cur} (h : RowK W0 w (.slice A n c) l) (hl : l.length = n) (hn : 0 < n) : ∃ g o, A = some ⟨g, o, none⟩ ∧ RdC w g o l := by
 subst hl
 obtain ⟨A', c', e, hr⟩ := rdv_of_own h (by rw [cuC_len])
 injection e with e1 e2 e3
 subst e1 e3
 obtain ⟨g, o, e, ho, hc⟩ := hr.at_ hn
 refine ⟨g, o, e, fun k c hk => ?_⟩
 have z := fun j u (hj : j < 6) (hu : (cuC c)[j]? = some u) => hc.o (k * 6 + j) u (by rw [cuC_get l k j c hk hj]; exact hu)
 simp only [Nat.add_assoc]
 exact ⟨z 0 _ (by decide) rfl, z 1 _ (by decide) rfl, z 2 _ (by decide) rfl, z 3 _ (by decide) rfl, z 4 _ (by decide) rfl, z 5 _ (by decide) rfl⟩
theorem step_app_curR {ops : Array Oper} {o : Oper} {a : Act} {w : World} {K : Act → World → Prop} {Q' : Exit → Act → World → Prop} {E : Prop} (hgd : o.guard = none) (s x : Operand)
  (ho : o.op = .call { callee := .builtin .append, args := #[s, x], argTypes := #[162, 162] }) (W0 : World) (v : Value) (l : List Cur) (m : Cur) (g : Nat)
  (hs : a.eval s = v) (hx : a.eval x = .slice (some ⟨g, 0, none⟩) 1 1) (hown : RowK W0 w v l) (hg : ∀ j u, (cuC m)[j]? = some u → w.cell? ⟨g, j, none⟩ = some u) (hlen : l.length < 1000) (hQ : Q W0 w)
  (h : ∀ A' c' kk, RowK W0 (W0.jk kk) (.slice A' (l.length + 1) c') (l ++ [m]) → K (a.put o.dst (.slice A' (l.length + 1) c')) (W0.jk kk)) :
  if Region.wanted o (yielded ops a.tmps) = true then Oper.wp Tryz.prog o a w K Q' else E := by
 have hw : Region.wanted o (yielded ops a.tmps) = true := by simp [Region.wanted, hgd]
 rw [if_pos hw]
 obtain ⟨i, hi, hz, hs1, hb⟩ := infoRCur
 obtain ⟨v', w', hr, h2, h3, _, h5⟩ := run_append_own_at (P := Tryz.prog) w W0.heap.size 162 o.type 163 i _ 6 48 Tryz.underlying162 hi hz hs1 hb rfl (by decide) v _ _ hown ⟨g, 0, none⟩ 1 1 (cuC m) rfl
  (fun j u hj => by rw [addr_add0, Nat.zero_add]; exact hg j u hj) (by intro u hu; simp only [cuC, List.mem_cons, List.mem_nil_iff, or_false] at hu; rcases hu with rfl | rfl | rfl | rfl | rfl | rfl <;> rfl) (by unfold maxLen; omega) (by omega) hQ.below.size
 obtain ⟨A', c', rfl⟩ := own_slice' h2
 have hq : Q W0 w' := grown_Q hQ h3 fun g hg => (hown.lt g hg).1
 obtain ⟨kk, rfl⟩ := hq
 unfold Oper.wp execOp
 simp only [ho, resolve, invoke, builtin, Sem.run_bind, Sem.run_pure, Result.andThen_ok, List.map_toArray, List.map_cons, List.map_nil, hs, hx, hr]
 exact h A' c' kk (by unfold RowK; rw [List.length_append, List.flatMap_append, List.flatMap_singleton]; exact h2)
theorem r34op_c (s : Sta) (cs : Array Value) (r : Rel) [hR : RelC cs r] (aW : Option Addr) (nW cW : Nat) (W : List Int) (A B : Option Addr) (n cA cB : Nat) (ml : List (Int × Int)) (ph : Nat) (w : World) (hs : StAt w s) (hW : WvAt w aW nW cW W) (hA : RdN w A n cA .i64 (ml.map Prod.fst)) (hB : RdN w B n cB .i64 (ml.map Prod.snd)) (hn : n ≤ 16) (hp : ph < 3) (hu : usB r = true) (hb : ∀ m ∈ ml, ∃ k y, MemOK s W nW m k y) (hsg : ∀ m ∈ ml, m.2 = 1 ∨ m.2 = -1) :
  Calls Tryz.prog 52 #[.agg #[Value.string s.nm, Value.slice s.aB s.buses.length s.cB, Value.slice s.aL s.lines.length s.cL, Value.slice s.aS s.srcs.length s.cS, Value.slice s.aY s.bays.length s.cY], .agg cs, .slice aW nW cW, .slice A n cA, .slice B n cB, .int .i64 ph] w fun e w' => e = .returned (.bool (opM s W r ml ph)) ∧ Q w w' := by
 have c1 := hR.dm
 have c2 := hR.nu
 have c3 := hR.de
 have HU : Hid (r.dm ≠ 0 → 1 ≤ r.dm ∧ r.dm ≤ 16383 ∧ 1 ≤ r.de ∧ r.de ≤ 100 ∧ 0 ≤ r.nu ∧ r.nu ≤ r.de) := hh fun h0 => by
  unfold usB at hu
  rw [if_neg h0] at hu
  simp only [Bool.and_eq_true, decide_eq_true_eq] at hu
  omega
 have HL : Hid (ml.length = n) := hh (by have := hA.len; simpa using this)
 have HA := hh hA
 have HBB := hh hB
 have HW := hh hW
 have HB' := hh hb
 have HSG := hh hsg
 have HAY := hh fun k y (hy : s.bays[k]? = some y) => hs.bayAt hy
 have HC : Hid (opM s W r ml ph = if r.dm = 0 ∨ ml = [] then false else opB (ml.map (cuM s W ph)) r.dm r.nu r.de) := hh rfl
 generalize opM s W r ml ph = C at HC ⊢
 obtain ⟨aY, eaY⟩ : ∃ a, s.aY = a := ⟨_, rfl⟩
 obtain ⟨nY, eY⟩ : ∃ n, s.bays.length = n := ⟨_, rfl⟩
 rw [eaY] at HAY
 rw [eaY, eY]
 have HYL := hh eY
 have n0 : (0 : Int) ≤ (n : Int) := by omega
 have p0 : (0 : Int) ≤ (ph : Int) := by omega
 have p1 : (ph : Int) < 3 := by omega
 clear hA hB hW hb hs hu eaY eY hsg
 generalize r.dm = dm at *
 generalize r.nu = nu at *
 generalize r.de = de at *
 go_enter Tryz.func52, Tryz.ntmps52
 go_wp2_with fail
 go_loopw [13, 22] (fun v i wr => ∃ (k : Nat) (A' : Option Addr) (c' : Nat), v = .slice A' k c' ∧ i = .int .i64 k ∧ k ≤ n ∧ Q ((w.alloc (Obj.cells #[Value.string s.nm, Value.slice s.aB s.buses.length s.cB, Value.slice s.aL s.lines.length s.cL, Value.slice s.aS s.srcs.length s.cS, Value.slice aY nY s.cY] 27)).alloc (Obj.cells cs 44)) wr ∧ Hid (RowK ((w.alloc (Obj.cells #[Value.string s.nm, Value.slice s.aB s.buses.length s.cB, Value.slice s.aL s.lines.length s.cL, Value.slice s.aS s.srcs.length s.cS, Value.slice aY nY s.cY] 27)).alloc (Obj.cells cs 44)) wr (.slice A' k c') ((ml.take k).map (cuM s W ph)))) (fun _ i _ => n - (intOf i).toNat)
 case atStart => exact ⟨0, none, 0, rfl, rfl, Nat.zero_le _, Q.refl _, hh (World.ownsRow_nil _ _ _ _)⟩
 case round =>
  obtain ⟨k, A', c', rfl, rfl, hk, ⟨kk, rfl⟩, HRK⟩ := hrel
  by_cases hlt : k < n
  rotate_left
  ·obtain rfl : n = k := by omega
   rw [show ml.take n = ml from List.take_of_length_le (by rw [HL.o]; exact Nat.le_refl _)] at HRK
   by_cases h0 : dm = 0
   ·have HC1 := hh (HC.o.trans (if_pos (.inl h0)))
    subst h0
    clear HC HU HRK
    go_wp2_with fail
    go_ret
    exact ⟨by rw [HC1.o]; first | done | rfl, Q.i⟩
   have h0' : (dm == 0) = false := by simpa using h0
   by_cases hnil : n = 0
   ·have HC1 := hh (HC.o.trans (if_pos (.inr (List.eq_nil_of_length_eq_zero (by rw [HL.o]; exact hnil)))))
    subst hnil
    clear HC HU h0 HRK
    go_wp2_with fail
    go_ret
    exact ⟨by rw [HC1.o]; first | done | rfl, Q.i⟩
   have HC1 := hh (HC.o.trans (if_neg fun h => h.elim h0 fun h => hnil (by rw [← HL.o, h]; rfl)))
   have n1 : ((n : Int) == 0) = false := by simpa using (by omega : ¬ (n : Int) = 0)
   have HU1 := hh (HU.o h0)
   obtain ⟨gk, ok, rfl, hrd⟩ := HRK.o.rd (by rw [List.length_map, HL.o]) (by omega)
   have HRD := hh hrd
   have HOP : Hid (∀ w', RdC w' gk ok (ml.map (cuM s W ph)) → Calls Tryz.prog 86 #[.slice (some ⟨gk, ok, none⟩) n c', .int .i64 dm, .int .i64 nu, .int .i64 de] w' fun e w'' => e = .returned (.tuple #[.bool C, .int .i64 0]) ∧ Q w' w'') := hh fun w' hrd => by
    obtain ⟨u1, u2, u3, u4, u5, u6⟩ := HU1.o
    have := r23operate_c gk ok c' (ml.map (cuM s W ph)) dm nu de w' (by rw [List.length_map, HL.o]; omega) (by rw [List.length_map, HL.o]; omega) hrd (fun c hc => by
     obtain ⟨m, hm, rfl⟩ := List.mem_map.1 hc
     obtain ⟨q, y, hq⟩ := HB'.o m hm
     rw [pick_ct s m q y hq.e hq.hy W ph]
     exact ⟨(harm1_bd (hq.w ph hp)).mono (by decide), hq.c0, hq.c1⟩) u1 (by omega) u3 u4 u5 u6
    rw [List.length_map, HL.o, ← HC1.o] at this
    exact this
   clear HW HAY HB' HL HU1 HC1 HC HU HA HBB hrd HRK h0 hnil
   go_wp2_with (first | (go_at_call 86; (with_reducible refine (HOP.o _ (HRD.o.q Q.i)).q ?_); intro ko) | fail)
   go_ret
   exact ⟨by first | done | rfl, Q.i⟩
  obtain ⟨m, hm⟩ : ∃ m, ml[k]? = some m := ⟨_, List.getElem?_eq_getElem (by rw [HL.o]; exact hlt)⟩
  obtain ⟨g, o, rfl, og, hc⟩ := HA.o.at_ (by omega)
  obtain ⟨gb, ob, rfl, ogb, hcb⟩ := HBB.o.at_ (by omega)
  have a1 := hc.o k hlt
  have a2 := hcb.o k hlt
  rw [show (ml.map Prod.fst).getD k 0 = m.1 by simp [List.getD, hm]] at a1
  rw [show (ml.map Prod.snd).getD k 0 = m.2 by simp [List.getD, hm]] at a2
  obtain ⟨q, y, hq⟩ := HB'.o m (List.mem_of_getElem? hm)
  obtain ⟨g2, o2, rfl, og2, hc2⟩ := HW.o.at_ (by have := hq.lt; omega)
  obtain ⟨g3, o3, rfl, og3, hc3⟩ := HAY.o q y hq.hy
  have q8 : w.cell? ⟨g3, o3 + q * 12 + 8, none⟩ = some (.int .i64 y.ct) := hc3.o 8 _ rfl
  have hlq := hq.lt
  have HWN := hh (hc2.o q ph hlq (by omega))
  have HWK := hh (hq.w ph hp)
  rw [hq.e] at a1
  have hneg : decide (m.2 = -1) = decide (m.2 < 0) := by
   rcases HSG.o m (List.mem_of_getElem? hm) with h | h <;> rw [h] <;> rfl
  have EM : Hid (cuM s W ph m = ⟨harm (wvF W q ph) 1, y.ct, decide (m.2 < 0)⟩) := hh ((pick_ct s m q y hq.e hq.hy W ph).trans (by rw [hneg]))
  have ETK : Hid ((ml.take (k + 1)).map (cuM s W ph) = (ml.take k).map (cuM s W ph) ++ [cuM s W ph m]) := hh (by
   rw [List.take_add_one, hm, List.map_append]
   rfl)
  have ELN : Hid (((ml.take k).map (cuM s W ph)).length = k) := hh (by rw [List.length_map, List.length_take, HL.o]; omega)
  have k0 : (0 : Int) ≤ (k : Int) := by omega
  have k1 : (k : Int) < (n : Int) := by omega
  have q0 : (0 : Int) ≤ (q : Int) := by omega
  have q1 : (q : Int) < (nW : Int) := by omega
  have qy : q < nY := by rw [← HYL.o]; exact (List.getElem?_eq_some_iff.1 hq.hy).1
  have q2 : (q : Int) < (nY : Int) := by omega
  have PH := hh fun w' hq => rharm_c 1 g2 (o2 + q * 72 + ph * 12) 12 (wvF W q ph) w' (HWN.o.q hq) HWK.o
  generalize harm (wvF W q ph) 1 = H at PH EM
  generalize y.ct = ct at q8 EM
  generalize m.2 = sg at a2 EM
  generalize (ml.take k).map (cuM s W ph) = L at HRK ETK ELN
  clear hc hc2 hc3 hcb hm hq HWN HWK hneg
  rw [EM.o] at ETK
  go_wp2_with (first | (go_at_call 85; (with_reducible refine (PH.o _ Q.i).q ?_); intro kh) | fail)
  go_region_law (first | (refine step_app_curR rfl _ _ rfl ((w.alloc (Obj.cells #[Value.string s.nm, Value.slice s.aB s.buses.length s.cB, Value.slice s.aL s.lines.length s.cL, Value.slice s.aS s.srcs.length s.cS, Value.slice (some ⟨g3, o3, none⟩) nY s.cY] 27)).alloc (Obj.cells cs 44)) (.slice A' k c') L ⟨H, ct, decide (sg < 0)⟩ _ (by rfl) (by rfl) (ownsRow_q HRK.o Q.i) (cells_of (HB.new _ _ _ _ (by simp [go_sem, World.size_jk]))) (by rw [ELN.o]; omega) Q.i ?_; intro A'' c'' kx hrk; rw [ELN.o] at hrk ⊢))
  all_goals
   go_wp2_with fail
   go_roundw
   case rel => exact ⟨k + 1, A'', c'', rfl, by go_num, by omega, Q.i, hh (by rw [ETK.o]; exact hrk)⟩
   case measure => simp [intOf] <;> omega
end Go.Proofs.YtcjflafjmdfanaaGreatDoor
