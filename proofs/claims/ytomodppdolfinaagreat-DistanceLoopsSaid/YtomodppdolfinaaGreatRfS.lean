
/- What scaled and Scale of package substationref03 return. -/
import Derived.Test.YtomodppdolfinaaGreatBgE
import Derived.Test.YtomodppdolfinaaGreatRfW2
import Derived.Test.YtomodppdolfinaaGreatCyS
namespace Go.Proofs.YtomodppdolfinaaGreat
open Go.RowKit Go.Sub
set_option maxRecDepth 100000 in
set_option maxHeartbeats 2000000 in
theorem r3scaled_any (n k : Int) (w : World) (n0 : -576460752303423488 ≤ n) (n1 : n ≤ 576460752303423488) (k0 : -576460752303423488 ≤ k) (k1 : k ≤ 576460752303423488) :
    Calls Tryz.prog 64 #[.int .i64 n, .int .i64 k] w fun e w' => e = .returned (.int .i64 (scaledR 576460752303423488 n k)) ∧ Q w w' := by
  have OF1 := Lib.hid (fun w => r1of_any n w (by omega) (by omega))
  have OF2 := Lib.hid (fun w => r1of_any k w (by omega) (by omega))
  have S1 := Lib.hid (Sm.b100 (x := n) (by omega) (by omega))
  have S2 := Lib.hid (Sm.b100 (x := k) (by omega) (by omega))
  have S3 := Lib.hid (Sm.sq (x := n) (y := k) (by omega) (by omega) (by omega) (by omega))
  by_cases hf : -9223372036854775808 ≤ n * k ∧ n * k ≤ 9223372036854775807
  · have SM : Hid (smallR (n * k) = (n * k, true)) := Lib.hid (by unfold smallR; rw [if_pos hf])
    obtain ⟨hf0, hf1⟩ := hf
    by_cases hl : n * k < -576460752303423488
    · have SR : Hid (scaledR 576460752303423488 n k = 576460752303423488 + 1) := Lib.hid (by unfold scaledR; rw [if_neg (by omega)])
      go_enter Tryz.func64, Tryz.ntmps64
      go_wp2_with (first
       | (go_at_call 78; first | ((with_reducible refine (OF1.out _).mono ?_); rintro e w' ⟨A1, n1, c1, k1, rfl, rfl, hr1, hf1⟩; have HR1 := Lib.hid hr1; clear hr1 hf1) | ((with_reducible refine (OF2.out _).mono ?_); rintro e w' ⟨A2, n2, c2, k2, rfl, rfl, hr2, hf2⟩; have HR2 := Lib.hid hr2; clear hr2 hf2))
       | (go_at_call 77; refine (r1mul_b _ _ _ _ n _ _ _ _ k _ rfl (HR1.out.q (by repeat' (first | exact Q.refl _ | refine Q.alloc ?_ _ | refine Q.jk ?_ _ | refine Q.drew ?_))) S1.out rfl (HR2.out.q (by repeat' (first | exact Q.refl _ | refine Q.alloc ?_ _ | refine Q.jk ?_ _ | refine Q.drew ?_))) S2.out S3.out).mono ?_; rintro e w' ⟨A3, n3, c3, k3, rfl, rfl, hr3, hf3⟩; have HR3 := Lib.hid hr3; clear hr3 hf3)
       | (go_at_call 79; refine (r1small_z _ _ _ _ (n * k) _ rfl (HR3.out.q (by repeat' (first | exact Q.refl _ | refine Q.alloc ?_ _ | refine Q.jk ?_ _ | refine Q.drew ?_))) S3.out).mono ?_; rintro e w' ⟨rfl, kj, rfl⟩; rw [SM.out]))
      go_ret
      refine ⟨by rw [SR.out]; rfl, ?_⟩
      repeat' (first | exact Q.refl _ | refine Q.alloc ?_ _ | refine Q.jk ?_ _ | refine Q.drew ?_)
    · by_cases hl2 : 576460752303423488 < n * k
      · have SR : Hid (scaledR 576460752303423488 n k = 576460752303423488 + 1) := Lib.hid (by unfold scaledR; rw [if_neg (by omega)])
        go_enter Tryz.func64, Tryz.ntmps64
        go_wp2_with (first
         | (go_at_call 78; first | ((with_reducible refine (OF1.out _).mono ?_); rintro e w' ⟨A1, n1, c1, k1, rfl, rfl, hr1, hf1⟩; have HR1 := Lib.hid hr1; clear hr1 hf1) | ((with_reducible refine (OF2.out _).mono ?_); rintro e w' ⟨A2, n2, c2, k2, rfl, rfl, hr2, hf2⟩; have HR2 := Lib.hid hr2; clear hr2 hf2))
         | (go_at_call 77; refine (r1mul_b _ _ _ _ n _ _ _ _ k _ rfl (HR1.out.q (by repeat' (first | exact Q.refl _ | refine Q.alloc ?_ _ | refine Q.jk ?_ _ | refine Q.drew ?_))) S1.out rfl (HR2.out.q (by repeat' (first | exact Q.refl _ | refine Q.alloc ?_ _ | refine Q.jk ?_ _ | refine Q.drew ?_))) S2.out S3.out).mono ?_; rintro e w' ⟨A3, n3, c3, k3, rfl, rfl, hr3, hf3⟩; have HR3 := Lib.hid hr3; clear hr3 hf3)
         | (go_at_call 79; refine (r1small_z _ _ _ _ (n * k) _ rfl (HR3.out.q (by repeat' (first | exact Q.refl _ | refine Q.alloc ?_ _ | refine Q.jk ?_ _ | refine Q.drew ?_))) S3.out).mono ?_; rintro e w' ⟨rfl, kj, rfl⟩; rw [SM.out]))
        go_ret
        refine ⟨by rw [SR.out]; rfl, ?_⟩
        repeat' (first | exact Q.refl _ | refine Q.alloc ?_ _ | refine Q.jk ?_ _ | refine Q.drew ?_)
      · obtain ⟨m, hm⟩ : ∃ m, n * k = m := ⟨_, rfl⟩
        have SR : Hid (scaledR 576460752303423488 n k = m) := Lib.hid (by unfold scaledR; rw [if_pos (by omega), hm])
        have SM : Hid (smallR (n * k) = (m, true)) := Lib.hid (by rw [SM.out, hm])
        have a0 : decide (m < -576460752303423488) = false := decide_eq_false (by omega)
        have a1 : decide (576460752303423488 < m) = false := decide_eq_false (by omega)
        clear hf0 hf1 hl hl2 hm n0 n1 k0 k1
        go_enter Tryz.func64, Tryz.ntmps64
        go_wp2_with (first
         | (go_at_call 78; first | ((with_reducible refine (OF1.out _).mono ?_); rintro e w' ⟨A1, n1, c1, k1, rfl, rfl, hr1, hf1⟩; have HR1 := Lib.hid hr1; clear hr1 hf1) | ((with_reducible refine (OF2.out _).mono ?_); rintro e w' ⟨A2, n2, c2, k2, rfl, rfl, hr2, hf2⟩; have HR2 := Lib.hid hr2; clear hr2 hf2))
         | (go_at_call 77; refine (r1mul_b _ _ _ _ n _ _ _ _ k _ rfl (HR1.out.q (by repeat' (first | exact Q.refl _ | refine Q.alloc ?_ _ | refine Q.jk ?_ _ | refine Q.drew ?_))) S1.out rfl (HR2.out.q (by repeat' (first | exact Q.refl _ | refine Q.alloc ?_ _ | refine Q.jk ?_ _ | refine Q.drew ?_))) S2.out S3.out).mono ?_; rintro e w' ⟨A3, n3, c3, k3, rfl, rfl, hr3, hf3⟩; have HR3 := Lib.hid hr3; clear hr3 hf3)
         | (go_at_call 79; refine (r1small_z _ _ _ _ (n * k) _ rfl (HR3.out.q (by repeat' (first | exact Q.refl _ | refine Q.alloc ?_ _ | refine Q.jk ?_ _ | refine Q.drew ?_))) S3.out).mono ?_; rintro e w' ⟨rfl, kj, rfl⟩; rw [SM.out]))
        go_ret
        refine ⟨by rw [SR.out]; rfl, ?_⟩
        repeat' (first | exact Q.refl _ | refine Q.alloc ?_ _ | refine Q.jk ?_ _ | refine Q.drew ?_)
  · have SM : Hid (smallR (n * k) = (0, false)) := Lib.hid (by unfold smallR; rw [if_neg hf])
    have SR : Hid (scaledR 576460752303423488 n k = 576460752303423488 + 1) := Lib.hid (by unfold scaledR; rw [if_neg (by omega)])
    clear hf
    go_enter Tryz.func64, Tryz.ntmps64
    go_wp2_with (first
     | (go_at_call 78; first | ((with_reducible refine (OF1.out _).mono ?_); rintro e w' ⟨A1, n1, c1, k1, rfl, rfl, hr1, hf1⟩; have HR1 := Lib.hid hr1; clear hr1 hf1) | ((with_reducible refine (OF2.out _).mono ?_); rintro e w' ⟨A2, n2, c2, k2, rfl, rfl, hr2, hf2⟩; have HR2 := Lib.hid hr2; clear hr2 hf2))
     | (go_at_call 77; refine (r1mul_b _ _ _ _ n _ _ _ _ k _ rfl (HR1.out.q (by repeat' (first | exact Q.refl _ | refine Q.alloc ?_ _ | refine Q.jk ?_ _ | refine Q.drew ?_))) S1.out rfl (HR2.out.q (by repeat' (first | exact Q.refl _ | refine Q.alloc ?_ _ | refine Q.jk ?_ _ | refine Q.drew ?_))) S2.out S3.out).mono ?_; rintro e w' ⟨A3, n3, c3, k3, rfl, rfl, hr3, hf3⟩; have HR3 := Lib.hid hr3; clear hr3 hf3)
     | (go_at_call 79; refine (r1small_z _ _ _ _ (n * k) _ rfl (HR3.out.q (by repeat' (first | exact Q.refl _ | refine Q.alloc ?_ _ | refine Q.jk ?_ _ | refine Q.drew ?_))) S3.out).mono ?_; rintro e w' ⟨rfl, kj, rfl⟩; rw [SM.out]))
    go_ret
    refine ⟨by rw [SR.out]; rfl, ?_⟩
    repeat' (first | exact Q.refl _ | refine Q.alloc ?_ _ | refine Q.jk ?_ _ | refine Q.drew ?_)
theorem limR_scaled (a b c d k : Int) : limR ⟨scaledR 576460752303423488 a k, scaledR 576460752303423488 b k, scaledR 576460752303423488 c k, scaledR 576460752303423488 d k⟩ = limR ⟨a * k, b * k, c * k, d * k⟩ := by
  by_cases h : wiB ⟨a * k, b * k, c * k, d * k⟩ 576460752303423488 = true
  · have h1 := wiB_in h
    unfold Cy.In at h1
    dsimp only at h1
    rw [show scaledR 576460752303423488 a k = a * k by unfold scaledR; rw [if_pos (by omega)], show scaledR 576460752303423488 b k = b * k by unfold scaledR; rw [if_pos (by omega)], show scaledR 576460752303423488 c k = c * k by unfold scaledR; rw [if_pos (by omega)], show scaledR 576460752303423488 d k = d * k by unfold scaledR; rw [if_pos (by omega)]]
  · have h2 : wiB ⟨scaledR 576460752303423488 a k, scaledR 576460752303423488 b k, scaledR 576460752303423488 c k, scaledR 576460752303423488 d k⟩ 576460752303423488 = false := by
      cases e : wiB ⟨scaledR 576460752303423488 a k, scaledR 576460752303423488 b k, scaledR 576460752303423488 c k, scaledR 576460752303423488 d k⟩ 576460752303423488
      · rfl
      · exfalso
        have h1 := wiB_in e
        unfold Cy.In at h1
        dsimp only at h1
        have key : ∀ n : Int, -576460752303423488 ≤ scaledR 576460752303423488 n k → scaledR 576460752303423488 n k ≤ 576460752303423488 → -576460752303423488 ≤ n * k ∧ n * k ≤ 576460752303423488 := by
          intro n h3 h4
          unfold scaledR at h3 h4
          by_cases hn : -576460752303423488 ≤ n * k ∧ n * k ≤ 576460752303423488
          · exact hn
          · rw [if_neg hn] at h4; omega
        obtain ⟨q1, q2, q3, q4, q5, q6, q7, q8⟩ := h1
        have ka := key a q1 q2
        have kb := key b q3 q4
        have kc := key c q5 q6
        have kd := key d q7 q8
        exact h (wiB_of ⟨ka.1, ka.2, kb.1, kb.2, kc.1, kc.2, kd.1, kd.2⟩)
    have h3 : wiB ⟨a * k, b * k, c * k, d * k⟩ 576460752303423488 = false := by simpa using h
    simp [limR, h2, h3]
set_option maxHeartbeats 2000000 in
theorem r3scale_any (a b c d k : Int) (w : World) :
    Calls Tryz.prog 45 #[.agg #[.int .i64 a, .int .i64 b, .int .i64 c, .int .i64 d], .int .i64 k] w fun e w' => e = .returned (.tuple #[.agg #[.int .i64 (scaleR ⟨a, b, c, d⟩ k).v.a, .int .i64 (scaleR ⟨a, b, c, d⟩ k).v.b, .int .i64 (scaleR ⟨a, b, c, d⟩ k).v.c, .int .i64 (scaleR ⟨a, b, c, d⟩ k).v.d], .int .i64 (scaleR ⟨a, b, c, d⟩ k).e]) ∧ Q w w' := by
  by_cases h : wiB ⟨a, b, c, d⟩ 576460752303423488 = true
  · by_cases hk1 : k < -576460752303423488
    · have hR : scaleR ⟨a, b, c, d⟩ k = ⟨zeroC, 1⟩ := by simp [scaleR, brkB, hk1]
      rw [hR]
      clear hR
      go_enter Tryz.func45, Tryz.ntmps45
      go_wp2_with (go_at_call 40; refine (rwithin_any _ _ _ _ 576460752303423488 _ (by omega) (by omega)).mono ?_; rintro e w' ⟨rfl, kj, rfl⟩)
      refine bodyPost_ret (v := .tuple #[.agg #[.int .i64 (R4.mk zeroC 1).v.a, .int .i64 (R4.mk zeroC 1).v.b, .int .i64 (R4.mk zeroC 1).v.c, .int .i64 (R4.mk zeroC 1).v.d], .int .i64 (R4.mk zeroC 1).e]) (by simp [results, Tryz.results45, go_sem, zeroC]) rfl ⟨rfl, ?_⟩
      repeat' (first | exact Q.refl _ | refine Q.alloc ?_ _ | refine Q.jk ?_ _ | refine Q.drew ?_)
    · by_cases hk2 : 576460752303423488 < k
      · have hR : scaleR ⟨a, b, c, d⟩ k = ⟨zeroC, 1⟩ := by simp [scaleR, brkB, hk2]
        rw [hR]
        clear hR
        go_enter Tryz.func45, Tryz.ntmps45
        go_wp2_with (go_at_call 40; refine (rwithin_any _ _ _ _ 576460752303423488 _ (by omega) (by omega)).mono ?_; rintro e w' ⟨rfl, kj, rfl⟩)
        refine bodyPost_ret (v := .tuple #[.agg #[.int .i64 (R4.mk zeroC 1).v.a, .int .i64 (R4.mk zeroC 1).v.b, .int .i64 (R4.mk zeroC 1).v.c, .int .i64 (R4.mk zeroC 1).v.d], .int .i64 (R4.mk zeroC 1).e]) (by simp [results, Tryz.results45, go_sem, zeroC]) rfl ⟨rfl, ?_⟩
        repeat' (first | exact Q.refl _ | refine Q.alloc ?_ _ | refine Q.jk ?_ _ | refine Q.drew ?_)
      · have hR : scaleR ⟨a, b, c, d⟩ k = limR ⟨scaledR 576460752303423488 a k, scaledR 576460752303423488 b k, scaledR 576460752303423488 c k, scaledR 576460752303423488 d k⟩ := by
          have : brkB 576460752303423488 k = false := by simp [brkB]; omega
          rw [limR_scaled]; simp [scaleR, h, this]
        rw [hR]
        clear hR
        obtain ⟨l1, l2, l3, l4, l5, l6, l7, l8⟩ := wiB_in h
        dsimp only at l1 l2 l3 l4 l5 l6 l7 l8
        go_enter Tryz.func45, Tryz.ntmps45
        go_wp2_with (go_at_call 40; refine (rwithin_any _ _ _ _ 576460752303423488 _ (by omega) (by omega)).mono ?_; rintro e w' ⟨rfl, kj, rfl⟩)
        refine wp_region_tail 20 (by kernel_rfl) (by kernel_rfl) ?_
        simp only [List.take_succ_cons, List.take_zero, List.drop_succ_cons, List.drop_zero]
        repeat (go_big_quiet_step (first | (go_at_call 64; exact Calls.jk_of (r3scaled_any _ _ _ (by omega) (by omega) (by omega) (by omega))) | (go_at_call 42; exact Calls.jk_of (rresult_any _ _ _ _ _))))
        refine wpQuiet_nil ?_
        intro _ hw'
        obtain ⟨kq, rfl⟩ := hw'
        go_wp2
        refine bodyPost_ret (v := .tuple #[.agg #[.int .i64 (limR ⟨scaledR 576460752303423488 a k, scaledR 576460752303423488 b k, scaledR 576460752303423488 c k, scaledR 576460752303423488 d k⟩).v.a, .int .i64 (limR ⟨scaledR 576460752303423488 a k, scaledR 576460752303423488 b k, scaledR 576460752303423488 c k, scaledR 576460752303423488 d k⟩).v.b, .int .i64 (limR ⟨scaledR 576460752303423488 a k, scaledR 576460752303423488 b k, scaledR 576460752303423488 c k, scaledR 576460752303423488 d k⟩).v.c, .int .i64 (limR ⟨scaledR 576460752303423488 a k, scaledR 576460752303423488 b k, scaledR 576460752303423488 c k, scaledR 576460752303423488 d k⟩).v.d], .int .i64 (limR ⟨scaledR 576460752303423488 a k, scaledR 576460752303423488 b k, scaledR 576460752303423488 c k, scaledR 576460752303423488 d k⟩).e]) (by simp [results, Tryz.results45, go_sem]) rfl ⟨rfl, ?_⟩
        repeat' (first | exact Q.refl _ | refine Q.alloc ?_ _ | refine Q.jk ?_ _ | refine Q.drew ?_)
  · have h1 : wiB ⟨a, b, c, d⟩ 576460752303423488 = false := by simpa using h
    have hR : scaleR ⟨a, b, c, d⟩ k = ⟨zeroC, 1⟩ := by simp [scaleR, h1]
    rw [hR]
    clear hR h
    go_enter Tryz.func45, Tryz.ntmps45
    go_wp2_with (go_at_call 40; refine (rwithin_any _ _ _ _ 576460752303423488 _ (by omega) (by omega)).mono ?_; rintro e w' ⟨rfl, kj, rfl⟩)
    refine bodyPost_ret (v := .tuple #[.agg #[.int .i64 (R4.mk zeroC 1).v.a, .int .i64 (R4.mk zeroC 1).v.b, .int .i64 (R4.mk zeroC 1).v.c, .int .i64 (R4.mk zeroC 1).v.d], .int .i64 (R4.mk zeroC 1).e]) (by simp [results, Tryz.results45, go_sem, zeroC]) rfl ⟨rfl, ?_⟩
    repeat' (first | exact Q.refl _ | refine Q.alloc ?_ _ | refine Q.jk ?_ _ | refine Q.drew ?_)
end Go.Proofs.YtomodppdolfinaaGreat
