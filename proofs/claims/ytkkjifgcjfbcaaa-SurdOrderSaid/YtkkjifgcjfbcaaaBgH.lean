
/- What Versus of package substationref02 returns. -/
import Derived.Test.YtkkjifgcjfbcaaaBgG
namespace Go.Proofs.Ytkkjifgcjfbcaaa
open Go.RowKit Go.Sub
set_option maxHeartbeats 4000000 in
theorem r2vers_ok (x : Su) (j : Int) (y : Su) (k : Int) (w : World) (h4 : wi4 1152921504606846976 x.a x.b y.a y.b = true) (h2 : wi2 1073741824 j k = true) :
    Calls Try.prog 52 #[.agg #[.int .i64 x.a, .int .i64 x.b], .int .i64 j, .agg #[.int .i64 y.a, .int .i64 y.b], .int .i64 k] w fun e w' => e = .returned (.tuple #[.int .i64 (versS x j y k), .int .i64 0]) ∧ Q w w' := by
  obtain ⟨a1, a2, a3, a4, b1, b2, b3, b4⟩ := (wi4_iff _ _ _ _ _).1 h4
  obtain ⟨j0, j1, k0, k1⟩ := (wi2_iff _ _ _).1 h2
  have hx : wi2 1152921504606846976 x.a x.b = true := (wi2_iff _ _ _).2 (by omega)
  have hy : wi2 1152921504606846976 y.a y.b = true := (wi2_iff _ _ _).2 (by omega)
  have HJ : Hid ((decide (-1073741824 ≤ j) && decide (j ≤ 1073741824)) = true) := Lib.hid (by simp; omega)
  have HK : Hid ((decide (-1073741824 ≤ k) && decide (k ≤ 1073741824)) = true) := Lib.hid (by simp; omega)
  have Ca := Lib.hid (fun w => r2comb_z x.a j y.a k w (by omega) (by omega) (by omega) (by omega) (by omega) (by omega) (by omega) (by omega))
  have Cb := Lib.hid (fun w => r2comb_z x.b j y.b k w (by omega) (by omega) (by omega) (by omega) (by omega) (by omega) (by omega) (by omega))
  have q1 := bd_mul a1 a2 j0 j1
  have q2 := bd_mul a3 a4 j0 j1
  have q3 := bd_mul b1 b2 k0 k1
  have q4 := bd_mul b3 b4 k0 k1
  have HV : Hid (versS x j y k = sgnS ⟨x.a * j - y.a * k, x.b * j - y.b * k⟩) := Lib.hid (by unfold versS; rw [Int.mul_comm j, Int.mul_comm k, Int.mul_comm j, Int.mul_comm k])
  have HQ : Hid ((-1267650600228229401496703205376 ≤ x.a * j - y.a * k ∧ x.a * j - y.a * k ≤ 1267650600228229401496703205376) ∧ (-1267650600228229401496703205376 ≤ x.b * j - y.b * k ∧ x.b * j - y.b * k ≤ 1267650600228229401496703205376)) := Lib.hid (by omega)
  rw [HV.out]
  clear q1 q2 q3 q4 h4 h2 a1 a2 a3 a4 b1 b2 b3 b4 j0 j1 k0 k1
  go_enter Try.func52, Try.ntmps52
  go_wp2_with (first | (go_at_call 63; refine (r2within_any _ _ 1152921504606846976 _ (by omega) (by omega)).mono ?_; rintro e w' ⟨rfl, kj, rfl⟩) | (go_at_call 66; refine (r2between_any _ _ _ _).mono ?_; rintro e w' ⟨rfl, rfl⟩; first | rw [HJ.out] | rw [HK.out]))
  go_region_held3 (fun w' => w'.cell? ⟨w.heap.size, 0, none⟩ = some (.int .i64 x.a) ∧ w'.cell? ⟨w.heap.size, 1, none⟩ = some (.int .i64 x.b) ∧ w'.cell? ⟨w.heap.size + 1, 0, none⟩ = some (.int .i64 y.a) ∧ w'.cell? ⟨w.heap.size + 1, 1, none⟩ = some (.int .i64 y.b)) (simp [go_sem])
    (first
     | (go_at_call 87; first | ((with_reducible refine (Ca.out _).mono ?_); rintro e w' ⟨A1, n1, c1, k1, rfl, rfl, hr1, hf1⟩; have HR1 := Lib.hid hr1; clear hr1 hf1; obtain ⟨nb1, hnb1⟩ : ∃ nb, decide (x.a * j - y.a * k < 0) = nb := ⟨_, rfl⟩; rw [hnb1]; have HB1 := Lib.hid hnb1; clear hnb1) | ((with_reducible refine (Cb.out _).mono ?_); rintro e w' ⟨A2, n2, c2, k2, rfl, rfl, hr2, hf2⟩; have HR2 := Lib.hid hr2; clear hr2 hf2; obtain ⟨nb2, hnb2⟩ : ∃ nb, decide (x.b * j - y.b * k < 0) = nb := ⟨_, rfl⟩; rw [hnb2]; have HB2 := Lib.hid hnb2; clear hnb2))
     | (go_at_call 59; refine (r2sign_z _ _ _ _ (x.a * j - y.a * k) _ _ _ _ (x.b * j - y.b * k) _ HB1.out.symm (HR1.out.q (by repeat' (first | exact Q.refl _ | refine Q.alloc ?_ _ | refine Q.jk ?_ _ | refine Q.drew ?_))) HB2.out.symm (HR2.out.q (by repeat' (first | exact Q.refl _ | refine Q.alloc ?_ _ | refine Q.jk ?_ _ | refine Q.drew ?_))) HQ.out.1.1 HQ.out.1.2 HQ.out.2.1 HQ.out.2.2).mono ?_; rintro e w' ⟨rfl, kj, rfl⟩))
  rename_i hHeld
  clear hHeld
  go_wp2
  go_ret2
  refine ⟨rfl, ?_⟩
  repeat' (first | exact Q.refl _ | refine Q.alloc ?_ _ | refine Q.jk ?_ _ | refine Q.drew ?_)
set_option maxHeartbeats 4000000 in
theorem r2vers_bad1 (x : Su) (j : Int) (y : Su) (k : Int) (w : World) (hx : wi2 1152921504606846976 x.a x.b = false) :
    Calls Try.prog 52 #[.agg #[.int .i64 x.a, .int .i64 x.b], .int .i64 j, .agg #[.int .i64 y.a, .int .i64 y.b], .int .i64 k] w fun e w' => e = .returned (.tuple #[.int .i64 0, .int .i64 1]) ∧ Q w w' := by
  go_enter Try.func52, Try.ntmps52
  go_wp2_with (go_at_call 63; refine (r2within_any _ _ 1152921504606846976 _ (by omega) (by omega)).mono ?_; rintro e w' ⟨rfl, kj, rfl⟩)
  go_ret2
  refine ⟨rfl, ?_⟩
  repeat' (first | exact Q.refl _ | refine Q.alloc ?_ _ | refine Q.jk ?_ _ | refine Q.drew ?_)
set_option maxHeartbeats 4000000 in
theorem r2vers_bad2 (x : Su) (j : Int) (y : Su) (k : Int) (w : World) (hx : wi2 1152921504606846976 x.a x.b = true) (hy : wi2 1152921504606846976 y.a y.b = false) :
    Calls Try.prog 52 #[.agg #[.int .i64 x.a, .int .i64 x.b], .int .i64 j, .agg #[.int .i64 y.a, .int .i64 y.b], .int .i64 k] w fun e w' => e = .returned (.tuple #[.int .i64 0, .int .i64 1]) ∧ Q w w' := by
  go_enter Try.func52, Try.ntmps52
  go_wp2_with (go_at_call 63; refine (r2within_any _ _ 1152921504606846976 _ (by omega) (by omega)).mono ?_; rintro e w' ⟨rfl, kj, rfl⟩)
  go_ret2
  refine ⟨rfl, ?_⟩
  repeat' (first | exact Q.refl _ | refine Q.alloc ?_ _ | refine Q.jk ?_ _ | refine Q.drew ?_)
set_option maxHeartbeats 4000000 in
theorem r2vers_bad3 (x : Su) (j : Int) (y : Su) (k : Int) (w : World) (hx : wi2 1152921504606846976 x.a x.b = true) (hy : wi2 1152921504606846976 y.a y.b = true) (HJ : Hid ((decide (-1073741824 ≤ j) && decide (j ≤ 1073741824)) = false)) :
    Calls Try.prog 52 #[.agg #[.int .i64 x.a, .int .i64 x.b], .int .i64 j, .agg #[.int .i64 y.a, .int .i64 y.b], .int .i64 k] w fun e w' => e = .returned (.tuple #[.int .i64 0, .int .i64 1]) ∧ Q w w' := by
  go_enter Try.func52, Try.ntmps52
  go_wp2_with (first | (go_at_call 63; refine (r2within_any _ _ 1152921504606846976 _ (by omega) (by omega)).mono ?_; rintro e w' ⟨rfl, kj, rfl⟩) | (go_at_call 66; refine (r2between_any _ _ _ _).mono ?_; rintro e w' ⟨rfl, rfl⟩; rw [HJ.out]))
  go_ret2
  refine ⟨rfl, ?_⟩
  repeat' (first | exact Q.refl _ | refine Q.alloc ?_ _ | refine Q.jk ?_ _ | refine Q.drew ?_)
set_option maxHeartbeats 4000000 in
theorem r2vers_bad4 (x : Su) (j : Int) (y : Su) (k : Int) (w : World) (hx : wi2 1152921504606846976 x.a x.b = true) (hy : wi2 1152921504606846976 y.a y.b = true) (HJ : Hid ((decide (-1073741824 ≤ j) && decide (j ≤ 1073741824)) = true)) (HK : Hid ((decide (-1073741824 ≤ k) && decide (k ≤ 1073741824)) = false)) :
    Calls Try.prog 52 #[.agg #[.int .i64 x.a, .int .i64 x.b], .int .i64 j, .agg #[.int .i64 y.a, .int .i64 y.b], .int .i64 k] w fun e w' => e = .returned (.tuple #[.int .i64 0, .int .i64 1]) ∧ Q w w' := by
  go_enter Try.func52, Try.ntmps52
  go_wp2_with (first | (go_at_call 63; refine (r2within_any _ _ 1152921504606846976 _ (by omega) (by omega)).mono ?_; rintro e w' ⟨rfl, kj, rfl⟩) | (go_at_call 66; refine (r2between_any _ _ _ _).mono ?_; rintro e w' ⟨rfl, rfl⟩; first | rw [HJ.out] | rw [HK.out]))
  go_ret2
  refine ⟨rfl, ?_⟩
  repeat' (first | exact Q.refl _ | refine Q.alloc ?_ _ | refine Q.jk ?_ _ | refine Q.drew ?_)
theorem r2vers_any (x : Su) (j : Int) (y : Su) (k : Int) (w : World) :
    Calls Try.prog 52 #[.agg #[.int .i64 x.a, .int .i64 x.b], .int .i64 j, .agg #[.int .i64 y.a, .int .i64 y.b], .int .i64 k] w fun e w' => e = .returned (.tuple #[.int .i64 (versR x j y k).1, .int .i64 (versR x j y k).2]) ∧ Q w w' := by
  by_cases h : wi4 1152921504606846976 x.a x.b y.a y.b = true ∧ wi2 1073741824 j k = true
  · have e : versR x j y k = (versS x j y k, 0) := by simp [versR, h.1, h.2]
    rw [e]
    exact r2vers_ok x j y k w h.1 h.2
  · have e : versR x j y k = (0, 1) := by
      unfold versR
      rw [if_neg (by simpa using h)]
    rw [e]
    cases h1 : wi2 1152921504606846976 x.a x.b
    · exact r2vers_bad1 x j y k w h1
    · cases h2 : wi2 1152921504606846976 y.a y.b
      · exact r2vers_bad2 x j y k w h1 h2
      · cases h3 : (decide (-1073741824 ≤ j) && decide (j ≤ 1073741824))
        · exact r2vers_bad3 x j y k w h1 h2 (Lib.hid h3)
        · cases h4 : (decide (-1073741824 ≤ k) && decide (k ≤ 1073741824))
          · exact r2vers_bad4 x j y k w h1 h2 (Lib.hid h3) (Lib.hid h4)
          · exfalso
            have k1 := (wi2_iff _ _ _).1 h1
            have k2 := (wi2_iff _ _ _).1 h2
            simp at h3 h4
            exact h ⟨(wi4_iff _ _ _ _ _).2 (by omega), (wi2_iff _ _ _).2 (by omega)⟩
end Go.Proofs.Ytkkjifgcjfbcaaa
