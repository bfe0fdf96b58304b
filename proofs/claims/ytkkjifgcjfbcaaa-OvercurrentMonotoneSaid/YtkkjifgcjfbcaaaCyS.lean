
/- What Scale of package cyclo returns. -/
import Derived.Test.YtkkjifgcjfbcaaaCyW1
import Derived.Test.YtkkjifgcjfbcaaaSuT
namespace Go.Sub
def scaleR (x : Cy) (k : Int) : R4 := if wiB x 576460752303423488 && !(brkB 576460752303423488 k) then limR ⟨x.a * k, x.b * k, x.c * k, x.d * k⟩ else ⟨zeroC, 1⟩
theorem sscale_cases (a b k : Int) (h1 : -576460752303423488 ≤ a) (h2 : a ≤ 576460752303423488) (h3 : -576460752303423488 ≤ b) (h4 : b ≤ 576460752303423488) (h5 : -576460752303423488 ≤ k) (h6 : k ≤ 576460752303423488) :
    sscaleR ⟨a, b⟩ k = ⟨⟨a * k, b * k⟩, 0⟩ ∨ (sscaleR ⟨a, b⟩ k = ⟨⟨0, 0⟩, 2⟩ ∧ ¬ (-576460752303423488 ≤ a * k ∧ a * k ≤ 576460752303423488 ∧ -576460752303423488 ≤ b * k ∧ b * k ≤ 576460752303423488)) := by
  have h : wi3 1152921504606846976 a b k = true := (wi3_iff _ _ _ _).2 (by omega)
  cases e : wi2 1152921504606846976 (a * k) (b * k)
  · right
    refine ⟨by simp [sscaleR, h, limS, e, zeroS], fun hh => ?_⟩
    have : wi2 1152921504606846976 (a * k) (b * k) = true := (wi2_iff _ _ _).2 (by omega)
    rw [e] at this
    cases this
  · left
    simp [sscaleR, h, limS, e]
theorem limR_no (a b c d : Int) (h : ¬ (-576460752303423488 ≤ a ∧ a ≤ 576460752303423488 ∧ -576460752303423488 ≤ b ∧ b ≤ 576460752303423488) ∨ ¬ (-576460752303423488 ≤ c ∧ c ≤ 576460752303423488 ∧ -576460752303423488 ≤ d ∧ d ≤ 576460752303423488)) : limR ⟨a, b, c, d⟩ = ⟨zeroC, 2⟩ := by
  cases e : wiB ⟨a, b, c, d⟩ 576460752303423488
  · simp [limR, e]
  · have := wiB_in e
    unfold Cy.In at this
    dsimp only at this
    omega
end Go.Sub
namespace Go.Proofs.Ytkkjifgcjfbcaaa
open Go.RowKit Go.Sub

set_option maxHeartbeats 1000000 in
theorem scale_ok (a b c d k : Int) (w : World) (h : wiB ⟨a, b, c, d⟩ 576460752303423488 = true) (hk : brkB 576460752303423488 k = false) (h1 : sscaleR ⟨a, b⟩ k = ⟨⟨a * k, b * k⟩, 0⟩) (h2 : sscaleR ⟨c, d⟩ k = ⟨⟨c * k, d * k⟩, 0⟩) :
    Calls Try.prog 47 #[.agg #[.int .i64 a, .int .i64 b, .int .i64 c, .int .i64 d], .int .i64 k] w fun e w' => e = .returned (.tuple #[.agg #[.int .i64 (limR ⟨a * k, b * k, c * k, d * k⟩).v.a, .int .i64 (limR ⟨a * k, b * k, c * k, d * k⟩).v.b, .int .i64 (limR ⟨a * k, b * k, c * k, d * k⟩).v.c, .int .i64 (limR ⟨a * k, b * k, c * k, d * k⟩).v.d], .int .i64 (limR ⟨a * k, b * k, c * k, d * k⟩).e]) ∧ Q w w' := by
  go_enter Try.func47, Try.ntmps47
  go_wp2_with (first | (go_at_call 79; refine (within_any _ _ _ _ _ _ (by omega) (by omega)).mono ?_; rintro e w' ⟨rfl, kj, rfl⟩) | (go_at_call 80; refine (broken_any _ _ _ (by omega) (by omega)).mono ?_; rintro e w' ⟨rfl, rfl⟩) | (go_at_call 30; refine (sscale_any _ _ _ _).mono ?_; rintro e w' ⟨rfl, kj, rfl⟩) | (go_at_call 81; refine (limited_any _ _ _ _ _).mono ?_; rintro e w' ⟨rfl, kj, rfl⟩))
  refine bodyPost_ret (v := .tuple #[.agg #[.int .i64 (limR ⟨a * k, b * k, c * k, d * k⟩).v.a, .int .i64 (limR ⟨a * k, b * k, c * k, d * k⟩).v.b, .int .i64 (limR ⟨a * k, b * k, c * k, d * k⟩).v.c, .int .i64 (limR ⟨a * k, b * k, c * k, d * k⟩).v.d], .int .i64 (limR ⟨a * k, b * k, c * k, d * k⟩).e]) (by simp [results, Try.results47, go_sem]) rfl ⟨rfl, ?_⟩
  repeat' (first | exact Q.refl _ | refine Q.alloc ?_ _ | refine Q.jk ?_ _ | refine Q.drew ?_)

set_option maxHeartbeats 1000000 in
theorem scale_no1 (a b c d k : Int) (w : World) (h : wiB ⟨a, b, c, d⟩ 576460752303423488 = true) (hk : brkB 576460752303423488 k = false) (h1 : sscaleR ⟨a, b⟩ k = ⟨⟨0, 0⟩, 2⟩) :
    Calls Try.prog 47 #[.agg #[.int .i64 a, .int .i64 b, .int .i64 c, .int .i64 d], .int .i64 k] w fun e w' => e = .returned (.tuple #[.agg #[.int .i64 (R4.mk zeroC 2).v.a, .int .i64 (R4.mk zeroC 2).v.b, .int .i64 (R4.mk zeroC 2).v.c, .int .i64 (R4.mk zeroC 2).v.d], .int .i64 (R4.mk zeroC 2).e]) ∧ Q w w' := by
  go_enter Try.func47, Try.ntmps47
  go_wp2_with (first | (go_at_call 79; refine (within_any _ _ _ _ _ _ (by omega) (by omega)).mono ?_; rintro e w' ⟨rfl, kj, rfl⟩) | (go_at_call 80; refine (broken_any _ _ _ (by omega) (by omega)).mono ?_; rintro e w' ⟨rfl, rfl⟩) | (go_at_call 30; refine (sscale_any _ _ _ _).mono ?_; rintro e w' ⟨rfl, kj, rfl⟩) | (go_at_call 81; refine (limited_any _ _ _ _ _).mono ?_; rintro e w' ⟨rfl, kj, rfl⟩))
  refine bodyPost_ret (v := .tuple #[.agg #[.int .i64 (R4.mk zeroC 2).v.a, .int .i64 (R4.mk zeroC 2).v.b, .int .i64 (R4.mk zeroC 2).v.c, .int .i64 (R4.mk zeroC 2).v.d], .int .i64 (R4.mk zeroC 2).e]) (by simp [results, Try.results47, go_sem, zeroC]) rfl ⟨rfl, ?_⟩
  repeat' (first | exact Q.refl _ | refine Q.alloc ?_ _ | refine Q.jk ?_ _ | refine Q.drew ?_)

set_option maxHeartbeats 1000000 in
theorem scale_no2 (a b c d k : Int) (w : World) (h : wiB ⟨a, b, c, d⟩ 576460752303423488 = true) (hk : brkB 576460752303423488 k = false) (h1 : sscaleR ⟨a, b⟩ k = ⟨⟨a * k, b * k⟩, 0⟩) (h2 : sscaleR ⟨c, d⟩ k = ⟨⟨0, 0⟩, 2⟩) :
    Calls Try.prog 47 #[.agg #[.int .i64 a, .int .i64 b, .int .i64 c, .int .i64 d], .int .i64 k] w fun e w' => e = .returned (.tuple #[.agg #[.int .i64 (R4.mk zeroC 2).v.a, .int .i64 (R4.mk zeroC 2).v.b, .int .i64 (R4.mk zeroC 2).v.c, .int .i64 (R4.mk zeroC 2).v.d], .int .i64 (R4.mk zeroC 2).e]) ∧ Q w w' := by
  go_enter Try.func47, Try.ntmps47
  go_wp2_with (first | (go_at_call 79; refine (within_any _ _ _ _ _ _ (by omega) (by omega)).mono ?_; rintro e w' ⟨rfl, kj, rfl⟩) | (go_at_call 80; refine (broken_any _ _ _ (by omega) (by omega)).mono ?_; rintro e w' ⟨rfl, rfl⟩) | (go_at_call 30; refine (sscale_any _ _ _ _).mono ?_; rintro e w' ⟨rfl, kj, rfl⟩) | (go_at_call 81; refine (limited_any _ _ _ _ _).mono ?_; rintro e w' ⟨rfl, kj, rfl⟩))
  refine bodyPost_ret (v := .tuple #[.agg #[.int .i64 (R4.mk zeroC 2).v.a, .int .i64 (R4.mk zeroC 2).v.b, .int .i64 (R4.mk zeroC 2).v.c, .int .i64 (R4.mk zeroC 2).v.d], .int .i64 (R4.mk zeroC 2).e]) (by simp [results, Try.results47, go_sem, zeroC]) rfl ⟨rfl, ?_⟩
  repeat' (first | exact Q.refl _ | refine Q.alloc ?_ _ | refine Q.jk ?_ _ | refine Q.drew ?_)

set_option maxHeartbeats 1000000 in
theorem scale_any (a b c d k : Int) (w : World) :
    Calls Try.prog 47 #[.agg #[.int .i64 a, .int .i64 b, .int .i64 c, .int .i64 d], .int .i64 k] w fun e w' => e = .returned (.tuple #[.agg #[.int .i64 (scaleR ⟨a, b, c, d⟩ k).v.a, .int .i64 (scaleR ⟨a, b, c, d⟩ k).v.b, .int .i64 (scaleR ⟨a, b, c, d⟩ k).v.c, .int .i64 (scaleR ⟨a, b, c, d⟩ k).v.d], .int .i64 (scaleR ⟨a, b, c, d⟩ k).e]) ∧ Q w w' := by
  by_cases h : wiB ⟨a, b, c, d⟩ 576460752303423488 = true
  · by_cases hk : brkB 576460752303423488 k = false
    · have hR : scaleR ⟨a, b, c, d⟩ k = limR ⟨a * k, b * k, c * k, d * k⟩ := by simp [scaleR, h, hk]
      rw [hR]
      obtain ⟨l1, l2, l3, l4, l5, l6, l7, l8⟩ := wiB_in h
      dsimp only at l1 l2 l3 l4 l5 l6 l7 l8
      have hk' : -576460752303423488 ≤ k ∧ k ≤ 576460752303423488 := by simp [brkB] at hk; omega
      rcases sscale_cases a b k l1 l2 l3 l4 hk'.1 hk'.2 with h1 | ⟨h1, n1⟩
      · rcases sscale_cases c d k l5 l6 l7 l8 hk'.1 hk'.2 with h2 | ⟨h2, n2⟩
        · exact scale_ok a b c d k w h hk h1 h2
        · rw [limR_no _ _ _ _ (Or.inr n2)]
          exact scale_no2 a b c d k w h hk h1 h2
      · rw [limR_no _ _ _ _ (Or.inl n1)]
        exact scale_no1 a b c d k w h hk h1
    · have hk : brkB 576460752303423488 k = true := by simpa using hk
      go_enter Try.func47, Try.ntmps47
      go_wp2_with (first | (go_at_call 79; refine (within_any _ _ _ _ _ _ (by omega) (by omega)).mono ?_; rintro e w' ⟨rfl, kj, rfl⟩) | (go_at_call 80; refine (broken_any _ _ _ (by omega) (by omega)).mono ?_; rintro e w' ⟨rfl, rfl⟩))
      refine bodyPost_ret (v := .tuple #[.agg #[.int .i64 (R4.mk zeroC 1).v.a, .int .i64 (R4.mk zeroC 1).v.b, .int .i64 (R4.mk zeroC 1).v.c, .int .i64 (R4.mk zeroC 1).v.d], .int .i64 (R4.mk zeroC 1).e]) (by simp [results, Try.results47, go_sem, zeroC]) rfl ⟨by simp [scaleR, h, hk], ?_⟩
      repeat' (first | exact Q.refl _ | refine Q.alloc ?_ _ | refine Q.jk ?_ _ | refine Q.drew ?_)
  · have h : wiB ⟨a, b, c, d⟩ 576460752303423488 = false := by simpa using h
    go_enter Try.func47, Try.ntmps47
    go_wp2_with (first | (go_at_call 79; refine (within_any _ _ _ _ _ _ (by omega) (by omega)).mono ?_; rintro e w' ⟨rfl, kj, rfl⟩) | (go_at_call 80; refine (broken_any _ _ _ (by omega) (by omega)).mono ?_; rintro e w' ⟨rfl, rfl⟩))
    refine bodyPost_ret (v := .tuple #[.agg #[.int .i64 (R4.mk zeroC 1).v.a, .int .i64 (R4.mk zeroC 1).v.b, .int .i64 (R4.mk zeroC 1).v.c, .int .i64 (R4.mk zeroC 1).v.d], .int .i64 (R4.mk zeroC 1).e]) (by simp [results, Try.results47, go_sem, zeroC]) rfl ⟨by simp [scaleR, h], ?_⟩
    repeat' (first | exact Q.refl _ | refine Q.alloc ?_ _ | refine Q.jk ?_ _ | refine Q.drew ?_)
end Go.Proofs.Ytkkjifgcjfbcaaa
