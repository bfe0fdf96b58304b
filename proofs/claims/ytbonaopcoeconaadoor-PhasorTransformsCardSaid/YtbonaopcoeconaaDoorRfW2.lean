
/- What Add, Sub, Conj, Real, Imag and Norm of the reference return. -/
import Derived.Test.YtbonaopcoeconaaDoorRfW1
namespace Go.Proofs.YtbonaopcoeconaaDoor
open Go.RowKit Go.Sub

set_option maxHeartbeats 1000000 in
theorem radd_any (a b c d a' b' c' d' : Int) (w : World) :
    Calls Tryd.prog 64 #[.agg #[.int .i64 a, .int .i64 b, .int .i64 c, .int .i64 d], .agg #[.int .i64 a', .int .i64 b', .int .i64 c', .int .i64 d']] w fun e w' => e = .returned (.tuple #[.agg #[.int .i64 (addR ⟨a, b, c, d⟩ ⟨a', b', c', d'⟩).v.a, .int .i64 (addR ⟨a, b, c, d⟩ ⟨a', b', c', d'⟩).v.b, .int .i64 (addR ⟨a, b, c, d⟩ ⟨a', b', c', d'⟩).v.c, .int .i64 (addR ⟨a, b, c, d⟩ ⟨a', b', c', d'⟩).v.d], .int .i64 (addR ⟨a, b, c, d⟩ ⟨a', b', c', d'⟩).e]) ∧ Q w w' := by
  by_cases h : wiB ⟨a, b, c, d⟩ 576460752303423488 = true
  · by_cases h' : wiB ⟨a', b', c', d'⟩ 576460752303423488 = true
    · obtain ⟨l1, l2, l3, l4, l5, l6, l7, l8⟩ := wiB_in h
      obtain ⟨m1, m2, m3, m4, m5, m6, m7, m8⟩ := wiB_in h'
      dsimp only at l1 l2 l3 l4 l5 l6 l7 l8 m1 m2 m3 m4 m5 m6 m7 m8
      have hR : addR ⟨a, b, c, d⟩ ⟨a', b', c', d'⟩ = limR ⟨a + a', b + b', c + c', d + d'⟩ := by simp [addR, h, h', Cy.add]
      rw [hR]
      clear hR
      go_enter Tryd.func64, Tryd.ntmps64
      go_wp2_with (go_at_call 62; refine (rwithin_any _ _ _ _ _ _ (by omega) (by omega)).mono ?_; rintro e w' ⟨rfl, kj, rfl⟩)
      go_wp2_with (go_at_call 69; refine (rresult_any _ _ _ _ _).mono ?_; rintro e w' ⟨rfl, kj, rfl⟩)
      refine bodyPost_ret (v := .tuple #[.agg #[.int .i64 (limR ⟨a + a', b + b', c + c', d + d'⟩).v.a, .int .i64 (limR ⟨a + a', b + b', c + c', d + d'⟩).v.b, .int .i64 (limR ⟨a + a', b + b', c + c', d + d'⟩).v.c, .int .i64 (limR ⟨a + a', b + b', c + c', d + d'⟩).v.d], .int .i64 (limR ⟨a + a', b + b', c + c', d + d'⟩).e]) (by simp [results, Tryd.results64, go_sem]) rfl ⟨rfl, ?_⟩
      repeat' (first | exact Q.refl _ | refine Q.alloc ?_ _ | refine Q.jk ?_ _ | refine Q.drew ?_)
    · have h' : wiB ⟨a', b', c', d'⟩ 576460752303423488 = false := by simpa using h'
      go_enter Tryd.func64, Tryd.ntmps64
      go_wp2_with (go_at_call 62; refine (rwithin_any _ _ _ _ _ _ (by omega) (by omega)).mono ?_; rintro e w' ⟨rfl, kj, rfl⟩)
      refine bodyPost_ret (v := .tuple #[.agg #[.int .i64 (R4.mk zeroC 1).v.a, .int .i64 (R4.mk zeroC 1).v.b, .int .i64 (R4.mk zeroC 1).v.c, .int .i64 (R4.mk zeroC 1).v.d], .int .i64 (R4.mk zeroC 1).e]) (by simp [results, Tryd.results64, go_sem, zeroC]) rfl ⟨by simp [addR, h, h'], ?_⟩
      repeat' (first | exact Q.refl _ | refine Q.alloc ?_ _ | refine Q.jk ?_ _ | refine Q.drew ?_)
  · have h : wiB ⟨a, b, c, d⟩ 576460752303423488 = false := by simpa using h
    go_enter Tryd.func64, Tryd.ntmps64
    go_wp2_with (go_at_call 62; refine (rwithin_any _ _ _ _ _ _ (by omega) (by omega)).mono ?_; rintro e w' ⟨rfl, kj, rfl⟩)
    refine bodyPost_ret (v := .tuple #[.agg #[.int .i64 (R4.mk zeroC 1).v.a, .int .i64 (R4.mk zeroC 1).v.b, .int .i64 (R4.mk zeroC 1).v.c, .int .i64 (R4.mk zeroC 1).v.d], .int .i64 (R4.mk zeroC 1).e]) (by simp [results, Tryd.results64, go_sem, zeroC]) rfl ⟨by simp [addR, h], ?_⟩
    repeat' (first | exact Q.refl _ | refine Q.alloc ?_ _ | refine Q.jk ?_ _ | refine Q.drew ?_)

end Go.Proofs.YtbonaopcoeconaaDoor
