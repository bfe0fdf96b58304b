
/- What Compare of package surd, and within and Above of package phasor, return. -/
import Derived.Test.YtkkjifgcjfbcaaaOrd
import Derived.Test.YtkkjifgcjfbcaaaSuC
import Derived.Test.YtkkjifgcjfbcaaaCyW3
namespace Go.Sub
def scmpR (x y : Su) : Int × Int := if wi4 1152921504606846976 x.a x.b y.a y.b then (sgnS (x.sub y), 0) else (0, 1)
/-- A fundamental has at least a peak value. -/
def aboveB (c : Cy) (p : Int) : Bool := decide (0 ≤ sgnS (c.norm.sub ⟨36 * p * p, 0⟩))
end Go.Sub
namespace Go.Proofs.Ytkkjifgcjfbcaaa
open Go.RowKit Go.Sub

set_option maxHeartbeats 1000000 in
theorem scmp_any (a b a' b' : Int) (w : World) :
    Calls Try.prog 24 #[.agg #[.int .i64 a, .int .i64 b], .agg #[.int .i64 a', .int .i64 b']] w fun e w' => e = .returned (.tuple #[.int .i64 (scmpR ⟨a, b⟩ ⟨a', b'⟩).1, .int .i64 (scmpR ⟨a, b⟩ ⟨a', b'⟩).2]) ∧ Q w w' := by
  by_cases h : wi4 1152921504606846976 a b a' b' = true
  · obtain ⟨l1, l2, l3, l4, m1, m2, m3, m4⟩ := (wi4_iff _ _ _ _ _).1 h
    have hR : scmpR ⟨a, b⟩ ⟨a', b'⟩ = (sgnS ⟨a - a', b - b'⟩, 0) := by simp [scmpR, h, Su.sub]
    rw [hR]
    clear hR
    go_enter Try.func24, Try.ntmps24
    go_wp2_with (first | (go_at_call 61; refine (swithin4 _ a b a' b' 1152921504606846976 _ (by omega) (by omega) (by simp [go_sem]) (by simp [go_sem]) (by simp [go_sem]) (by simp [go_sem])).mono ?_; rintro e w' ⟨rfl, rfl⟩) | (go_at_call 17; refine (sgnS_any _ _ _ (by omega) (by omega) (by omega) (by omega)).mono ?_; rintro e w' ⟨rfl, kj, rfl⟩))
    go_ret2
    refine ⟨rfl, ?_⟩
    repeat' (first | exact Q.refl _ | refine Q.alloc ?_ _ | refine Q.jk ?_ _ | refine Q.drew ?_)
  · have h : wi4 1152921504606846976 a b a' b' = false := by simpa using h
    have hR : scmpR ⟨a, b⟩ ⟨a', b'⟩ = (0, 1) := by simp [scmpR, h]
    rw [hR]
    clear hR
    go_enter Try.func24, Try.ntmps24
    go_wp2_with (go_at_call 61; refine (swithin4 _ a b a' b' 1152921504606846976 _ (by omega) (by omega) (by simp [go_sem]) (by simp [go_sem]) (by simp [go_sem]) (by simp [go_sem])).mono ?_; rintro e w' ⟨rfl, rfl⟩)
    go_ret2
    refine ⟨rfl, ?_⟩
    repeat' (first | exact Q.refl _ | refine Q.alloc ?_ _ | refine Q.jk ?_ _ | refine Q.drew ?_)
theorem scmp_c (x y : Su) (w : World) (hx : x.In 1000000000000000000) (hy : y.In 1000000000000000000) :
    Calls Try.prog 24 #[.agg #[.int .i64 x.a, .int .i64 x.b], .agg #[.int .i64 y.a, .int .i64 y.b]] w fun e w' => e = .returned (.tuple #[.int .i64 (sgnS (x.sub y)), .int .i64 0]) ∧ Q w w' := by
  have h := scmp_any x.a x.b y.a y.b w
  have h1 : wi4 1152921504606846976 x.a x.b y.a y.b = true := (wi4_iff _ _ _ _ _).2 (by unfold Su.In at *; omega)
  have e : scmpR x y = (sgnS (x.sub y), 0) := by simp [scmpR, h1]
  rw [show scmpR ⟨x.a, x.b⟩ ⟨y.a, y.b⟩ = _ from e] at h
  exact h

end Go.Proofs.Ytkkjifgcjfbcaaa
