
/- What speed, Advance and Steps of package overcurrent return for arguments in their range; helpers of its laws. -/
import Derived.Test.YtkkjifgcjfbcaaaOcA
import Derived.Test.YtkkjifgcjfbcaaaSuN
namespace Go.Sub
/-- One of three currents has at least a peak value. -/
def upB (x y z : Cy) (p : Int) : Bool := decide (0 ≤ sgnS ((extS 1 x y z).sub (peakS p)))
/-- By how much the progress grows. -/
def rateI (x y z : Cy) (p : Int) : Int := min (max (flS ⟨(extS 1 x y z).a * 100, (extS 1 x y z).b * 100⟩ / (36 * p * p) - 100) 1) 40000
theorem rateI_bd (x y z : Cy) (p : Int) : 1 ≤ rateI x y z p ∧ rateI x y z p ≤ 40000 := by unfold rateI; omega
theorem sscaleR_ok {x : Su} (hx : x.In 25769803776) : sscaleR x 100 = ⟨⟨x.a * 100, x.b * 100⟩, 0⟩ := by
  unfold Su.In at hx
  have h1 : wi3 1152921504606846976 x.a x.b 100 = true := (wi3_iff _ _ _ _).2 (by omega)
  have h2 : wi2 1152921504606846976 (x.a * 100) (x.b * 100) = true := (wi2_iff _ _ _).2 (by omega)
  simp [sscaleR, limS, h1, h2]
theorem peak_bd {p : Int} (p0 : 1 ≤ p) (p1 : p ≤ 16383) : 1 ≤ 36 * p * p ∧ 36 * p * p ≤ 10000000000 := by
  have h1 := Int.mul_le_mul p0 p0 (by decide) (by omega)
  have h2 := (peakS_in (p := p) (by omega) p1).2.1
  unfold peakS at h2
  dsimp only at h2
  refine ⟨?_, h2⟩
  rw [Int.mul_assoc]
  omega
end Go.Sub
namespace Go.Proofs.Ytkkjifgcjfbcaaa
open Go.RowKit Go.Sub
theorem sscale_c (x : Su) (w : World) (hx : x.In 25769803776) :
    Calls Try.prog 30 #[.agg #[.int .i64 x.a, .int .i64 x.b], .int .i64 100] w fun e w' => e = .returned (.tuple #[.agg #[.int .i64 (x.a * 100), .int .i64 (x.b * 100)], .int .i64 0]) ∧ Q w w' := by
  have h := sscale_any x.a x.b 100 w
  rw [show sscaleR ⟨x.a, x.b⟩ 100 = _ from sscaleR_ok hx] at h
  exact h
set_option maxHeartbeats 2000000 in
theorem speed_up (x y z : Cy) (p : Int) (w : World) (hx : x.In 65536) (hy : y.In 65536) (hz : z.In 65536) (p0 : 1 ≤ p) (p1 : p ≤ 16383) (hu : upB x y z p = true) :
    Calls Try.prog 77 #[.agg #[.int .i64 x.a, .int .i64 x.b, .int .i64 x.c, .int .i64 x.d, .int .i64 y.a, .int .i64 y.b, .int .i64 y.c, .int .i64 y.d, .int .i64 z.a, .int .i64 z.b, .int .i64 z.c, .int .i64 z.d], .int .i64 p] w fun e w' => e = .returned (.tuple #[.int .i64 (rateI x y z p), .bool true, .int .i64 0]) ∧ Q w w' := by
  have he := extS_in 1 hx hy hz
  have HU : Hid (decide (0 ≤ sgnS ((extS 1 x y z).sub (peakS p))) = true) := Lib.hid hu
  obtain ⟨q1, q2⟩ := peak_bd p0 p1
  have hw : wi2 1152921504606846976 ((extS 1 x y z).a * 100) ((extS 1 x y z).b * 100) = true := (wi2_iff _ _ _).2 (by unfold Su.In at he; omega)
  have HF := Lib.hid (fun w => sfloor_ok ((extS 1 x y z).a * 100) ((extS 1 x y z).b * 100) (36 * p * p) w hw q1 (by omega))
  obtain ⟨F, hF⟩ : ∃ F, flS ⟨(extS 1 x y z).a * 100, (extS 1 x y z).b * 100⟩ / (36 * p * p) = F := ⟨_, rfl⟩
  have hb : -20000000000000 ≤ F ∧ F ≤ 20000000000000 := by
    obtain ⟨e1, e2, e3, e4⟩ := he
    have h3 := fl3_bd (n := (extS 1 x y z).b * 100) (l := 2576980377600) (by omega) (by omega)
    have hfl : -10000000000000 ≤ flS ⟨(extS 1 x y z).a * 100, (extS 1 x y z).b * 100⟩ ∧ flS ⟨(extS 1 x y z).a * 100, (extS 1 x y z).b * 100⟩ ≤ 10000000000000 := by
      unfold flS
      dsimp only
      omega
    rw [← hF]
    generalize flS ⟨(extS 1 x y z).a * 100, (extS 1 x y z).b * 100⟩ = n at hfl
    constructor
    · rw [Int.le_ediv_iff_mul_le (by omega)]
      have := Int.mul_le_mul_of_nonneg_left q1 (show (0 : Int) ≤ 20000000000000 by decide)
      rw [show (-20000000000000 : Int) * (36 * p * p) = -(20000000000000 * (36 * p * p)) from Int.neg_mul _ _]
      omega
    · have : n / (36 * p * p) < 20000000000001 := by
        rw [Int.ediv_lt_iff_lt_mul (by omega)]
        have := Int.mul_le_mul_of_nonneg_left q1 (show (0 : Int) ≤ 20000000000001 by decide)
        omega
      omega
  obtain ⟨hb1, hb2⟩ := hb
  have HFE := Lib.hid hF
  unfold rateI
  rw [hF]
  clear hF hu hw
  go_enter Try.func77, Try.ntmps77
  go_wp2_with (first | (go_at_call 36; refine (ocabove_c x y z p _ hx hy hz p0 p1).mono ?_; rintro e w' ⟨rfl, kj, rfl⟩; rw [HU.out]) | (go_at_call 34; refine (largest_c x y z _ hx hy hz).mono ?_; rintro e w' ⟨rfl, kj, rfl⟩) | (go_at_call 30; refine (sscale_c (extS 1 x y z) _ he).mono ?_; rintro e w' ⟨rfl, kj, rfl⟩) | (go_at_call 88; (with_reducible refine (HF.out _).mono ?_); rintro e w' ⟨rfl, kj, rfl⟩; rw [HFE.out]))
  go_ret3
  refine ⟨rfl, ?_⟩
  repeat' (first | exact Q.refl _ | refine Q.alloc ?_ _ | refine Q.jk ?_ _ | refine Q.drew ?_)
set_option maxHeartbeats 2000000 in
theorem speed_no (x y z : Cy) (p : Int) (w : World) (hx : x.In 65536) (hy : y.In 65536) (hz : z.In 65536) (p0 : 1 ≤ p) (p1 : p ≤ 16383) (hu : upB x y z p = false) :
    Calls Try.prog 77 #[.agg #[.int .i64 x.a, .int .i64 x.b, .int .i64 x.c, .int .i64 x.d, .int .i64 y.a, .int .i64 y.b, .int .i64 y.c, .int .i64 y.d, .int .i64 z.a, .int .i64 z.b, .int .i64 z.c, .int .i64 z.d], .int .i64 p] w fun e w' => e = .returned (.tuple #[.int .i64 0, .bool false, .int .i64 0]) ∧ Q w w' := by
  have HU : Hid (decide (0 ≤ sgnS ((extS 1 x y z).sub (peakS p))) = false) := Lib.hid hu
  clear hu
  go_enter Try.func77, Try.ntmps77
  go_wp2_with (go_at_call 36; refine (ocabove_c x y z p _ hx hy hz p0 p1).mono ?_; rintro e w' ⟨rfl, kj, rfl⟩; rw [HU.out])
  go_ret3
  refine ⟨rfl, ?_⟩
  repeat' (first | exact Q.refl _ | refine Q.alloc ?_ _ | refine Q.jk ?_ _ | refine Q.drew ?_)
set_option maxHeartbeats 2000000 in
theorem advance_up (g : Int) (x y z : Cy) (p d : Int) (w : World) (hx : x.In 65536) (hy : y.In 65536) (hz : z.In 65536) (g0 : 0 ≤ g) (g1 : g ≤ 1099511627776) (p0 : 1 ≤ p) (p1 : p ≤ 16383) (d0 : 1 ≤ d) (d1 : d ≤ 1000) (hu : upB x y z p = true) :
    Calls Try.prog 40 #[.int .i64 g, .agg #[.int .i64 x.a, .int .i64 x.b, .int .i64 x.c, .int .i64 x.d, .int .i64 y.a, .int .i64 y.b, .int .i64 y.c, .int .i64 y.d, .int .i64 z.a, .int .i64 z.b, .int .i64 z.c, .int .i64 z.d], .int .i64 p, .int .i64 d] w fun e w' => e = .returned (.tuple #[.int .i64 (min (g + rateI x y z p) 1099511627776), .bool (decide (1000 * d ≤ min (g + rateI x y z p) 1099511627776)), .int .i64 0]) ∧ Q w w' := by
  obtain ⟨r0, r1⟩ := rateI_bd x y z p
  go_enter Try.func40, Try.ntmps40
  go_wp2_with (first | (go_at_call 72; refine (ocbetween_ok _ _ _ _ (by omega) (by omega)).mono ?_; rintro e w' ⟨rfl, rfl⟩) | (go_at_call 77; refine (speed_up x y z p _ hx hy hz p0 p1 hu).mono ?_; rintro e w' ⟨rfl, kj, rfl⟩))
  go_ret3
  refine ⟨rfl, ?_⟩
  repeat' (first | exact Q.refl _ | refine Q.alloc ?_ _ | refine Q.jk ?_ _ | refine Q.drew ?_)
set_option maxHeartbeats 2000000 in
theorem advance_no (g : Int) (x y z : Cy) (p d : Int) (w : World) (hx : x.In 65536) (hy : y.In 65536) (hz : z.In 65536) (g0 : 0 ≤ g) (g1 : g ≤ 1099511627776) (p0 : 1 ≤ p) (p1 : p ≤ 16383) (d0 : 1 ≤ d) (d1 : d ≤ 1000) (hu : upB x y z p = false) :
    Calls Try.prog 40 #[.int .i64 g, .agg #[.int .i64 x.a, .int .i64 x.b, .int .i64 x.c, .int .i64 x.d, .int .i64 y.a, .int .i64 y.b, .int .i64 y.c, .int .i64 y.d, .int .i64 z.a, .int .i64 z.b, .int .i64 z.c, .int .i64 z.d], .int .i64 p, .int .i64 d] w fun e w' => e = .returned (.tuple #[.int .i64 (max (g - 50) 0), .bool (decide (1000 * d ≤ max (g - 50) 0)), .int .i64 0]) ∧ Q w w' := by
  go_enter Try.func40, Try.ntmps40
  go_wp2_with (first | (go_at_call 72; refine (ocbetween_ok _ _ _ _ (by omega) (by omega)).mono ?_; rintro e w' ⟨rfl, rfl⟩) | (go_at_call 77; refine (speed_no x y z p _ hx hy hz p0 p1 hu).mono ?_; rintro e w' ⟨rfl, kj, rfl⟩))
  go_ret3
  refine ⟨rfl, ?_⟩
  repeat' (first | exact Q.refl _ | refine Q.alloc ?_ _ | refine Q.jk ?_ _ | refine Q.drew ?_)
set_option maxHeartbeats 2000000 in
theorem steps_up (x y z : Cy) (p d : Int) (w : World) (hx : x.In 65536) (hy : y.In 65536) (hz : z.In 65536) (p0 : 1 ≤ p) (p1 : p ≤ 16383) (d0 : 1 ≤ d) (d1 : d ≤ 1000) (hu : upB x y z p = true) :
    Calls Try.prog 42 #[.agg #[.int .i64 x.a, .int .i64 x.b, .int .i64 x.c, .int .i64 x.d, .int .i64 y.a, .int .i64 y.b, .int .i64 y.c, .int .i64 y.d, .int .i64 z.a, .int .i64 z.b, .int .i64 z.c, .int .i64 z.d], .int .i64 p, .int .i64 d] w fun e w' => e = .returned (.tuple #[.int .i64 ((1000 * d + rateI x y z p - 1) / rateI x y z p), .bool true, .int .i64 0]) ∧ Q w w' := by
  obtain ⟨r0, r1⟩ := rateI_bd x y z p
  go_enter Try.func42, Try.ntmps42
  go_wp2_with (first | (go_at_call 72; refine (ocbetween_ok _ _ _ _ (by omega) (by omega)).mono ?_; rintro e w' ⟨rfl, rfl⟩) | (go_at_call 77; refine (speed_up x y z p _ hx hy hz p0 p1 hu).mono ?_; rintro e w' ⟨rfl, kj, rfl⟩))
  go_ret3
  refine ⟨rfl, ?_⟩
  repeat' (first | exact Q.refl _ | refine Q.alloc ?_ _ | refine Q.jk ?_ _ | refine Q.drew ?_)
set_option maxHeartbeats 2000000 in
theorem steps_no (x y z : Cy) (p d : Int) (w : World) (hx : x.In 65536) (hy : y.In 65536) (hz : z.In 65536) (p0 : 1 ≤ p) (p1 : p ≤ 16383) (d0 : 1 ≤ d) (d1 : d ≤ 1000) (hu : upB x y z p = false) :
    Calls Try.prog 42 #[.agg #[.int .i64 x.a, .int .i64 x.b, .int .i64 x.c, .int .i64 x.d, .int .i64 y.a, .int .i64 y.b, .int .i64 y.c, .int .i64 y.d, .int .i64 z.a, .int .i64 z.b, .int .i64 z.c, .int .i64 z.d], .int .i64 p, .int .i64 d] w fun e w' => e = .returned (.tuple #[.int .i64 0, .bool false, .int .i64 0]) ∧ Q w w' := by
  go_enter Try.func42, Try.ntmps42
  go_wp2_with (first | (go_at_call 72; refine (ocbetween_ok _ _ _ _ (by omega) (by omega)).mono ?_; rintro e w' ⟨rfl, rfl⟩) | (go_at_call 77; refine (speed_no x y z p _ hx hy hz p0 p1 hu).mono ?_; rintro e w' ⟨rfl, kj, rfl⟩))
  go_ret3
  refine ⟨rfl, ?_⟩
  repeat' (first | exact Q.refl _ | refine Q.alloc ?_ _ | refine Q.jk ?_ _ | refine Q.drew ?_)
end Go.Proofs.Ytkkjifgcjfbcaaa
