
/- What floor, Floor of substationref02, rate, Advance and Steps of substationref24 return, and Advance and Steps of overcurrent for any arguments. -/
import Derived.Test.YtkkjifgcjfbcaaaBgI
import Derived.Test.YtkkjifgcjfbcaaaOcE
import Derived.Test.YtkkjifgcjfbcaaaOcF
namespace Go.Sub
theorem tdiv2_bd {n : Int} (h0 : -4611686018427387904 ≤ n) (h1 : n ≤ 4611686018427387904) : -2305843009213693952 ≤ n.tdiv 2 ∧ n.tdiv 2 ≤ 2305843009213693952 := by
  rcases Int.lt_or_le n 0 with h | h
  · have := Int.neg_tdiv n 2
    rw [Int.tdiv_eq_ediv_of_nonneg (show 0 ≤ -n by omega)] at this
    omega
  · rw [Int.tdiv_eq_ediv_of_nonneg h]; omega
/-- The truth lies in the interval. -/
def Biv (v l h : Int) : Prop := -4611686018427387904 ≤ l ∧ h ≤ 4611686018427387904 ∧ l ≤ v ∧ v < h ∧ (0 ≤ l ∨ h ≤ 0 ∨ (h = 4611686018427387904 ∧ l = -4611686018427387904))
theorem flS_bd {x : Su} (h : x.In 1152921504606846976) {d : Int} (hd : 1 ≤ d) : Biv (flS x / d) (-4611686018427387904) 4611686018427387904 := by
  obtain ⟨e1, e2, e3, e4⟩ := h
  have h3 := fl3_bd (n := x.b) (l := 1152921504606846976) (by omega) (by omega)
  have hfl : -4611686018427387904 ≤ flS x ∧ flS x < 4611686018427387904 := by unfold flS; omega
  refine ⟨by decide, by decide, ?_, ?_, by omega⟩
  · rw [Int.le_ediv_iff_mul_le (by omega)]
    have := Int.mul_le_mul_of_nonneg_left hd (show (0 : Int) ≤ 4611686018427387904 by decide)
    rw [show (-4611686018427387904 : Int) * d = -(4611686018427387904 * d) from Int.neg_mul _ _]
    omega
  · rw [Int.ediv_lt_iff_lt_mul (by omega)]
    have := Int.mul_le_mul_of_nonneg_left hd (show (0 : Int) ≤ 4611686018427387904 by decide)
    omega
/-- The arguments of an inverse-time element are in their ranges. -/
def okS (x y z : Cy) (p d : Int) : Bool := fine3 x y z && (decide (1 ≤ p) && decide (p ≤ 16383)) && (decide (1 ≤ d) && decide (d ≤ 1000))
end Go.Sub
namespace Go.Proofs.Ytkkjifgcjfbcaaa
open Go.RowKit Go.Sub
set_option maxRecDepth 100000 in
set_option maxHeartbeats 4000000 in
theorem r2floor_z (b : Bool) (A : Option Addr) (n c : Nat) (x : Int) (b' : Bool) (B : Option Addr) (m d : Nat) (y dd : Int) (w : World) (bx : b = decide (x < 0)) (rx : Rd w A n c (dig x.natAbs)) (by' : b' = decide (y < 0)) (ry : Rd w B m d (dig y.natAbs))
    (x0 : -1152921504606846976 ≤ x) (x1 : x ≤ 1152921504606846976) (y0 : -1152921504606846976 ≤ y) (y1 : y ≤ 1152921504606846976) (d0 : 1 ≤ dd) (d1 : dd ≤ 10000000000) :
    Calls Try.prog 110 #[.agg #[.bool b, .slice A n c], .agg #[.bool b', .slice B m d], .int .i64 dd] w fun e w' => e = .returned (.int .i64 (flS ⟨x, y⟩ / dd)) ∧ Q w w' := by
  have HB0 := flS_bd (x := ⟨x, y⟩) ⟨x0, x1, y0, y1⟩ d0
  have RI := Lib.hid (fun k => reach_iff ⟨x, y⟩ k dd d0)
  have RE := Lib.hid (fun (q : Int) (w' : World) (hq : Q w w') (q0 : -4611686018427387904 ≤ q) (q1 : q ≤ 4611686018427387904) => r2reach_z b A n c x b' B m d y q dd w' bx (rx.q hq) by' (ry.q hq) x0 x1 y0 y1 q0 q1 d0 d1)
  obtain ⟨V, hV⟩ : ∃ V, flS ⟨x, y⟩ / dd = V := ⟨_, rfl⟩
  rw [hV] at HB0 RI ⊢
  have HBI := Lib.hid HB0
  clear hV HB0 bx rx by' ry x0 x1 y0 y1
  go_enter Try.func110, Try.ntmps110
  go_wp2_with fail
  go_loopw [7, 8] (fun lo hi wr => ∃ l h : Int, lo = .int .i64 l ∧ hi = .int .i64 h ∧ Hid (Biv V l h) ∧ Q ((w.alloc (.cells #[.bool b, .slice A n c] 71)).alloc (.cells #[.bool b', .slice B m d] 71)) wr) (fun lo hi _ => (intOf hi - intOf lo).toNat)
  case atStart => exact ⟨_, _, rfl, rfl, HBI, Q.refl _⟩
  case round =>
    obtain ⟨l, h, rfl, rfl, HI, kv, rfl⟩ := hrel
    obtain ⟨i0, i1, i2, i3, i4⟩ := HI.out
    by_cases hlt : l + 1 < h
    · obtain ⟨m0, m1⟩ := half_mid hlt (by omega)
      have t1 := tdiv2_bd (n := l) (by omega) (by omega)
      have t2 := tdiv2_bd (n := h) (by omega) (by omega)
      have z1 : h = 4611686018427387904 → h.tdiv 2 = 2305843009213693952 := by rintro rfl; rfl
      have z2 : l = -4611686018427387904 → l.tdiv 2 = -2305843009213693952 := by rintro rfl; rfl
      have I4 := Lib.hid i4
      clear i4
      obtain ⟨h2, eh2⟩ : ∃ h2, h.tdiv 2 = h2 := ⟨_, rfl⟩
      obtain ⟨l2, el2⟩ : ∃ l2, l.tdiv 2 = l2 := ⟨_, rfl⟩
      rw [eh2] at m0 m1 t2 z1
      rw [el2] at m0 m1 t1 z2
      have Z1 := Lib.hid z1
      have Z2 := Lib.hid z2
      clear z1 z2
      obtain ⟨t11, t12⟩ := t1
      obtain ⟨t21, t22⟩ := t2
      by_cases hm : l + (h2 - l2) ≤ V
      all_goals
        have HR : Hid (decide (0 ≤ sgnS ⟨x - (l + (h2 - l2)) * dd, y⟩) = decide (l + (h2 - l2) ≤ V)) := Lib.hid (decide_eq_decide.2 (RI.out _))
        have HM := Lib.hid hm
        have hlt' : l < h - 1 := by omega
        clear hm
        go_wp2_with (go_at_call 123; refine (RE.out _ _ (by repeat' (first | exact Q.refl _ | refine Q.alloc ?_ _ | refine Q.jk ?_ _ | refine Q.drew ?_)) (by omega) (by omega)).mono ?_; rintro e w' ⟨rfl, kj, rfl⟩; rw [HR.out]; first | rw [decide_eq_true HM.out] | rw [decide_eq_false HM.out])
        go_roundw
        case rel =>
          have hm := HM.out
          have i4 := I4.out
          have z1 := Z1.out
          have z2 := Z2.out
          refine ⟨_, _, rfl, rfl, Lib.hid ⟨?_, ?_, ?_, ?_, ?_⟩, by repeat' (first | exact Q.refl _ | refine Q.alloc ?_ _ | refine Q.jk ?_ _ | refine Q.drew ?_)⟩ <;> omega
        case measure =>
          simp [intOf]
          omega
    · obtain rfl : h = l + 1 := by omega
      obtain rfl : V = l := by omega
      have hn : ¬ V < V + 1 - 1 := by omega
      have hn2 : V + 1 - 1 = V := by omega
      clear i4
      go_wp2_with fail
      go_ret
      refine ⟨rfl, ?_⟩
      repeat' (first | exact Q.refl _ | refine Q.alloc ?_ _ | refine Q.jk ?_ _ | refine Q.drew ?_)
set_option maxHeartbeats 4000000 in
theorem r2Floor_c (x : Su) (d : Int) (w : World) (hx : x.In 1152921504606846976) (d0 : 1 ≤ d) (d1 : d ≤ 10000000000) :
    Calls Try.prog 97 #[.agg #[.int .i64 x.a, .int .i64 x.b], .int .i64 d] w fun e w' => e = .returned (.tuple #[.int .i64 (flS x / d), .int .i64 0]) ∧ Q w w' := by
  have hx2 : wi2 1152921504606846976 x.a x.b = true := (wi2_iff _ _ _).2 hx
  obtain ⟨x0, x1, y0, y1⟩ := hx
  have HJ : Hid ((decide (1 ≤ d) && decide (d ≤ 1152921504606846976)) = true) := Lib.hid (by simp; omega)
  go_enter Try.func97, Try.ntmps97
  go_wp2_with (first | (go_at_call 63; refine (r2within_any _ _ 1152921504606846976 _ (by omega) (by omega)).mono ?_; rintro e w' ⟨rfl, kj, rfl⟩) | (go_at_call 66; refine (r2between_any _ _ _ _).mono ?_; rintro e w' ⟨rfl, rfl⟩; rw [HJ.out]))
  go_region_held3 (fun w' => w'.cell? ⟨w.heap.size, 0, none⟩ = some (.int .i64 x.a) ∧ w'.cell? ⟨w.heap.size, 1, none⟩ = some (.int .i64 x.b)) (simp [go_sem])
    (first
     | (go_at_call 60; first | ((with_reducible refine (r1of_any x.a _ (by omega) (by omega)).mono ?_); rintro e w' ⟨A1, n1, c1, k1, rfl, rfl, hr1, hf1⟩; have HR1 := Lib.hid hr1; clear hr1 hf1) | ((with_reducible refine (r1of_any x.b _ (by omega) (by omega)).mono ?_); rintro e w' ⟨A2, n2, c2, k2, rfl, rfl, hr2, hf2⟩; have HR2 := Lib.hid hr2; clear hr2 hf2))
     | (go_at_call 110; refine (r2floor_z _ _ _ _ x.a _ _ _ _ x.b d _ rfl (HR1.out.q (by repeat' (first | exact Q.refl _ | refine Q.alloc ?_ _ | refine Q.jk ?_ _ | refine Q.drew ?_))) rfl (HR2.out.q (by repeat' (first | exact Q.refl _ | refine Q.alloc ?_ _ | refine Q.jk ?_ _ | refine Q.drew ?_))) x0 x1 y0 y1 d0 d1).mono ?_; rintro e w' ⟨rfl, kj, rfl⟩))
  rename_i hHeld
  clear hHeld
  go_wp2
  go_ret2
  refine ⟨rfl, ?_⟩
  repeat' (first | exact Q.refl _ | refine Q.alloc ?_ _ | refine Q.jk ?_ _ | refine Q.drew ?_)
theorem r2scale_c (x : Su) (w : World) (hx : x.In 25769803776) :
    Calls Try.prog 31 #[.agg #[.int .i64 x.a, .int .i64 x.b], .int .i64 100] w fun e w' => e = .returned (.tuple #[.agg #[.int .i64 (x.a * 100), .int .i64 (x.b * 100)], .int .i64 0]) ∧ Q w w' := by
  have h := r2scale_any x.a x.b 100 w
  rw [show sscaleR ⟨x.a, x.b⟩ 100 = _ from sscaleR_ok hx] at h
  exact h
theorem rate_fl {x y z : Cy} {p : Int} (hx : x.In 65536) (hy : y.In 65536) (hz : z.In 65536) (p0 : 1 ≤ p) (p1 : p ≤ 16383) : -20000000000000 ≤ flS ⟨(extS 1 x y z).a * 100, (extS 1 x y z).b * 100⟩ / (36 * p * p) ∧ flS ⟨(extS 1 x y z).a * 100, (extS 1 x y z).b * 100⟩ / (36 * p * p) ≤ 20000000000000 := by
  obtain ⟨q1, q2⟩ := peak_bd p0 p1
  obtain ⟨e1, e2, e3, e4⟩ := extS_in 1 hx hy hz
  have h3 := fl3_bd (n := (extS 1 x y z).b * 100) (l := 2576980377600) (by omega) (by omega)
  have hfl : -10000000000000 ≤ flS ⟨(extS 1 x y z).a * 100, (extS 1 x y z).b * 100⟩ ∧ flS ⟨(extS 1 x y z).a * 100, (extS 1 x y z).b * 100⟩ ≤ 10000000000000 := by
    unfold flS
    dsimp only
    omega
  generalize flS ⟨(extS 1 x y z).a * 100, (extS 1 x y z).b * 100⟩ = n at hfl
  constructor
  · rw [Int.le_ediv_iff_mul_le (by omega)]
    have := Int.mul_le_mul_of_nonneg_left q1 (show (0 : Int) ≤ 20000000000000 by decide)
    rw [show (-20000000000000 : Int) * (36 * p * p) = -(20000000000000 * (36 * p * p)) from Int.neg_mul _ _]
    omega
  · have : n / (36 * p * p) < 20000000000001 := by
      rw [Int.ediv_lt_iff_lt_mul (by omega)]
      have := Int.mul_le_mul_of_nonneg_left q1 (show (0 : Int) ≤ 20000000000001 by decide)
      omega
    omega
set_option maxHeartbeats 4000000 in
theorem rrate_c (x y z : Cy) (p : Int) (w : World) (hx : x.In 65536) (hy : y.In 65536) (hz : z.In 65536) (p0 : 1 ≤ p) (p1 : p ≤ 16383) :
    Calls Try.prog 78 #[.agg #[.int .i64 x.a, .int .i64 x.b, .int .i64 x.c, .int .i64 x.d, .int .i64 y.a, .int .i64 y.b, .int .i64 y.c, .int .i64 y.d, .int .i64 z.a, .int .i64 z.b, .int .i64 z.c, .int .i64 z.d], .int .i64 p] w fun e w' => e = .returned (.int .i64 (rateI x y z p)) ∧ Q w w' := by
  have he := extS_in 1 hx hy hz
  obtain ⟨q1, q2⟩ := peak_bd p0 p1
  obtain ⟨hb1, hb2⟩ := rate_fl hx hy hz p0 p1
  have HFL := Lib.hid (fun w => r2Floor_c ⟨(extS 1 x y z).a * 100, (extS 1 x y z).b * 100⟩ (36 * p * p) w (by unfold Su.In at *; dsimp only; omega) q1 q2)
  have HL := Lib.hid (fun w => rlargest0_c x y z w hx hy hz)
  have HS := Lib.hid (fun w => r2scale_c (extS 1 x y z) w he)
  unfold rateI
  obtain ⟨F, hF⟩ : ∃ F, flS ⟨(extS 1 x y z).a * 100, (extS 1 x y z).b * 100⟩ / (36 * p * p) = F := ⟨_, rfl⟩
  rw [hF] at HFL hb1 hb2 ⊢
  clear hF he
  go_enter Try.func78, Try.ntmps78
  go_wp2_with (first | (go_at_call 71; (with_reducible refine (HL.out _).mono ?_); rintro e w' ⟨rfl, kj, rfl⟩) | (go_at_call 31; (with_reducible refine (HS.out _).mono ?_); rintro e w' ⟨rfl, kj, rfl⟩) | (go_at_call 97; (with_reducible refine (HFL.out _).mono ?_); rintro e w' ⟨rfl, kj, rfl⟩))
  go_ret
  refine ⟨rfl, ?_⟩
  repeat' (first | exact Q.refl _ | refine Q.alloc ?_ _ | refine Q.jk ?_ _ | refine Q.drew ?_)
set_option maxHeartbeats 4000000 in
theorem rsteps_up (x y z : Cy) (p d : Int) (w : World) (HN : Hid (fine3 x y z = true)) (HP : Hid ((decide (1 ≤ p) && decide (p ≤ 16383)) = true)) (HD : Hid ((decide (1 ≤ d) && decide (d ≤ 1000)) = true)) (HU : Hid (upB x y z p = true)) :
    Calls Try.prog 43 #[.agg #[.int .i64 x.a, .int .i64 x.b, .int .i64 x.c, .int .i64 x.d, .int .i64 y.a, .int .i64 y.b, .int .i64 y.c, .int .i64 y.d, .int .i64 z.a, .int .i64 z.b, .int .i64 z.c, .int .i64 z.d], .int .i64 p, .int .i64 d] w fun e w' => e = .returned (.tuple #[.int .i64 ((1000 * d + rateI x y z p - 1) / rateI x y z p), .bool true, .int .i64 0]) ∧ Q w w' := by
  obtain ⟨hx, hy, hz⟩ := fine3_in HN.out
  have hp : 1 ≤ p ∧ p ≤ 16383 := by simpa using HP.out
  have hd : 1 ≤ d ∧ d ≤ 1000 := by simpa using HD.out
  obtain ⟨p0, p1⟩ := hp
  obtain ⟨d0, d1⟩ := hd
  obtain ⟨r0, r1⟩ := rateI_bd x y z p
  go_enter Try.func43, Try.ntmps43
  go_wp2_with ((first | (go_at_call 70; refine (rfine_any x y z _).mono ?_; rintro e w' ⟨rfl, kj, rfl⟩; rw [HN.out]) | (go_at_call 74; refine (rbetween24_any _ _ _ _).mono ?_; rintro e w' ⟨rfl, rfl⟩; first | rw [HP.out] | rw [HD.out]) | (go_at_call 75; refine (rabove0_c x y z p _ hx hy hz p0 p1).mono ?_; rintro e w' ⟨rfl, kj, rfl⟩; rw [HU.out]) | (go_at_call 78; refine (rrate_c x y z p _ hx hy hz p0 p1).mono ?_; rintro e w' ⟨rfl, kj, rfl⟩)))
  go_ret3
  refine ⟨rfl, ?_⟩
  repeat' (first | exact Q.refl _ | refine Q.alloc ?_ _ | refine Q.jk ?_ _ | refine Q.drew ?_)
set_option maxHeartbeats 4000000 in
theorem rsteps_down (x y z : Cy) (p d : Int) (w : World) (HN : Hid (fine3 x y z = true)) (HP : Hid ((decide (1 ≤ p) && decide (p ≤ 16383)) = true)) (HD : Hid ((decide (1 ≤ d) && decide (d ≤ 1000)) = true)) (HU : Hid (upB x y z p = false)) :
    Calls Try.prog 43 #[.agg #[.int .i64 x.a, .int .i64 x.b, .int .i64 x.c, .int .i64 x.d, .int .i64 y.a, .int .i64 y.b, .int .i64 y.c, .int .i64 y.d, .int .i64 z.a, .int .i64 z.b, .int .i64 z.c, .int .i64 z.d], .int .i64 p, .int .i64 d] w fun e w' => e = .returned (.tuple #[.int .i64 0, .bool false, .int .i64 0]) ∧ Q w w' := by
  obtain ⟨hx, hy, hz⟩ := fine3_in HN.out
  have hp : 1 ≤ p ∧ p ≤ 16383 := by simpa using HP.out
  have hd : 1 ≤ d ∧ d ≤ 1000 := by simpa using HD.out
  obtain ⟨p0, p1⟩ := hp
  obtain ⟨d0, d1⟩ := hd
  obtain ⟨r0, r1⟩ := rateI_bd x y z p
  go_enter Try.func43, Try.ntmps43
  go_wp2_with ((first | (go_at_call 70; refine (rfine_any x y z _).mono ?_; rintro e w' ⟨rfl, kj, rfl⟩; rw [HN.out]) | (go_at_call 74; refine (rbetween24_any _ _ _ _).mono ?_; rintro e w' ⟨rfl, rfl⟩; first | rw [HP.out] | rw [HD.out]) | (go_at_call 75; refine (rabove0_c x y z p _ hx hy hz p0 p1).mono ?_; rintro e w' ⟨rfl, kj, rfl⟩; rw [HU.out])))
  go_ret3
  refine ⟨rfl, ?_⟩
  repeat' (first | exact Q.refl _ | refine Q.alloc ?_ _ | refine Q.jk ?_ _ | refine Q.drew ?_)
set_option maxHeartbeats 4000000 in
theorem rsteps_b1 (x y z : Cy) (p d : Int) (w : World) (HN : Hid (fine3 x y z = false)) :
    Calls Try.prog 43 #[.agg #[.int .i64 x.a, .int .i64 x.b, .int .i64 x.c, .int .i64 x.d, .int .i64 y.a, .int .i64 y.b, .int .i64 y.c, .int .i64 y.d, .int .i64 z.a, .int .i64 z.b, .int .i64 z.c, .int .i64 z.d], .int .i64 p, .int .i64 d] w fun e w' => e = .returned (.tuple #[.int .i64 0, .bool false, .int .i64 1]) ∧ Q w w' := by
  go_enter Try.func43, Try.ntmps43
  go_wp2_with ((go_at_call 70; refine (rfine_any x y z _).mono ?_; rintro e w' ⟨rfl, kj, rfl⟩; rw [HN.out]))
  go_ret3
  refine ⟨rfl, ?_⟩
  repeat' (first | exact Q.refl _ | refine Q.alloc ?_ _ | refine Q.jk ?_ _ | refine Q.drew ?_)
set_option maxHeartbeats 4000000 in
theorem rsteps_b2 (x y z : Cy) (p d : Int) (w : World) (HN : Hid (fine3 x y z = true)) (HP : Hid ((decide (1 ≤ p) && decide (p ≤ 16383)) = false)) :
    Calls Try.prog 43 #[.agg #[.int .i64 x.a, .int .i64 x.b, .int .i64 x.c, .int .i64 x.d, .int .i64 y.a, .int .i64 y.b, .int .i64 y.c, .int .i64 y.d, .int .i64 z.a, .int .i64 z.b, .int .i64 z.c, .int .i64 z.d], .int .i64 p, .int .i64 d] w fun e w' => e = .returned (.tuple #[.int .i64 0, .bool false, .int .i64 1]) ∧ Q w w' := by
  go_enter Try.func43, Try.ntmps43
  go_wp2_with ((first | (go_at_call 70; refine (rfine_any x y z _).mono ?_; rintro e w' ⟨rfl, kj, rfl⟩; rw [HN.out]) | (go_at_call 74; refine (rbetween24_any _ _ _ _).mono ?_; rintro e w' ⟨rfl, rfl⟩; rw [HP.out])))
  go_ret3
  refine ⟨rfl, ?_⟩
  repeat' (first | exact Q.refl _ | refine Q.alloc ?_ _ | refine Q.jk ?_ _ | refine Q.drew ?_)
set_option maxHeartbeats 4000000 in
theorem rsteps_b3 (x y z : Cy) (p d : Int) (w : World) (HN : Hid (fine3 x y z = true)) (HP : Hid ((decide (1 ≤ p) && decide (p ≤ 16383)) = true)) (HD : Hid ((decide (1 ≤ d) && decide (d ≤ 1000)) = false)) :
    Calls Try.prog 43 #[.agg #[.int .i64 x.a, .int .i64 x.b, .int .i64 x.c, .int .i64 x.d, .int .i64 y.a, .int .i64 y.b, .int .i64 y.c, .int .i64 y.d, .int .i64 z.a, .int .i64 z.b, .int .i64 z.c, .int .i64 z.d], .int .i64 p, .int .i64 d] w fun e w' => e = .returned (.tuple #[.int .i64 0, .bool false, .int .i64 1]) ∧ Q w w' := by
  go_enter Try.func43, Try.ntmps43
  go_wp2_with ((first | (go_at_call 70; refine (rfine_any x y z _).mono ?_; rintro e w' ⟨rfl, kj, rfl⟩; rw [HN.out]) | (go_at_call 74; refine (rbetween24_any _ _ _ _).mono ?_; rintro e w' ⟨rfl, rfl⟩; first | rw [HP.out] | rw [HD.out])))
  go_ret3
  refine ⟨rfl, ?_⟩
  repeat' (first | exact Q.refl _ | refine Q.alloc ?_ _ | refine Q.jk ?_ _ | refine Q.drew ?_)
set_option maxHeartbeats 4000000 in
theorem radv_up (g : Int) (x y z : Cy) (p d : Int) (w : World) (HN : Hid (fine3 x y z = true)) (HP : Hid ((decide (1 ≤ p) && decide (p ≤ 16383)) = true)) (HD : Hid ((decide (1 ≤ d) && decide (d ≤ 1000)) = true)) (HG : Hid ((decide (0 ≤ g) && decide (g ≤ 1099511627776)) = true)) (HU : Hid (upB x y z p = true)) :
    Calls Try.prog 41 #[.int .i64 g, .agg #[.int .i64 x.a, .int .i64 x.b, .int .i64 x.c, .int .i64 x.d, .int .i64 y.a, .int .i64 y.b, .int .i64 y.c, .int .i64 y.d, .int .i64 z.a, .int .i64 z.b, .int .i64 z.c, .int .i64 z.d], .int .i64 p, .int .i64 d] w fun e w' => e = .returned (.tuple #[.int .i64 (min (g + rateI x y z p) 1099511627776), .bool (decide (1000 * d ≤ min (g + rateI x y z p) 1099511627776)), .int .i64 0]) ∧ Q w w' := by
  obtain ⟨hx, hy, hz⟩ := fine3_in HN.out
  have hp : 1 ≤ p ∧ p ≤ 16383 := by simpa using HP.out
  have hd : 1 ≤ d ∧ d ≤ 1000 := by simpa using HD.out
  obtain ⟨p0, p1⟩ := hp
  obtain ⟨d0, d1⟩ := hd
  obtain ⟨r0, r1⟩ := rateI_bd x y z p
  have hg : 0 ≤ g ∧ g ≤ 1099511627776 := by simpa using HG.out
  obtain ⟨g0, g1⟩ := hg
  go_enter Try.func41, Try.ntmps41
  go_wp2_with ((first | (go_at_call 70; refine (rfine_any x y z _).mono ?_; rintro e w' ⟨rfl, kj, rfl⟩; rw [HN.out]) | (go_at_call 74; refine (rbetween24_any _ _ _ _).mono ?_; rintro e w' ⟨rfl, rfl⟩; first | rw [HP.out] | rw [HD.out] | rw [HG.out]) | (go_at_call 75; refine (rabove0_c x y z p _ hx hy hz p0 p1).mono ?_; rintro e w' ⟨rfl, kj, rfl⟩; rw [HU.out]) | (go_at_call 78; refine (rrate_c x y z p _ hx hy hz p0 p1).mono ?_; rintro e w' ⟨rfl, kj, rfl⟩)))
  go_ret3
  refine ⟨rfl, ?_⟩
  repeat' (first | exact Q.refl _ | refine Q.alloc ?_ _ | refine Q.jk ?_ _ | refine Q.drew ?_)
set_option maxHeartbeats 4000000 in
theorem radv_down (g : Int) (x y z : Cy) (p d : Int) (w : World) (HN : Hid (fine3 x y z = true)) (HP : Hid ((decide (1 ≤ p) && decide (p ≤ 16383)) = true)) (HD : Hid ((decide (1 ≤ d) && decide (d ≤ 1000)) = true)) (HG : Hid ((decide (0 ≤ g) && decide (g ≤ 1099511627776)) = true)) (HU : Hid (upB x y z p = false)) :
    Calls Try.prog 41 #[.int .i64 g, .agg #[.int .i64 x.a, .int .i64 x.b, .int .i64 x.c, .int .i64 x.d, .int .i64 y.a, .int .i64 y.b, .int .i64 y.c, .int .i64 y.d, .int .i64 z.a, .int .i64 z.b, .int .i64 z.c, .int .i64 z.d], .int .i64 p, .int .i64 d] w fun e w' => e = .returned (.tuple #[.int .i64 (max (g - 50) 0), .bool (decide (1000 * d ≤ max (g - 50) 0)), .int .i64 0]) ∧ Q w w' := by
  obtain ⟨hx, hy, hz⟩ := fine3_in HN.out
  have hp : 1 ≤ p ∧ p ≤ 16383 := by simpa using HP.out
  have hd : 1 ≤ d ∧ d ≤ 1000 := by simpa using HD.out
  obtain ⟨p0, p1⟩ := hp
  obtain ⟨d0, d1⟩ := hd
  obtain ⟨r0, r1⟩ := rateI_bd x y z p
  have hg : 0 ≤ g ∧ g ≤ 1099511627776 := by simpa using HG.out
  obtain ⟨g0, g1⟩ := hg
  go_enter Try.func41, Try.ntmps41
  go_wp2_with ((first | (go_at_call 70; refine (rfine_any x y z _).mono ?_; rintro e w' ⟨rfl, kj, rfl⟩; rw [HN.out]) | (go_at_call 74; refine (rbetween24_any _ _ _ _).mono ?_; rintro e w' ⟨rfl, rfl⟩; first | rw [HP.out] | rw [HD.out] | rw [HG.out]) | (go_at_call 75; refine (rabove0_c x y z p _ hx hy hz p0 p1).mono ?_; rintro e w' ⟨rfl, kj, rfl⟩; rw [HU.out])))
  go_ret3
  refine ⟨rfl, ?_⟩
  repeat' (first | exact Q.refl _ | refine Q.alloc ?_ _ | refine Q.jk ?_ _ | refine Q.drew ?_)
set_option maxHeartbeats 4000000 in
theorem radv_b1 (g : Int) (x y z : Cy) (p d : Int) (w : World) (HN : Hid (fine3 x y z = false)) :
    Calls Try.prog 41 #[.int .i64 g, .agg #[.int .i64 x.a, .int .i64 x.b, .int .i64 x.c, .int .i64 x.d, .int .i64 y.a, .int .i64 y.b, .int .i64 y.c, .int .i64 y.d, .int .i64 z.a, .int .i64 z.b, .int .i64 z.c, .int .i64 z.d], .int .i64 p, .int .i64 d] w fun e w' => e = .returned (.tuple #[.int .i64 0, .bool false, .int .i64 1]) ∧ Q w w' := by
  go_enter Try.func41, Try.ntmps41
  go_wp2_with ((go_at_call 70; refine (rfine_any x y z _).mono ?_; rintro e w' ⟨rfl, kj, rfl⟩; rw [HN.out]))
  go_ret3
  refine ⟨rfl, ?_⟩
  repeat' (first | exact Q.refl _ | refine Q.alloc ?_ _ | refine Q.jk ?_ _ | refine Q.drew ?_)
set_option maxHeartbeats 4000000 in
theorem radv_b2 (g : Int) (x y z : Cy) (p d : Int) (w : World) (HN : Hid (fine3 x y z = true)) (HP : Hid ((decide (1 ≤ p) && decide (p ≤ 16383)) = false)) :
    Calls Try.prog 41 #[.int .i64 g, .agg #[.int .i64 x.a, .int .i64 x.b, .int .i64 x.c, .int .i64 x.d, .int .i64 y.a, .int .i64 y.b, .int .i64 y.c, .int .i64 y.d, .int .i64 z.a, .int .i64 z.b, .int .i64 z.c, .int .i64 z.d], .int .i64 p, .int .i64 d] w fun e w' => e = .returned (.tuple #[.int .i64 0, .bool false, .int .i64 1]) ∧ Q w w' := by
  go_enter Try.func41, Try.ntmps41
  go_wp2_with ((first | (go_at_call 70; refine (rfine_any x y z _).mono ?_; rintro e w' ⟨rfl, kj, rfl⟩; rw [HN.out]) | (go_at_call 74; refine (rbetween24_any _ _ _ _).mono ?_; rintro e w' ⟨rfl, rfl⟩; rw [HP.out])))
  go_ret3
  refine ⟨rfl, ?_⟩
  repeat' (first | exact Q.refl _ | refine Q.alloc ?_ _ | refine Q.jk ?_ _ | refine Q.drew ?_)
set_option maxHeartbeats 4000000 in
theorem radv_b3 (g : Int) (x y z : Cy) (p d : Int) (w : World) (HN : Hid (fine3 x y z = true)) (HP : Hid ((decide (1 ≤ p) && decide (p ≤ 16383)) = true)) (HD : Hid ((decide (1 ≤ d) && decide (d ≤ 1000)) = false)) :
    Calls Try.prog 41 #[.int .i64 g, .agg #[.int .i64 x.a, .int .i64 x.b, .int .i64 x.c, .int .i64 x.d, .int .i64 y.a, .int .i64 y.b, .int .i64 y.c, .int .i64 y.d, .int .i64 z.a, .int .i64 z.b, .int .i64 z.c, .int .i64 z.d], .int .i64 p, .int .i64 d] w fun e w' => e = .returned (.tuple #[.int .i64 0, .bool false, .int .i64 1]) ∧ Q w w' := by
  go_enter Try.func41, Try.ntmps41
  go_wp2_with ((first | (go_at_call 70; refine (rfine_any x y z _).mono ?_; rintro e w' ⟨rfl, kj, rfl⟩; rw [HN.out]) | (go_at_call 74; refine (rbetween24_any _ _ _ _).mono ?_; rintro e w' ⟨rfl, rfl⟩; first | rw [HP.out] | rw [HD.out])))
  go_ret3
  refine ⟨rfl, ?_⟩
  repeat' (first | exact Q.refl _ | refine Q.alloc ?_ _ | refine Q.jk ?_ _ | refine Q.drew ?_)
set_option maxHeartbeats 4000000 in
theorem radv_b4 (g : Int) (x y z : Cy) (p d : Int) (w : World) (HN : Hid (fine3 x y z = true)) (HP : Hid ((decide (1 ≤ p) && decide (p ≤ 16383)) = true)) (HD : Hid ((decide (1 ≤ d) && decide (d ≤ 1000)) = true)) (HG : Hid ((decide (0 ≤ g) && decide (g ≤ 1099511627776)) = false)) :
    Calls Try.prog 41 #[.int .i64 g, .agg #[.int .i64 x.a, .int .i64 x.b, .int .i64 x.c, .int .i64 x.d, .int .i64 y.a, .int .i64 y.b, .int .i64 y.c, .int .i64 y.d, .int .i64 z.a, .int .i64 z.b, .int .i64 z.c, .int .i64 z.d], .int .i64 p, .int .i64 d] w fun e w' => e = .returned (.tuple #[.int .i64 0, .bool false, .int .i64 1]) ∧ Q w w' := by
  go_enter Try.func41, Try.ntmps41
  go_wp2_with ((first | (go_at_call 70; refine (rfine_any x y z _).mono ?_; rintro e w' ⟨rfl, kj, rfl⟩; rw [HN.out]) | (go_at_call 74; refine (rbetween24_any _ _ _ _).mono ?_; rintro e w' ⟨rfl, rfl⟩; first | rw [HP.out] | rw [HD.out] | rw [HG.out])))
  go_ret3
  refine ⟨rfl, ?_⟩
  repeat' (first | exact Q.refl _ | refine Q.alloc ?_ _ | refine Q.jk ?_ _ | refine Q.drew ?_)
set_option maxHeartbeats 4000000 in
theorem speed_bad (x y z : Cy) (p : Int) (w : World) (HX : (fine3 x y z && (decide (1 ≤ p) && decide (p ≤ 16383))) = false) :
    Calls Try.prog 77 #[.agg #[.int .i64 x.a, .int .i64 x.b, .int .i64 x.c, .int .i64 x.d, .int .i64 y.a, .int .i64 y.b, .int .i64 y.c, .int .i64 y.d, .int .i64 z.a, .int .i64 z.b, .int .i64 z.c, .int .i64 z.d], .int .i64 p] w fun e w' => e = .returned (.tuple #[.int .i64 0, .bool false, .int .i64 1]) ∧ Q w w' := by
  have HX' := HX
  clear HX
  have HX := Lib.hid HX'
  clear HX'
  go_enter Try.func77, Try.ntmps77
  go_wp2_with ((go_at_call 36; refine (ocabove_no x y z p _ HX.out).mono ?_; rintro e w' ⟨rfl, kj, rfl⟩))
  go_ret3
  refine ⟨rfl, ?_⟩
  repeat' (first | exact Q.refl _ | refine Q.alloc ?_ _ | refine Q.jk ?_ _ | refine Q.drew ?_)
set_option maxHeartbeats 4000000 in
theorem steps_b1 (x y z : Cy) (p d : Int) (w : World) (HD : Hid ((decide (1 ≤ d) && decide (d ≤ 1000)) = false)) :
    Calls Try.prog 42 #[.agg #[.int .i64 x.a, .int .i64 x.b, .int .i64 x.c, .int .i64 x.d, .int .i64 y.a, .int .i64 y.b, .int .i64 y.c, .int .i64 y.d, .int .i64 z.a, .int .i64 z.b, .int .i64 z.c, .int .i64 z.d], .int .i64 p, .int .i64 d] w fun e w' => e = .returned (.tuple #[.int .i64 0, .bool false, .int .i64 1]) ∧ Q w w' := by
  go_enter Try.func42, Try.ntmps42
  go_wp2_with ((go_at_call 72; refine (ocbetween_any _ _ _ _).mono ?_; rintro e w' ⟨rfl, rfl⟩; rw [HD.out]))
  go_ret3
  refine ⟨rfl, ?_⟩
  repeat' (first | exact Q.refl _ | refine Q.alloc ?_ _ | refine Q.jk ?_ _ | refine Q.drew ?_)
set_option maxHeartbeats 4000000 in
theorem steps_b2 (x y z : Cy) (p d : Int) (w : World) (HD : Hid ((decide (1 ≤ d) && decide (d ≤ 1000)) = true)) (HX : Hid ((fine3 x y z && (decide (1 ≤ p) && decide (p ≤ 16383))) = false)) :
    Calls Try.prog 42 #[.agg #[.int .i64 x.a, .int .i64 x.b, .int .i64 x.c, .int .i64 x.d, .int .i64 y.a, .int .i64 y.b, .int .i64 y.c, .int .i64 y.d, .int .i64 z.a, .int .i64 z.b, .int .i64 z.c, .int .i64 z.d], .int .i64 p, .int .i64 d] w fun e w' => e = .returned (.tuple #[.int .i64 0, .bool false, .int .i64 1]) ∧ Q w w' := by
  go_enter Try.func42, Try.ntmps42
  go_wp2_with ((first | (go_at_call 72; refine (ocbetween_any _ _ _ _).mono ?_; rintro e w' ⟨rfl, rfl⟩; rw [HD.out]) | (go_at_call 77; refine (speed_bad x y z p _ HX.out).mono ?_; rintro e w' ⟨rfl, kj, rfl⟩)))
  go_ret3
  refine ⟨rfl, ?_⟩
  repeat' (first | exact Q.refl _ | refine Q.alloc ?_ _ | refine Q.jk ?_ _ | refine Q.drew ?_)
set_option maxHeartbeats 4000000 in
theorem adv_b1 (g : Int) (x y z : Cy) (p d : Int) (w : World) (HG : Hid ((decide (0 ≤ g) && decide (g ≤ 1099511627776)) = false)) :
    Calls Try.prog 40 #[.int .i64 g, .agg #[.int .i64 x.a, .int .i64 x.b, .int .i64 x.c, .int .i64 x.d, .int .i64 y.a, .int .i64 y.b, .int .i64 y.c, .int .i64 y.d, .int .i64 z.a, .int .i64 z.b, .int .i64 z.c, .int .i64 z.d], .int .i64 p, .int .i64 d] w fun e w' => e = .returned (.tuple #[.int .i64 0, .bool false, .int .i64 1]) ∧ Q w w' := by
  go_enter Try.func40, Try.ntmps40
  go_wp2_with ((go_at_call 72; refine (ocbetween_any _ _ _ _).mono ?_; rintro e w' ⟨rfl, rfl⟩; rw [HG.out]))
  go_ret3
  refine ⟨rfl, ?_⟩
  repeat' (first | exact Q.refl _ | refine Q.alloc ?_ _ | refine Q.jk ?_ _ | refine Q.drew ?_)
set_option maxHeartbeats 4000000 in
theorem adv_b2 (g : Int) (x y z : Cy) (p d : Int) (w : World) (HG : Hid ((decide (0 ≤ g) && decide (g ≤ 1099511627776)) = true)) (HD : Hid ((decide (1 ≤ d) && decide (d ≤ 1000)) = false)) :
    Calls Try.prog 40 #[.int .i64 g, .agg #[.int .i64 x.a, .int .i64 x.b, .int .i64 x.c, .int .i64 x.d, .int .i64 y.a, .int .i64 y.b, .int .i64 y.c, .int .i64 y.d, .int .i64 z.a, .int .i64 z.b, .int .i64 z.c, .int .i64 z.d], .int .i64 p, .int .i64 d] w fun e w' => e = .returned (.tuple #[.int .i64 0, .bool false, .int .i64 1]) ∧ Q w w' := by
  go_enter Try.func40, Try.ntmps40
  go_wp2_with ((go_at_call 72; refine (ocbetween_any _ _ _ _).mono ?_; rintro e w' ⟨rfl, rfl⟩; first | rw [HG.out] | rw [HD.out]))
  go_ret3
  refine ⟨rfl, ?_⟩
  repeat' (first | exact Q.refl _ | refine Q.alloc ?_ _ | refine Q.jk ?_ _ | refine Q.drew ?_)
set_option maxHeartbeats 4000000 in
theorem adv_b3 (g : Int) (x y z : Cy) (p d : Int) (w : World) (HG : Hid ((decide (0 ≤ g) && decide (g ≤ 1099511627776)) = true)) (HD : Hid ((decide (1 ≤ d) && decide (d ≤ 1000)) = true)) (HX : Hid ((fine3 x y z && (decide (1 ≤ p) && decide (p ≤ 16383))) = false)) :
    Calls Try.prog 40 #[.int .i64 g, .agg #[.int .i64 x.a, .int .i64 x.b, .int .i64 x.c, .int .i64 x.d, .int .i64 y.a, .int .i64 y.b, .int .i64 y.c, .int .i64 y.d, .int .i64 z.a, .int .i64 z.b, .int .i64 z.c, .int .i64 z.d], .int .i64 p, .int .i64 d] w fun e w' => e = .returned (.tuple #[.int .i64 0, .bool false, .int .i64 1]) ∧ Q w w' := by
  go_enter Try.func40, Try.ntmps40
  go_wp2_with ((first | (go_at_call 72; refine (ocbetween_any _ _ _ _).mono ?_; rintro e w' ⟨rfl, rfl⟩; first | rw [HG.out] | rw [HD.out]) | (go_at_call 77; refine (speed_bad x y z p _ HX.out).mono ?_; rintro e w' ⟨rfl, kj, rfl⟩)))
  go_ret3
  refine ⟨rfl, ?_⟩
  repeat' (first | exact Q.refl _ | refine Q.alloc ?_ _ | refine Q.jk ?_ _ | refine Q.drew ?_)
end Go.Proofs.Ytkkjifgcjfbcaaa
