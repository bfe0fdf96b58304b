
/- What floorRoot, Floor and Round of package surd return. -/
import Derived.Test.YtkkjifgcjfbcaaaDv
import Derived.Test.YtkkjifgcjfbcaaaFlPlain
import Derived.Test.YtkkjifgcjfbcaaaSuC
import Derived.Test.YtkkjifgcjfbcaaaTail
import Derived.WalkMore
namespace Go.Sub
theorem newton_hi {N r : Int} (h0 : 1 ≤ r) (h1 : r ≤ 2305843009213693952) (h : N < (r + 1) * (r + 1)) : N / 18446744073709551616 < r := by
  rw [Int.ediv_lt_iff_lt_mul (by decide)]
  have e : (r + 1) * (r + 1) = r * r + 2 * r + 1 := by grind
  have h2 := Int.mul_le_mul_of_nonneg_left h1 (show 0 ≤ r by omega)
  omega
theorem newton_q {N r : Int} (h0 : 1 ≤ r) (h : N < (r + 1) * (r + 1)) : N / r ≤ r + 2 := by
  have : N / r < r + 3 := by
    rw [Int.ediv_lt_iff_lt_mul (by omega)]
    have e : (r + 1) * (r + 1) = r * r + 2 * r + 1 := by grind
    rw [Int.add_mul]
    omega
  omega
/-- The quotient that Floor returns. -/
def sfloorR (x : Su) (d : Int) : Int × Int := if wi2 1152921504606846976 x.a x.b && decide (1 ≤ d) && decide (d ≤ 1152921504606846976) then (flS x / d, 0) else (0, 1)
end Go.Sub
namespace Go.Proofs.Ytkkjifgcjfbcaaa
open Go.RowKit Go.Sub
def QuotN (N r : Int) (w : World) (e : Ending) (w' : World) : Prop := ∃ t k, e = .returned (.tuple #[.int .u64 (N / r), .int .u64 t]) ∧ w' = w.jk k
theorem div64_n (N r : Int) (w : World) (h0 : 0 ≤ N) (h1 : N / 18446744073709551616 < r) (h2 : r < 18446744073709551616) :
    Calls Try.prog 120 #[.int .u64 (N / 18446744073709551616), .int .u64 (N % 18446744073709551616), .int .u64 r] w (QuotN N r w) := by
  refine (div64_any _ _ r w (by omega) h1 (by omega) (by omega) h2).mono ?_
  rintro e w' ⟨⟨t, rfl⟩, k, rfl⟩
  refine ⟨t, k, ?_, rfl⟩
  rw [show N / 18446744073709551616 * 18446744073709551616 + N % 18446744073709551616 = N by omega]
set_option maxHeartbeats 1000000 in
theorem floorRoot_any (n : Int) (w : World) (h0 : -1152921504606846976 ≤ n) (h1 : n ≤ 1152921504606846976) :
    Calls Try.prog 105 #[.int .i64 n] w fun e w' => e = .returned (.int .i64 (fl3 n)) ∧ Q w w' := by
  by_cases hn : n = 0
  · subst hn
    go_enter Try.func105, Try.ntmps105
    go_wp2
    go_step3
    go_wp2
    rw [Exit.noGoto_ret]
    go_ret
    exact ⟨rfl, Q.refl _⟩
  · have hm : 1 ≤ mag n ∧ mag n ≤ 1152921504606846976 := by unfold mag; split <;> omega
    obtain ⟨m1, m2⟩ := hm
    have hsq := Int.mul_le_mul m1 m1 (by omega) (by omega)
    have HN : Hid (3 * mag n * mag n = 3 * n * n) := Lib.hid (by rw [Int.mul_assoc, mag_sq, Int.mul_assoc])
    obtain ⟨N, hN⟩ : ∃ N, N = 3 * mag n * mag n := ⟨_, rfl⟩
    have n3 : 3 ≤ N := by rw [hN, Int.mul_assoc]; omega
    have hst : N < (2 * mag n + 1) * (2 * mag n + 1) := by
      have e : (2 * mag n + 1) * (2 * mag n + 1) = 4 * (mag n * mag n) + 4 * mag n + 1 := by grind
      rw [hN, Int.mul_assoc]
      omega
    have HNN := Lib.hid hN
    clear hN hsq
    have fin : ∀ r : Int, 1 ≤ r → r * r ≤ N → N < (r + 1) * (r + 1) → isqI (3 * n * n) = r := fun r k0 k1 k2 => by
      refine isqI_unique (by omega) ?_ ?_
      · rw [← HN.out, ← HNN.out]; exact k1
      · rw [← HN.out, ← HNN.out]; exact k2
    have FIN := Lib.hid fin
    clear fin
    go_enter Try.func105, Try.ntmps105
    go_wp2_with fail
    go_step3
    go_wp2_with (first | (go_at_call 56; refine (size_any n _ (by omega) (by omega)).mono ?_; rintro e w' ⟨rfl, rfl⟩) | (go_at_call 58; refine (triple_any (mag n) _ (by omega) (by omega)).mono ?_; rintro e w' ⟨rfl, rfl⟩))
    go_step3
    go_upto_block 0 with (fail)
    rw [← HNN.out]
    go_cut [5] (fun s5 wx => s5 = .int .u64 (isqI (3 * n * n)) ∧ Q w wx)
    case first =>
      go_wp2_with fail
      go_loopw [5] (fun r wr => ∃ r1 : Int, r = .int .u64 r1 ∧ 1 ≤ r1 ∧ r1 ≤ 2305843009213693952 ∧ N < (r1 + 1) * (r1 + 1) ∧ Q w wr) (fun r _ => (intOf r).toNat)
      case atStart => exact ⟨_, rfl, by omega, by omega, hst, Q.refl _⟩
      case round =>
        obtain ⟨r1, rfl, r0, r2, r3, kw, rfl⟩ := hrel
        have q1 := newton_hi r0 r2 r3
        have q2 := newton_q r0 r3
        have q3 : 0 ≤ N / r1 := Int.ediv_nonneg (by omega) (by omega)
        have q4 := newton_low (N := N) (r := r1) (by omega) rfl
        have q5 := newton_end (N := N) (r := r1) (by omega) rfl
        have Q4 := Lib.hid q4
        have Q5 := Lib.hid q5
        have R3 := Lib.hid r3
        clear q4 q5 r3 hst
        have q6 : 1 ≤ (r1 + N / r1) / 2 := by
          have := Q4.out
          rcases Int.lt_or_le 0 ((r1 + N / r1) / 2) with hx | hx
          · omega
          · have e0 : (r1 + N / r1) / 2 = 0 := by omega
            rw [e0] at this
            omega
        by_cases hc : r1 ≤ (r1 + N / r1) / 2
        · go_wp2_with (go_at_call 120; refine (div64_n N r1 _ (by omega) q1 (by omega)).mono ?_; rintro e w' ⟨t, kt, rfl, rfl⟩)
          go_meet
          exact ⟨by rw [FIN.out r1 r0 (Q5.out hc) R3.out], ((Q.refl _).jk _).jk _⟩
        · go_wp2_with (go_at_call 120; refine (div64_n N r1 _ (by omega) q1 (by omega)).mono ?_; rintro e w' ⟨t, kt, rfl, rfl⟩)
          go_roundw
          case rel => exact ⟨_, rfl, by omega, by omega, Q4.out, ((Q.refl _).jk _).jk _⟩
          case measure => simp [intOf]; omega
    case rest =>
      obtain ⟨rfl, kx, rfl⟩ := hcut
      have hb := isq3_bd (n := mag n) (by omega)
      rw [HN.out] at hb
      obtain ⟨hb0, hb1⟩ := hb
      by_cases hneg : n < 0
      · have e : fl3 n = -(isqI (3 * n * n)) - 1 := by simp [fl3, hneg]
        have E := Lib.hid e
        clear e
        go_wp2
        try rw [Exit.noGoto_ret]
        go_ret
        exact ⟨by rw [E.out]; rfl, (Q.refl _).jk _⟩
      · have e : fl3 n = isqI (3 * n * n) := by simp [fl3, hneg]
        have E := Lib.hid e
        clear e
        go_wp2
        try rw [Exit.noGoto_ret]
        go_ret
        exact ⟨by rw [E.out]; rfl, (Q.refl _).jk _⟩
theorem floor_div {n d : Int} (hd : 1 ≤ d) : (n.tmod d < 0 → n.tdiv d - 1 = n / d) ∧ (0 ≤ n.tmod d → n.tdiv d = n / d) := by
  have h1 := Int.mul_tdiv_add_tmod n d
  have h4 : n.tmod d < d := Int.tmod_lt_of_pos n (by omega)
  have h5 : -d < n.tmod d := by
    have := Int.tmod_lt_of_pos (-n) (show 0 < d by omega)
    rw [Int.neg_tmod] at this
    omega
  constructor
  · intro h
    refine (Int.ediv_eq_iff_of_pos (by omega)).2 ⟨?_, ?_⟩ |>.symm
    · rw [Int.sub_mul, Int.mul_comm]; omega
    · rw [Int.sub_mul, Int.mul_comm]; omega
  · intro h
    refine (Int.ediv_eq_iff_of_pos (by omega)).2 ⟨?_, ?_⟩ |>.symm
    · rw [Int.mul_comm]; omega
    · rw [Int.mul_comm]; omega
theorem tdiv_bd {n d l : Int} (hd : 1 ≤ d) (h0 : -l ≤ n) (h1 : n ≤ l) : -l ≤ n.tdiv d ∧ n.tdiv d ≤ l := by
  have key : ∀ m : Int, 0 ≤ m → 0 ≤ m.tdiv d ∧ m.tdiv d ≤ m := fun m hm => by
    rw [Int.tdiv_eq_ediv_of_nonneg hm]
    exact ⟨Int.ediv_nonneg hm (by omega), Int.ediv_le_self _ hm⟩
  rcases Int.le_total 0 n with h | h
  · have := key n h; omega
  · have := key (-n) (by omega)
    rw [Int.neg_tdiv] at this
    omega
set_option maxHeartbeats 1000000 in
theorem sfloor_ok (a b d : Int) (w : World) (h : wi2 1152921504606846976 a b = true) (h1 : 1 ≤ d) (h2 : d ≤ 1152921504606846976) :
    Calls Try.prog 88 #[.agg #[.int .i64 a, .int .i64 b], .int .i64 d] w fun e w' => e = .returned (.tuple #[.int .i64 (flS ⟨a, b⟩ / d), .int .i64 0]) ∧ Q w w' := by
  obtain ⟨l1, l2, l3, l4⟩ := (wi2_iff _ _ _).1 h
  obtain ⟨f1, f2⟩ := fl3_bd l3 l4
  obtain ⟨d1, d2⟩ := floor_div (n := a + fl3 b) h1
  obtain ⟨t1, t2⟩ := tdiv_bd (n := a + fl3 b) (d := d) (l := 3500000000000000000) h1 (by omega) (by omega)
  have D1 := Lib.hid d1
  have D2 := Lib.hid d2
  clear d1 d2
  have EF : Hid (flS ⟨a, b⟩ = a + fl3 b) := Lib.hid rfl
  go_enter Try.func88, Try.ntmps88
  go_wp2_with (go_at_call 61; refine (swithin2 _ a b 1152921504606846976 _ (by omega) (by omega) (by simp [go_sem]) (by simp [go_sem])).mono ?_; rintro e w' ⟨rfl, rfl⟩)
  try simp only [List.append]
  refine wp_region_jk (by kernel_rfl) (by kernel_rfl) ?_
  repeat (go_big_quiet_step ((go_at_call 105; exact Calls.jk_of (floorRoot_any b _ (by omega) (by omega)))))
  refine wpQuiet_nil ?_
  intro _ hw'
  obtain ⟨kq, rfl⟩ := hw'
  go_wp2
  all_goals
    go_ret2
    refine ⟨?_, ?_⟩
    · rw [EF.out]
      first | (rw [← D1.out (by assumption)]; rfl) | (rw [← D2.out (by assumption)]; rfl)
    · repeat' (first | exact Q.refl _ | refine Q.alloc ?_ _ | refine Q.jk ?_ _ | refine Q.drew ?_)
set_option maxHeartbeats 1000000 in
theorem sround_ok (a b d : Int) (w : World) (h : wi2 288230376151711744 a b = true) (h1 : 1 ≤ d) (h2 : d ≤ 288230376151711744) :
    Calls Try.prog 54 #[.agg #[.int .i64 a, .int .i64 b], .int .i64 d] w fun e w' => e = .returned (.tuple #[.int .i64 (flS ⟨2 * a + d, 2 * b⟩ / (2 * d)), .int .i64 0]) ∧ Q w w' := by
  obtain ⟨l1, l2, l3, l4⟩ := (wi2_iff _ _ _).1 h
  go_enter Try.func54, Try.ntmps54
  go_wp2_with (first | (go_at_call 61; refine (swithin2 _ a b 288230376151711744 _ (by omega) (by omega) (by simp [go_sem]) (by simp [go_sem])).mono ?_; rintro e w' ⟨rfl, rfl⟩) | (go_at_call 88; refine (sfloor_ok (2 * a + d) (2 * b) (2 * d) _ ((wi2_iff _ _ _).2 (by omega)) (by omega) (by omega)).mono ?_; rintro e w' ⟨rfl, kj, rfl⟩))
  go_ret2
  refine ⟨rfl, ?_⟩
  repeat' (first | exact Q.refl _ | refine Q.alloc ?_ _ | refine Q.jk ?_ _ | refine Q.drew ?_)
theorem isq12 : flS ⟨2 * 0 + 1, 2 * 1⟩ / (2 * 1) = 2 := by
  have e : fl3 (2 * 1) = 3 := by
    show isqI (3 * (2 * 1) * (2 * 1)) = 3
    exact isqI_unique (by decide) (by decide) (by decide)
  show (2 * 0 + 1 + fl3 (2 * 1)) / (2 * 1) = 2
  rw [e]
  decide
set_option maxHeartbeats 1000000 in
theorem known02 (w : World) :
    Calls Try.prog 16 #[] w fun e w' => e = .returned (.bool true) ∧ Q w w' := by
  have s1 : sgnS ⟨7, -4⟩ = 1 := by decide
  have s2 : sgnS ⟨-7, 4⟩ = -1 := by decide
  go_enter Try.func16, Try.ntmps16
  go_wp2_with (first | (go_at_call 54; refine (sround_ok 0 1 1 _ (by decide) (by omega) (by omega)).mono ?_; rintro e w' ⟨rfl, kj, rfl⟩; rw [isq12]) | (go_at_call 17; refine (sgnS_any _ _ _ (by omega) (by omega) (by omega) (by omega)).mono ?_; rintro e w' ⟨rfl, kj, rfl⟩; first | rw [s1] | rw [s2]))
  go_ret
  refine ⟨rfl, ?_⟩
  repeat' (first | exact Q.refl _ | refine Q.alloc ?_ _ | refine Q.jk ?_ _ | refine Q.drew ?_)
end Go.Proofs.Ytkkjifgcjfbcaaa
