
/- What times and Scale of package surd return. -/
import Derived.Test.YtkkjifgcjfbcaaaSuM
namespace Go.Sub
def sscaleR (x : Su) (k : Int) : R2 := if wi3 1152921504606846976 x.a x.b k then limS ⟨x.a * k, x.b * k⟩ else ⟨zeroS, 1⟩
theorem mag_mul (n k : Int) : mag n * mag k = mag (n * k) := by
  unfold mag
  rcases Int.lt_or_le n 0 with h | h <;> rcases Int.lt_or_le k 0 with h' | h'
  · have := Int.mul_pos_of_neg_of_neg h h'
    rw [if_pos h, if_pos h', if_neg (by omega), Int.neg_mul_neg]
  · rw [if_pos h, if_neg (by omega)]
    rcases Int.lt_or_le 0 k with hk | hk
    · have := Int.mul_neg_of_neg_of_pos h hk
      rw [if_pos this, Int.neg_mul]
    · obtain rfl : k = 0 := by omega
      simp
  · rw [if_neg (by omega), if_pos h']
    rcases Int.lt_or_le 0 n with hn | hn
    · have := Int.mul_neg_of_pos_of_neg hn h'
      rw [if_pos this, Int.mul_neg]
    · obtain rfl : n = 0 := by omega
      simp
  · have := Int.mul_nonneg h h'
    rw [if_neg (by omega), if_neg (by omega), if_neg (by omega)]
end Go.Sub
namespace Go.Proofs.Ytkkjifgcjfbcaaa
open Go.RowKit Go.Sub

set_option maxHeartbeats 1000000 in
theorem swithin3 (bk : Nat) (a b c l : Int) (w : World) (h0 : 0 ≤ l) (h1 : l ≤ 4000000000000000000) (c0 : w.cell? ⟨bk, 0, none⟩ = some (.int .i64 a)) (c1 : w.cell? ⟨bk, 1, none⟩ = some (.int .i64 b)) (c2 : w.cell? ⟨bk, 2, none⟩ = some (.int .i64 c)) :
    Calls Try.prog 61 #[.int .i64 l, .slice (some ⟨bk, 0, none⟩) 3 3] w fun e w' => e = .returned (.bool (wi3 l a b c)) ∧ w = w' := by
  go_enter Try.func61, Try.ntmps61
  go_wp2
  refine wp_loop_rounds 4 ?_
  repeat any_goals (rw [rounds_succ]; go_wp2)
  all_goals go_ret
  all_goals (refine ⟨?_, rfl⟩; simp [wi3, brkB, *] <;> omega)

set_option maxHeartbeats 1000000 in
theorem times_ok (n k : Int) (w : World) (h0 : -9223372036854775808 ≤ n) (h1 : n ≤ 9223372036854775807) (k0 : -9223372036854775808 ≤ k) (k1 : k ≤ 9223372036854775807) (b0 : -4611686018427387904 ≤ n * k) (b1 : n * k ≤ 4611686018427387904) :
    Calls Try.prog 65 #[.int .i64 n, .int .i64 k] w fun e w' => e = .returned (.tuple #[.int .i64 (n * k), .bool true]) ∧ w = w' := by
  obtain ⟨mn0, mn1⟩ := mag_bd (n := n) (by omega) (by omega)
  obtain ⟨mk0, mk1⟩ := mag_bd (n := k) (by omega) (by omega)
  have hm : mag n * mag k ≤ 4611686018427387904 := by rw [mag_mul]; unfold mag; split <;> omega
  have hp : 0 ≤ mag n * mag k := Int.mul_nonneg mn0 mk0
  have q1 : (mag n * mag k / 18446744073709551616 != 0) = false := by
    rw [show mag n * mag k / 18446744073709551616 = 0 by omega]; rfl
  have q2 : ¬ 4611686018427387904 < mag n * mag k % 18446744073709551616 := by omega
  clear hm hp
  go_enter Try.func65, Try.ntmps65
  go_wp2_with (first | (go_at_call 57; refine (mul64_any _ _ _ (by omega) (by omega) (by omega) (by omega)).mono ?_; rintro e w' ⟨rfl, rfl⟩) | (go_at_call 56; refine (size_any _ _ (by omega) (by omega)).mono ?_; rintro e w' ⟨rfl, rfl⟩))
  go_ret2
  exact ⟨rfl, rfl⟩

set_option maxHeartbeats 1000000 in
theorem times_no1 (n k : Int) (w : World) (h0 : -9223372036854775808 ≤ n) (h1 : n ≤ 9223372036854775807) (k0 : -9223372036854775808 ≤ k) (k1 : k ≤ 9223372036854775807) (q1 : (mag n * mag k / 18446744073709551616 != 0) = true) :
    Calls Try.prog 65 #[.int .i64 n, .int .i64 k] w fun e w' => e = .returned (.tuple #[.int .i64 0, .bool false]) ∧ w = w' := by
  obtain ⟨mn0, mn1⟩ := mag_bd (n := n) (by omega) (by omega)
  obtain ⟨mk0, mk1⟩ := mag_bd (n := k) (by omega) (by omega)
  go_enter Try.func65, Try.ntmps65
  go_wp2_with (first | (go_at_call 57; refine (mul64_any _ _ _ (by omega) (by omega) (by omega) (by omega)).mono ?_; rintro e w' ⟨rfl, rfl⟩) | (go_at_call 56; refine (size_any _ _ (by omega) (by omega)).mono ?_; rintro e w' ⟨rfl, rfl⟩))
  go_ret2
  exact ⟨rfl, rfl⟩

set_option maxHeartbeats 1000000 in
theorem times_no2 (n k : Int) (w : World) (h0 : -9223372036854775808 ≤ n) (h1 : n ≤ 9223372036854775807) (k0 : -9223372036854775808 ≤ k) (k1 : k ≤ 9223372036854775807) (q1 : (mag n * mag k / 18446744073709551616 != 0) = false) (q2 : 4611686018427387904 < mag n * mag k % 18446744073709551616) :
    Calls Try.prog 65 #[.int .i64 n, .int .i64 k] w fun e w' => e = .returned (.tuple #[.int .i64 0, .bool false]) ∧ w = w' := by
  obtain ⟨mn0, mn1⟩ := mag_bd (n := n) (by omega) (by omega)
  obtain ⟨mk0, mk1⟩ := mag_bd (n := k) (by omega) (by omega)
  go_enter Try.func65, Try.ntmps65
  go_wp2_with (first | (go_at_call 57; refine (mul64_any _ _ _ (by omega) (by omega) (by omega) (by omega)).mono ?_; rintro e w' ⟨rfl, rfl⟩) | (go_at_call 56; refine (size_any _ _ (by omega) (by omega)).mono ?_; rintro e w' ⟨rfl, rfl⟩))
  go_ret2
  exact ⟨rfl, rfl⟩

theorem times_no (n k : Int) (w : World) (h0 : -9223372036854775808 ≤ n) (h1 : n ≤ 9223372036854775807) (k0 : -9223372036854775808 ≤ k) (k1 : k ≤ 9223372036854775807) (b : ¬ (-4611686018427387904 ≤ n * k ∧ n * k ≤ 4611686018427387904)) :
    Calls Try.prog 65 #[.int .i64 n, .int .i64 k] w fun e w' => e = .returned (.tuple #[.int .i64 0, .bool false]) ∧ w = w' := by
  have hm : 4611686018427387904 < mag n * mag k := by rw [mag_mul]; unfold mag; split <;> omega
  cases q1 : (mag n * mag k / 18446744073709551616 != 0)
  · refine times_no2 n k w h0 h1 k0 k1 q1 ?_
    have : mag n * mag k / 18446744073709551616 = 0 := by simpa using q1
    omega
  · exact times_no1 n k w h0 h1 k0 k1 q1

set_option maxHeartbeats 1000000 in
theorem sscale_ok (a b k : Int) (w : World) (h : wi3 1152921504606846976 a b k = true) (ha : -4611686018427387904 ≤ a * k ∧ a * k ≤ 4611686018427387904) (hb : -4611686018427387904 ≤ b * k ∧ b * k ≤ 4611686018427387904) :
    Calls Try.prog 30 #[.agg #[.int .i64 a, .int .i64 b], .int .i64 k] w fun e w' => e = .returned (.tuple #[.agg #[.int .i64 (limS ⟨a * k, b * k⟩).v.a, .int .i64 (limS ⟨a * k, b * k⟩).v.b], .int .i64 (limS ⟨a * k, b * k⟩).e]) ∧ Q w w' := by
  obtain ⟨l1, l2, l3, l4, l5, l6⟩ := (wi3_iff _ _ _ _).1 h
  have hta := fun w => times_ok a k w (by omega) (by omega) (by omega) (by omega) ha.1 ha.2
  have htb := fun w => times_ok b k w (by omega) (by omega) (by omega) (by omega) hb.1 hb.2
  have HA := Lib.hid hta
  have HB := Lib.hid htb
  clear hta htb
  go_enter Try.func30, Try.ntmps30
  go_wp2_with (first | (go_at_call 61; refine (swithin3 _ a b k 1152921504606846976 _ (by omega) (by omega) (by simp [go_sem]) (by simp [go_sem]) (by simp [go_sem])).mono ?_; rintro e w' ⟨rfl, rfl⟩) | (go_at_call 65; first | ((with_reducible refine (HA.out _).mono ?_); rintro e w' ⟨rfl, rfl⟩) | ((with_reducible refine (HB.out _).mono ?_); rintro e w' ⟨rfl, rfl⟩)) | (go_at_call 62; refine (slimited_any _ _ _).mono ?_; rintro e w' ⟨rfl, kj, rfl⟩))
  refine bodyPost_ret (v := .tuple #[.agg #[.int .i64 (limS ⟨a * k, b * k⟩).v.a, .int .i64 (limS ⟨a * k, b * k⟩).v.b], .int .i64 (limS ⟨a * k, b * k⟩).e]) (by simp [results, Try.results30, go_sem]) rfl ⟨rfl, ?_⟩
  repeat' (first | exact Q.refl _ | refine Q.alloc ?_ _ | refine Q.jk ?_ _ | refine Q.drew ?_)

set_option maxHeartbeats 1000000 in
theorem sscale_no1 (a b k : Int) (w : World) (h : wi3 1152921504606846976 a b k = true) (ha : ¬ (-4611686018427387904 ≤ a * k ∧ a * k ≤ 4611686018427387904)) (hb : -4611686018427387904 ≤ b * k ∧ b * k ≤ 4611686018427387904) :
    Calls Try.prog 30 #[.agg #[.int .i64 a, .int .i64 b], .int .i64 k] w fun e w' => e = .returned (.tuple #[.agg #[.int .i64 (R2.mk zeroS 2).v.a, .int .i64 (R2.mk zeroS 2).v.b], .int .i64 (R2.mk zeroS 2).e]) ∧ Q w w' := by
  obtain ⟨l1, l2, l3, l4, l5, l6⟩ := (wi3_iff _ _ _ _).1 h
  have hta := fun w => times_no a k w (by omega) (by omega) (by omega) (by omega) ha
  have htb := fun w => times_ok b k w (by omega) (by omega) (by omega) (by omega) hb.1 hb.2
  have HA := Lib.hid hta
  have HB := Lib.hid htb
  clear hta htb
  go_enter Try.func30, Try.ntmps30
  go_wp2_with (first | (go_at_call 61; refine (swithin3 _ a b k 1152921504606846976 _ (by omega) (by omega) (by simp [go_sem]) (by simp [go_sem]) (by simp [go_sem])).mono ?_; rintro e w' ⟨rfl, rfl⟩) | (go_at_call 65; first | ((with_reducible refine (HA.out _).mono ?_); rintro e w' ⟨rfl, rfl⟩) | ((with_reducible refine (HB.out _).mono ?_); rintro e w' ⟨rfl, rfl⟩)) | (go_at_call 62; refine (slimited_any _ _ _).mono ?_; rintro e w' ⟨rfl, kj, rfl⟩))
  refine bodyPost_ret (v := .tuple #[.agg #[.int .i64 (R2.mk zeroS 2).v.a, .int .i64 (R2.mk zeroS 2).v.b], .int .i64 (R2.mk zeroS 2).e]) (by simp [results, Try.results30, go_sem, zeroS]) rfl ⟨rfl, ?_⟩
  repeat' (first | exact Q.refl _ | refine Q.alloc ?_ _ | refine Q.jk ?_ _ | refine Q.drew ?_)

set_option maxHeartbeats 1000000 in
theorem sscale_no2 (a b k : Int) (w : World) (h : wi3 1152921504606846976 a b k = true) (ha : -4611686018427387904 ≤ a * k ∧ a * k ≤ 4611686018427387904) (hb : ¬ (-4611686018427387904 ≤ b * k ∧ b * k ≤ 4611686018427387904)) :
    Calls Try.prog 30 #[.agg #[.int .i64 a, .int .i64 b], .int .i64 k] w fun e w' => e = .returned (.tuple #[.agg #[.int .i64 (R2.mk zeroS 2).v.a, .int .i64 (R2.mk zeroS 2).v.b], .int .i64 (R2.mk zeroS 2).e]) ∧ Q w w' := by
  obtain ⟨l1, l2, l3, l4, l5, l6⟩ := (wi3_iff _ _ _ _).1 h
  have hta := fun w => times_ok a k w (by omega) (by omega) (by omega) (by omega) ha.1 ha.2
  have htb := fun w => times_no b k w (by omega) (by omega) (by omega) (by omega) hb
  have HA := Lib.hid hta
  have HB := Lib.hid htb
  clear hta htb
  go_enter Try.func30, Try.ntmps30
  go_wp2_with (first | (go_at_call 61; refine (swithin3 _ a b k 1152921504606846976 _ (by omega) (by omega) (by simp [go_sem]) (by simp [go_sem]) (by simp [go_sem])).mono ?_; rintro e w' ⟨rfl, rfl⟩) | (go_at_call 65; first | ((with_reducible refine (HA.out _).mono ?_); rintro e w' ⟨rfl, rfl⟩) | ((with_reducible refine (HB.out _).mono ?_); rintro e w' ⟨rfl, rfl⟩)) | (go_at_call 62; refine (slimited_any _ _ _).mono ?_; rintro e w' ⟨rfl, kj, rfl⟩))
  refine bodyPost_ret (v := .tuple #[.agg #[.int .i64 (R2.mk zeroS 2).v.a, .int .i64 (R2.mk zeroS 2).v.b], .int .i64 (R2.mk zeroS 2).e]) (by simp [results, Try.results30, go_sem, zeroS]) rfl ⟨rfl, ?_⟩
  repeat' (first | exact Q.refl _ | refine Q.alloc ?_ _ | refine Q.jk ?_ _ | refine Q.drew ?_)

set_option maxHeartbeats 1000000 in
theorem sscale_no3 (a b k : Int) (w : World) (h : wi3 1152921504606846976 a b k = true) (ha : ¬ (-4611686018427387904 ≤ a * k ∧ a * k ≤ 4611686018427387904)) (hb : ¬ (-4611686018427387904 ≤ b * k ∧ b * k ≤ 4611686018427387904)) :
    Calls Try.prog 30 #[.agg #[.int .i64 a, .int .i64 b], .int .i64 k] w fun e w' => e = .returned (.tuple #[.agg #[.int .i64 (R2.mk zeroS 2).v.a, .int .i64 (R2.mk zeroS 2).v.b], .int .i64 (R2.mk zeroS 2).e]) ∧ Q w w' := by
  obtain ⟨l1, l2, l3, l4, l5, l6⟩ := (wi3_iff _ _ _ _).1 h
  have hta := fun w => times_no a k w (by omega) (by omega) (by omega) (by omega) ha
  have htb := fun w => times_no b k w (by omega) (by omega) (by omega) (by omega) hb
  have HA := Lib.hid hta
  have HB := Lib.hid htb
  clear hta htb
  go_enter Try.func30, Try.ntmps30
  go_wp2_with (first | (go_at_call 61; refine (swithin3 _ a b k 1152921504606846976 _ (by omega) (by omega) (by simp [go_sem]) (by simp [go_sem]) (by simp [go_sem])).mono ?_; rintro e w' ⟨rfl, rfl⟩) | (go_at_call 65; first | ((with_reducible refine (HA.out _).mono ?_); rintro e w' ⟨rfl, rfl⟩) | ((with_reducible refine (HB.out _).mono ?_); rintro e w' ⟨rfl, rfl⟩)) | (go_at_call 62; refine (slimited_any _ _ _).mono ?_; rintro e w' ⟨rfl, kj, rfl⟩))
  refine bodyPost_ret (v := .tuple #[.agg #[.int .i64 (R2.mk zeroS 2).v.a, .int .i64 (R2.mk zeroS 2).v.b], .int .i64 (R2.mk zeroS 2).e]) (by simp [results, Try.results30, go_sem, zeroS]) rfl ⟨rfl, ?_⟩
  repeat' (first | exact Q.refl _ | refine Q.alloc ?_ _ | refine Q.jk ?_ _ | refine Q.drew ?_)

set_option maxHeartbeats 1000000 in
theorem sscale_any (a b k : Int) (w : World) :
    Calls Try.prog 30 #[.agg #[.int .i64 a, .int .i64 b], .int .i64 k] w fun e w' => e = .returned (.tuple #[.agg #[.int .i64 (sscaleR ⟨a, b⟩ k).v.a, .int .i64 (sscaleR ⟨a, b⟩ k).v.b], .int .i64 (sscaleR ⟨a, b⟩ k).e]) ∧ Q w w' := by
  by_cases h : wi3 1152921504606846976 a b k = true
  · have hR : sscaleR ⟨a, b⟩ k = limS ⟨a * k, b * k⟩ := by simp [sscaleR, h]
    rw [hR]
    have hno : ¬ (-4611686018427387904 ≤ a * k ∧ a * k ≤ 4611686018427387904) ∨ ¬ (-4611686018427387904 ≤ b * k ∧ b * k ≤ 4611686018427387904) → limS ⟨a * k, b * k⟩ = ⟨zeroS, 2⟩ := by
      intro hh
      have : wi2 1152921504606846976 (a * k) (b * k) = false := by
        cases e : wi2 1152921504606846976 (a * k) (b * k)
        · rfl
        · have := (wi2_iff _ _ _).1 e; omega
      simp [limS, this]
    by_cases ha : -4611686018427387904 ≤ a * k ∧ a * k ≤ 4611686018427387904
    · by_cases hb : -4611686018427387904 ≤ b * k ∧ b * k ≤ 4611686018427387904
      · exact sscale_ok a b k w h ha hb
      · rw [hno (Or.inr hb)]; exact sscale_no2 a b k w h ha hb
    · rw [hno (Or.inl ha)]
      by_cases hb : -4611686018427387904 ≤ b * k ∧ b * k ≤ 4611686018427387904
      · exact sscale_no1 a b k w h ha hb
      · exact sscale_no3 a b k w h ha hb
  · have h : wi3 1152921504606846976 a b k = false := by simpa using h
    go_enter Try.func30, Try.ntmps30
    go_wp2_with (go_at_call 61; refine (swithin3 _ a b k 1152921504606846976 _ (by omega) (by omega) (by simp [go_sem]) (by simp [go_sem]) (by simp [go_sem])).mono ?_; rintro e w' ⟨rfl, rfl⟩)
    refine bodyPost_ret (v := .tuple #[.agg #[.int .i64 (R2.mk zeroS 1).v.a, .int .i64 (R2.mk zeroS 1).v.b], .int .i64 (R2.mk zeroS 1).e]) (by simp [results, Try.results30, go_sem, zeroS]) rfl ⟨by simp [sscaleR, h], ?_⟩
    repeat' (first | exact Q.refl _ | refine Q.alloc ?_ _ | refine Q.jk ?_ _ | refine Q.drew ?_)
end Go.Proofs.Ytkkjifgcjfbcaaa
