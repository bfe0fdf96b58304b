
/- What the small functions return that the laws of the sample streams reach: within, between, Count, Check and has of a ring, take. -/
import Derived.Test.YtfdpnephjpcnbaaDoorRv
import Derived.Test.YtfdpnephjpcnbaaDoorCyW1
set_option linter.unusedVariables false
set_option linter.unusedSimpArgs false
namespace Go.Sub
theorem tmod_md (n m : Int) (hm : 0 < m) : (n.tmod m < 0 → n.tmod m + m = n % m) ∧ (0 ≤ n.tmod m → n.tmod m = n % m) ∧ -(m - 1) ≤ n.tmod m ∧ n.tmod m ≤ m - 1 := by
  rcases Int.le_total 0 n with h | h
  · rw [Int.tmod_eq_emod_of_nonneg h]
    have h1 := Int.emod_nonneg n (show m ≠ 0 by omega)
    have h2 := Int.emod_lt_of_pos n hm
    omega
  · have e : n.tmod m = -((-n).tmod m) := by rw [Int.neg_tmod, Int.neg_neg]
    rw [Int.tmod_eq_emod_of_nonneg (show 0 ≤ -n by omega)] at e
    have h1 := Int.emod_nonneg (-n) (show m ≠ 0 by omega)
    have h2 := Int.emod_lt_of_pos (-n) hm
    have h3 := Int.emod_nonneg n (show m ≠ 0 by omega)
    have h4 := Int.emod_lt_of_pos n hm
    have h5 := Int.emod_add_mul_ediv n m
    have h6 := Int.emod_add_mul_ediv (-n) m
    have h7 : m * (n / m + (-n) / m) = -(n % m + (-n) % m) := by rw [Int.mul_add]; omega
    rw [e]
    rcases Int.lt_trichotomy (n / m + (-n) / m) (-1) with h8 | h8 | h8
    · have := Int.mul_le_mul_of_nonneg_left (show n / m + (-n) / m ≤ -2 by omega) (show 0 ≤ m by omega)
      omega
    · rw [h8] at h7
      omega
    · rcases Int.lt_or_le (n / m + (-n) / m) 1 with h9 | h9
      · have : n / m + (-n) / m = 0 := by omega
        rw [this] at h7
        omega
      · have := Int.mul_le_mul_of_nonneg_left h9 (show 0 ≤ m by omega)
        omega
end Go.Sub
namespace Go.Proofs.YtfdpnephjpcnbaaDoor
open Go.RowKit Go.Sub
set_option maxHeartbeats 1000000 in
theorem tpwithin_any (n m : Int) (w : World) (h0 : 0 < m) (h1 : m ≤ 1000000000000000000) :
    Calls Tryd.prog 5 #[Value.int .i64 n, Value.int .i64 m] w fun e w' => e = .returned (Value.int .i64 (n % m)) ∧ w = w' := by
  obtain ⟨k1, k2, hb1, hb2⟩ := tmod_md n m h0
  have K1 := Lib.hid k1
  have K2 := Lib.hid k2
  clear k1 k2
  by_cases hn : n.tmod m < 0
  · go_enter Tryd.func5, Tryd.ntmps5
    go_wp2
    go_ret
    exact ⟨by rw [← K1.out hn]; rfl, rfl⟩
  · go_enter Tryd.func5, Tryd.ntmps5
    go_wp2
    go_ret
    exact ⟨by rw [← K2.out (by omega)]; rfl, rfl⟩
set_option maxHeartbeats 1000000 in
theorem l15within_any (n m : Int) (w : World) (h0 : 0 < m) (h1 : m ≤ 1000000000000000000) :
    Calls Tryd.prog 18 #[Value.int .i64 n, Value.int .i64 m] w fun e w' => e = .returned (Value.int .i64 (n % m)) ∧ w = w' := by
  obtain ⟨k1, k2, hb1, hb2⟩ := tmod_md n m h0
  have K1 := Lib.hid k1
  have K2 := Lib.hid k2
  clear k1 k2
  by_cases hn : n.tmod m < 0
  · go_enter Tryd.func18, Tryd.ntmps18
    go_wp2
    go_ret
    exact ⟨by rw [← K1.out hn]; rfl, rfl⟩
  · go_enter Tryd.func18, Tryd.ntmps18
    go_wp2
    go_ret
    exact ⟨by rw [← K2.out (by omega)]; rfl, rfl⟩
set_option maxHeartbeats 1000000 in
theorem sbetween_any (n l h : Int) (w : World) :
    Calls Tryd.prog 19 #[Value.int .i64 n, Value.int .i64 l, Value.int .i64 h] w fun e w' => e = .returned (Value.bool (decide (l ≤ n) && decide (n ≤ h))) ∧ w = w' := by
  go_enter Tryd.func19, Tryd.ntmps19
  go_wp2
  all_goals go_ret
  all_goals
    refine ⟨?_, rfl⟩
    show Ending.returned (Value.bool _) = _
    refine congrArg (fun x => Ending.returned (Value.bool x)) ?_
    rw [Bool.eq_iff_iff]
    simp [*]
    try omega
theorem sbetween_ok (n l h : Int) (w : World) (h0 : l ≤ n) (h1 : n ≤ h) :
    Calls Tryd.prog 19 #[Value.int .i64 n, Value.int .i64 l, Value.int .i64 h] w fun e w' => e = .returned (Value.bool true) ∧ w = w' := by
  have := sbetween_any n l h w
  rw [decide_eq_true h0, decide_eq_true h1] at this
  exact this
set_option maxHeartbeats 1000000 in
theorem count_c (s k : Int) (w : World) (s0 : 0 ≤ s) (s1 : s ≤ 1099511627776) (k0 : 0 ≤ k) (k1 : k ≤ 11) :
    Calls Tryd.prog 20 #[Value.int .i64 s, Value.int .i64 k] w fun e w' => e = .returned (Value.int .i64 ((12 * s + k) % 600)) ∧ w = w' := by
  go_enter Tryd.func20, Tryd.ntmps20
  go_wp2_with (go_at_call 19; refine (sbetween_ok _ _ _ _ (by omega) (by omega)).mono ?_; rintro e w' ⟨rfl, rfl⟩)
  go_ret
  exact ⟨rfl, rfl⟩
set_option maxHeartbeats 1000000 in
theorem rcheck_c (A : Option Addr) (n c : Nat) (w : World) (h0 : 3 ≤ n) (h1 : n ≤ 40) :
    Calls Tryd.prog 72 #[Value.agg #[Value.slice A n c]] w fun e w' => e = .returned (Value.int .i64 0) ∧ Q w w' := by
  go_enter Tryd.func72, Tryd.ntmps72
  go_wp2
  go_ret
  refine ⟨rfl, ?_⟩
  repeat' (first | exact Q.refl _ | refine Q.alloc ?_ _ | refine Q.jk ?_ _ | refine Q.drew ?_)
set_option maxHeartbeats 1000000 in
theorem has_c (A : Option Addr) (n c : Nat) (k : Int) (w : World) (h0 : 3 ≤ n) (h1 : n ≤ 40) (k0 : 0 ≤ k) (k1 : k < n) :
    Calls Tryd.prog 46 #[Value.agg #[Value.slice A n c], Value.int .i64 k] w fun e w' => e = .returned (Value.bool true) ∧ Q w w' := by
  go_enter Tryd.func46, Tryd.ntmps46
  go_wp2_with (go_at_call 72; refine (rcheck_c A n c _ h0 h1).mono ?_; rintro e w' ⟨rfl, kj, rfl⟩)
  go_ret
  refine ⟨rfl, ?_⟩
  repeat' (first | exact Q.refl _ | refine Q.alloc ?_ _ | refine Q.jk ?_ _ | refine Q.drew ?_)
set_option maxHeartbeats 1000000 in
theorem take_new1 (o : Int) (w : World) :
    Calls Tryd.prog 52 #[Value.agg #[Value.int .i64 o, Value.int .i64 65530, Value.int .u64 1], Value.int .i64 65531] w fun e w' => e = .returned (Value.tuple #[Value.agg #[Value.int .i64 o, Value.int .i64 65531, Value.int .u64 3], Value.bool true]) ∧ Q w w' := by
  have b1 : bits .and .i64 1 65535 = 1 := by kernel_rfl
  have b2 : bits .and .i64 (-1) 65535 = 65535 := by kernel_rfl
  have b3 : bits .or .u64 2 1 = 3 := by kernel_rfl
  go_enter Tryd.func52, Tryd.ntmps52
  go_wp2
  refine bodyPost_ret (v := Value.tuple #[Value.agg #[Value.int .i64 o, Value.int .i64 65531, Value.int .u64 3], Value.bool true]) (by simp [results, Tryd.results52, go_sem]) rfl ⟨rfl, ?_⟩
  repeat' (first | exact Q.refl _ | refine Q.alloc ?_ _ | refine Q.jk ?_ _ | refine Q.drew ?_)
set_option maxHeartbeats 1000000 in
theorem take_new2 (o : Int) (w : World) :
    Calls Tryd.prog 52 #[Value.agg #[Value.int .i64 o, Value.int .i64 65531, Value.int .u64 3], Value.int .i64 65532] w fun e w' => e = .returned (Value.tuple #[Value.agg #[Value.int .i64 o, Value.int .i64 65532, Value.int .u64 7], Value.bool true]) ∧ Q w w' := by
  have b1 : bits .and .i64 1 65535 = 1 := by kernel_rfl
  have b2 : bits .and .i64 (-1) 65535 = 65535 := by kernel_rfl
  have b3 : bits .or .u64 6 1 = 7 := by kernel_rfl
  go_enter Tryd.func52, Tryd.ntmps52
  go_wp2
  refine bodyPost_ret (v := Value.tuple #[Value.agg #[Value.int .i64 o, Value.int .i64 65532, Value.int .u64 7], Value.bool true]) (by simp [results, Tryd.results52, go_sem]) rfl ⟨rfl, ?_⟩
  repeat' (first | exact Q.refl _ | refine Q.alloc ?_ _ | refine Q.jk ?_ _ | refine Q.drew ?_)
set_option maxHeartbeats 1000000 in
theorem take_new3 (o : Int) (w : World) :
    Calls Tryd.prog 52 #[Value.agg #[Value.int .i64 o, Value.int .i64 65532, Value.int .u64 7], Value.int .i64 65533] w fun e w' => e = .returned (Value.tuple #[Value.agg #[Value.int .i64 o, Value.int .i64 65533, Value.int .u64 15], Value.bool true]) ∧ Q w w' := by
  have b1 : bits .and .i64 1 65535 = 1 := by kernel_rfl
  have b2 : bits .and .i64 (-1) 65535 = 65535 := by kernel_rfl
  have b3 : bits .or .u64 14 1 = 15 := by kernel_rfl
  go_enter Tryd.func52, Tryd.ntmps52
  go_wp2
  refine bodyPost_ret (v := Value.tuple #[Value.agg #[Value.int .i64 o, Value.int .i64 65533, Value.int .u64 15], Value.bool true]) (by simp [results, Tryd.results52, go_sem]) rfl ⟨rfl, ?_⟩
  repeat' (first | exact Q.refl _ | refine Q.alloc ?_ _ | refine Q.jk ?_ _ | refine Q.drew ?_)
set_option maxHeartbeats 1000000 in
theorem take_new4 (o : Int) (w : World) :
    Calls Tryd.prog 52 #[Value.agg #[Value.int .i64 o, Value.int .i64 65533, Value.int .u64 15], Value.int .i64 65534] w fun e w' => e = .returned (Value.tuple #[Value.agg #[Value.int .i64 o, Value.int .i64 65534, Value.int .u64 31], Value.bool true]) ∧ Q w w' := by
  have b1 : bits .and .i64 1 65535 = 1 := by kernel_rfl
  have b2 : bits .and .i64 (-1) 65535 = 65535 := by kernel_rfl
  have b3 : bits .or .u64 30 1 = 31 := by kernel_rfl
  go_enter Tryd.func52, Tryd.ntmps52
  go_wp2
  refine bodyPost_ret (v := Value.tuple #[Value.agg #[Value.int .i64 o, Value.int .i64 65534, Value.int .u64 31], Value.bool true]) (by simp [results, Tryd.results52, go_sem]) rfl ⟨rfl, ?_⟩
  repeat' (first | exact Q.refl _ | refine Q.alloc ?_ _ | refine Q.jk ?_ _ | refine Q.drew ?_)
set_option maxHeartbeats 1000000 in
theorem take_new5 (o : Int) (w : World) :
    Calls Tryd.prog 52 #[Value.agg #[Value.int .i64 o, Value.int .i64 65534, Value.int .u64 31], Value.int .i64 65535] w fun e w' => e = .returned (Value.tuple #[Value.agg #[Value.int .i64 o, Value.int .i64 65535, Value.int .u64 63], Value.bool true]) ∧ Q w w' := by
  have b1 : bits .and .i64 1 65535 = 1 := by kernel_rfl
  have b2 : bits .and .i64 (-1) 65535 = 65535 := by kernel_rfl
  have b3 : bits .or .u64 62 1 = 63 := by kernel_rfl
  go_enter Tryd.func52, Tryd.ntmps52
  go_wp2
  refine bodyPost_ret (v := Value.tuple #[Value.agg #[Value.int .i64 o, Value.int .i64 65535, Value.int .u64 63], Value.bool true]) (by simp [results, Tryd.results52, go_sem]) rfl ⟨rfl, ?_⟩
  repeat' (first | exact Q.refl _ | refine Q.alloc ?_ _ | refine Q.jk ?_ _ | refine Q.drew ?_)
set_option maxHeartbeats 1000000 in
theorem take_new6 (o : Int) (w : World) :
    Calls Tryd.prog 52 #[Value.agg #[Value.int .i64 o, Value.int .i64 65535, Value.int .u64 63], Value.int .i64 0] w fun e w' => e = .returned (Value.tuple #[Value.agg #[Value.int .i64 o, Value.int .i64 0, Value.int .u64 127], Value.bool true]) ∧ Q w w' := by
  have b1 : bits .and .i64 (-65535) 65535 = 1 := by kernel_rfl
  have b2 : bits .and .i64 65535 65535 = 65535 := by kernel_rfl
  have b3 : bits .or .u64 126 1 = 127 := by kernel_rfl
  go_enter Tryd.func52, Tryd.ntmps52
  go_wp2
  refine bodyPost_ret (v := Value.tuple #[Value.agg #[Value.int .i64 o, Value.int .i64 0, Value.int .u64 127], Value.bool true]) (by simp [results, Tryd.results52, go_sem]) rfl ⟨rfl, ?_⟩
  repeat' (first | exact Q.refl _ | refine Q.alloc ?_ _ | refine Q.jk ?_ _ | refine Q.drew ?_)
set_option maxHeartbeats 1000000 in
theorem take_new7 (o : Int) (w : World) :
    Calls Tryd.prog 52 #[Value.agg #[Value.int .i64 o, Value.int .i64 0, Value.int .u64 127], Value.int .i64 1] w fun e w' => e = .returned (Value.tuple #[Value.agg #[Value.int .i64 o, Value.int .i64 1, Value.int .u64 255], Value.bool true]) ∧ Q w w' := by
  have b1 : bits .and .i64 1 65535 = 1 := by kernel_rfl
  have b2 : bits .and .i64 (-1) 65535 = 65535 := by kernel_rfl
  have b3 : bits .or .u64 254 1 = 255 := by kernel_rfl
  go_enter Tryd.func52, Tryd.ntmps52
  go_wp2
  refine bodyPost_ret (v := Value.tuple #[Value.agg #[Value.int .i64 o, Value.int .i64 1, Value.int .u64 255], Value.bool true]) (by simp [results, Tryd.results52, go_sem]) rfl ⟨rfl, ?_⟩
  repeat' (first | exact Q.refl _ | refine Q.alloc ?_ _ | refine Q.jk ?_ _ | refine Q.drew ?_)
set_option maxHeartbeats 1000000 in
theorem take_new8 (o : Int) (w : World) :
    Calls Tryd.prog 52 #[Value.agg #[Value.int .i64 o, Value.int .i64 1, Value.int .u64 255], Value.int .i64 2] w fun e w' => e = .returned (Value.tuple #[Value.agg #[Value.int .i64 o, Value.int .i64 2, Value.int .u64 511], Value.bool true]) ∧ Q w w' := by
  have b1 : bits .and .i64 1 65535 = 1 := by kernel_rfl
  have b2 : bits .and .i64 (-1) 65535 = 65535 := by kernel_rfl
  have b3 : bits .or .u64 510 1 = 511 := by kernel_rfl
  go_enter Tryd.func52, Tryd.ntmps52
  go_wp2
  refine bodyPost_ret (v := Value.tuple #[Value.agg #[Value.int .i64 o, Value.int .i64 2, Value.int .u64 511], Value.bool true]) (by simp [results, Tryd.results52, go_sem]) rfl ⟨rfl, ?_⟩
  repeat' (first | exact Q.refl _ | refine Q.alloc ?_ _ | refine Q.jk ?_ _ | refine Q.drew ?_)
set_option maxHeartbeats 1000000 in
theorem take_new9 (o : Int) (w : World) :
    Calls Tryd.prog 52 #[Value.agg #[Value.int .i64 o, Value.int .i64 2, Value.int .u64 511], Value.int .i64 3] w fun e w' => e = .returned (Value.tuple #[Value.agg #[Value.int .i64 o, Value.int .i64 3, Value.int .u64 1023], Value.bool true]) ∧ Q w w' := by
  have b1 : bits .and .i64 1 65535 = 1 := by kernel_rfl
  have b2 : bits .and .i64 (-1) 65535 = 65535 := by kernel_rfl
  have b3 : bits .or .u64 1022 1 = 1023 := by kernel_rfl
  go_enter Tryd.func52, Tryd.ntmps52
  go_wp2
  refine bodyPost_ret (v := Value.tuple #[Value.agg #[Value.int .i64 o, Value.int .i64 3, Value.int .u64 1023], Value.bool true]) (by simp [results, Tryd.results52, go_sem]) rfl ⟨rfl, ?_⟩
  repeat' (first | exact Q.refl _ | refine Q.alloc ?_ _ | refine Q.jk ?_ _ | refine Q.drew ?_)
set_option maxHeartbeats 1000000 in
theorem take_new10 (o : Int) (w : World) :
    Calls Tryd.prog 52 #[Value.agg #[Value.int .i64 o, Value.int .i64 3, Value.int .u64 1023], Value.int .i64 4] w fun e w' => e = .returned (Value.tuple #[Value.agg #[Value.int .i64 o, Value.int .i64 4, Value.int .u64 2047], Value.bool true]) ∧ Q w w' := by
  have b1 : bits .and .i64 1 65535 = 1 := by kernel_rfl
  have b2 : bits .and .i64 (-1) 65535 = 65535 := by kernel_rfl
  have b3 : bits .or .u64 2046 1 = 2047 := by kernel_rfl
  go_enter Tryd.func52, Tryd.ntmps52
  go_wp2
  refine bodyPost_ret (v := Value.tuple #[Value.agg #[Value.int .i64 o, Value.int .i64 4, Value.int .u64 2047], Value.bool true]) (by simp [results, Tryd.results52, go_sem]) rfl ⟨rfl, ?_⟩
  repeat' (first | exact Q.refl _ | refine Q.alloc ?_ _ | refine Q.jk ?_ _ | refine Q.drew ?_)
set_option maxHeartbeats 1000000 in
theorem take_new11 (o : Int) (w : World) :
    Calls Tryd.prog 52 #[Value.agg #[Value.int .i64 o, Value.int .i64 4, Value.int .u64 2047], Value.int .i64 5] w fun e w' => e = .returned (Value.tuple #[Value.agg #[Value.int .i64 o, Value.int .i64 5, Value.int .u64 4095], Value.bool true]) ∧ Q w w' := by
  have b1 : bits .and .i64 1 65535 = 1 := by kernel_rfl
  have b2 : bits .and .i64 (-1) 65535 = 65535 := by kernel_rfl
  have b3 : bits .or .u64 4094 1 = 4095 := by kernel_rfl
  go_enter Tryd.func52, Tryd.ntmps52
  go_wp2
  refine bodyPost_ret (v := Value.tuple #[Value.agg #[Value.int .i64 o, Value.int .i64 5, Value.int .u64 4095], Value.bool true]) (by simp [results, Tryd.results52, go_sem]) rfl ⟨rfl, ?_⟩
  repeat' (first | exact Q.refl _ | refine Q.alloc ?_ _ | refine Q.jk ?_ _ | refine Q.drew ?_)
set_option maxHeartbeats 1000000 in
theorem take_old0 (o : Int) (w : World) :
    Calls Tryd.prog 52 #[Value.agg #[Value.int .i64 o, Value.int .i64 5, Value.int .u64 4095], Value.int .i64 65530] w fun e w' => e = .returned (Value.tuple #[Value.agg #[Value.int .i64 o, Value.int .i64 5, Value.int .u64 4095], Value.bool false]) ∧ Q w w' := by
  have b1 : bits .and .i64 65525 65535 = 65525 := by kernel_rfl
  have b2 : bits .and .i64 (-65525) 65535 = 11 := by kernel_rfl
  have b3 : bits .and .u64 1 1 = 1 := by kernel_rfl
  go_enter Tryd.func52, Tryd.ntmps52
  go_wp2
  refine bodyPost_ret (v := Value.tuple #[Value.agg #[Value.int .i64 o, Value.int .i64 5, Value.int .u64 4095], Value.bool false]) (by simp [results, Tryd.results52, go_sem]) rfl ⟨rfl, ?_⟩
  repeat' (first | exact Q.refl _ | refine Q.alloc ?_ _ | refine Q.jk ?_ _ | refine Q.drew ?_)
set_option maxHeartbeats 1000000 in
theorem take_old1 (o : Int) (w : World) :
    Calls Tryd.prog 52 #[Value.agg #[Value.int .i64 o, Value.int .i64 5, Value.int .u64 4095], Value.int .i64 65531] w fun e w' => e = .returned (Value.tuple #[Value.agg #[Value.int .i64 o, Value.int .i64 5, Value.int .u64 4095], Value.bool false]) ∧ Q w w' := by
  have b1 : bits .and .i64 65526 65535 = 65526 := by kernel_rfl
  have b2 : bits .and .i64 (-65526) 65535 = 10 := by kernel_rfl
  have b3 : bits .and .u64 3 1 = 1 := by kernel_rfl
  go_enter Tryd.func52, Tryd.ntmps52
  go_wp2
  refine bodyPost_ret (v := Value.tuple #[Value.agg #[Value.int .i64 o, Value.int .i64 5, Value.int .u64 4095], Value.bool false]) (by simp [results, Tryd.results52, go_sem]) rfl ⟨rfl, ?_⟩
  repeat' (first | exact Q.refl _ | refine Q.alloc ?_ _ | refine Q.jk ?_ _ | refine Q.drew ?_)
set_option maxHeartbeats 1000000 in
theorem take_old2 (o : Int) (w : World) :
    Calls Tryd.prog 52 #[Value.agg #[Value.int .i64 o, Value.int .i64 5, Value.int .u64 4095], Value.int .i64 65532] w fun e w' => e = .returned (Value.tuple #[Value.agg #[Value.int .i64 o, Value.int .i64 5, Value.int .u64 4095], Value.bool false]) ∧ Q w w' := by
  have b1 : bits .and .i64 65527 65535 = 65527 := by kernel_rfl
  have b2 : bits .and .i64 (-65527) 65535 = 9 := by kernel_rfl
  have b3 : bits .and .u64 7 1 = 1 := by kernel_rfl
  go_enter Tryd.func52, Tryd.ntmps52
  go_wp2
  refine bodyPost_ret (v := Value.tuple #[Value.agg #[Value.int .i64 o, Value.int .i64 5, Value.int .u64 4095], Value.bool false]) (by simp [results, Tryd.results52, go_sem]) rfl ⟨rfl, ?_⟩
  repeat' (first | exact Q.refl _ | refine Q.alloc ?_ _ | refine Q.jk ?_ _ | refine Q.drew ?_)
set_option maxHeartbeats 1000000 in
theorem take_old3 (o : Int) (w : World) :
    Calls Tryd.prog 52 #[Value.agg #[Value.int .i64 o, Value.int .i64 5, Value.int .u64 4095], Value.int .i64 65533] w fun e w' => e = .returned (Value.tuple #[Value.agg #[Value.int .i64 o, Value.int .i64 5, Value.int .u64 4095], Value.bool false]) ∧ Q w w' := by
  have b1 : bits .and .i64 65528 65535 = 65528 := by kernel_rfl
  have b2 : bits .and .i64 (-65528) 65535 = 8 := by kernel_rfl
  have b3 : bits .and .u64 15 1 = 1 := by kernel_rfl
  go_enter Tryd.func52, Tryd.ntmps52
  go_wp2
  refine bodyPost_ret (v := Value.tuple #[Value.agg #[Value.int .i64 o, Value.int .i64 5, Value.int .u64 4095], Value.bool false]) (by simp [results, Tryd.results52, go_sem]) rfl ⟨rfl, ?_⟩
  repeat' (first | exact Q.refl _ | refine Q.alloc ?_ _ | refine Q.jk ?_ _ | refine Q.drew ?_)
set_option maxHeartbeats 1000000 in
theorem take_old4 (o : Int) (w : World) :
    Calls Tryd.prog 52 #[Value.agg #[Value.int .i64 o, Value.int .i64 5, Value.int .u64 4095], Value.int .i64 65534] w fun e w' => e = .returned (Value.tuple #[Value.agg #[Value.int .i64 o, Value.int .i64 5, Value.int .u64 4095], Value.bool false]) ∧ Q w w' := by
  have b1 : bits .and .i64 65529 65535 = 65529 := by kernel_rfl
  have b2 : bits .and .i64 (-65529) 65535 = 7 := by kernel_rfl
  have b3 : bits .and .u64 31 1 = 1 := by kernel_rfl
  go_enter Tryd.func52, Tryd.ntmps52
  go_wp2
  refine bodyPost_ret (v := Value.tuple #[Value.agg #[Value.int .i64 o, Value.int .i64 5, Value.int .u64 4095], Value.bool false]) (by simp [results, Tryd.results52, go_sem]) rfl ⟨rfl, ?_⟩
  repeat' (first | exact Q.refl _ | refine Q.alloc ?_ _ | refine Q.jk ?_ _ | refine Q.drew ?_)
set_option maxHeartbeats 1000000 in
theorem take_old5 (o : Int) (w : World) :
    Calls Tryd.prog 52 #[Value.agg #[Value.int .i64 o, Value.int .i64 5, Value.int .u64 4095], Value.int .i64 65535] w fun e w' => e = .returned (Value.tuple #[Value.agg #[Value.int .i64 o, Value.int .i64 5, Value.int .u64 4095], Value.bool false]) ∧ Q w w' := by
  have b1 : bits .and .i64 65530 65535 = 65530 := by kernel_rfl
  have b2 : bits .and .i64 (-65530) 65535 = 6 := by kernel_rfl
  have b3 : bits .and .u64 63 1 = 1 := by kernel_rfl
  go_enter Tryd.func52, Tryd.ntmps52
  go_wp2
  refine bodyPost_ret (v := Value.tuple #[Value.agg #[Value.int .i64 o, Value.int .i64 5, Value.int .u64 4095], Value.bool false]) (by simp [results, Tryd.results52, go_sem]) rfl ⟨rfl, ?_⟩
  repeat' (first | exact Q.refl _ | refine Q.alloc ?_ _ | refine Q.jk ?_ _ | refine Q.drew ?_)
set_option maxHeartbeats 1000000 in
theorem take_old6 (o : Int) (w : World) :
    Calls Tryd.prog 52 #[Value.agg #[Value.int .i64 o, Value.int .i64 5, Value.int .u64 4095], Value.int .i64 0] w fun e w' => e = .returned (Value.tuple #[Value.agg #[Value.int .i64 o, Value.int .i64 5, Value.int .u64 4095], Value.bool false]) ∧ Q w w' := by
  have b1 : bits .and .i64 (-5) 65535 = 65531 := by kernel_rfl
  have b2 : bits .and .i64 5 65535 = 5 := by kernel_rfl
  have b3 : bits .and .u64 127 1 = 1 := by kernel_rfl
  go_enter Tryd.func52, Tryd.ntmps52
  go_wp2
  refine bodyPost_ret (v := Value.tuple #[Value.agg #[Value.int .i64 o, Value.int .i64 5, Value.int .u64 4095], Value.bool false]) (by simp [results, Tryd.results52, go_sem]) rfl ⟨rfl, ?_⟩
  repeat' (first | exact Q.refl _ | refine Q.alloc ?_ _ | refine Q.jk ?_ _ | refine Q.drew ?_)
set_option maxHeartbeats 1000000 in
theorem take_old7 (o : Int) (w : World) :
    Calls Tryd.prog 52 #[Value.agg #[Value.int .i64 o, Value.int .i64 5, Value.int .u64 4095], Value.int .i64 1] w fun e w' => e = .returned (Value.tuple #[Value.agg #[Value.int .i64 o, Value.int .i64 5, Value.int .u64 4095], Value.bool false]) ∧ Q w w' := by
  have b1 : bits .and .i64 (-4) 65535 = 65532 := by kernel_rfl
  have b2 : bits .and .i64 4 65535 = 4 := by kernel_rfl
  have b3 : bits .and .u64 255 1 = 1 := by kernel_rfl
  go_enter Tryd.func52, Tryd.ntmps52
  go_wp2
  refine bodyPost_ret (v := Value.tuple #[Value.agg #[Value.int .i64 o, Value.int .i64 5, Value.int .u64 4095], Value.bool false]) (by simp [results, Tryd.results52, go_sem]) rfl ⟨rfl, ?_⟩
  repeat' (first | exact Q.refl _ | refine Q.alloc ?_ _ | refine Q.jk ?_ _ | refine Q.drew ?_)
set_option maxHeartbeats 1000000 in
theorem take_old8 (o : Int) (w : World) :
    Calls Tryd.prog 52 #[Value.agg #[Value.int .i64 o, Value.int .i64 5, Value.int .u64 4095], Value.int .i64 2] w fun e w' => e = .returned (Value.tuple #[Value.agg #[Value.int .i64 o, Value.int .i64 5, Value.int .u64 4095], Value.bool false]) ∧ Q w w' := by
  have b1 : bits .and .i64 (-3) 65535 = 65533 := by kernel_rfl
  have b2 : bits .and .i64 3 65535 = 3 := by kernel_rfl
  have b3 : bits .and .u64 511 1 = 1 := by kernel_rfl
  go_enter Tryd.func52, Tryd.ntmps52
  go_wp2
  refine bodyPost_ret (v := Value.tuple #[Value.agg #[Value.int .i64 o, Value.int .i64 5, Value.int .u64 4095], Value.bool false]) (by simp [results, Tryd.results52, go_sem]) rfl ⟨rfl, ?_⟩
  repeat' (first | exact Q.refl _ | refine Q.alloc ?_ _ | refine Q.jk ?_ _ | refine Q.drew ?_)
set_option maxHeartbeats 1000000 in
theorem take_old9 (o : Int) (w : World) :
    Calls Tryd.prog 52 #[Value.agg #[Value.int .i64 o, Value.int .i64 5, Value.int .u64 4095], Value.int .i64 3] w fun e w' => e = .returned (Value.tuple #[Value.agg #[Value.int .i64 o, Value.int .i64 5, Value.int .u64 4095], Value.bool false]) ∧ Q w w' := by
  have b1 : bits .and .i64 (-2) 65535 = 65534 := by kernel_rfl
  have b2 : bits .and .i64 2 65535 = 2 := by kernel_rfl
  have b3 : bits .and .u64 1023 1 = 1 := by kernel_rfl
  go_enter Tryd.func52, Tryd.ntmps52
  go_wp2
  refine bodyPost_ret (v := Value.tuple #[Value.agg #[Value.int .i64 o, Value.int .i64 5, Value.int .u64 4095], Value.bool false]) (by simp [results, Tryd.results52, go_sem]) rfl ⟨rfl, ?_⟩
  repeat' (first | exact Q.refl _ | refine Q.alloc ?_ _ | refine Q.jk ?_ _ | refine Q.drew ?_)
set_option maxHeartbeats 1000000 in
theorem take_old10 (o : Int) (w : World) :
    Calls Tryd.prog 52 #[Value.agg #[Value.int .i64 o, Value.int .i64 5, Value.int .u64 4095], Value.int .i64 4] w fun e w' => e = .returned (Value.tuple #[Value.agg #[Value.int .i64 o, Value.int .i64 5, Value.int .u64 4095], Value.bool false]) ∧ Q w w' := by
  have b1 : bits .and .i64 (-1) 65535 = 65535 := by kernel_rfl
  have b2 : bits .and .i64 1 65535 = 1 := by kernel_rfl
  have b3 : bits .and .u64 2047 1 = 1 := by kernel_rfl
  go_enter Tryd.func52, Tryd.ntmps52
  go_wp2
  refine bodyPost_ret (v := Value.tuple #[Value.agg #[Value.int .i64 o, Value.int .i64 5, Value.int .u64 4095], Value.bool false]) (by simp [results, Tryd.results52, go_sem]) rfl ⟨rfl, ?_⟩
  repeat' (first | exact Q.refl _ | refine Q.alloc ?_ _ | refine Q.jk ?_ _ | refine Q.drew ?_)
set_option maxHeartbeats 1000000 in
theorem take_old11 (o : Int) (w : World) :
    Calls Tryd.prog 52 #[Value.agg #[Value.int .i64 o, Value.int .i64 5, Value.int .u64 4095], Value.int .i64 5] w fun e w' => e = .returned (Value.tuple #[Value.agg #[Value.int .i64 o, Value.int .i64 5, Value.int .u64 4095], Value.bool false]) ∧ Q w w' := by
  have b1 : bits .and .i64 0 65535 = 0 := by kernel_rfl
  have b3 : bits .and .u64 4095 1 = 1 := by kernel_rfl
  go_enter Tryd.func52, Tryd.ntmps52
  go_wp2
  refine bodyPost_ret (v := Value.tuple #[Value.agg #[Value.int .i64 o, Value.int .i64 5, Value.int .u64 4095], Value.bool false]) (by simp [results, Tryd.results52, go_sem]) rfl ⟨rfl, ?_⟩
  repeat' (first | exact Q.refl _ | refine Q.alloc ?_ _ | refine Q.jk ?_ _ | refine Q.drew ?_)
end Go.Proofs.YtfdpnephjpcnbaaDoor
