
/- What Sum, Restraint and Operate of package differential return for arguments in their range. -/
import Derived.Test.YtfdpnephjpcnbaaDoorBz25
import Derived.Test.YtfdpnephjpcnbaaDoorBz40
import Derived.Test.YtfdpnephjpcnbaaDoorBz24
set_option linter.unusedSimpArgs false
set_option linter.unusedVariables false
namespace Go.Sub
def minS (m : Int) : Su := ⟨36 * m * m, 0⟩
/-- Whether a differential element operates. -/
def opB (l : List Cur) (m n d : Int) : Bool := decide (0 ≤ sgnS ((sumW l).norm.sub (minS m))) && decide (0 < versS (sumW l).norm (d * d) (resW l) (n * n))
theorem minS_in {m : Int} (h0 : 1 ≤ m) (h1 : m ≤ 1638300) : (minS m).In 100000000000000 := by
  have hp := bd_mul (show -1638300 ≤ m by omega) h1 (show -1638300 ≤ m by omega) h1
  unfold Su.In minS
  dsimp only
  rw [Int.mul_assoc]
  omega
end Go.Sub
namespace Go.Proofs.YtfdpnephjpcnbaaDoor
open Go.RowKit Go.Sub
set_option maxHeartbeats 1000000 in
theorem dsum_c (g o cap : Nat) (l : List Cur) (w : World) (hl : 1 ≤ l.length) (hl' : l.length ≤ 16) (hr : RdC w g o l) (hok : ∀ c ∈ l, c.OK) :
    Calls Tryd.prog 15 #[.slice (some ⟨g, o, none⟩) l.length cap] w fun e w' => e = .returned (.tuple #[.agg #[.int .i64 (sumW l).a, .int .i64 (sumW l).b, .int .i64 (sumW l).c, .int .i64 (sumW l).d], .int .i64 0]) ∧ Q w w' := by
  have HG := Lib.hid fun w' (hq : Q w w') => dgatherC_c g o cap l w' hl hl' (hr.q hq) hok
  clear hr hok
  go_enter Tryd.func15, Tryd.ntmps15
  go_wp2_with (go_at_call 36; refine (HG.out _ (by repeat' (first | exact Q.refl _ | refine Q.alloc ?_ _ | refine Q.jk ?_ _ | refine Q.drew ?_))).mono ?_; rintro e w' ⟨rfl, kj, rfl⟩)
  refine bodyPost_ret (v := .tuple #[.agg #[.int .i64 (sumW l).a, .int .i64 (sumW l).b, .int .i64 (sumW l).c, .int .i64 (sumW l).d], .int .i64 0]) (by simp [results, Tryd.results15, go_sem]) rfl ⟨rfl, ?_⟩
  repeat' (first | exact Q.refl _ | refine Q.alloc ?_ _ | refine Q.jk ?_ _ | refine Q.drew ?_)
set_option maxHeartbeats 1000000 in
theorem drestr_c (g o cap : Nat) (l : List Cur) (w : World) (hl : 1 ≤ l.length) (hl' : l.length ≤ 16) (hr : RdC w g o l) (hok : ∀ c ∈ l, c.OK) :
    Calls Tryd.prog 32 #[.slice (some ⟨g, o, none⟩) l.length cap] w fun e w' => e = .returned (.tuple #[.agg #[.int .i64 (resW l).a, .int .i64 (resW l).b], .int .i64 0]) ∧ Q w w' := by
  have HG := Lib.hid fun w' (hq : Q w w') => dgatherS_c g o cap l w' hl hl' (hr.q hq) hok
  clear hr hok
  go_enter Tryd.func32, Tryd.ntmps32
  go_wp2_with (go_at_call 57; refine (HG.out _ (by repeat' (first | exact Q.refl _ | refine Q.alloc ?_ _ | refine Q.jk ?_ _ | refine Q.drew ?_))).mono ?_; rintro e w' ⟨rfl, kj, rfl⟩)
  refine bodyPost_ret (v := .tuple #[.agg #[.int .i64 (resW l).a, .int .i64 (resW l).b], .int .i64 0]) (by simp [results, Tryd.results32, go_sem]) rfl ⟨rfl, ?_⟩
  repeat' (first | exact Q.refl _ | refine Q.alloc ?_ _ | refine Q.jk ?_ _ | refine Q.drew ?_)
theorem versus_c (x : Su) (j : Int) (y : Su) (k : Int) (w : World) (hx : x.In 100000000000000000) (hy : y.In 100000000000000000) (hj : -1000000000 ≤ j ∧ j ≤ 1000000000) (hk : -1000000000 ≤ k ∧ k ≤ 1000000000) :
    Calls Tryd.prog 35 #[.agg #[.int .i64 x.a, .int .i64 x.b], .int .i64 j, .agg #[.int .i64 y.a, .int .i64 y.b], .int .i64 k] w fun e w' => e = .returned (.tuple #[.int .i64 (versS x j y k), .int .i64 0]) ∧ Q w w' := by
  have h := vers_any x j y k w
  have e : versR x j y k = (versS x j y k, 0) := by
    unfold Su.In at hx hy
    have h4 : wi4 1152921504606846976 x.a x.b y.a y.b = true := (wi4_iff _ _ _ _ _).2 (by omega)
    have h2 : wi2 1073741824 j k = true := (wi2_iff _ _ _).2 (by omega)
    simp [versR, h4, h2]
  rw [e] at h
  exact h
set_option maxRecDepth 100000 in
set_option maxHeartbeats 4000000 in
theorem doperate_b (g o cap : Nat) (l : List Cur) (m n d s1 s2 : Int) (b1 b2 : Bool) (w : World) (hl : 1 ≤ l.length) (hl' : l.length ≤ 16) (hr : RdC w g o l) (hok : ∀ c ∈ l, c.OK) (m0 : 1 ≤ m) (m1 : m ≤ 1638300) (d0 : 1 ≤ d) (d1 : d ≤ 100) (n0 : 0 ≤ n) (n1 : n ≤ d)
    (h1 : sgnS ((sumW l).norm.sub (minS m)) = s1) (h2 : versS (sumW l).norm (d * d) (resW l) (n * n) = s2) (hb1 : if b1 then 0 ≤ s1 else s1 < 0) (hb2 : if b2 then 0 < s2 else s2 ≤ 0) :
    Calls Tryd.prog 14 #[.slice (some ⟨g, o, none⟩) l.length cap, .int .i64 m, .int .i64 n, .int .i64 d] w fun e w' => e = .returned (.tuple #[.bool (b1 && b2), .int .i64 0]) ∧ Q w w' := by
  have hs := sumW_bd hok hl'
  have hrs := resW_bd hok hl'
  have hn := norm_in hs
  have hm := minS_in m0 m1
  have q1 : -100000000000000 ≤ 36 * m * m := hm.1
  have q2 : 36 * m * m ≤ 100000000000000 := hm.2.1
  obtain ⟨e1, e2⟩ := bd_mul (show -100 ≤ d by omega) d1 (show -100 ≤ d by omega) d1
  obtain ⟨e3, e4⟩ := bd_mul (show -100 ≤ n by omega) (show n ≤ 100 by omega) (show -100 ≤ n by omega) (show n ≤ 100 by omega)
  have HG := Lib.hid fun w' (hq : Q w w') => dsum_c g o cap l w' hl hl' (hr.q hq) hok
  have HR := Lib.hid fun w' (hq : Q w w') => drestr_c g o cap l w' hl hl' (hr.q hq) hok
  have HN := Lib.hid fun w => norm_c (sumW l) w (hs.mono (by decide))
  have HC := Lib.hid fun w => scmp_c (sumW l).norm (minS m) w (hn.mono (by decide)) (hm.mono (by decide))
  have HV := Lib.hid fun w => versus_c (sumW l).norm (d * d) (resW l) (n * n) w (hn.mono (by decide)) (hrs.mono (by decide)) (by omega) (by omega)
  rw [h1] at HC
  rw [h2] at HV
  change Hid (∀ w, Calls _ _ #[_, .agg #[.int .i64 (36 * m * m), .int .i64 0]] w _) at HC
  clear hr hok hs hrs hn hm h1 h2
  cases b1 <;> cases b2
  all_goals
    simp only [if_true, if_false, Bool.false_eq_true] at hb1 hb2
    go_enter Tryd.func14, Tryd.ntmps14
    go_wp2_with (first | (go_at_call 15; refine (HG.out _ (by repeat' (first | exact Q.refl _ | refine Q.alloc ?_ _ | refine Q.jk ?_ _ | refine Q.drew ?_))).mono ?_; rintro e w' ⟨rfl, kj, rfl⟩) | (go_at_call 32; refine (HR.out _ (by repeat' (first | exact Q.refl _ | refine Q.alloc ?_ _ | refine Q.jk ?_ _ | refine Q.drew ?_))).mono ?_; rintro e w' ⟨rfl, kj, rfl⟩) | (go_at_call 33; (with_reducible refine (HN.out _).mono ?_); rintro e w' ⟨rfl, kj, rfl⟩) | (go_at_call 34; (with_reducible refine (HC.out _).mono ?_); rintro e w' ⟨rfl, kj, rfl⟩) | (go_at_call 35; (with_reducible refine (HV.out _).mono ?_); rintro e w' ⟨rfl, kj, rfl⟩))
    go_ret2
    refine ⟨by first | rfl | (show Ending.returned (Value.tuple #[Value.bool (decide (0 < s2)), _]) = _; rw [decide_eq_true hb2]; rfl) | (show Ending.returned (Value.tuple #[Value.bool (decide (0 < s2)), _]) = _; rw [decide_eq_false (Int.not_lt.2 hb2)]; rfl), ?_⟩
    repeat' (first | exact Q.refl _ | refine Q.alloc ?_ _ | refine Q.jk ?_ _ | refine Q.drew ?_)
theorem doperate_c (g o cap : Nat) (l : List Cur) (m n d : Int) (w : World) (hl : 1 ≤ l.length) (hl' : l.length ≤ 16) (hr : RdC w g o l) (hok : ∀ c ∈ l, c.OK) (m0 : 1 ≤ m) (m1 : m ≤ 1638300) (d0 : 1 ≤ d) (d1 : d ≤ 100) (n0 : 0 ≤ n) (n1 : n ≤ d) :
    Calls Tryd.prog 14 #[.slice (some ⟨g, o, none⟩) l.length cap, .int .i64 m, .int .i64 n, .int .i64 d] w fun e w' => e = .returned (.tuple #[.bool (opB l m n d), .int .i64 0]) ∧ Q w w' := by
  refine doperate_b g o cap l m n d _ _ _ _ w hl hl' hr hok m0 m1 d0 d1 n0 n1 rfl rfl ?_ ?_
  · split
    · rename_i h; exact of_decide_eq_true h
    · rename_i h
      rw [decide_eq_true_eq] at h
      omega
  · split
    · rename_i h; exact of_decide_eq_true h
    · rename_i h
      rw [decide_eq_true_eq] at h
      omega
end Go.Proofs.YtfdpnephjpcnbaaDoor
