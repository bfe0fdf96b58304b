
/- What fine, between, largest, Largest, above, Above and Under of the reference of overcurrent return. -/
import Derived.Test.YtkkjifgcjfbcaaaOcE
import Derived.Test.YtkkjifgcjfbcaaaRfW2
import Derived.Test.YtkkjifgcjfbcaaaBgD
namespace Go.Sub
theorem pick_pos {b n : Su} (h : 0 < sgnS (n.sub b)) : pickS 1 b n = n := by
  rcases sgnS_range (n.sub b) with h1 | h1 | h1
  · omega
  · omega
  · simp [pickS, h1]
theorem pick_neg {b n : Su} (h : sgnS (n.sub b) ≤ 0) : pickS 1 b n = b := by
  have h1 : (sgnS (n.sub b) == 1) = false := by
    rw [beq_eq_false_iff_ne]
    omega
  simp [pickS, h1]
end Go.Sub
namespace Go.Proofs.Ytkkjifgcjfbcaaa
open Go.RowKit Go.Sub
set_option maxHeartbeats 4000000 in
theorem rfine_any (x y z : Cy) (w : World) :
    Calls Try.prog 70 #[.agg #[.int .i64 x.a, .int .i64 x.b, .int .i64 x.c, .int .i64 x.d, .int .i64 y.a, .int .i64 y.b, .int .i64 y.c, .int .i64 y.d, .int .i64 z.a, .int .i64 z.b, .int .i64 z.c, .int .i64 z.d]] w fun e w' => e = .returned (.bool (fine3 x y z)) ∧ Q w w' := by
  have W1 := Lib.hid (fun w => rwithin_any x.a x.b x.c x.d 65536 w (by decide) (by decide))
  have W2 := Lib.hid (fun w => rwithin_any y.a y.b y.c y.d 65536 w (by decide) (by decide))
  have W3 := Lib.hid (fun w => rwithin_any z.a z.b z.c z.d 65536 w (by decide) (by decide))
  unfold fine3
  change Hid (∀ w, Calls _ _ _ w fun e w' => e = .returned (.bool (wiB x 65536)) ∧ Q w w') at W1
  change Hid (∀ w, Calls _ _ _ w fun e w' => e = .returned (.bool (wiB y 65536)) ∧ Q w w') at W2
  change Hid (∀ w, Calls _ _ _ w fun e w' => e = .returned (.bool (wiB z 65536)) ∧ Q w w') at W3
  generalize wiB x 65536 = b1 at W1 ⊢
  generalize wiB y 65536 = b2 at W2 ⊢
  generalize wiB z 65536 = b3 at W3 ⊢
  cases b1 <;> cases b2 <;> cases b3
  all_goals
    go_enter Try.func70, Try.ntmps70
    go_wp2_with (first | (go_at_call 95; (with_reducible refine (W1.out _).mono ?_); rintro e w' ⟨rfl, kj, rfl⟩) | (go_at_call 95; (with_reducible refine (W2.out _).mono ?_); rintro e w' ⟨rfl, kj, rfl⟩) | (go_at_call 95; (with_reducible refine (W3.out _).mono ?_); rintro e w' ⟨rfl, kj, rfl⟩))
    go_ret
    refine ⟨rfl, ?_⟩
    repeat' (first | exact Q.refl _ | refine Q.alloc ?_ _ | refine Q.jk ?_ _ | refine Q.drew ?_)
set_option maxHeartbeats 1000000 in
theorem rbetween24_any (n l h : Int) (w : World) :
    Calls Try.prog 74 #[.int .i64 n, .int .i64 l, .int .i64 h] w fun e w' => e = .returned (.bool (decide (l ≤ n) && decide (n ≤ h))) ∧ w = w' := by
  go_enter Try.func74, Try.ntmps74
  go_wp2
  all_goals go_ret
  all_goals
    refine ⟨?_, rfl⟩
    show Ending.returned (Value.bool _) = _
    refine congrArg (fun x => Ending.returned (Value.bool x)) ?_
    rw [Bool.eq_iff_iff]
    simp [*]
    try omega
theorem rnorm_c (x : Cy) (w : World) (hx : x.In 268435456) :
    Calls Try.prog 96 #[.agg #[.int .i64 x.a, .int .i64 x.b, .int .i64 x.c, .int .i64 x.d]] w fun e w' => e = .returned (.tuple #[.agg #[.int .i64 x.norm.a, .int .i64 x.norm.b], .int .i64 0]) ∧ Q w w' := by
  have h := rnorm_any x.a x.b x.c x.d w
  rw [show normR ⟨x.a, x.b, x.c, x.d⟩ = _ from normR_ok hx] at h
  exact h
theorem r2cmp_c (x y : Su) (w : World) (hx : x.In 1000000000000000000) (hy : y.In 1000000000000000000) :
    Calls Try.prog 50 #[.agg #[.int .i64 x.a, .int .i64 x.b], .agg #[.int .i64 y.a, .int .i64 y.b]] w fun e w' => e = .returned (.tuple #[.int .i64 (sgnS (x.sub y)), .int .i64 0]) ∧ Q w w' := by
  have h := r2cmp_any x.a x.b y.a y.b w
  have e : scmpR ⟨x.a, x.b⟩ ⟨y.a, y.b⟩ = (sgnS (x.sub y), 0) := by
    unfold Su.In at hx hy
    have : wi4 1152921504606846976 x.a x.b y.a y.b = true := (wi4_iff _ _ _ _ _).2 (by omega)
    simp only [scmpR, this, if_true]
  rw [e] at h
  exact h
set_option maxHeartbeats 4000000 in
theorem rlargest_ttt (x y z : Cy) (n1 n2 n3 : Su) (s1 s2 s3 : Int) (w : World) (N1 : Hid (∀ w, Calls Try.prog 96 #[.agg #[.int .i64 x.a, .int .i64 x.b, .int .i64 x.c, .int .i64 x.d]] w fun e w' => e = .returned (.tuple #[.agg #[.int .i64 n1.a, .int .i64 n1.b], .int .i64 0]) ∧ Q w w')) (N2 : Hid (∀ w, Calls Try.prog 96 #[.agg #[.int .i64 y.a, .int .i64 y.b, .int .i64 y.c, .int .i64 y.d]] w fun e w' => e = .returned (.tuple #[.agg #[.int .i64 n2.a, .int .i64 n2.b], .int .i64 0]) ∧ Q w w')) (N3 : Hid (∀ w, Calls Try.prog 96 #[.agg #[.int .i64 z.a, .int .i64 z.b, .int .i64 z.c, .int .i64 z.d]] w fun e w' => e = .returned (.tuple #[.agg #[.int .i64 n3.a, .int .i64 n3.b], .int .i64 0]) ∧ Q w w'))
    (C1 : Hid (∀ w, Calls Try.prog 50 #[.agg #[.int .i64 n1.a, .int .i64 n1.b], .agg #[.int .i64 0, .int .i64 0]] w fun e w' => e = .returned (.tuple #[.int .i64 s1, .int .i64 0]) ∧ Q w w')) (C2 : Hid (∀ w, Calls Try.prog 50 #[.agg #[.int .i64 n2.a, .int .i64 n2.b], .agg #[.int .i64 n1.a, .int .i64 n1.b]] w fun e w' => e = .returned (.tuple #[.int .i64 s2, .int .i64 0]) ∧ Q w w')) (C3 : Hid (∀ w, Calls Try.prog 50 #[.agg #[.int .i64 n3.a, .int .i64 n3.b], .agg #[.int .i64 n2.a, .int .i64 n2.b]] w fun e w' => e = .returned (.tuple #[.int .i64 s3, .int .i64 0]) ∧ Q w w')) (_ : 0 < s1) (_ : 0 < s2) (_ : 0 < s3) :
    Calls Try.prog 71 #[.agg #[.int .i64 x.a, .int .i64 x.b, .int .i64 x.c, .int .i64 x.d, .int .i64 y.a, .int .i64 y.b, .int .i64 y.c, .int .i64 y.d, .int .i64 z.a, .int .i64 z.b, .int .i64 z.c, .int .i64 z.d]] w fun e w' => e = .returned (.agg #[.int .i64 n3.a, .int .i64 n3.b]) ∧ Q w w' := by
  go_enter Try.func71, Try.ntmps71
  go_wp2
  refine wp_loop_rounds 4 ?_
  repeat (rw [rounds_succ]; go_wp2_with (first | (go_at_call 96; first | ((with_reducible refine (N1.out _).mono ?_); rintro e w' ⟨rfl, kj, rfl⟩) | ((with_reducible refine (N2.out _).mono ?_); rintro e w' ⟨rfl, kj, rfl⟩) | ((with_reducible refine (N3.out _).mono ?_); rintro e w' ⟨rfl, kj, rfl⟩)) | (go_at_call 50; first | ((with_reducible refine (C1.out _).mono ?_); rintro e w' ⟨rfl, kj, rfl⟩) | ((with_reducible refine (C2.out _).mono ?_); rintro e w' ⟨rfl, kj, rfl⟩) | ((with_reducible refine (C3.out _).mono ?_); rintro e w' ⟨rfl, kj, rfl⟩))))
  refine bodyPost_ret (v := .agg #[.int .i64 n3.a, .int .i64 n3.b]) (by simp [results, Try.results71, go_sem]) rfl ⟨rfl, ?_⟩
  repeat' (first | exact Q.refl _ | refine Q.alloc ?_ _ | refine Q.jk ?_ _ | refine Q.drew ?_)
set_option maxHeartbeats 4000000 in
theorem rlargest_ttf (x y z : Cy) (n1 n2 n3 : Su) (s1 s2 s3 : Int) (w : World) (N1 : Hid (∀ w, Calls Try.prog 96 #[.agg #[.int .i64 x.a, .int .i64 x.b, .int .i64 x.c, .int .i64 x.d]] w fun e w' => e = .returned (.tuple #[.agg #[.int .i64 n1.a, .int .i64 n1.b], .int .i64 0]) ∧ Q w w')) (N2 : Hid (∀ w, Calls Try.prog 96 #[.agg #[.int .i64 y.a, .int .i64 y.b, .int .i64 y.c, .int .i64 y.d]] w fun e w' => e = .returned (.tuple #[.agg #[.int .i64 n2.a, .int .i64 n2.b], .int .i64 0]) ∧ Q w w')) (N3 : Hid (∀ w, Calls Try.prog 96 #[.agg #[.int .i64 z.a, .int .i64 z.b, .int .i64 z.c, .int .i64 z.d]] w fun e w' => e = .returned (.tuple #[.agg #[.int .i64 n3.a, .int .i64 n3.b], .int .i64 0]) ∧ Q w w'))
    (C1 : Hid (∀ w, Calls Try.prog 50 #[.agg #[.int .i64 n1.a, .int .i64 n1.b], .agg #[.int .i64 0, .int .i64 0]] w fun e w' => e = .returned (.tuple #[.int .i64 s1, .int .i64 0]) ∧ Q w w')) (C2 : Hid (∀ w, Calls Try.prog 50 #[.agg #[.int .i64 n2.a, .int .i64 n2.b], .agg #[.int .i64 n1.a, .int .i64 n1.b]] w fun e w' => e = .returned (.tuple #[.int .i64 s2, .int .i64 0]) ∧ Q w w')) (C3 : Hid (∀ w, Calls Try.prog 50 #[.agg #[.int .i64 n3.a, .int .i64 n3.b], .agg #[.int .i64 n2.a, .int .i64 n2.b]] w fun e w' => e = .returned (.tuple #[.int .i64 s3, .int .i64 0]) ∧ Q w w')) (_ : 0 < s1) (_ : 0 < s2) (_ : s3 ≤ 0) :
    Calls Try.prog 71 #[.agg #[.int .i64 x.a, .int .i64 x.b, .int .i64 x.c, .int .i64 x.d, .int .i64 y.a, .int .i64 y.b, .int .i64 y.c, .int .i64 y.d, .int .i64 z.a, .int .i64 z.b, .int .i64 z.c, .int .i64 z.d]] w fun e w' => e = .returned (.agg #[.int .i64 n2.a, .int .i64 n2.b]) ∧ Q w w' := by
  go_enter Try.func71, Try.ntmps71
  go_wp2
  refine wp_loop_rounds 4 ?_
  repeat (rw [rounds_succ]; go_wp2_with (first | (go_at_call 96; first | ((with_reducible refine (N1.out _).mono ?_); rintro e w' ⟨rfl, kj, rfl⟩) | ((with_reducible refine (N2.out _).mono ?_); rintro e w' ⟨rfl, kj, rfl⟩) | ((with_reducible refine (N3.out _).mono ?_); rintro e w' ⟨rfl, kj, rfl⟩)) | (go_at_call 50; first | ((with_reducible refine (C1.out _).mono ?_); rintro e w' ⟨rfl, kj, rfl⟩) | ((with_reducible refine (C2.out _).mono ?_); rintro e w' ⟨rfl, kj, rfl⟩) | ((with_reducible refine (C3.out _).mono ?_); rintro e w' ⟨rfl, kj, rfl⟩))))
  refine bodyPost_ret (v := .agg #[.int .i64 n2.a, .int .i64 n2.b]) (by simp [results, Try.results71, go_sem]) rfl ⟨rfl, ?_⟩
  repeat' (first | exact Q.refl _ | refine Q.alloc ?_ _ | refine Q.jk ?_ _ | refine Q.drew ?_)
set_option maxHeartbeats 4000000 in
theorem rlargest_tft (x y z : Cy) (n1 n2 n3 : Su) (s1 s2 s3 : Int) (w : World) (N1 : Hid (∀ w, Calls Try.prog 96 #[.agg #[.int .i64 x.a, .int .i64 x.b, .int .i64 x.c, .int .i64 x.d]] w fun e w' => e = .returned (.tuple #[.agg #[.int .i64 n1.a, .int .i64 n1.b], .int .i64 0]) ∧ Q w w')) (N2 : Hid (∀ w, Calls Try.prog 96 #[.agg #[.int .i64 y.a, .int .i64 y.b, .int .i64 y.c, .int .i64 y.d]] w fun e w' => e = .returned (.tuple #[.agg #[.int .i64 n2.a, .int .i64 n2.b], .int .i64 0]) ∧ Q w w')) (N3 : Hid (∀ w, Calls Try.prog 96 #[.agg #[.int .i64 z.a, .int .i64 z.b, .int .i64 z.c, .int .i64 z.d]] w fun e w' => e = .returned (.tuple #[.agg #[.int .i64 n3.a, .int .i64 n3.b], .int .i64 0]) ∧ Q w w'))
    (C1 : Hid (∀ w, Calls Try.prog 50 #[.agg #[.int .i64 n1.a, .int .i64 n1.b], .agg #[.int .i64 0, .int .i64 0]] w fun e w' => e = .returned (.tuple #[.int .i64 s1, .int .i64 0]) ∧ Q w w')) (C2 : Hid (∀ w, Calls Try.prog 50 #[.agg #[.int .i64 n2.a, .int .i64 n2.b], .agg #[.int .i64 n1.a, .int .i64 n1.b]] w fun e w' => e = .returned (.tuple #[.int .i64 s2, .int .i64 0]) ∧ Q w w')) (C3 : Hid (∀ w, Calls Try.prog 50 #[.agg #[.int .i64 n3.a, .int .i64 n3.b], .agg #[.int .i64 n1.a, .int .i64 n1.b]] w fun e w' => e = .returned (.tuple #[.int .i64 s3, .int .i64 0]) ∧ Q w w')) (_ : 0 < s1) (_ : s2 ≤ 0) (_ : 0 < s3) :
    Calls Try.prog 71 #[.agg #[.int .i64 x.a, .int .i64 x.b, .int .i64 x.c, .int .i64 x.d, .int .i64 y.a, .int .i64 y.b, .int .i64 y.c, .int .i64 y.d, .int .i64 z.a, .int .i64 z.b, .int .i64 z.c, .int .i64 z.d]] w fun e w' => e = .returned (.agg #[.int .i64 n3.a, .int .i64 n3.b]) ∧ Q w w' := by
  go_enter Try.func71, Try.ntmps71
  go_wp2
  refine wp_loop_rounds 4 ?_
  repeat (rw [rounds_succ]; go_wp2_with (first | (go_at_call 96; first | ((with_reducible refine (N1.out _).mono ?_); rintro e w' ⟨rfl, kj, rfl⟩) | ((with_reducible refine (N2.out _).mono ?_); rintro e w' ⟨rfl, kj, rfl⟩) | ((with_reducible refine (N3.out _).mono ?_); rintro e w' ⟨rfl, kj, rfl⟩)) | (go_at_call 50; first | ((with_reducible refine (C1.out _).mono ?_); rintro e w' ⟨rfl, kj, rfl⟩) | ((with_reducible refine (C2.out _).mono ?_); rintro e w' ⟨rfl, kj, rfl⟩) | ((with_reducible refine (C3.out _).mono ?_); rintro e w' ⟨rfl, kj, rfl⟩))))
  refine bodyPost_ret (v := .agg #[.int .i64 n3.a, .int .i64 n3.b]) (by simp [results, Try.results71, go_sem]) rfl ⟨rfl, ?_⟩
  repeat' (first | exact Q.refl _ | refine Q.alloc ?_ _ | refine Q.jk ?_ _ | refine Q.drew ?_)
set_option maxHeartbeats 4000000 in
theorem rlargest_tff (x y z : Cy) (n1 n2 n3 : Su) (s1 s2 s3 : Int) (w : World) (N1 : Hid (∀ w, Calls Try.prog 96 #[.agg #[.int .i64 x.a, .int .i64 x.b, .int .i64 x.c, .int .i64 x.d]] w fun e w' => e = .returned (.tuple #[.agg #[.int .i64 n1.a, .int .i64 n1.b], .int .i64 0]) ∧ Q w w')) (N2 : Hid (∀ w, Calls Try.prog 96 #[.agg #[.int .i64 y.a, .int .i64 y.b, .int .i64 y.c, .int .i64 y.d]] w fun e w' => e = .returned (.tuple #[.agg #[.int .i64 n2.a, .int .i64 n2.b], .int .i64 0]) ∧ Q w w')) (N3 : Hid (∀ w, Calls Try.prog 96 #[.agg #[.int .i64 z.a, .int .i64 z.b, .int .i64 z.c, .int .i64 z.d]] w fun e w' => e = .returned (.tuple #[.agg #[.int .i64 n3.a, .int .i64 n3.b], .int .i64 0]) ∧ Q w w'))
    (C1 : Hid (∀ w, Calls Try.prog 50 #[.agg #[.int .i64 n1.a, .int .i64 n1.b], .agg #[.int .i64 0, .int .i64 0]] w fun e w' => e = .returned (.tuple #[.int .i64 s1, .int .i64 0]) ∧ Q w w')) (C2 : Hid (∀ w, Calls Try.prog 50 #[.agg #[.int .i64 n2.a, .int .i64 n2.b], .agg #[.int .i64 n1.a, .int .i64 n1.b]] w fun e w' => e = .returned (.tuple #[.int .i64 s2, .int .i64 0]) ∧ Q w w')) (C3 : Hid (∀ w, Calls Try.prog 50 #[.agg #[.int .i64 n3.a, .int .i64 n3.b], .agg #[.int .i64 n1.a, .int .i64 n1.b]] w fun e w' => e = .returned (.tuple #[.int .i64 s3, .int .i64 0]) ∧ Q w w')) (_ : 0 < s1) (_ : s2 ≤ 0) (_ : s3 ≤ 0) :
    Calls Try.prog 71 #[.agg #[.int .i64 x.a, .int .i64 x.b, .int .i64 x.c, .int .i64 x.d, .int .i64 y.a, .int .i64 y.b, .int .i64 y.c, .int .i64 y.d, .int .i64 z.a, .int .i64 z.b, .int .i64 z.c, .int .i64 z.d]] w fun e w' => e = .returned (.agg #[.int .i64 n1.a, .int .i64 n1.b]) ∧ Q w w' := by
  go_enter Try.func71, Try.ntmps71
  go_wp2
  refine wp_loop_rounds 4 ?_
  repeat (rw [rounds_succ]; go_wp2_with (first | (go_at_call 96; first | ((with_reducible refine (N1.out _).mono ?_); rintro e w' ⟨rfl, kj, rfl⟩) | ((with_reducible refine (N2.out _).mono ?_); rintro e w' ⟨rfl, kj, rfl⟩) | ((with_reducible refine (N3.out _).mono ?_); rintro e w' ⟨rfl, kj, rfl⟩)) | (go_at_call 50; first | ((with_reducible refine (C1.out _).mono ?_); rintro e w' ⟨rfl, kj, rfl⟩) | ((with_reducible refine (C2.out _).mono ?_); rintro e w' ⟨rfl, kj, rfl⟩) | ((with_reducible refine (C3.out _).mono ?_); rintro e w' ⟨rfl, kj, rfl⟩))))
  refine bodyPost_ret (v := .agg #[.int .i64 n1.a, .int .i64 n1.b]) (by simp [results, Try.results71, go_sem]) rfl ⟨rfl, ?_⟩
  repeat' (first | exact Q.refl _ | refine Q.alloc ?_ _ | refine Q.jk ?_ _ | refine Q.drew ?_)
set_option maxHeartbeats 4000000 in
theorem rlargest_ftt (x y z : Cy) (n1 n2 n3 : Su) (s1 s2 s3 : Int) (w : World) (N1 : Hid (∀ w, Calls Try.prog 96 #[.agg #[.int .i64 x.a, .int .i64 x.b, .int .i64 x.c, .int .i64 x.d]] w fun e w' => e = .returned (.tuple #[.agg #[.int .i64 n1.a, .int .i64 n1.b], .int .i64 0]) ∧ Q w w')) (N2 : Hid (∀ w, Calls Try.prog 96 #[.agg #[.int .i64 y.a, .int .i64 y.b, .int .i64 y.c, .int .i64 y.d]] w fun e w' => e = .returned (.tuple #[.agg #[.int .i64 n2.a, .int .i64 n2.b], .int .i64 0]) ∧ Q w w')) (N3 : Hid (∀ w, Calls Try.prog 96 #[.agg #[.int .i64 z.a, .int .i64 z.b, .int .i64 z.c, .int .i64 z.d]] w fun e w' => e = .returned (.tuple #[.agg #[.int .i64 n3.a, .int .i64 n3.b], .int .i64 0]) ∧ Q w w'))
    (C1 : Hid (∀ w, Calls Try.prog 50 #[.agg #[.int .i64 n1.a, .int .i64 n1.b], .agg #[.int .i64 0, .int .i64 0]] w fun e w' => e = .returned (.tuple #[.int .i64 s1, .int .i64 0]) ∧ Q w w')) (C2 : Hid (∀ w, Calls Try.prog 50 #[.agg #[.int .i64 n2.a, .int .i64 n2.b], .agg #[.int .i64 0, .int .i64 0]] w fun e w' => e = .returned (.tuple #[.int .i64 s2, .int .i64 0]) ∧ Q w w')) (C3 : Hid (∀ w, Calls Try.prog 50 #[.agg #[.int .i64 n3.a, .int .i64 n3.b], .agg #[.int .i64 n2.a, .int .i64 n2.b]] w fun e w' => e = .returned (.tuple #[.int .i64 s3, .int .i64 0]) ∧ Q w w')) (_ : s1 ≤ 0) (_ : 0 < s2) (_ : 0 < s3) :
    Calls Try.prog 71 #[.agg #[.int .i64 x.a, .int .i64 x.b, .int .i64 x.c, .int .i64 x.d, .int .i64 y.a, .int .i64 y.b, .int .i64 y.c, .int .i64 y.d, .int .i64 z.a, .int .i64 z.b, .int .i64 z.c, .int .i64 z.d]] w fun e w' => e = .returned (.agg #[.int .i64 n3.a, .int .i64 n3.b]) ∧ Q w w' := by
  go_enter Try.func71, Try.ntmps71
  go_wp2
  refine wp_loop_rounds 4 ?_
  repeat (rw [rounds_succ]; go_wp2_with (first | (go_at_call 96; first | ((with_reducible refine (N1.out _).mono ?_); rintro e w' ⟨rfl, kj, rfl⟩) | ((with_reducible refine (N2.out _).mono ?_); rintro e w' ⟨rfl, kj, rfl⟩) | ((with_reducible refine (N3.out _).mono ?_); rintro e w' ⟨rfl, kj, rfl⟩)) | (go_at_call 50; first | ((with_reducible refine (C1.out _).mono ?_); rintro e w' ⟨rfl, kj, rfl⟩) | ((with_reducible refine (C2.out _).mono ?_); rintro e w' ⟨rfl, kj, rfl⟩) | ((with_reducible refine (C3.out _).mono ?_); rintro e w' ⟨rfl, kj, rfl⟩))))
  refine bodyPost_ret (v := .agg #[.int .i64 n3.a, .int .i64 n3.b]) (by simp [results, Try.results71, go_sem]) rfl ⟨rfl, ?_⟩
  repeat' (first | exact Q.refl _ | refine Q.alloc ?_ _ | refine Q.jk ?_ _ | refine Q.drew ?_)
set_option maxHeartbeats 4000000 in
theorem rlargest_ftf (x y z : Cy) (n1 n2 n3 : Su) (s1 s2 s3 : Int) (w : World) (N1 : Hid (∀ w, Calls Try.prog 96 #[.agg #[.int .i64 x.a, .int .i64 x.b, .int .i64 x.c, .int .i64 x.d]] w fun e w' => e = .returned (.tuple #[.agg #[.int .i64 n1.a, .int .i64 n1.b], .int .i64 0]) ∧ Q w w')) (N2 : Hid (∀ w, Calls Try.prog 96 #[.agg #[.int .i64 y.a, .int .i64 y.b, .int .i64 y.c, .int .i64 y.d]] w fun e w' => e = .returned (.tuple #[.agg #[.int .i64 n2.a, .int .i64 n2.b], .int .i64 0]) ∧ Q w w')) (N3 : Hid (∀ w, Calls Try.prog 96 #[.agg #[.int .i64 z.a, .int .i64 z.b, .int .i64 z.c, .int .i64 z.d]] w fun e w' => e = .returned (.tuple #[.agg #[.int .i64 n3.a, .int .i64 n3.b], .int .i64 0]) ∧ Q w w'))
    (C1 : Hid (∀ w, Calls Try.prog 50 #[.agg #[.int .i64 n1.a, .int .i64 n1.b], .agg #[.int .i64 0, .int .i64 0]] w fun e w' => e = .returned (.tuple #[.int .i64 s1, .int .i64 0]) ∧ Q w w')) (C2 : Hid (∀ w, Calls Try.prog 50 #[.agg #[.int .i64 n2.a, .int .i64 n2.b], .agg #[.int .i64 0, .int .i64 0]] w fun e w' => e = .returned (.tuple #[.int .i64 s2, .int .i64 0]) ∧ Q w w')) (C3 : Hid (∀ w, Calls Try.prog 50 #[.agg #[.int .i64 n3.a, .int .i64 n3.b], .agg #[.int .i64 n2.a, .int .i64 n2.b]] w fun e w' => e = .returned (.tuple #[.int .i64 s3, .int .i64 0]) ∧ Q w w')) (_ : s1 ≤ 0) (_ : 0 < s2) (_ : s3 ≤ 0) :
    Calls Try.prog 71 #[.agg #[.int .i64 x.a, .int .i64 x.b, .int .i64 x.c, .int .i64 x.d, .int .i64 y.a, .int .i64 y.b, .int .i64 y.c, .int .i64 y.d, .int .i64 z.a, .int .i64 z.b, .int .i64 z.c, .int .i64 z.d]] w fun e w' => e = .returned (.agg #[.int .i64 n2.a, .int .i64 n2.b]) ∧ Q w w' := by
  go_enter Try.func71, Try.ntmps71
  go_wp2
  refine wp_loop_rounds 4 ?_
  repeat (rw [rounds_succ]; go_wp2_with (first | (go_at_call 96; first | ((with_reducible refine (N1.out _).mono ?_); rintro e w' ⟨rfl, kj, rfl⟩) | ((with_reducible refine (N2.out _).mono ?_); rintro e w' ⟨rfl, kj, rfl⟩) | ((with_reducible refine (N3.out _).mono ?_); rintro e w' ⟨rfl, kj, rfl⟩)) | (go_at_call 50; first | ((with_reducible refine (C1.out _).mono ?_); rintro e w' ⟨rfl, kj, rfl⟩) | ((with_reducible refine (C2.out _).mono ?_); rintro e w' ⟨rfl, kj, rfl⟩) | ((with_reducible refine (C3.out _).mono ?_); rintro e w' ⟨rfl, kj, rfl⟩))))
  refine bodyPost_ret (v := .agg #[.int .i64 n2.a, .int .i64 n2.b]) (by simp [results, Try.results71, go_sem]) rfl ⟨rfl, ?_⟩
  repeat' (first | exact Q.refl _ | refine Q.alloc ?_ _ | refine Q.jk ?_ _ | refine Q.drew ?_)
set_option maxHeartbeats 4000000 in
theorem rlargest_fft (x y z : Cy) (n1 n2 n3 : Su) (s1 s2 s3 : Int) (w : World) (N1 : Hid (∀ w, Calls Try.prog 96 #[.agg #[.int .i64 x.a, .int .i64 x.b, .int .i64 x.c, .int .i64 x.d]] w fun e w' => e = .returned (.tuple #[.agg #[.int .i64 n1.a, .int .i64 n1.b], .int .i64 0]) ∧ Q w w')) (N2 : Hid (∀ w, Calls Try.prog 96 #[.agg #[.int .i64 y.a, .int .i64 y.b, .int .i64 y.c, .int .i64 y.d]] w fun e w' => e = .returned (.tuple #[.agg #[.int .i64 n2.a, .int .i64 n2.b], .int .i64 0]) ∧ Q w w')) (N3 : Hid (∀ w, Calls Try.prog 96 #[.agg #[.int .i64 z.a, .int .i64 z.b, .int .i64 z.c, .int .i64 z.d]] w fun e w' => e = .returned (.tuple #[.agg #[.int .i64 n3.a, .int .i64 n3.b], .int .i64 0]) ∧ Q w w'))
    (C1 : Hid (∀ w, Calls Try.prog 50 #[.agg #[.int .i64 n1.a, .int .i64 n1.b], .agg #[.int .i64 0, .int .i64 0]] w fun e w' => e = .returned (.tuple #[.int .i64 s1, .int .i64 0]) ∧ Q w w')) (C2 : Hid (∀ w, Calls Try.prog 50 #[.agg #[.int .i64 n2.a, .int .i64 n2.b], .agg #[.int .i64 0, .int .i64 0]] w fun e w' => e = .returned (.tuple #[.int .i64 s2, .int .i64 0]) ∧ Q w w')) (C3 : Hid (∀ w, Calls Try.prog 50 #[.agg #[.int .i64 n3.a, .int .i64 n3.b], .agg #[.int .i64 0, .int .i64 0]] w fun e w' => e = .returned (.tuple #[.int .i64 s3, .int .i64 0]) ∧ Q w w')) (_ : s1 ≤ 0) (_ : s2 ≤ 0) (_ : 0 < s3) :
    Calls Try.prog 71 #[.agg #[.int .i64 x.a, .int .i64 x.b, .int .i64 x.c, .int .i64 x.d, .int .i64 y.a, .int .i64 y.b, .int .i64 y.c, .int .i64 y.d, .int .i64 z.a, .int .i64 z.b, .int .i64 z.c, .int .i64 z.d]] w fun e w' => e = .returned (.agg #[.int .i64 n3.a, .int .i64 n3.b]) ∧ Q w w' := by
  go_enter Try.func71, Try.ntmps71
  go_wp2
  refine wp_loop_rounds 4 ?_
  repeat (rw [rounds_succ]; go_wp2_with (first | (go_at_call 96; first | ((with_reducible refine (N1.out _).mono ?_); rintro e w' ⟨rfl, kj, rfl⟩) | ((with_reducible refine (N2.out _).mono ?_); rintro e w' ⟨rfl, kj, rfl⟩) | ((with_reducible refine (N3.out _).mono ?_); rintro e w' ⟨rfl, kj, rfl⟩)) | (go_at_call 50; first | ((with_reducible refine (C1.out _).mono ?_); rintro e w' ⟨rfl, kj, rfl⟩) | ((with_reducible refine (C2.out _).mono ?_); rintro e w' ⟨rfl, kj, rfl⟩) | ((with_reducible refine (C3.out _).mono ?_); rintro e w' ⟨rfl, kj, rfl⟩))))
  refine bodyPost_ret (v := .agg #[.int .i64 n3.a, .int .i64 n3.b]) (by simp [results, Try.results71, go_sem]) rfl ⟨rfl, ?_⟩
  repeat' (first | exact Q.refl _ | refine Q.alloc ?_ _ | refine Q.jk ?_ _ | refine Q.drew ?_)
set_option maxHeartbeats 4000000 in
theorem rlargest_fff (x y z : Cy) (n1 n2 n3 : Su) (s1 s2 s3 : Int) (w : World) (N1 : Hid (∀ w, Calls Try.prog 96 #[.agg #[.int .i64 x.a, .int .i64 x.b, .int .i64 x.c, .int .i64 x.d]] w fun e w' => e = .returned (.tuple #[.agg #[.int .i64 n1.a, .int .i64 n1.b], .int .i64 0]) ∧ Q w w')) (N2 : Hid (∀ w, Calls Try.prog 96 #[.agg #[.int .i64 y.a, .int .i64 y.b, .int .i64 y.c, .int .i64 y.d]] w fun e w' => e = .returned (.tuple #[.agg #[.int .i64 n2.a, .int .i64 n2.b], .int .i64 0]) ∧ Q w w')) (N3 : Hid (∀ w, Calls Try.prog 96 #[.agg #[.int .i64 z.a, .int .i64 z.b, .int .i64 z.c, .int .i64 z.d]] w fun e w' => e = .returned (.tuple #[.agg #[.int .i64 n3.a, .int .i64 n3.b], .int .i64 0]) ∧ Q w w'))
    (C1 : Hid (∀ w, Calls Try.prog 50 #[.agg #[.int .i64 n1.a, .int .i64 n1.b], .agg #[.int .i64 0, .int .i64 0]] w fun e w' => e = .returned (.tuple #[.int .i64 s1, .int .i64 0]) ∧ Q w w')) (C2 : Hid (∀ w, Calls Try.prog 50 #[.agg #[.int .i64 n2.a, .int .i64 n2.b], .agg #[.int .i64 0, .int .i64 0]] w fun e w' => e = .returned (.tuple #[.int .i64 s2, .int .i64 0]) ∧ Q w w')) (C3 : Hid (∀ w, Calls Try.prog 50 #[.agg #[.int .i64 n3.a, .int .i64 n3.b], .agg #[.int .i64 0, .int .i64 0]] w fun e w' => e = .returned (.tuple #[.int .i64 s3, .int .i64 0]) ∧ Q w w')) (_ : s1 ≤ 0) (_ : s2 ≤ 0) (_ : s3 ≤ 0) :
    Calls Try.prog 71 #[.agg #[.int .i64 x.a, .int .i64 x.b, .int .i64 x.c, .int .i64 x.d, .int .i64 y.a, .int .i64 y.b, .int .i64 y.c, .int .i64 y.d, .int .i64 z.a, .int .i64 z.b, .int .i64 z.c, .int .i64 z.d]] w fun e w' => e = .returned (.agg #[.int .i64 0, .int .i64 0]) ∧ Q w w' := by
  go_enter Try.func71, Try.ntmps71
  go_wp2
  refine wp_loop_rounds 4 ?_
  repeat (rw [rounds_succ]; go_wp2_with (first | (go_at_call 96; first | ((with_reducible refine (N1.out _).mono ?_); rintro e w' ⟨rfl, kj, rfl⟩) | ((with_reducible refine (N2.out _).mono ?_); rintro e w' ⟨rfl, kj, rfl⟩) | ((with_reducible refine (N3.out _).mono ?_); rintro e w' ⟨rfl, kj, rfl⟩)) | (go_at_call 50; first | ((with_reducible refine (C1.out _).mono ?_); rintro e w' ⟨rfl, kj, rfl⟩) | ((with_reducible refine (C2.out _).mono ?_); rintro e w' ⟨rfl, kj, rfl⟩) | ((with_reducible refine (C3.out _).mono ?_); rintro e w' ⟨rfl, kj, rfl⟩))))
  refine bodyPost_ret (v := .agg #[.int .i64 0, .int .i64 0]) (by simp [results, Try.results71, go_sem]) rfl ⟨rfl, ?_⟩
  repeat' (first | exact Q.refl _ | refine Q.alloc ?_ _ | refine Q.jk ?_ _ | refine Q.drew ?_)
theorem rlargest0_c (x y z : Cy) (w : World) (hx : x.In 65536) (hy : y.In 65536) (hz : z.In 65536) :
    Calls Try.prog 71 #[.agg #[.int .i64 x.a, .int .i64 x.b, .int .i64 x.c, .int .i64 x.d, .int .i64 y.a, .int .i64 y.b, .int .i64 y.c, .int .i64 y.d, .int .i64 z.a, .int .i64 z.b, .int .i64 z.c, .int .i64 z.d]] w fun e w' => e = .returned (.agg #[.int .i64 (extS 1 x y z).a, .int .i64 (extS 1 x y z).b]) ∧ Q w w' := by
  have N1 := Lib.hid (fun w => rnorm_c x w (hx.mono (by decide)))
  have N2 := Lib.hid (fun w => rnorm_c y w (hy.mono (by decide)))
  have N3 := Lib.hid (fun w => rnorm_c z w (hz.mono (by decide)))
  have g1 : x.norm.In 1000000000000000000 := (norm_in hx).mono (by decide)
  have g2 : y.norm.In 1000000000000000000 := (norm_in hy).mono (by decide)
  have g3 : z.norm.In 1000000000000000000 := (norm_in hz).mono (by decide)
  have g0 : (Su.mk 0 0).In 1000000000000000000 := by unfold Su.In; decide
  rw [← ext_top]
  have C1 := Lib.hid (fun w => r2cmp_c x.norm ⟨0, 0⟩ w g1 g0)
  rcases Int.lt_or_le 0 (sgnS (x.norm.sub ⟨0, 0⟩)) with h1 | h1
  · rw [pick_pos h1]
    have C2 := Lib.hid (fun w => r2cmp_c y.norm x.norm w g2 g1)
    rcases Int.lt_or_le 0 (sgnS (y.norm.sub x.norm)) with h2 | h2
    · rw [pick_pos h2]
      have C3 := Lib.hid (fun w => r2cmp_c z.norm y.norm w g3 g2)
      rcases Int.lt_or_le 0 (sgnS (z.norm.sub y.norm)) with h3 | h3
      · rw [pick_pos h3]
        exact rlargest_ttt x y z _ _ _ _ _ _ w N1 N2 N3 C1 C2 C3 h1 h2 h3
      · rw [pick_neg h3]
        exact rlargest_ttf x y z _ _ _ _ _ _ w N1 N2 N3 C1 C2 C3 h1 h2 h3
    · rw [pick_neg h2]
      have C3 := Lib.hid (fun w => r2cmp_c z.norm x.norm w g3 g1)
      rcases Int.lt_or_le 0 (sgnS (z.norm.sub x.norm)) with h3 | h3
      · rw [pick_pos h3]
        exact rlargest_tft x y z _ _ _ _ _ _ w N1 N2 N3 C1 C2 C3 h1 h2 h3
      · rw [pick_neg h3]
        exact rlargest_tff x y z _ _ _ _ _ _ w N1 N2 N3 C1 C2 C3 h1 h2 h3
  · rw [pick_neg h1]
    have C2 := Lib.hid (fun w => r2cmp_c y.norm ⟨0, 0⟩ w g2 g0)
    rcases Int.lt_or_le 0 (sgnS (y.norm.sub ⟨0, 0⟩)) with h2 | h2
    · rw [pick_pos h2]
      have C3 := Lib.hid (fun w => r2cmp_c z.norm y.norm w g3 g2)
      rcases Int.lt_or_le 0 (sgnS (z.norm.sub y.norm)) with h3 | h3
      · rw [pick_pos h3]
        exact rlargest_ftt x y z _ _ _ _ _ _ w N1 N2 N3 C1 C2 C3 h1 h2 h3
      · rw [pick_neg h3]
        exact rlargest_ftf x y z _ _ _ _ _ _ w N1 N2 N3 C1 C2 C3 h1 h2 h3
    · rw [pick_neg h2]
      have C3 := Lib.hid (fun w => r2cmp_c z.norm ⟨0, 0⟩ w g3 g0)
      rcases Int.lt_or_le 0 (sgnS (z.norm.sub ⟨0, 0⟩)) with h3 | h3
      · rw [pick_pos h3]
        exact rlargest_fft x y z _ _ _ _ _ _ w N1 N2 N3 C1 C2 C3 h1 h2 h3
      · rw [pick_neg h3]
        exact rlargest_fff x y z _ _ _ _ _ _ w N1 N2 N3 C1 C2 C3 h1 h2 h3
set_option maxHeartbeats 2000000 in
theorem rlargest_c (x y z : Cy) (w : World) (HN : Hid (fine3 x y z = true)) :
    Calls Try.prog 35 #[.agg #[.int .i64 x.a, .int .i64 x.b, .int .i64 x.c, .int .i64 x.d, .int .i64 y.a, .int .i64 y.b, .int .i64 y.c, .int .i64 y.d, .int .i64 z.a, .int .i64 z.b, .int .i64 z.c, .int .i64 z.d]] w fun e w' => e = .returned (.tuple #[.agg #[.int .i64 (extS 1 x y z).a, .int .i64 (extS 1 x y z).b], .int .i64 0]) ∧ Q w w' := by
  obtain ⟨hx, hy, hz⟩ := fine3_in HN.out
  go_enter Try.func35, Try.ntmps35
  go_wp2_with (first | (go_at_call 70; refine (rfine_any x y z _).mono ?_; rintro e w' ⟨rfl, kj, rfl⟩; rw [HN.out]) | (go_at_call 71; refine (rlargest0_c x y z _ hx hy hz).mono ?_; rintro e w' ⟨rfl, kj, rfl⟩))
  refine bodyPost_ret (v := .tuple #[.agg #[.int .i64 (extS 1 x y z).a, .int .i64 (extS 1 x y z).b], .int .i64 0]) (by simp [results, Try.results35, go_sem]) rfl ⟨rfl, ?_⟩
  repeat' (first | exact Q.refl _ | refine Q.alloc ?_ _ | refine Q.jk ?_ _ | refine Q.drew ?_)
set_option maxHeartbeats 2000000 in
theorem rlargest_no (x y z : Cy) (w : World) (HN : Hid (fine3 x y z = false)) :
    Calls Try.prog 35 #[.agg #[.int .i64 x.a, .int .i64 x.b, .int .i64 x.c, .int .i64 x.d, .int .i64 y.a, .int .i64 y.b, .int .i64 y.c, .int .i64 y.d, .int .i64 z.a, .int .i64 z.b, .int .i64 z.c, .int .i64 z.d]] w fun e w' => e = .returned (.tuple #[.agg #[.int .i64 0, .int .i64 0], .int .i64 1]) ∧ Q w w' := by
  go_enter Try.func35, Try.ntmps35
  go_wp2_with (go_at_call 70; refine (rfine_any x y z _).mono ?_; rintro e w' ⟨rfl, kj, rfl⟩; rw [HN.out])
  refine bodyPost_ret (v := .tuple #[.agg #[.int .i64 0, .int .i64 0], .int .i64 1]) (by simp [results, Try.results35, go_sem]) rfl ⟨rfl, ?_⟩
  repeat' (first | exact Q.refl _ | refine Q.alloc ?_ _ | refine Q.jk ?_ _ | refine Q.drew ?_)
set_option maxHeartbeats 2000000 in
theorem rleast_c (c : Cy) (p : Int) (w : World) (hc : c.In 65536) (p0 : 1 ≤ p) (p1 : p ≤ 16383) :
    Calls Try.prog 76 #[.agg #[.int .i64 c.a, .int .i64 c.b, .int .i64 c.c, .int .i64 c.d], .int .i64 p] w fun e w' => e = .returned (.bool (decide (0 ≤ sgnS (c.norm.sub (peakS p))))) ∧ Q w w' := by
  have hn : c.norm.In 1000000000000000000 := (norm_in hc).mono (by decide)
  have hp := peakS_in (p := p) (by omega) p1
  have q1 : -10000000000 ≤ 36 * p * p := hp.1
  have q2 : 36 * p * p ≤ 10000000000 := hp.2.1
  go_enter Try.func76, Try.ntmps76
  go_wp2_with (first | (go_at_call 96; refine (rnorm_c c _ (hc.mono (by decide))).mono ?_; rintro e w' ⟨rfl, kj, rfl⟩) | (go_at_call 50; refine (r2cmp_c c.norm (peakS p) _ hn (hp.mono (by decide))).mono ?_; rintro e w' ⟨rfl, kj, rfl⟩))
  go_ret
  refine ⟨rfl, ?_⟩
  repeat' (first | exact Q.refl _ | refine Q.alloc ?_ _ | refine Q.jk ?_ _ | refine Q.drew ?_)
set_option maxHeartbeats 4000000 in
theorem rabove0_b (x y z : Cy) (p : Int) (b1 b2 b3 : Bool) (w : World) (L1 : Hid (∀ w, Calls Try.prog 76 #[.agg #[.int .i64 x.a, .int .i64 x.b, .int .i64 x.c, .int .i64 x.d], .int .i64 p] w fun e w' => e = .returned (.bool b1) ∧ Q w w')) (L2 : Hid (∀ w, Calls Try.prog 76 #[.agg #[.int .i64 y.a, .int .i64 y.b, .int .i64 y.c, .int .i64 y.d], .int .i64 p] w fun e w' => e = .returned (.bool b2) ∧ Q w w')) (L3 : Hid (∀ w, Calls Try.prog 76 #[.agg #[.int .i64 z.a, .int .i64 z.b, .int .i64 z.c, .int .i64 z.d], .int .i64 p] w fun e w' => e = .returned (.bool b3) ∧ Q w w')) :
    Calls Try.prog 75 #[.agg #[.int .i64 x.a, .int .i64 x.b, .int .i64 x.c, .int .i64 x.d, .int .i64 y.a, .int .i64 y.b, .int .i64 y.c, .int .i64 y.d, .int .i64 z.a, .int .i64 z.b, .int .i64 z.c, .int .i64 z.d], .int .i64 p] w fun e w' => e = .returned (.bool (b1 || b2 || b3)) ∧ Q w w' := by
  cases b1 <;> cases b2 <;> cases b3
  all_goals
    go_enter Try.func75, Try.ntmps75
    go_wp2_with (go_at_call 76; first | ((with_reducible refine (L1.out _).mono ?_); rintro e w' ⟨rfl, kj, rfl⟩) | ((with_reducible refine (L2.out _).mono ?_); rintro e w' ⟨rfl, kj, rfl⟩) | ((with_reducible refine (L3.out _).mono ?_); rintro e w' ⟨rfl, kj, rfl⟩))
    go_ret
    refine ⟨rfl, ?_⟩
    repeat' (first | exact Q.refl _ | refine Q.alloc ?_ _ | refine Q.jk ?_ _ | refine Q.drew ?_)
theorem up_or (x y z : Cy) (p : Int) : (decide (0 ≤ sgnS (x.norm.sub (peakS p))) || decide (0 ≤ sgnS (y.norm.sub (peakS p))) || decide (0 ≤ sgnS (z.norm.sub (peakS p)))) = upB x y z p := by
  unfold upB
  rw [Bool.eq_iff_iff]
  simp only [Bool.or_eq_true, decide_eq_true_eq, ge_ext, or_assoc]
theorem rabove0_c (x y z : Cy) (p : Int) (w : World) (hx : x.In 65536) (hy : y.In 65536) (hz : z.In 65536) (p0 : 1 ≤ p) (p1 : p ≤ 16383) :
    Calls Try.prog 75 #[.agg #[.int .i64 x.a, .int .i64 x.b, .int .i64 x.c, .int .i64 x.d, .int .i64 y.a, .int .i64 y.b, .int .i64 y.c, .int .i64 y.d, .int .i64 z.a, .int .i64 z.b, .int .i64 z.c, .int .i64 z.d], .int .i64 p] w fun e w' => e = .returned (.bool (upB x y z p)) ∧ Q w w' := by
  have h := rabove0_b x y z p _ _ _ w (Lib.hid fun w => rleast_c x p w hx p0 p1) (Lib.hid fun w => rleast_c y p w hy p0 p1) (Lib.hid fun w => rleast_c z p w hz p0 p1)
  rw [up_or] at h
  exact h
set_option maxHeartbeats 2000000 in
theorem rabove_no1 (x y z : Cy) (p : Int) (w : World) (HN : Hid (fine3 x y z = false)) :
    Calls Try.prog 37 #[.agg #[.int .i64 x.a, .int .i64 x.b, .int .i64 x.c, .int .i64 x.d, .int .i64 y.a, .int .i64 y.b, .int .i64 y.c, .int .i64 y.d, .int .i64 z.a, .int .i64 z.b, .int .i64 z.c, .int .i64 z.d], .int .i64 p] w fun e w' => e = .returned (.tuple #[.bool false, .int .i64 1]) ∧ Q w w' := by
  go_enter Try.func37, Try.ntmps37
  go_wp2_with (go_at_call 70; refine (rfine_any x y z _).mono ?_; rintro e w' ⟨rfl, kj, rfl⟩; rw [HN.out])
  go_ret2
  refine ⟨rfl, ?_⟩
  repeat' (first | exact Q.refl _ | refine Q.alloc ?_ _ | refine Q.jk ?_ _ | refine Q.drew ?_)
set_option maxHeartbeats 2000000 in
theorem rabove_no2 (x y z : Cy) (p : Int) (w : World) (HN : Hid (fine3 x y z = true)) (HB : Hid ((decide (1 ≤ p) && decide (p ≤ 16383)) = false)) :
    Calls Try.prog 37 #[.agg #[.int .i64 x.a, .int .i64 x.b, .int .i64 x.c, .int .i64 x.d, .int .i64 y.a, .int .i64 y.b, .int .i64 y.c, .int .i64 y.d, .int .i64 z.a, .int .i64 z.b, .int .i64 z.c, .int .i64 z.d], .int .i64 p] w fun e w' => e = .returned (.tuple #[.bool false, .int .i64 1]) ∧ Q w w' := by
  go_enter Try.func37, Try.ntmps37
  go_wp2_with (first | (go_at_call 70; refine (rfine_any x y z _).mono ?_; rintro e w' ⟨rfl, kj, rfl⟩; rw [HN.out]) | (go_at_call 74; refine (rbetween24_any _ _ _ _).mono ?_; rintro e w' ⟨rfl, rfl⟩; rw [HB.out]))
  go_ret2
  refine ⟨rfl, ?_⟩
  repeat' (first | exact Q.refl _ | refine Q.alloc ?_ _ | refine Q.jk ?_ _ | refine Q.drew ?_)
theorem rabove_no (x y z : Cy) (p : Int) (w : World) (h : (fine3 x y z && (decide (1 ≤ p) && decide (p ≤ 16383))) = false) :
    Calls Try.prog 37 #[.agg #[.int .i64 x.a, .int .i64 x.b, .int .i64 x.c, .int .i64 x.d, .int .i64 y.a, .int .i64 y.b, .int .i64 y.c, .int .i64 y.d, .int .i64 z.a, .int .i64 z.b, .int .i64 z.c, .int .i64 z.d], .int .i64 p] w fun e w' => e = .returned (.tuple #[.bool false, .int .i64 1]) ∧ Q w w' := by
  cases hf : fine3 x y z
  · exact rabove_no1 x y z p w (Lib.hid hf)
  · rw [hf, Bool.true_and] at h
    exact rabove_no2 x y z p w (Lib.hid hf) (Lib.hid h)
set_option maxHeartbeats 2000000 in
theorem rabove_c (x y z : Cy) (p : Int) (w : World) (HN : Hid (fine3 x y z = true)) (p0 : 1 ≤ p) (p1 : p ≤ 16383) (HB : Hid ((decide (1 ≤ p) && decide (p ≤ 16383)) = true)) :
    Calls Try.prog 37 #[.agg #[.int .i64 x.a, .int .i64 x.b, .int .i64 x.c, .int .i64 x.d, .int .i64 y.a, .int .i64 y.b, .int .i64 y.c, .int .i64 y.d, .int .i64 z.a, .int .i64 z.b, .int .i64 z.c, .int .i64 z.d], .int .i64 p] w fun e w' => e = .returned (.tuple #[.bool (upB x y z p), .int .i64 0]) ∧ Q w w' := by
  obtain ⟨hx, hy, hz⟩ := fine3_in HN.out
  go_enter Try.func37, Try.ntmps37
  go_wp2_with (first | (go_at_call 70; refine (rfine_any x y z _).mono ?_; rintro e w' ⟨rfl, kj, rfl⟩; rw [HN.out]) | (go_at_call 74; refine (rbetween24_any _ _ _ _).mono ?_; rintro e w' ⟨rfl, rfl⟩; rw [HB.out]) | (go_at_call 75; refine (rabove0_c x y z p _ hx hy hz p0 p1).mono ?_; rintro e w' ⟨rfl, kj, rfl⟩))
  go_ret2
  refine ⟨rfl, ?_⟩
  repeat' (first | exact Q.refl _ | refine Q.alloc ?_ _ | refine Q.jk ?_ _ | refine Q.drew ?_)
set_option maxHeartbeats 2000000 in
theorem runder_no1 (x y z : Cy) (p : Int) (w : World) (HN : Hid (fine3 x y z = false)) :
    Calls Try.prog 39 #[.agg #[.int .i64 x.a, .int .i64 x.b, .int .i64 x.c, .int .i64 x.d, .int .i64 y.a, .int .i64 y.b, .int .i64 y.c, .int .i64 y.d, .int .i64 z.a, .int .i64 z.b, .int .i64 z.c, .int .i64 z.d], .int .i64 p] w fun e w' => e = .returned (.tuple #[.bool false, .int .i64 1]) ∧ Q w w' := by
  go_enter Try.func39, Try.ntmps39
  go_wp2_with (go_at_call 70; refine (rfine_any x y z _).mono ?_; rintro e w' ⟨rfl, kj, rfl⟩; rw [HN.out])
  go_ret2
  refine ⟨rfl, ?_⟩
  repeat' (first | exact Q.refl _ | refine Q.alloc ?_ _ | refine Q.jk ?_ _ | refine Q.drew ?_)
set_option maxHeartbeats 2000000 in
theorem runder_no2 (x y z : Cy) (p : Int) (w : World) (HN : Hid (fine3 x y z = true)) (HB : Hid ((decide (1 ≤ p) && decide (p ≤ 16383)) = false)) :
    Calls Try.prog 39 #[.agg #[.int .i64 x.a, .int .i64 x.b, .int .i64 x.c, .int .i64 x.d, .int .i64 y.a, .int .i64 y.b, .int .i64 y.c, .int .i64 y.d, .int .i64 z.a, .int .i64 z.b, .int .i64 z.c, .int .i64 z.d], .int .i64 p] w fun e w' => e = .returned (.tuple #[.bool false, .int .i64 1]) ∧ Q w w' := by
  go_enter Try.func39, Try.ntmps39
  go_wp2_with (first | (go_at_call 70; refine (rfine_any x y z _).mono ?_; rintro e w' ⟨rfl, kj, rfl⟩; rw [HN.out]) | (go_at_call 74; refine (rbetween24_any _ _ _ _).mono ?_; rintro e w' ⟨rfl, rfl⟩; rw [HB.out]))
  go_ret2
  refine ⟨rfl, ?_⟩
  repeat' (first | exact Q.refl _ | refine Q.alloc ?_ _ | refine Q.jk ?_ _ | refine Q.drew ?_)
theorem runder_no (x y z : Cy) (p : Int) (w : World) (h : (fine3 x y z && (decide (1 ≤ p) && decide (p ≤ 16383))) = false) :
    Calls Try.prog 39 #[.agg #[.int .i64 x.a, .int .i64 x.b, .int .i64 x.c, .int .i64 x.d, .int .i64 y.a, .int .i64 y.b, .int .i64 y.c, .int .i64 y.d, .int .i64 z.a, .int .i64 z.b, .int .i64 z.c, .int .i64 z.d], .int .i64 p] w fun e w' => e = .returned (.tuple #[.bool false, .int .i64 1]) ∧ Q w w' := by
  cases hf : fine3 x y z
  · exact runder_no1 x y z p w (Lib.hid hf)
  · rw [hf, Bool.true_and] at h
    exact runder_no2 x y z p w (Lib.hid hf) (Lib.hid h)
set_option maxHeartbeats 4000000 in
theorem runder_b (x y z : Cy) (p : Int) (b1 b2 b3 : Bool) (w : World) (HN : Hid (fine3 x y z = true)) (HB : Hid ((decide (1 ≤ p) && decide (p ≤ 16383)) = true)) (L1 : Hid (∀ w, Calls Try.prog 76 #[.agg #[.int .i64 x.a, .int .i64 x.b, .int .i64 x.c, .int .i64 x.d], .int .i64 p] w fun e w' => e = .returned (.bool b1) ∧ Q w w')) (L2 : Hid (∀ w, Calls Try.prog 76 #[.agg #[.int .i64 y.a, .int .i64 y.b, .int .i64 y.c, .int .i64 y.d], .int .i64 p] w fun e w' => e = .returned (.bool b2) ∧ Q w w')) (L3 : Hid (∀ w, Calls Try.prog 76 #[.agg #[.int .i64 z.a, .int .i64 z.b, .int .i64 z.c, .int .i64 z.d], .int .i64 p] w fun e w' => e = .returned (.bool b3) ∧ Q w w')) :
    Calls Try.prog 39 #[.agg #[.int .i64 x.a, .int .i64 x.b, .int .i64 x.c, .int .i64 x.d, .int .i64 y.a, .int .i64 y.b, .int .i64 y.c, .int .i64 y.d, .int .i64 z.a, .int .i64 z.b, .int .i64 z.c, .int .i64 z.d], .int .i64 p] w fun e w' => e = .returned (.tuple #[.bool (!b1 || !b2 || !b3), .int .i64 0]) ∧ Q w w' := by
  cases b1 <;> cases b2 <;> cases b3
  all_goals
    go_enter Try.func39, Try.ntmps39
    go_wp2_with (first | (go_at_call 70; refine (rfine_any x y z _).mono ?_; rintro e w' ⟨rfl, kj, rfl⟩; rw [HN.out]) | (go_at_call 74; refine (rbetween24_any _ _ _ _).mono ?_; rintro e w' ⟨rfl, rfl⟩; rw [HB.out]) | (go_at_call 76; first | ((with_reducible refine (L1.out _).mono ?_); rintro e w' ⟨rfl, kj, rfl⟩) | ((with_reducible refine (L2.out _).mono ?_); rintro e w' ⟨rfl, kj, rfl⟩) | ((with_reducible refine (L3.out _).mono ?_); rintro e w' ⟨rfl, kj, rfl⟩)))
    go_ret2
    refine ⟨rfl, ?_⟩
    repeat' (first | exact Q.refl _ | refine Q.alloc ?_ _ | refine Q.jk ?_ _ | refine Q.drew ?_)
theorem runder_c (x y z : Cy) (p : Int) (w : World) (HN : Hid (fine3 x y z = true)) (p0 : 1 ≤ p) (p1 : p ≤ 16383) (HB : Hid ((decide (1 ≤ p) && decide (p ≤ 16383)) = true)) :
    Calls Try.prog 39 #[.agg #[.int .i64 x.a, .int .i64 x.b, .int .i64 x.c, .int .i64 x.d, .int .i64 y.a, .int .i64 y.b, .int .i64 y.c, .int .i64 y.d, .int .i64 z.a, .int .i64 z.b, .int .i64 z.c, .int .i64 z.d], .int .i64 p] w fun e w' => e = .returned (.tuple #[.bool (decide (sgnS ((extS (-1) x y z).sub (peakS p)) < 0)), .int .i64 0]) ∧ Q w w' := by
  obtain ⟨hx, hy, hz⟩ := fine3_in HN.out
  have h := runder_b x y z p _ _ _ w HN HB (Lib.hid fun w => rleast_c x p w hx p0 p1) (Lib.hid fun w => rleast_c y p w hy p0 p1) (Lib.hid fun w => rleast_c z p w hz p0 p1)
  have e : (!decide (0 ≤ sgnS (x.norm.sub (peakS p))) || !decide (0 ≤ sgnS (y.norm.sub (peakS p))) || !decide (0 ≤ sgnS (z.norm.sub (peakS p)))) = decide (sgnS ((extS (-1) x y z).sub (peakS p)) < 0) := by
    rw [Bool.eq_iff_iff]
    simp only [Bool.or_eq_true, Bool.not_eq_true', decide_eq_true_eq, decide_eq_false_iff_not, lt_ext, or_assoc, Int.not_le]
  rw [e] at h
  exact h
end Go.Proofs.Ytkkjifgcjfbcaaa
