
/- What the functions of package overcurrent return for phasors in their range. -/
import Derived.Test.YtkkjifgcjfbcaaaFl
import Derived.Test.YtkkjifgcjfbcaaaCmp
import Derived.Test.YtkkjifgcjfbcaaaSuT
import Derived.WalkMore
namespace Go.Sub
/-- The greater (s = 1) or the smaller (s = -1) of two numbers. -/
def pickS (s : Int) (b n : Su) : Su := if (sgnS (n.sub b) == s) = true then n else b
/-- The greatest or the least squared magnitude. -/
def extS (s : Int) (x y z : Cy) : Su := pickS s (pickS s x.norm y.norm) z.norm
theorem pickS_or (s : Int) (b n : Su) : pickS s b n = n ∨ pickS s b n = b := by
  unfold pickS
  split
  · exact .inl rfl
  · exact .inr rfl
theorem pickS_in {s l : Int} {b n : Su} (hb : b.In l) (hn : n.In l) : (pickS s b n).In l := by
  rcases pickS_or s b n with h | h <;> rw [h] <;> assumption
theorem extS_in {x y z : Cy} (s : Int) (hx : x.In 65536) (hy : y.In 65536) (hz : z.In 65536) : (extS s x y z).In 25769803776 :=
  pickS_in (pickS_in ((norm_in hx).mono (by decide)) ((norm_in hy).mono (by decide))) ((norm_in hz).mono (by decide))
/-- The peak value's squared magnitude. -/
def peakS (p : Int) : Su := ⟨36 * p * p, 0⟩
theorem peakS_in {p : Int} (h0 : 0 ≤ p) (h1 : p ≤ 16383) : (peakS p).In 10000000000 := by
  have hp := bd_mul (show -16383 ≤ p by omega) h1 (show -16383 ≤ p by omega) h1
  unfold Su.In peakS
  dsimp only
  rw [Int.mul_assoc]
  omega
end Go.Sub
namespace Go.Proofs.Ytkkjifgcjfbcaaa
open Go.RowKit Go.Sub
@[go_sem] theorem index3_0 (x0 x1 x2 x3 x4 x5 x6 x7 x8 x9 x10 x11 : Value) (w : World) : (Instr.index 41 (.agg #[x0, x1, x2, x3, x4, x5, x6, x7, x8, x9, x10, x11]) (.int .i64 0)).run Try.prog w = .ok (.agg #[x0, x1, x2, x3]) w := by kernel_rfl
@[go_sem] theorem index3_1 (x0 x1 x2 x3 x4 x5 x6 x7 x8 x9 x10 x11 : Value) (w : World) : (Instr.index 41 (.agg #[x0, x1, x2, x3, x4, x5, x6, x7, x8, x9, x10, x11]) (.int .i64 1)).run Try.prog w = .ok (.agg #[x4, x5, x6, x7]) w := by kernel_rfl
@[go_sem] theorem index3_2 (x0 x1 x2 x3 x4 x5 x6 x7 x8 x9 x10 x11 : Value) (w : World) : (Instr.index 41 (.agg #[x0, x1, x2, x3, x4, x5, x6, x7, x8, x9, x10, x11]) (.int .i64 2)).run Try.prog w = .ok (.agg #[x8, x9, x10, x11]) w := by kernel_rfl
set_option maxHeartbeats 1000000 in
theorem ocbetween_any (n l h : Int) (w : World) :
    Calls Try.prog 72 #[.int .i64 n, .int .i64 l, .int .i64 h] w fun e w' => e = .returned (.bool (decide (l ≤ n) && decide (n ≤ h))) ∧ w = w' := by
  go_enter Try.func72, Try.ntmps72
  go_wp2
  all_goals go_ret
  all_goals
    refine ⟨?_, rfl⟩
    show Ending.returned (Value.bool _) = _
    refine congrArg (fun x => Ending.returned (Value.bool x)) ?_
    rw [Bool.eq_iff_iff]
    simp [*]
    try omega
theorem ocbetween_ok (n l h : Int) (w : World) (h0 : l ≤ n) (h1 : n ≤ h) :
    Calls Try.prog 72 #[.int .i64 n, .int .i64 l, .int .i64 h] w fun e w' => e = .returned (.bool true) ∧ w = w' := by
  have := ocbetween_any n l h w
  rwa [show (decide (l ≤ n) && decide (n ≤ h)) = true by simp; omega] at this
set_option maxRecDepth 100000 in
set_option maxHeartbeats 4000000 in
theorem phasors_ok (x y z : Cy) (w : World) (hx : x.In 65536) (hy : y.In 65536) (hz : z.In 65536) :
    Calls Try.prog 68 #[.agg #[.int .i64 x.a, .int .i64 x.b, .int .i64 x.c, .int .i64 x.d, .int .i64 y.a, .int .i64 y.b, .int .i64 y.c, .int .i64 y.d, .int .i64 z.a, .int .i64 z.b, .int .i64 z.c, .int .i64 z.d]] w fun e w' => e = .returned (.bool true) ∧ Q w w' := by
  obtain ⟨x1, x2, x3, x4, x5, x6, x7, x8⟩ := hx
  obtain ⟨y1, y2, y3, y4, y5, y6, y7, y8⟩ := hy
  obtain ⟨z1, z2, z3, z4, z5, z6, z7, z8⟩ := hz
  go_enter Try.func68, Try.ntmps68
  go_wp2_with fail
  go_step3
  go_wp2_with fail
  go_step3
  go_wp2_with fail
  refine wp_loop_rounds 4 ?_
  repeat (first | (rw [rounds_succ]; go_wp2_with (go_at_call 72; refine (ocbetween_ok _ _ _ _ (by omega) (by omega)).mono ?_; rintro e w' ⟨rfl, rfl⟩)) | (refine wp_loop_rounds 5 ?_))
  try rw [Exit.noGoto_ret]
  go_ret
  refine ⟨rfl, ?_⟩
  repeat' (first | exact Q.refl _ | refine Q.alloc ?_ _ | refine Q.jk ?_ _ | refine Q.drew ?_)
set_option maxHeartbeats 4000000 in
theorem extreme_tt (x y z : Cy) (s : Int) (w : World) (hx : x.In 65536) (hy : y.In 65536) (hz : z.In 65536) (h1 : (sgnS (y.norm.sub x.norm) == s) = true) (h2 : (sgnS (z.norm.sub y.norm) == s) = true) :
    Calls Try.prog 69 #[.agg #[.int .i64 x.a, .int .i64 x.b, .int .i64 x.c, .int .i64 x.d, .int .i64 y.a, .int .i64 y.b, .int .i64 y.c, .int .i64 y.d, .int .i64 z.a, .int .i64 z.b, .int .i64 z.c, .int .i64 z.d], .int .i64 s] w fun e w' => e = .returned (.tuple #[.agg #[.int .i64 z.norm.a, .int .i64 z.norm.b], .int .i64 0]) ∧ Q w w' := by
  have nx := norm_in hx
  have ny := norm_in hy
  have nz := norm_in hz
  go_enter Try.func69, Try.ntmps69
  go_wp2_with (go_at_call 48; first | ((with_reducible refine (norm_c x _ (hx.mono (by decide))).mono ?_); rintro e w' ⟨rfl, kj, rfl⟩) | ((with_reducible refine (norm_c y _ (hy.mono (by decide))).mono ?_); rintro e w' ⟨rfl, kj, rfl⟩) | ((with_reducible refine (norm_c z _ (hz.mono (by decide))).mono ?_); rintro e w' ⟨rfl, kj, rfl⟩))
  refine wp_loop_rounds 3 ?_
  repeat (rw [rounds_succ]; go_wp2_with (first | (go_at_call 48; first | ((with_reducible refine (norm_c x _ (hx.mono (by decide))).mono ?_); rintro e w' ⟨rfl, kj, rfl⟩) | ((with_reducible refine (norm_c y _ (hy.mono (by decide))).mono ?_); rintro e w' ⟨rfl, kj, rfl⟩) | ((with_reducible refine (norm_c z _ (hz.mono (by decide))).mono ?_); rintro e w' ⟨rfl, kj, rfl⟩)) | (go_at_call 24; refine (scmp_c _ _ _ (Su.In.mono (by with_reducible assumption) (by decide)) (Su.In.mono (by with_reducible assumption) (by decide))).mono ?_; rintro e w' ⟨rfl, kj, rfl⟩)))
  refine bodyPost_ret (v := .tuple #[.agg #[.int .i64 z.norm.a, .int .i64 z.norm.b], .int .i64 0]) (by simp [results, Try.results69, go_sem]) rfl ⟨rfl, ?_⟩
  repeat' (first | exact Q.refl _ | refine Q.alloc ?_ _ | refine Q.jk ?_ _ | refine Q.drew ?_)
set_option maxHeartbeats 4000000 in
theorem extreme_tf (x y z : Cy) (s : Int) (w : World) (hx : x.In 65536) (hy : y.In 65536) (hz : z.In 65536) (h1 : (sgnS (y.norm.sub x.norm) == s) = true) (h2 : (sgnS (z.norm.sub y.norm) == s) = false) :
    Calls Try.prog 69 #[.agg #[.int .i64 x.a, .int .i64 x.b, .int .i64 x.c, .int .i64 x.d, .int .i64 y.a, .int .i64 y.b, .int .i64 y.c, .int .i64 y.d, .int .i64 z.a, .int .i64 z.b, .int .i64 z.c, .int .i64 z.d], .int .i64 s] w fun e w' => e = .returned (.tuple #[.agg #[.int .i64 y.norm.a, .int .i64 y.norm.b], .int .i64 0]) ∧ Q w w' := by
  have nx := norm_in hx
  have ny := norm_in hy
  have nz := norm_in hz
  go_enter Try.func69, Try.ntmps69
  go_wp2_with (go_at_call 48; first | ((with_reducible refine (norm_c x _ (hx.mono (by decide))).mono ?_); rintro e w' ⟨rfl, kj, rfl⟩) | ((with_reducible refine (norm_c y _ (hy.mono (by decide))).mono ?_); rintro e w' ⟨rfl, kj, rfl⟩) | ((with_reducible refine (norm_c z _ (hz.mono (by decide))).mono ?_); rintro e w' ⟨rfl, kj, rfl⟩))
  refine wp_loop_rounds 3 ?_
  repeat (rw [rounds_succ]; go_wp2_with (first | (go_at_call 48; first | ((with_reducible refine (norm_c x _ (hx.mono (by decide))).mono ?_); rintro e w' ⟨rfl, kj, rfl⟩) | ((with_reducible refine (norm_c y _ (hy.mono (by decide))).mono ?_); rintro e w' ⟨rfl, kj, rfl⟩) | ((with_reducible refine (norm_c z _ (hz.mono (by decide))).mono ?_); rintro e w' ⟨rfl, kj, rfl⟩)) | (go_at_call 24; refine (scmp_c _ _ _ (Su.In.mono (by with_reducible assumption) (by decide)) (Su.In.mono (by with_reducible assumption) (by decide))).mono ?_; rintro e w' ⟨rfl, kj, rfl⟩)))
  refine bodyPost_ret (v := .tuple #[.agg #[.int .i64 y.norm.a, .int .i64 y.norm.b], .int .i64 0]) (by simp [results, Try.results69, go_sem]) rfl ⟨rfl, ?_⟩
  repeat' (first | exact Q.refl _ | refine Q.alloc ?_ _ | refine Q.jk ?_ _ | refine Q.drew ?_)
set_option maxHeartbeats 4000000 in
theorem extreme_ft (x y z : Cy) (s : Int) (w : World) (hx : x.In 65536) (hy : y.In 65536) (hz : z.In 65536) (h1 : (sgnS (y.norm.sub x.norm) == s) = false) (h2 : (sgnS (z.norm.sub x.norm) == s) = true) :
    Calls Try.prog 69 #[.agg #[.int .i64 x.a, .int .i64 x.b, .int .i64 x.c, .int .i64 x.d, .int .i64 y.a, .int .i64 y.b, .int .i64 y.c, .int .i64 y.d, .int .i64 z.a, .int .i64 z.b, .int .i64 z.c, .int .i64 z.d], .int .i64 s] w fun e w' => e = .returned (.tuple #[.agg #[.int .i64 z.norm.a, .int .i64 z.norm.b], .int .i64 0]) ∧ Q w w' := by
  have nx := norm_in hx
  have ny := norm_in hy
  have nz := norm_in hz
  go_enter Try.func69, Try.ntmps69
  go_wp2_with (go_at_call 48; first | ((with_reducible refine (norm_c x _ (hx.mono (by decide))).mono ?_); rintro e w' ⟨rfl, kj, rfl⟩) | ((with_reducible refine (norm_c y _ (hy.mono (by decide))).mono ?_); rintro e w' ⟨rfl, kj, rfl⟩) | ((with_reducible refine (norm_c z _ (hz.mono (by decide))).mono ?_); rintro e w' ⟨rfl, kj, rfl⟩))
  refine wp_loop_rounds 3 ?_
  repeat (rw [rounds_succ]; go_wp2_with (first | (go_at_call 48; first | ((with_reducible refine (norm_c x _ (hx.mono (by decide))).mono ?_); rintro e w' ⟨rfl, kj, rfl⟩) | ((with_reducible refine (norm_c y _ (hy.mono (by decide))).mono ?_); rintro e w' ⟨rfl, kj, rfl⟩) | ((with_reducible refine (norm_c z _ (hz.mono (by decide))).mono ?_); rintro e w' ⟨rfl, kj, rfl⟩)) | (go_at_call 24; refine (scmp_c _ _ _ (Su.In.mono (by with_reducible assumption) (by decide)) (Su.In.mono (by with_reducible assumption) (by decide))).mono ?_; rintro e w' ⟨rfl, kj, rfl⟩)))
  refine bodyPost_ret (v := .tuple #[.agg #[.int .i64 z.norm.a, .int .i64 z.norm.b], .int .i64 0]) (by simp [results, Try.results69, go_sem]) rfl ⟨rfl, ?_⟩
  repeat' (first | exact Q.refl _ | refine Q.alloc ?_ _ | refine Q.jk ?_ _ | refine Q.drew ?_)
set_option maxHeartbeats 4000000 in
theorem extreme_ff (x y z : Cy) (s : Int) (w : World) (hx : x.In 65536) (hy : y.In 65536) (hz : z.In 65536) (h1 : (sgnS (y.norm.sub x.norm) == s) = false) (h2 : (sgnS (z.norm.sub x.norm) == s) = false) :
    Calls Try.prog 69 #[.agg #[.int .i64 x.a, .int .i64 x.b, .int .i64 x.c, .int .i64 x.d, .int .i64 y.a, .int .i64 y.b, .int .i64 y.c, .int .i64 y.d, .int .i64 z.a, .int .i64 z.b, .int .i64 z.c, .int .i64 z.d], .int .i64 s] w fun e w' => e = .returned (.tuple #[.agg #[.int .i64 x.norm.a, .int .i64 x.norm.b], .int .i64 0]) ∧ Q w w' := by
  have nx := norm_in hx
  have ny := norm_in hy
  have nz := norm_in hz
  go_enter Try.func69, Try.ntmps69
  go_wp2_with (go_at_call 48; first | ((with_reducible refine (norm_c x _ (hx.mono (by decide))).mono ?_); rintro e w' ⟨rfl, kj, rfl⟩) | ((with_reducible refine (norm_c y _ (hy.mono (by decide))).mono ?_); rintro e w' ⟨rfl, kj, rfl⟩) | ((with_reducible refine (norm_c z _ (hz.mono (by decide))).mono ?_); rintro e w' ⟨rfl, kj, rfl⟩))
  refine wp_loop_rounds 3 ?_
  repeat (rw [rounds_succ]; go_wp2_with (first | (go_at_call 48; first | ((with_reducible refine (norm_c x _ (hx.mono (by decide))).mono ?_); rintro e w' ⟨rfl, kj, rfl⟩) | ((with_reducible refine (norm_c y _ (hy.mono (by decide))).mono ?_); rintro e w' ⟨rfl, kj, rfl⟩) | ((with_reducible refine (norm_c z _ (hz.mono (by decide))).mono ?_); rintro e w' ⟨rfl, kj, rfl⟩)) | (go_at_call 24; refine (scmp_c _ _ _ (Su.In.mono (by with_reducible assumption) (by decide)) (Su.In.mono (by with_reducible assumption) (by decide))).mono ?_; rintro e w' ⟨rfl, kj, rfl⟩)))
  refine bodyPost_ret (v := .tuple #[.agg #[.int .i64 x.norm.a, .int .i64 x.norm.b], .int .i64 0]) (by simp [results, Try.results69, go_sem]) rfl ⟨rfl, ?_⟩
  repeat' (first | exact Q.refl _ | refine Q.alloc ?_ _ | refine Q.jk ?_ _ | refine Q.drew ?_)
theorem extreme_c (x y z : Cy) (s : Int) (w : World) (hx : x.In 65536) (hy : y.In 65536) (hz : z.In 65536) :
    Calls Try.prog 69 #[.agg #[.int .i64 x.a, .int .i64 x.b, .int .i64 x.c, .int .i64 x.d, .int .i64 y.a, .int .i64 y.b, .int .i64 y.c, .int .i64 y.d, .int .i64 z.a, .int .i64 z.b, .int .i64 z.c, .int .i64 z.d], .int .i64 s] w fun e w' => e = .returned (.tuple #[.agg #[.int .i64 (extS s x y z).a, .int .i64 (extS s x y z).b], .int .i64 0]) ∧ Q w w' := by
  unfold extS
  cases h1 : (sgnS (y.norm.sub x.norm) == s)
  · have e1 : pickS s x.norm y.norm = x.norm := by simp [pickS, h1]
    rw [e1]
    cases h2 : (sgnS (z.norm.sub x.norm) == s)
    · rw [show pickS s x.norm z.norm = x.norm by simp [pickS, h2]]
      exact extreme_ff x y z s w hx hy hz h1 h2
    · rw [show pickS s x.norm z.norm = z.norm by simp [pickS, h2]]
      exact extreme_ft x y z s w hx hy hz h1 h2
  · have e1 : pickS s x.norm y.norm = y.norm := by simp [pickS, h1]
    rw [e1]
    cases h2 : (sgnS (z.norm.sub y.norm) == s)
    · rw [show pickS s y.norm z.norm = y.norm by simp [pickS, h2]]
      exact extreme_tf x y z s w hx hy hz h1 h2
    · rw [show pickS s y.norm z.norm = z.norm by simp [pickS, h2]]
      exact extreme_tt x y z s w hx hy hz h1 h2
set_option maxHeartbeats 2000000 in
theorem largest_c (x y z : Cy) (w : World) (hx : x.In 65536) (hy : y.In 65536) (hz : z.In 65536) :
    Calls Try.prog 34 #[.agg #[.int .i64 x.a, .int .i64 x.b, .int .i64 x.c, .int .i64 x.d, .int .i64 y.a, .int .i64 y.b, .int .i64 y.c, .int .i64 y.d, .int .i64 z.a, .int .i64 z.b, .int .i64 z.c, .int .i64 z.d]] w fun e w' => e = .returned (.tuple #[.agg #[.int .i64 (extS 1 x y z).a, .int .i64 (extS 1 x y z).b], .int .i64 0]) ∧ Q w w' := by
  go_enter Try.func34, Try.ntmps34
  go_wp2_with (first | (go_at_call 68; refine (phasors_ok x y z _ hx hy hz).mono ?_; rintro e w' ⟨rfl, kj, rfl⟩) | (go_at_call 69; refine (extreme_c x y z 1 _ hx hy hz).mono ?_; rintro e w' ⟨rfl, kj, rfl⟩))
  refine bodyPost_ret (v := .tuple #[.agg #[.int .i64 (extS 1 x y z).a, .int .i64 (extS 1 x y z).b], .int .i64 0]) (by simp [results, Try.results34, go_sem]) rfl ⟨rfl, ?_⟩
  repeat' (first | exact Q.refl _ | refine Q.alloc ?_ _ | refine Q.jk ?_ _ | refine Q.drew ?_)
set_option maxHeartbeats 2000000 in
theorem against_c (x y z : Cy) (s p : Int) (w : World) (hx : x.In 65536) (hy : y.In 65536) (hz : z.In 65536) (p0 : 1 ≤ p) (p1 : p ≤ 16383) :
    Calls Try.prog 73 #[.agg #[.int .i64 x.a, .int .i64 x.b, .int .i64 x.c, .int .i64 x.d, .int .i64 y.a, .int .i64 y.b, .int .i64 y.c, .int .i64 y.d, .int .i64 z.a, .int .i64 z.b, .int .i64 z.c, .int .i64 z.d], .int .i64 s, .int .i64 p] w fun e w' => e = .returned (.tuple #[.int .i64 (sgnS ((extS s x y z).sub (peakS p))), .int .i64 0]) ∧ Q w w' := by
  have he := extS_in s hx hy hz
  have hp := peakS_in (p := p) (by omega) p1
  have q1 : -10000000000 ≤ 36 * p * p := hp.1
  have q2 : 36 * p * p ≤ 10000000000 := hp.2.1
  go_enter Try.func73, Try.ntmps73
  go_wp2_with (first | (go_at_call 69; refine (extreme_c x y z s _ hx hy hz).mono ?_; rintro e w' ⟨rfl, kj, rfl⟩) | (go_at_call 24; refine (scmp_c (extS s x y z) (peakS p) _ (he.mono (by decide)) (hp.mono (by decide))).mono ?_; rintro e w' ⟨rfl, kj, rfl⟩))
  go_ret2
  refine ⟨rfl, ?_⟩
  repeat' (first | exact Q.refl _ | refine Q.alloc ?_ _ | refine Q.jk ?_ _ | refine Q.drew ?_)
set_option maxHeartbeats 2000000 in
theorem ocabove_c (x y z : Cy) (p : Int) (w : World) (hx : x.In 65536) (hy : y.In 65536) (hz : z.In 65536) (p0 : 1 ≤ p) (p1 : p ≤ 16383) :
    Calls Try.prog 36 #[.agg #[.int .i64 x.a, .int .i64 x.b, .int .i64 x.c, .int .i64 x.d, .int .i64 y.a, .int .i64 y.b, .int .i64 y.c, .int .i64 y.d, .int .i64 z.a, .int .i64 z.b, .int .i64 z.c, .int .i64 z.d], .int .i64 p] w fun e w' => e = .returned (.tuple #[.bool (decide (0 ≤ sgnS ((extS 1 x y z).sub (peakS p)))), .int .i64 0]) ∧ Q w w' := by
  go_enter Try.func36, Try.ntmps36
  go_wp2_with (first | (go_at_call 68; refine (phasors_ok x y z _ hx hy hz).mono ?_; rintro e w' ⟨rfl, kj, rfl⟩) | (go_at_call 72; refine (ocbetween_ok _ _ _ _ (by omega) (by omega)).mono ?_; rintro e w' ⟨rfl, rfl⟩) | (go_at_call 73; refine (against_c x y z 1 p _ hx hy hz p0 p1).mono ?_; rintro e w' ⟨rfl, kj, rfl⟩))
  go_ret2
  refine ⟨rfl, ?_⟩
  repeat' (first | exact Q.refl _ | refine Q.alloc ?_ _ | refine Q.jk ?_ _ | refine Q.drew ?_)
set_option maxHeartbeats 2000000 in
theorem ocunder_c (x y z : Cy) (p : Int) (w : World) (hx : x.In 65536) (hy : y.In 65536) (hz : z.In 65536) (p0 : 1 ≤ p) (p1 : p ≤ 16383) :
    Calls Try.prog 38 #[.agg #[.int .i64 x.a, .int .i64 x.b, .int .i64 x.c, .int .i64 x.d, .int .i64 y.a, .int .i64 y.b, .int .i64 y.c, .int .i64 y.d, .int .i64 z.a, .int .i64 z.b, .int .i64 z.c, .int .i64 z.d], .int .i64 p] w fun e w' => e = .returned (.tuple #[.bool (decide (sgnS ((extS (-1) x y z).sub (peakS p)) < 0)), .int .i64 0]) ∧ Q w w' := by
  go_enter Try.func38, Try.ntmps38
  go_wp2_with (first | (go_at_call 68; refine (phasors_ok x y z _ hx hy hz).mono ?_; rintro e w' ⟨rfl, kj, rfl⟩) | (go_at_call 72; refine (ocbetween_ok _ _ _ _ (by omega) (by omega)).mono ?_; rintro e w' ⟨rfl, rfl⟩) | (go_at_call 73; refine (against_c x y z (-1) p _ hx hy hz p0 p1).mono ?_; rintro e w' ⟨rfl, kj, rfl⟩))
  go_ret2
  refine ⟨rfl, ?_⟩
  repeat' (first | exact Q.refl _ | refine Q.alloc ?_ _ | refine Q.jk ?_ _ | refine Q.drew ?_)
end Go.Proofs.Ytkkjifgcjfbcaaa
