
/- Contracts of package surd within the limits. -/
import Derived.Test.YtcjflafjmdfanaaGreatDoorBv01
import Derived.Test.YtcjflafjmdfanaaGreatDoorRows
import Derived.StillTail
set_option maxHeartbeats 64000000
set_option linter.unusedSimpArgs false
set_option linter.unusedVariables false
/- What Scale of package cyclo returns. -/
namespace Go.Sub
def scaleR (x : Cy) (k : Int) : R4 := if wiB x 576460752303423488 && !(brkB 576460752303423488 k) then limR ⟨x.a * k, x.b * k, x.c * k, x.d * k⟩ else ⟨zeroC, 1⟩
theorem sscale_cases (a b k : Int) (h1 : -576460752303423488 ≤ a) (h2 : a ≤ 576460752303423488) (h3 : -576460752303423488 ≤ b) (h4 : b ≤ 576460752303423488) (h5 : -576460752303423488 ≤ k) (h6 : k ≤ 576460752303423488) :
  sscaleR ⟨a, b⟩ k = ⟨⟨a * k, b * k⟩, 0⟩ ∨ (sscaleR ⟨a, b⟩ k = ⟨⟨0, 0⟩, 2⟩ ∧ ¬ (-576460752303423488 ≤ a * k ∧ a * k ≤ 576460752303423488 ∧ -576460752303423488 ≤ b * k ∧ b * k ≤ 576460752303423488)) := by
 have h : wi3 1152921504606846976 a b k = true := (wi3_iff _ _ _ _).2 (by omega)
 cases e : wi2 1152921504606846976 (a * k) (b * k)
 ·right
  refine ⟨by simp [sscaleR, h, limS, e, zeroS], fun hh => ?_⟩
  have : wi2 1152921504606846976 (a * k) (b * k) = true := (wi2_iff _ _ _).2 (by omega)
  rw [e] at this
  cases this
 left
 simp [sscaleR, h, limS, e]
theorem limR_no (a b c d : Int) (h : ¬ (-576460752303423488 ≤ a ∧ a ≤ 576460752303423488 ∧ -576460752303423488 ≤ b ∧ b ≤ 576460752303423488) ∨ ¬ (-576460752303423488 ≤ c ∧ c ≤ 576460752303423488 ∧ -576460752303423488 ≤ d ∧ d ≤ 576460752303423488)) : limR ⟨a, b, c, d⟩ = ⟨zeroC, 2⟩ := by
 cases e : wiB ⟨a, b, c, d⟩ 576460752303423488
 ·simp [limR, e]
 have := wiB_in e
 unfold Cy.In at this
 dsimp only at this
 omega
end Go.Sub
namespace Go.Proofs.YtcjflafjmdfanaaGreatDoor
open Go.RowKit Go.Sub
theorem scale_ok (a b c d k : Int) (w : World) (h : wiB ⟨a, b, c, d⟩ 576460752303423488 = true) (hk : brkB 576460752303423488 k = false) (h1 : sscaleR ⟨a, b⟩ k = ⟨⟨a * k, b * k⟩, 0⟩) (h2 : sscaleR ⟨c, d⟩ k = ⟨⟨c * k, d * k⟩, 0⟩) :
  Calls Tryz.prog 99 #[.agg #[.int .i64 a, .int .i64 b, .int .i64 c, .int .i64 d], .int .i64 k] w fun e w' => e = .returned (.tuple #[.agg #[.int .i64 (limR ⟨a * k, b * k, c * k, d * k⟩).v.a, .int .i64 (limR ⟨a * k, b * k, c * k, d * k⟩).v.b, .int .i64 (limR ⟨a * k, b * k, c * k, d * k⟩).v.c, .int .i64 (limR ⟨a * k, b * k, c * k, d * k⟩).v.d], .int .i64 (limR ⟨a * k, b * k, c * k, d * k⟩).e]) ∧ Q w w' := by
 go_enter Tryz.func99, Tryz.ntmps99
 go_wp2_with (first | (go_at_call 122; refine (within_any _ _ _ _ _ _ (by omega) (by omega)).q ?_; intro kj) | (go_at_call 123; refine (broken_any _ _ _ (by omega) (by omega)).p ?_) | (go_at_call 124; refine (sscale_any _ _ _ _).q ?_; intro kj) | (go_at_call 125; refine (limited_any _ _ _ _ _).q ?_; intro kj))
 refine bodyPost_ret (v := .tuple #[.agg #[.int .i64 (limR ⟨a * k, b * k, c * k, d * k⟩).v.a, .int .i64 (limR ⟨a * k, b * k, c * k, d * k⟩).v.b, .int .i64 (limR ⟨a * k, b * k, c * k, d * k⟩).v.c, .int .i64 (limR ⟨a * k, b * k, c * k, d * k⟩).v.d], .int .i64 (limR ⟨a * k, b * k, c * k, d * k⟩).e]) (by simp [results, Tryz.results99, go_sem]) rfl ⟨rfl, ?_⟩
 exact Q.i
theorem scale_no1 (a b c d k : Int) (w : World) (h : wiB ⟨a, b, c, d⟩ 576460752303423488 = true) (hk : brkB 576460752303423488 k = false) (h1 : sscaleR ⟨a, b⟩ k = ⟨⟨0, 0⟩, 2⟩) :
  Calls Tryz.prog 99 #[.agg #[.int .i64 a, .int .i64 b, .int .i64 c, .int .i64 d], .int .i64 k] w fun e w' => e = .returned (.tuple #[.agg #[.int .i64 (R4.mk zeroC 2).v.a, .int .i64 (R4.mk zeroC 2).v.b, .int .i64 (R4.mk zeroC 2).v.c, .int .i64 (R4.mk zeroC 2).v.d], .int .i64 (R4.mk zeroC 2).e]) ∧ Q w w' := by
 go_enter Tryz.func99, Tryz.ntmps99
 go_wp2_with (first | (go_at_call 122; refine (within_any _ _ _ _ _ _ (by omega) (by omega)).q ?_; intro kj) | (go_at_call 123; refine (broken_any _ _ _ (by omega) (by omega)).p ?_) | (go_at_call 124; refine (sscale_any _ _ _ _).q ?_; intro kj) | (go_at_call 125; refine (limited_any _ _ _ _ _).q ?_; intro kj))
 refine bodyPost_ret (v := .tuple #[.agg #[.int .i64 (R4.mk zeroC 2).v.a, .int .i64 (R4.mk zeroC 2).v.b, .int .i64 (R4.mk zeroC 2).v.c, .int .i64 (R4.mk zeroC 2).v.d], .int .i64 (R4.mk zeroC 2).e]) (by simp [results, Tryz.results99, go_sem, zeroC]) rfl ⟨rfl, ?_⟩
 exact Q.i
theorem scale_no2 (a b c d k : Int) (w : World) (h : wiB ⟨a, b, c, d⟩ 576460752303423488 = true) (hk : brkB 576460752303423488 k = false) (h1 : sscaleR ⟨a, b⟩ k = ⟨⟨a * k, b * k⟩, 0⟩) (h2 : sscaleR ⟨c, d⟩ k = ⟨⟨0, 0⟩, 2⟩) :
  Calls Tryz.prog 99 #[.agg #[.int .i64 a, .int .i64 b, .int .i64 c, .int .i64 d], .int .i64 k] w fun e w' => e = .returned (.tuple #[.agg #[.int .i64 (R4.mk zeroC 2).v.a, .int .i64 (R4.mk zeroC 2).v.b, .int .i64 (R4.mk zeroC 2).v.c, .int .i64 (R4.mk zeroC 2).v.d], .int .i64 (R4.mk zeroC 2).e]) ∧ Q w w' := by
 go_enter Tryz.func99, Tryz.ntmps99
 go_wp2_with (first | (go_at_call 122; refine (within_any _ _ _ _ _ _ (by omega) (by omega)).q ?_; intro kj) | (go_at_call 123; refine (broken_any _ _ _ (by omega) (by omega)).p ?_) | (go_at_call 124; refine (sscale_any _ _ _ _).q ?_; intro kj) | (go_at_call 125; refine (limited_any _ _ _ _ _).q ?_; intro kj))
 refine bodyPost_ret (v := .tuple #[.agg #[.int .i64 (R4.mk zeroC 2).v.a, .int .i64 (R4.mk zeroC 2).v.b, .int .i64 (R4.mk zeroC 2).v.c, .int .i64 (R4.mk zeroC 2).v.d], .int .i64 (R4.mk zeroC 2).e]) (by simp [results, Tryz.results99, go_sem, zeroC]) rfl ⟨rfl, ?_⟩
 exact Q.i
theorem scale_any (a b c d k : Int) (w : World) :
  Calls Tryz.prog 99 #[.agg #[.int .i64 a, .int .i64 b, .int .i64 c, .int .i64 d], .int .i64 k] w fun e w' => e = .returned (.tuple #[.agg #[.int .i64 (scaleR ⟨a, b, c, d⟩ k).v.a, .int .i64 (scaleR ⟨a, b, c, d⟩ k).v.b, .int .i64 (scaleR ⟨a, b, c, d⟩ k).v.c, .int .i64 (scaleR ⟨a, b, c, d⟩ k).v.d], .int .i64 (scaleR ⟨a, b, c, d⟩ k).e]) ∧ Q w w' := by
 by_cases h : wiB ⟨a, b, c, d⟩ 576460752303423488 = true
 rotate_left
 ·have h : wiB ⟨a, b, c, d⟩ 576460752303423488 = false := by simpa using h
  go_enter Tryz.func99, Tryz.ntmps99
  go_wp2_with (first | (go_at_call 122; refine (within_any _ _ _ _ _ _ (by omega) (by omega)).q ?_; intro kj) | (go_at_call 123; refine (broken_any _ _ _ (by omega) (by omega)).p ?_))
  refine bodyPost_ret (v := .tuple #[.agg #[.int .i64 (R4.mk zeroC 1).v.a, .int .i64 (R4.mk zeroC 1).v.b, .int .i64 (R4.mk zeroC 1).v.c, .int .i64 (R4.mk zeroC 1).v.d], .int .i64 (R4.mk zeroC 1).e]) (by simp [results, Tryz.results99, go_sem, zeroC]) rfl ⟨by simp [scaleR, h], ?_⟩
  exact Q.i
 by_cases hk : brkB 576460752303423488 k = false
 rotate_left
 ·have hk : brkB 576460752303423488 k = true := by simpa using hk
  go_enter Tryz.func99, Tryz.ntmps99
  go_wp2_with (first | (go_at_call 122; refine (within_any _ _ _ _ _ _ (by omega) (by omega)).q ?_; intro kj) | (go_at_call 123; refine (broken_any _ _ _ (by omega) (by omega)).p ?_))
  refine bodyPost_ret (v := .tuple #[.agg #[.int .i64 (R4.mk zeroC 1).v.a, .int .i64 (R4.mk zeroC 1).v.b, .int .i64 (R4.mk zeroC 1).v.c, .int .i64 (R4.mk zeroC 1).v.d], .int .i64 (R4.mk zeroC 1).e]) (by simp [results, Tryz.results99, go_sem, zeroC]) rfl ⟨by simp [scaleR, h, hk], ?_⟩
  exact Q.i
 have hR : scaleR ⟨a, b, c, d⟩ k = limR ⟨a * k, b * k, c * k, d * k⟩ := by simp [scaleR, h, hk]
 rw [hR]
 obtain ⟨l1, l2, l3, l4, l5, l6, l7, l8⟩ := wiB_in h
 dsimp only at l1 l2 l3 l4 l5 l6 l7 l8
 have hk' : -576460752303423488 ≤ k ∧ k ≤ 576460752303423488 := by simp [brkB] at hk; omega
 rcases sscale_cases a b k l1 l2 l3 l4 hk'.1 hk'.2 with h1 | ⟨h1, n1⟩
 ·rcases sscale_cases c d k l5 l6 l7 l8 hk'.1 hk'.2 with h2 | ⟨h2, n2⟩
  ·exact scale_ok a b c d k w h hk h1 h2
  rw [limR_no _ _ _ _ (Or.inr n2)]
  exact scale_no2 a b c d k w h hk h1 h2
 rw [limR_no _ _ _ _ (Or.inl n1)]
 exact scale_no1 a b c d k w h hk h1
end Go.Proofs.YtcjflafjmdfanaaGreatDoor
/- What Add, Sub, Conj, Real, Imag and Norm of package cyclo return. -/
namespace Go.Proofs.YtcjflafjmdfanaaGreatDoor
open Go.RowKit Go.Sub
theorem add_any (a b c d a' b' c' d' : Int) (w : World) :
  Calls Tryz.prog 121 #[.agg #[.int .i64 a, .int .i64 b, .int .i64 c, .int .i64 d], .agg #[.int .i64 a', .int .i64 b', .int .i64 c', .int .i64 d']] w fun e w' => e = .returned (.tuple #[.agg #[.int .i64 (addR ⟨a, b, c, d⟩ ⟨a', b', c', d'⟩).v.a, .int .i64 (addR ⟨a, b, c, d⟩ ⟨a', b', c', d'⟩).v.b, .int .i64 (addR ⟨a, b, c, d⟩ ⟨a', b', c', d'⟩).v.c, .int .i64 (addR ⟨a, b, c, d⟩ ⟨a', b', c', d'⟩).v.d], .int .i64 (addR ⟨a, b, c, d⟩ ⟨a', b', c', d'⟩).e]) ∧ Q w w' := by
 by_cases h : wiB ⟨a, b, c, d⟩ 576460752303423488 = true
 rotate_left
 ·have h : wiB ⟨a, b, c, d⟩ 576460752303423488 = false := by simpa using h
  go_enter Tryz.func121, Tryz.ntmps121
  go_wp2_with (go_at_call 122; refine (within_any _ _ _ _ _ _ (by omega) (by omega)).q ?_; intro kj)
  refine bodyPost_ret (v := .tuple #[.agg #[.int .i64 (R4.mk zeroC 1).v.a, .int .i64 (R4.mk zeroC 1).v.b, .int .i64 (R4.mk zeroC 1).v.c, .int .i64 (R4.mk zeroC 1).v.d], .int .i64 (R4.mk zeroC 1).e]) (by simp [results, Tryz.results121, go_sem, zeroC]) rfl ⟨by simp [addR, h], ?_⟩
  exact Q.i
 by_cases h' : wiB ⟨a', b', c', d'⟩ 576460752303423488 = true
 rotate_left
 ·have h' : wiB ⟨a', b', c', d'⟩ 576460752303423488 = false := by simpa using h'
  go_enter Tryz.func121, Tryz.ntmps121
  go_wp2_with (go_at_call 122; refine (within_any _ _ _ _ _ _ (by omega) (by omega)).q ?_; intro kj)
  refine bodyPost_ret (v := .tuple #[.agg #[.int .i64 (R4.mk zeroC 1).v.a, .int .i64 (R4.mk zeroC 1).v.b, .int .i64 (R4.mk zeroC 1).v.c, .int .i64 (R4.mk zeroC 1).v.d], .int .i64 (R4.mk zeroC 1).e]) (by simp [results, Tryz.results121, go_sem, zeroC]) rfl ⟨by simp [addR, h, h'], ?_⟩
  exact Q.i
 obtain ⟨l1, l2, l3, l4, l5, l6, l7, l8⟩ := wiB_in h
 obtain ⟨m1, m2, m3, m4, m5, m6, m7, m8⟩ := wiB_in h'
 dsimp only at l1 l2 l3 l4 l5 l6 l7 l8 m1 m2 m3 m4 m5 m6 m7 m8
 have hR : addR ⟨a, b, c, d⟩ ⟨a', b', c', d'⟩ = limR ⟨a + a', b + b', c + c', d + d'⟩ := by simp [addR, h, h', Cy.add]
 rw [hR]
 clear hR
 go_enter Tryz.func121, Tryz.ntmps121
 go_wp2_with (go_at_call 122; refine (within_any _ _ _ _ _ _ (by omega) (by omega)).q ?_; intro kj)
 refine wp_loop_rounds 5 ?_
 rw [rounds_succ]; go_wp2; go_region; go_wp2
 rw [rounds_succ]; go_wp2; go_region; go_wp2
 rw [rounds_succ]; go_wp2; go_region; go_wp2
 rw [rounds_succ]; go_wp2; go_region; go_wp2
 rw [rounds_succ]; go_wp2_with (go_at_call 125; refine (limited_any _ _ _ _ _).q ?_; intro kj)
 refine bodyPost_ret (v := .tuple #[.agg #[.int .i64 (limR ⟨a + a', b + b', c + c', d + d'⟩).v.a, .int .i64 (limR ⟨a + a', b + b', c + c', d + d'⟩).v.b, .int .i64 (limR ⟨a + a', b + b', c + c', d + d'⟩).v.c, .int .i64 (limR ⟨a + a', b + b', c + c', d + d'⟩).v.d], .int .i64 (limR ⟨a + a', b + b', c + c', d + d'⟩).e]) (by simp [results, Tryz.results121, go_sem]) rfl ⟨rfl, ?_⟩
 exact Q.i
theorem norm_any (a b c d : Int) (w : World) :
  Calls Tryz.prog 103 #[.agg #[.int .i64 a, .int .i64 b, .int .i64 c, .int .i64 d]] w fun e w' => e = .returned (.tuple #[.agg #[.int .i64 (normR ⟨a, b, c, d⟩).v.a, .int .i64 (normR ⟨a, b, c, d⟩).v.b], .int .i64 (normR ⟨a, b, c, d⟩).e]) ∧ Q w w' := by
 by_cases h : wiB ⟨a, b, c, d⟩ 268435456 = true
 rotate_left
 ·have h : wiB ⟨a, b, c, d⟩ 268435456 = false := by simpa using h
  go_enter Tryz.func103, Tryz.ntmps103
  go_wp2_with (go_at_call 122; refine (within_any _ _ _ _ _ _ (by omega) (by omega)).q ?_; intro kj)
  refine bodyPost_ret (v := .tuple #[.agg #[.int .i64 0, .int .i64 0], .int .i64 1]) (by simp [results, Tryz.results103, go_sem]) rfl ⟨by simp [normR, h], ?_⟩
  exact Q.i
 obtain ⟨l1, l2, l3, l4, l5, l6, l7, l8⟩ := wiB_in h
 dsimp only at l1 l2 l3 l4 l5 l6 l7 l8
 obtain ⟨p0, p1⟩ := bd_mul l1 l2 l1 l2
 obtain ⟨p2, p3⟩ := bd_mul l3 l4 l3 l4
 obtain ⟨p4, p5⟩ := bd_mul l5 l6 l5 l6
 obtain ⟨p6, p7⟩ := bd_mul l7 l8 l7 l8
 obtain ⟨p8, p9⟩ := bd_mul l1 l2 l5 l6
 obtain ⟨p10, p11⟩ := bd_mul l3 l4 l7 l8
 obtain ⟨p12, p13⟩ := bd_mul l1 l2 l3 l4
 obtain ⟨p14, p15⟩ := bd_mul l3 l4 l5 l6
 obtain ⟨p16, p17⟩ := bd_mul l5 l6 l7 l8
 simp only [Int.reduceMul, Int.reduceNeg] at p0 p1 p2 p3 p4 p5 p6 p7 p8 p9 p10 p11 p12 p13 p14 p15 p16 p17
 go_enter Tryz.func103, Tryz.ntmps103
 go_wp2_with (go_at_call 122; refine (within_any _ _ _ _ _ _ (by omega) (by omega)).q ?_; intro kj)
 refine wrj (by kernel_rfl) ?_
 repeat (go_big_quiet_step (fail))
 refine wq0 fun kq => ?_
 go_wp2
 refine bodyPost_ret (v := .tuple #[.agg #[.int .i64 (a*a + b*b + c*c + d*d + a*c + b*d), .int .i64 (a*b + b*c + c*d)], .int .i64 0]) (by simp [results, Tryz.results103, go_sem]) rfl ⟨by simp [normR, h, Cy.norm], ?_⟩
 exact Q.i
end Go.Proofs.YtcjflafjmdfanaaGreatDoor
/- What '==' says of two arrays of integers: as the lists are. -/
namespace Go
open Go.Sub
theorem all_range_ints : ∀ (xs ys : List Int), xs.length = ys.length → ((List.range xs.length).all fun i => xs.getD i 0 == ys.getD i 0) = (xs == ys)
 | [], [], _ => rfl
 | x :: xs, y :: ys, h => by
  have ih := all_range_ints xs ys (by simpa using h)
  rw [List.length_cons, List.range_succ_eq_map, List.all_cons, List.all_map]
  simp only [List.getD_cons_zero, Function.comp_def, List.getD_cons_succ, ih]
  simp [List.cons_beq_cons]
 | [], _ :: _, h => by simp at h
 | _ :: _, [], h => by simp at h
section
variable {P : Program} (w : World)
theorem run_equalIn_ints (d : Nat) (t e : TypeId) (n : Nat) (ht : P.underlying t = some (.array n e)) (he : P.underlying e = some (.int .i64)) (hsz : ∀ w, (sizeOf e).run P w = .ok 1 w)
  (xs ys : List Int) (hx : xs.length = n) (hy : ys.length = n) :
  (Op.equalIn (d + 2) t (.agg (xs.map (Value.int .i64)).toArray) (.agg (ys.map (Value.int .i64)).toArray)).run P w = .ok (xs == ys) w := by
 rw [← all_range_ints xs ys (hx.trans hy.symm), hx, List.range_eq_range', Op.equalIn]
 simp only [Sem.run_bind, run_underlying ht, Result.andThen_ok, hsz, Std.Legacy.Range.forIn_eq_forIn_range', Std.Legacy.Range.size, Nat.sub_zero, Nat.add_sub_cancel, Nat.div_one]
 have hl : ∀ i ∈ List.range' 0 n 1, i < n := fun i hi => by simpa using (List.mem_range'_1.1 hi).2
 generalize List.range' 0 n 1 = l at hl ⊢
 induction l with
 | nil => simp
 | cons i l ih =>
  have hi : i < n := hl i (by simp)
  have px : (part e (xs.map (Value.int .i64)).toArray (i * 1)).run P w = .ok (.int .i64 (xs.getD i 0)) w := by
   simp [part, isAgg, run_underlying he, List.getD, List.getElem?_eq_getElem (show i < xs.length by omega)]
  have py : (part e (ys.map (Value.int .i64)).toArray (i * 1)).run P w = .ok (.int .i64 (ys.getD i 0)) w := by
   simp [part, isAgg, run_underlying he, List.getD, List.getElem?_eq_getElem (show i < ys.length by omega)]
  have pe : (Op.equalIn (d + 1) e (.int .i64 (xs.getD i 0)) (.int .i64 (ys.getD i 0))).run P w = .ok (xs.getD i 0 == ys.getD i 0) w :=
   run_equalIn_int w d e .i64 .i64 _ _ he
  simp only [List.forIn_cons, Sem.run_bind, px, py, pe, Result.andThen_ok, List.all_cons]
  cases hb : (xs.getD i 0 == ys.getD i 0)
  ·simp
  simp only [Bool.not_true, Bool.false_eq_true, if_false, Sem.run_pure, Result.andThen_ok, Bool.true_and]
  exact ih fun j hj => hl j (by simp [hj])
theorem run_eql_ints (t e : TypeId) (n : Nat) (ht : P.underlying t = some (.array n e)) (he : P.underlying e = some (.int .i64)) (hsz : ∀ w, (sizeOf e).run P w = .ok 1 w)
  (xs ys : List Int) (hx : xs.length = n) (hy : ys.length = n) :
  (binOp .eql t (.agg (xs.map (Value.int .i64)).toArray) (.agg (ys.map (Value.int .i64)).toArray)).run P w = .ok (.bool (xs == ys)) w := by
 rw [run_eql_struct, run_equalIn_ints w 9998 t e n ht he hsz xs ys hx hy]
 rfl
theorem run_neq_ints (t e : TypeId) (n : Nat) (ht : P.underlying t = some (.array n e)) (he : P.underlying e = some (.int .i64)) (hsz : ∀ w, (sizeOf e).run P w = .ok 1 w)
  (xs ys : List Int) (hx : xs.length = n) (hy : ys.length = n) :
  (binOp .neq t (.agg (xs.map (Value.int .i64)).toArray) (.agg (ys.map (Value.int .i64)).toArray)).run P w = .ok (.bool (!(xs == ys))) w := by
 rw [run_neq_struct, run_equalIn_ints w 9998 t e n ht he hsz xs ys hx hy]
 rfl
end
namespace Sub
def Cy.eqB (x y : Cy) : Bool := ([x.a, x.b, x.c, x.d] == [y.a, y.b, y.c, y.d])
theorem Cy.eqB_iff (x y : Cy) : x.eqB y = true ↔ x = y := by
 cases x; cases y; simp [Cy.eqB]
@[go_sem] theorem Cy.eqB_self (x : Cy) : x.eqB x = true := (Cy.eqB_iff x x).2 rfl
theorem Cy.eqB_of {x y : Cy} (h : x = y) : x.eqB y = true := (Cy.eqB_iff x y).2 h
end Sub
end Go
/- '==' between two numbers of the ring, in this program. -/
namespace Go.Proofs.YtcjflafjmdfanaaGreatDoor
open Go.RowKit Go.Sub
@[go_sem high] theorem eqlCyc (w : World) (a b c d a' b' c' d' : Int) :
  (binOp .eql 141 (.agg #[.int .i64 a, .int .i64 b, .int .i64 c, .int .i64 d]) (.agg #[.int .i64 a', .int .i64 b', .int .i64 c', .int .i64 d'])).run Tryz.prog w = .ok (.bool (Cy.eqB ⟨a, b, c, d⟩ ⟨a', b', c', d'⟩)) w :=
 run_eql_ints (P := Tryz.prog) w 141 3 4 Tryz.underlying141 Tryz.underlying3 (fun _ => by kernel_rfl) [a, b, c, d] [a', b', c', d'] rfl rfl
@[go_sem high] theorem neqCyc (w : World) (a b c d a' b' c' d' : Int) :
  (binOp .neq 141 (.agg #[.int .i64 a, .int .i64 b, .int .i64 c, .int .i64 d]) (.agg #[.int .i64 a', .int .i64 b', .int .i64 c', .int .i64 d'])).run Tryz.prog w = .ok (.bool (!(Cy.eqB ⟨a, b, c, d⟩ ⟨a', b', c', d'⟩))) w :=
 run_neq_ints (P := Tryz.prog) w 141 3 4 Tryz.underlying141 Tryz.underlying3 (fun _ => by kernel_rfl) [a, b, c, d] [a', b', c', d'] rfl rfl
@[go_sem] theorem indexCyc0 (x0 x1 x2 x3 : Value) (w : World) : (Instr.index 141 (.agg #[x0, x1, x2, x3]) (.int .i64 0)).run Tryz.prog w = .ok x0 w := by kernel_rfl
@[go_sem] theorem indexCyc1 (x0 x1 x2 x3 : Value) (w : World) : (Instr.index 141 (.agg #[x0, x1, x2, x3]) (.int .i64 1)).run Tryz.prog w = .ok x1 w := by kernel_rfl
@[go_sem] theorem indexCyc2 (x0 x1 x2 x3 : Value) (w : World) : (Instr.index 141 (.agg #[x0, x1, x2, x3]) (.int .i64 2)).run Tryz.prog w = .ok x2 w := by kernel_rfl
@[go_sem] theorem indexCyc3 (x0 x1 x2 x3 : Value) (w : World) : (Instr.index 141 (.agg #[x0, x1, x2, x3]) (.int .i64 3)).run Tryz.prog w = .ok x3 w := by kernel_rfl
end Go.Proofs.YtcjflafjmdfanaaGreatDoor
/- What Mul, Root and Turn of package cyclo return. -/
namespace Go.Proofs.YtcjflafjmdfanaaGreatDoor
open Go.RowKit Go.Sub
def rootTab : List Int := [1, 0, 0, 0, 0, 1, 0, 0, 0, 0, 1, 0, 0, 0, 0, 1, -1, 0, 1, 0, 0, -1, 0, 1]
def RootsOK (w : World) : Prop := 0 < w.heap.size ∧ ∀ i, i < 24 → w.cell? ⟨0, i, none⟩ = some (.int .i64 (rootTab.getD i 0))
theorem RootsOK.alloc {w : World} (h : RootsOK w) (o : Obj) : RootsOK (w.alloc o) :=
 ⟨Nat.lt_of_lt_of_le h.1 (by simp), fun i hi => by rw [World.cell?_alloc_past o _ i h.1]; exact h.2 i hi⟩
theorem RootsOK.jk {w : World} (h : RootsOK w) (k : Jk) : RootsOK (w.jk k) :=
 ⟨Nat.lt_of_lt_of_le h.1 (by rw [World.size_jk]; omega), fun i hi => by rw [World.cell?_jk_lt k _ i h.1]; exact h.2 i hi⟩
theorem RootsOK.drew {w : World} (h : RootsOK w) : RootsOK w.drew := h
theorem RootsOK.q {w w' : World} (h : RootsOK w) (hq : Q w w') : RootsOK w' := by
 obtain ⟨k, rfl⟩ := hq
 exact h.jk k
theorem root_0 (k : Int) (w : World) (hr : RootsOK w) (hk : k % 12 = 0) :
  Calls Tryz.prog 100 #[.int .i64 k] w fun e w' => e = .returned (.agg #[.int .i64 (1), .int .i64 (0), .int .i64 (0), .int .i64 (0)]) ∧ Q w w' := by
 have t0 := hr.2 0 (by omega)
 have t1 := hr.2 1 (by omega)
 have t2 := hr.2 2 (by omega)
 have t3 := hr.2 3 (by omega)
 simp only [rootTab, List.getD_cons_zero, List.getD_cons_succ] at t0 t1 t2 t3
 haveI : Old 0 w := ⟨hr.1⟩
 clear hr
 go_enter Tryz.func100, Tryz.ntmps100
 go_wp2_with (first | (go_at_call 126; refine (dozen_any _ _).p ?_) | (go_at_call 127; refine (minus_any _ _ _ _ _ (by omega) (by omega) (by omega) (by omega) (by omega) (by omega) (by omega) (by omega)).q ?_; intro kj))
 refine bodyPost_ret (v := .agg #[.int .i64 (1), .int .i64 (0), .int .i64 (0), .int .i64 (0)]) (by simp [results, Tryz.results100, go_sem]) rfl ⟨rfl, ?_⟩
 exact Q.i
theorem root_1 (k : Int) (w : World) (hr : RootsOK w) (hk : k % 12 = 1) :
  Calls Tryz.prog 100 #[.int .i64 k] w fun e w' => e = .returned (.agg #[.int .i64 (0), .int .i64 (1), .int .i64 (0), .int .i64 (0)]) ∧ Q w w' := by
 have t0 := hr.2 4 (by omega)
 have t1 := hr.2 5 (by omega)
 have t2 := hr.2 6 (by omega)
 have t3 := hr.2 7 (by omega)
 simp only [rootTab, List.getD_cons_zero, List.getD_cons_succ] at t0 t1 t2 t3
 haveI : Old 0 w := ⟨hr.1⟩
 clear hr
 go_enter Tryz.func100, Tryz.ntmps100
 go_wp2_with (first | (go_at_call 126; refine (dozen_any _ _).p ?_) | (go_at_call 127; refine (minus_any _ _ _ _ _ (by omega) (by omega) (by omega) (by omega) (by omega) (by omega) (by omega) (by omega)).q ?_; intro kj))
 refine bodyPost_ret (v := .agg #[.int .i64 (0), .int .i64 (1), .int .i64 (0), .int .i64 (0)]) (by simp [results, Tryz.results100, go_sem]) rfl ⟨rfl, ?_⟩
 exact Q.i
theorem root_2 (k : Int) (w : World) (hr : RootsOK w) (hk : k % 12 = 2) :
  Calls Tryz.prog 100 #[.int .i64 k] w fun e w' => e = .returned (.agg #[.int .i64 (0), .int .i64 (0), .int .i64 (1), .int .i64 (0)]) ∧ Q w w' := by
 have t0 := hr.2 8 (by omega)
 have t1 := hr.2 9 (by omega)
 have t2 := hr.2 10 (by omega)
 have t3 := hr.2 11 (by omega)
 simp only [rootTab, List.getD_cons_zero, List.getD_cons_succ] at t0 t1 t2 t3
 haveI : Old 0 w := ⟨hr.1⟩
 clear hr
 go_enter Tryz.func100, Tryz.ntmps100
 go_wp2_with (first | (go_at_call 126; refine (dozen_any _ _).p ?_) | (go_at_call 127; refine (minus_any _ _ _ _ _ (by omega) (by omega) (by omega) (by omega) (by omega) (by omega) (by omega) (by omega)).q ?_; intro kj))
 refine bodyPost_ret (v := .agg #[.int .i64 (0), .int .i64 (0), .int .i64 (1), .int .i64 (0)]) (by simp [results, Tryz.results100, go_sem]) rfl ⟨rfl, ?_⟩
 exact Q.i
theorem root_3 (k : Int) (w : World) (hr : RootsOK w) (hk : k % 12 = 3) :
  Calls Tryz.prog 100 #[.int .i64 k] w fun e w' => e = .returned (.agg #[.int .i64 (0), .int .i64 (0), .int .i64 (0), .int .i64 (1)]) ∧ Q w w' := by
 have t0 := hr.2 12 (by omega)
 have t1 := hr.2 13 (by omega)
 have t2 := hr.2 14 (by omega)
 have t3 := hr.2 15 (by omega)
 simp only [rootTab, List.getD_cons_zero, List.getD_cons_succ] at t0 t1 t2 t3
 haveI : Old 0 w := ⟨hr.1⟩
 clear hr
 go_enter Tryz.func100, Tryz.ntmps100
 go_wp2_with (first | (go_at_call 126; refine (dozen_any _ _).p ?_) | (go_at_call 127; refine (minus_any _ _ _ _ _ (by omega) (by omega) (by omega) (by omega) (by omega) (by omega) (by omega) (by omega)).q ?_; intro kj))
 refine bodyPost_ret (v := .agg #[.int .i64 (0), .int .i64 (0), .int .i64 (0), .int .i64 (1)]) (by simp [results, Tryz.results100, go_sem]) rfl ⟨rfl, ?_⟩
 exact Q.i
theorem root_4 (k : Int) (w : World) (hr : RootsOK w) (hk : k % 12 = 4) :
  Calls Tryz.prog 100 #[.int .i64 k] w fun e w' => e = .returned (.agg #[.int .i64 (-1), .int .i64 (0), .int .i64 (1), .int .i64 (0)]) ∧ Q w w' := by
 have t0 := hr.2 16 (by omega)
 have t1 := hr.2 17 (by omega)
 have t2 := hr.2 18 (by omega)
 have t3 := hr.2 19 (by omega)
 simp only [rootTab, List.getD_cons_zero, List.getD_cons_succ] at t0 t1 t2 t3
 haveI : Old 0 w := ⟨hr.1⟩
 clear hr
 go_enter Tryz.func100, Tryz.ntmps100
 go_wp2_with (first | (go_at_call 126; refine (dozen_any _ _).p ?_) | (go_at_call 127; refine (minus_any _ _ _ _ _ (by omega) (by omega) (by omega) (by omega) (by omega) (by omega) (by omega) (by omega)).q ?_; intro kj))
 refine bodyPost_ret (v := .agg #[.int .i64 (-1), .int .i64 (0), .int .i64 (1), .int .i64 (0)]) (by simp [results, Tryz.results100, go_sem]) rfl ⟨rfl, ?_⟩
 exact Q.i
theorem root_5 (k : Int) (w : World) (hr : RootsOK w) (hk : k % 12 = 5) :
  Calls Tryz.prog 100 #[.int .i64 k] w fun e w' => e = .returned (.agg #[.int .i64 (0), .int .i64 (-1), .int .i64 (0), .int .i64 (1)]) ∧ Q w w' := by
 have t0 := hr.2 20 (by omega)
 have t1 := hr.2 21 (by omega)
 have t2 := hr.2 22 (by omega)
 have t3 := hr.2 23 (by omega)
 simp only [rootTab, List.getD_cons_zero, List.getD_cons_succ] at t0 t1 t2 t3
 haveI : Old 0 w := ⟨hr.1⟩
 clear hr
 go_enter Tryz.func100, Tryz.ntmps100
 go_wp2_with (first | (go_at_call 126; refine (dozen_any _ _).p ?_) | (go_at_call 127; refine (minus_any _ _ _ _ _ (by omega) (by omega) (by omega) (by omega) (by omega) (by omega) (by omega) (by omega)).q ?_; intro kj))
 refine bodyPost_ret (v := .agg #[.int .i64 (0), .int .i64 (-1), .int .i64 (0), .int .i64 (1)]) (by simp [results, Tryz.results100, go_sem]) rfl ⟨rfl, ?_⟩
 exact Q.i
theorem root_6 (k : Int) (w : World) (hr : RootsOK w) (hk : k % 12 = 6) :
  Calls Tryz.prog 100 #[.int .i64 k] w fun e w' => e = .returned (.agg #[.int .i64 (-1), .int .i64 (0), .int .i64 (0), .int .i64 (0)]) ∧ Q w w' := by
 have t0 := hr.2 0 (by omega)
 have t1 := hr.2 1 (by omega)
 have t2 := hr.2 2 (by omega)
 have t3 := hr.2 3 (by omega)
 simp only [rootTab, List.getD_cons_zero, List.getD_cons_succ] at t0 t1 t2 t3
 haveI : Old 0 w := ⟨hr.1⟩
 clear hr
 go_enter Tryz.func100, Tryz.ntmps100
 go_wp2_with (first | (go_at_call 126; refine (dozen_any _ _).p ?_) | (go_at_call 127; refine (minus_any _ _ _ _ _ (by omega) (by omega) (by omega) (by omega) (by omega) (by omega) (by omega) (by omega)).q ?_; intro kj))
 refine bodyPost_ret (v := .agg #[.int .i64 (-1), .int .i64 (0), .int .i64 (0), .int .i64 (0)]) (by simp [results, Tryz.results100, go_sem]) rfl ⟨rfl, ?_⟩
 exact Q.i
theorem root_7 (k : Int) (w : World) (hr : RootsOK w) (hk : k % 12 = 7) :
  Calls Tryz.prog 100 #[.int .i64 k] w fun e w' => e = .returned (.agg #[.int .i64 (0), .int .i64 (-1), .int .i64 (0), .int .i64 (0)]) ∧ Q w w' := by
 have t0 := hr.2 4 (by omega)
 have t1 := hr.2 5 (by omega)
 have t2 := hr.2 6 (by omega)
 have t3 := hr.2 7 (by omega)
 simp only [rootTab, List.getD_cons_zero, List.getD_cons_succ] at t0 t1 t2 t3
 haveI : Old 0 w := ⟨hr.1⟩
 clear hr
 go_enter Tryz.func100, Tryz.ntmps100
 go_wp2_with (first | (go_at_call 126; refine (dozen_any _ _).p ?_) | (go_at_call 127; refine (minus_any _ _ _ _ _ (by omega) (by omega) (by omega) (by omega) (by omega) (by omega) (by omega) (by omega)).q ?_; intro kj))
 refine bodyPost_ret (v := .agg #[.int .i64 (0), .int .i64 (-1), .int .i64 (0), .int .i64 (0)]) (by simp [results, Tryz.results100, go_sem]) rfl ⟨rfl, ?_⟩
 exact Q.i
theorem root_8 (k : Int) (w : World) (hr : RootsOK w) (hk : k % 12 = 8) :
  Calls Tryz.prog 100 #[.int .i64 k] w fun e w' => e = .returned (.agg #[.int .i64 (0), .int .i64 (0), .int .i64 (-1), .int .i64 (0)]) ∧ Q w w' := by
 have t0 := hr.2 8 (by omega)
 have t1 := hr.2 9 (by omega)
 have t2 := hr.2 10 (by omega)
 have t3 := hr.2 11 (by omega)
 simp only [rootTab, List.getD_cons_zero, List.getD_cons_succ] at t0 t1 t2 t3
 haveI : Old 0 w := ⟨hr.1⟩
 clear hr
 go_enter Tryz.func100, Tryz.ntmps100
 go_wp2_with (first | (go_at_call 126; refine (dozen_any _ _).p ?_) | (go_at_call 127; refine (minus_any _ _ _ _ _ (by omega) (by omega) (by omega) (by omega) (by omega) (by omega) (by omega) (by omega)).q ?_; intro kj))
 refine bodyPost_ret (v := .agg #[.int .i64 (0), .int .i64 (0), .int .i64 (-1), .int .i64 (0)]) (by simp [results, Tryz.results100, go_sem]) rfl ⟨rfl, ?_⟩
 exact Q.i
theorem root_9 (k : Int) (w : World) (hr : RootsOK w) (hk : k % 12 = 9) :
  Calls Tryz.prog 100 #[.int .i64 k] w fun e w' => e = .returned (.agg #[.int .i64 (0), .int .i64 (0), .int .i64 (0), .int .i64 (-1)]) ∧ Q w w' := by
 have t0 := hr.2 12 (by omega)
 have t1 := hr.2 13 (by omega)
 have t2 := hr.2 14 (by omega)
 have t3 := hr.2 15 (by omega)
 simp only [rootTab, List.getD_cons_zero, List.getD_cons_succ] at t0 t1 t2 t3
 haveI : Old 0 w := ⟨hr.1⟩
 clear hr
 go_enter Tryz.func100, Tryz.ntmps100
 go_wp2_with (first | (go_at_call 126; refine (dozen_any _ _).p ?_) | (go_at_call 127; refine (minus_any _ _ _ _ _ (by omega) (by omega) (by omega) (by omega) (by omega) (by omega) (by omega) (by omega)).q ?_; intro kj))
 refine bodyPost_ret (v := .agg #[.int .i64 (0), .int .i64 (0), .int .i64 (0), .int .i64 (-1)]) (by simp [results, Tryz.results100, go_sem]) rfl ⟨rfl, ?_⟩
 exact Q.i
theorem root_10 (k : Int) (w : World) (hr : RootsOK w) (hk : k % 12 = 10) :
  Calls Tryz.prog 100 #[.int .i64 k] w fun e w' => e = .returned (.agg #[.int .i64 (1), .int .i64 (0), .int .i64 (-1), .int .i64 (0)]) ∧ Q w w' := by
 have t0 := hr.2 16 (by omega)
 have t1 := hr.2 17 (by omega)
 have t2 := hr.2 18 (by omega)
 have t3 := hr.2 19 (by omega)
 simp only [rootTab, List.getD_cons_zero, List.getD_cons_succ] at t0 t1 t2 t3
 haveI : Old 0 w := ⟨hr.1⟩
 clear hr
 go_enter Tryz.func100, Tryz.ntmps100
 go_wp2_with (first | (go_at_call 126; refine (dozen_any _ _).p ?_) | (go_at_call 127; refine (minus_any _ _ _ _ _ (by omega) (by omega) (by omega) (by omega) (by omega) (by omega) (by omega) (by omega)).q ?_; intro kj))
 refine bodyPost_ret (v := .agg #[.int .i64 (1), .int .i64 (0), .int .i64 (-1), .int .i64 (0)]) (by simp [results, Tryz.results100, go_sem]) rfl ⟨rfl, ?_⟩
 exact Q.i
theorem root_11 (k : Int) (w : World) (hr : RootsOK w) (hk : k % 12 = 11) :
  Calls Tryz.prog 100 #[.int .i64 k] w fun e w' => e = .returned (.agg #[.int .i64 (0), .int .i64 (1), .int .i64 (0), .int .i64 (-1)]) ∧ Q w w' := by
 have t0 := hr.2 20 (by omega)
 have t1 := hr.2 21 (by omega)
 have t2 := hr.2 22 (by omega)
 have t3 := hr.2 23 (by omega)
 simp only [rootTab, List.getD_cons_zero, List.getD_cons_succ] at t0 t1 t2 t3
 haveI : Old 0 w := ⟨hr.1⟩
 clear hr
 go_enter Tryz.func100, Tryz.ntmps100
 go_wp2_with (first | (go_at_call 126; refine (dozen_any _ _).p ?_) | (go_at_call 127; refine (minus_any _ _ _ _ _ (by omega) (by omega) (by omega) (by omega) (by omega) (by omega) (by omega) (by omega)).q ?_; intro kj))
 refine bodyPost_ret (v := .agg #[.int .i64 (0), .int .i64 (1), .int .i64 (0), .int .i64 (-1)]) (by simp [results, Tryz.results100, go_sem]) rfl ⟨rfl, ?_⟩
 exact Q.i
theorem root_any (k : Int) (w : World) (hr : RootsOK w) :
  Calls Tryz.prog 100 #[.int .i64 k] w fun e w' => e = .returned (.agg #[.int .i64 (rootC k).a, .int .i64 (rootC k).b, .int .i64 (rootC k).c, .int .i64 (rootC k).d]) ∧ Q w w' := by
 rcases dz_cases k with hk | hk | hk | hk | hk | hk | hk | hk | hk | hk | hk | hk
 ·rw [show rootC k = (Cy.mk 1 0 0 0).tn 0 by simp [rootC, hk]]; exact root_0 k w hr hk
 ·rw [show rootC k = (Cy.mk 1 0 0 0).tn 1 by simp [rootC, hk]]; exact root_1 k w hr hk
 ·rw [show rootC k = (Cy.mk 1 0 0 0).tn 2 by simp [rootC, hk]]; exact root_2 k w hr hk
 ·rw [show rootC k = (Cy.mk 1 0 0 0).tn 3 by simp [rootC, hk]]; exact root_3 k w hr hk
 ·rw [show rootC k = (Cy.mk 1 0 0 0).tn 4 by simp [rootC, hk]]; exact root_4 k w hr hk
 ·rw [show rootC k = (Cy.mk 1 0 0 0).tn 5 by simp [rootC, hk]]; exact root_5 k w hr hk
 ·rw [show rootC k = (Cy.mk 1 0 0 0).tn 6 by simp [rootC, hk]]; exact root_6 k w hr hk
 ·rw [show rootC k = (Cy.mk 1 0 0 0).tn 7 by simp [rootC, hk]]; exact root_7 k w hr hk
 ·rw [show rootC k = (Cy.mk 1 0 0 0).tn 8 by simp [rootC, hk]]; exact root_8 k w hr hk
 ·rw [show rootC k = (Cy.mk 1 0 0 0).tn 9 by simp [rootC, hk]]; exact root_9 k w hr hk
 ·rw [show rootC k = (Cy.mk 1 0 0 0).tn 10 by simp [rootC, hk]]; exact root_10 k w hr hk
 rw [show rootC k = (Cy.mk 1 0 0 0).tn 11 by simp [rootC, hk]]; exact root_11 k w hr hk
end Go.Proofs.YtcjflafjmdfanaaGreatDoor
/- A region that draws its order: its first n operations read, or call functions that make new blocks at most, in whatever order; the others follow them one by one. One walk in the order of the text serves. -/
namespace Go
section
variable {P : Program} {md : Region.Mode} {ops : Array Oper} {C : World → Prop}
def HeadQ (P : Program) (md : Region.Mode) (ops : Array Oper) (C : World → Prop) (n : Nat) (L : Array Bool → Act → Prop) : Nat → Array Bool → Act → Prop
 | 0, listed, a => L listed a
 | f + 1, listed, a => Region.ready md ops listed ≠ [] ∧ ∀ i ∈ Region.ready md ops listed, i < n ∧ qOp P ops C i (HeadQ P md ops C n L f (listed.setIfInBounds i true)) a
theorem HeadQ.wpAny {n g : Nat} {L : Array Bool → Act → Prop} {R : Exit → Act → World → Prop} (hL : ∀ listed a w, C w → L listed a → wpAny P md ops R g listed a w) (f : Nat) :
  ∀ (listed : Array Bool) (a : Act) (w : World), C w → HeadQ P md ops C n L f listed a → wpAny P md ops R (f + g) listed a w := by
 induction f with
 | zero => intro listed a w hw h; rw [Nat.zero_add]; exact hL _ _ _ hw h
 | succ f ih =>
  intro listed a w hw h
  rw [Nat.succ_add]
  exact ⟨fun h0 => absurd h0 h.1, fun i hi => wpOp_of_qOp hw (fun a' w' hw' h' => ih _ a' w' hw' h') (h.2 i hi).2⟩
theorem head_only {n i j : Nat} {listed : Array Bool} (hs : Region.sinkB md ops n = true) (hc : Region.chainB md ops n = true) (hn : n < ops.size) (inv : HeadInv md ops n listed)
  (hin : i < n) (hi : i ∈ Region.ready md ops listed) (hj : j ∈ Region.ready md ops listed) : j < n :=
 Nat.lt_of_not_le fun h => tail_waits hs hc hn inv _ i rfl hin (mem_ready.1 hi).1 j h hj
theorem HeadQ.first {n i : Nat} {oi : Oper} {v : Value} {L : Array Bool → Act → Prop} (hi : ops[i]? = some oi) (hsel : Region.noSelect ops = true)
  (hs : Region.sinkB md ops n = true) (hc : Region.chainB md ops n = true) (hn : n < ops.size) (hin : i < n)
  (hdone : ∀ listed a, L listed a → ∀ j ∈ Region.ready md ops listed, n ≤ j) (f : Nat) :
  ∀ (listed : Array Bool) (a : Act), HeadInv md ops n listed →
   (∀ j oj, ops[j]? = some oj → j ≠ i → listed.getD j true = false → (∀ e ∈ oj.after, Region.binds md e = true → e.on ≠ i) → oi.apart ops oj = true) →
   i ∈ Region.ready md ops listed → YieldsIn P ops C oi v a →
   HeadQ P md ops C n L f (listed.setIfInBounds i true) (a.put oi.dst v) → HeadQ P md ops C n L (f + 1) listed a := by
 have hsel' := Region.noSelect_spec hsel
 induction f with
 | zero =>
  intro listed a inv _ hr hy H
  refine ⟨List.ne_nil_of_mem hr, fun j hj => ⟨head_only hs hc hn inv hin hr hj, ?_⟩⟩
  rcases Nat.decEq j i with hji | hji
  ·have h1 := hdone _ _ H j (ready_mono hj hji)
   have h2 := head_only hs hc hn inv hin hr hj
   omega
  subst hji; exact hy.qOp hi H
 | succ f ih =>
  intro listed a inv hfree hr hy H
  refine ⟨List.ne_nil_of_mem hr, fun j hj => ?_⟩
  have hjn := head_only hs hc hn inv hin hr hj
  refine ⟨hjn, ?_⟩
  rcases Nat.decEq j i with hji | hji
  ·obtain ⟨hjun, oj, hoj, hall⟩ := mem_ready.1 hj
   have hun := getD_both (mem_ready.1 hr).1
   have hnot : ∀ e ∈ oj.after, Region.binds md e = true → e.on ≠ i := by
    intro e he hb heq
    have := hall e he hb
    rw [heq, hun] at this
    cases this
   have step := qOp_put hoj (hfree j oj hoj hji hjun hnot) (fun cs b => hsel' i oi cs b hi) (fun cs b => hsel' j oj cs b hoj) hy ((H.2 j (ready_mono hj hji)).2)
   refine qOp_mono (fun a' h3 => ih _ a' (inv.set hj hjn) ?_ (ready_mono hr (Ne.symm hji)) h3.1 ?_) step
   ·intro k ok hk hki hunk hno
    refine hfree k ok hk hki ?_ hno
    rcases Nat.decEq j k with hjk | hjk
    ·rwa [getD_set_ne true hjk] at hunk
    subst hjk; exact hjun
   rw [Array.setIfInBounds_comm _ _ hji]; exact h3.2
  subst hji; exact hy.qOp hi H
theorem HeadQ.lex {n g : Nat} {Lq : Act → Prop} (hsel : Region.noSelect ops = true) (hs : Region.sinkB md ops n = true) (hc : Region.chainB md ops n = true) (hn : n < ops.size) (l : List Oper) :
  ∀ (k : Nat) (listed : Array Bool) (a : Act), (∀ j, j < l.length → l[j]? = ops[k + j]?) → k + l.length = n → HeadInv md ops n listed →
  Region.lexHead md ops g l.length k listed = true → wpQuiet P ops C Lq l a →
  HeadQ P md ops C n (fun listed' a' => Region.seqB md ops g n listed' = true ∧ Lq a') l.length listed a := by
 induction l with
 | nil =>
  intro k listed a _ hk _ hB h
  obtain rfl : k = n := hk
  exact ⟨hB, h⟩
 | cons o l ih =>
  intro k listed a hl hk inv hB h
  rw [List.length_cons] at hk
  have h0 : ops[k]? = some o := (hl 0 (Nat.succ_pos _)).symm
  simp only [List.length_cons, Region.lexHead, Bool.and_eq_true] at hB
  obtain ⟨⟨hr, hf⟩, hB'⟩ := hB
  have hr' : k ∈ Region.ready md ops listed := List.contains_iff_mem.1 hr
  have hst : qOp P ops C k (wpQuiet P ops C Lq l) a := by unfold qOp; rw [h0]; exact h
  obtain ⟨v, hy, hK⟩ := yieldsIn_of_qOp h0 hst
  refine HeadQ.first h0 hsel hs hc hn (by omega) (fun _ _ hL => seqB_ready hL.1) _ _ _ inv (Region.free_spec h0 hf) hr' hy (ih (k + 1) _ _ ?_ (by omega) (inv.set hr' (by omega)) hB' hK)
  intro j hj
  have := hl (j + 1) (by rw [List.length_cons]; omega)
  rwa [List.getElem?_cons_succ, show k + (j + 1) = k + 1 + j by omega] at this
theorem wp_region_tail {id : Nat} {R : Exit → Act → World → Prop} {a : Act} {w : World} {l : List Oper} (n : Nat) (hm : P.follows .mixedOrders = true) (hB : Region.lexTailB .any l.toArray n = true)
  (h : wpQuiet P l.toArray (fun w' => ∃ k, w' = w.jk k) (fun a' => ∀ w', (∃ k, w' = w.jk k) → wpList P l.toArray R (l.drop n) a' w') (l.take n) a) : (Code.region id l.toArray true).wp P R a w := by
 simp only [Region.lexTailB, Bool.and_eq_true, decide_eq_true_eq] at hB
 obtain ⟨⟨⟨⟨hsel, hn⟩, hs⟩, hc⟩, hlex⟩ := hB
 have hn' : n < l.length := by simpa using hn
 have htl : (l.take n).length = n := by rw [List.length_take]; omega
 have inv0 : HeadInv .any l.toArray n (Array.replicate l.toArray.size false) :=
  ⟨by simp, fun j oj _ hl => (by rw [getD_replicate_false] at hl; cases hl), fun t _ ht => getD_in (by simpa using ht) (getD_replicate_false _ _)⟩
 have H := HeadQ.lex (C := fun w' => ∃ k, w' = w.jk k) (md := .any) (g := l.toArray.size - n) hsel hs hc hn (l.take n) 0 _ a (fun j hj => by
  rw [htl] at hj
  simp [hj]) (by omega) inv0 (by rw [htl]; exact hlex) h
 have K := HeadQ.wpAny (R := R) (g := l.toArray.size - n) (fun listed a' w' hw' hL => by
  have := wpAny_of_seq (md := .any) (Q' := R) (l.drop n) n listed a' w' (fun j => by simp [List.getElem?_drop]) (by simpa using hL.1) (hL.2 w' hw')
  simpa using this) _ _ _ { w with drawn := w.drawn + 1 } ⟨⟨#[], w.drawn + 1⟩, by simp [World.jk]⟩ H
 refine wp_region_any hm ?_
 rw [htl, show n + (l.toArray.size - n) = l.toArray.size by simp; omega] at K
 exact K
end
end Go
/- What the helpers of the laws on the ring return: Small, mul, add, conj, known; and the contracts of package cyclo within the limits. -/
namespace Go.Proofs.YtcjflafjmdfanaaGreatDoor
open Go.RowKit Go.Sub
theorem addR_ok {x y : Cy} (hx : x.In 100000000000000000) (hy : y.In 100000000000000000) : addR x y = ⟨x.add y, 0⟩ := by
 have h1 := wiB_of (hx.mono (show (100000000000000000 : Int) ≤ 576460752303423488 by decide))
 have h2 := wiB_of (hy.mono (show (100000000000000000 : Int) ≤ 576460752303423488 by decide))
 have h3 : wiB (x.add y) 576460752303423488 = true := wiB_of (by unfold Cy.In at *; unfold Cy.add; dsimp only; omega)
 simp [addR, limR, h1, h2, h3]
theorem tn_in {x : Cy} {l : Int} (hx : x.In l) : ∀ n, n < 12 → (x.tn n).In (2 * l)
 | 0, _ | 1, _ | 2, _ | 3, _ | 4, _ | 5, _ | 6, _ | 7, _ | 8, _ | 9, _ | 10, _ | 11, _ => by
  unfold Cy.In at *
  simp only [Cy.tn]
  omega
 | _ + 12, h => by omega
theorem turn_in {x : Cy} {l : Int} (k : Int) (hx : x.In l) : (x.turn k).In (2 * l) := tn_in hx _ (by omega)
theorem normR_ok {x : Cy} (hx : x.In 268435456) : normR x = ⟨x.norm, 0⟩ := by
 simp [normR, wiB_of hx]
theorem add_c (x y : Cy) (w : World) (hx : x.In 100000000000000000) (hy : y.In 100000000000000000) : Calls Tryz.prog 121 #[.agg #[.int .i64 x.a, .int .i64 x.b, .int .i64 x.c, .int .i64 x.d], .agg #[.int .i64 y.a, .int .i64 y.b, .int .i64 y.c, .int .i64 y.d]] w fun e w' => e = .returned (.tuple #[.agg #[.int .i64 (x.add y).a, .int .i64 (x.add y).b, .int .i64 (x.add y).c, .int .i64 (x.add y).d], .int .i64 0]) ∧ Q w w' := by
 have h := add_any x.a x.b x.c x.d y.a y.b y.c y.d w
 rw [addR_ok hx hy] at h
 exact h
theorem norm_c (x : Cy) (w : World) (hx : x.In 268435456) : Calls Tryz.prog 103 #[.agg #[.int .i64 x.a, .int .i64 x.b, .int .i64 x.c, .int .i64 x.d]] w fun e w' => e = .returned (.tuple #[.agg #[.int .i64 (x.norm).a, .int .i64 (x.norm).b], .int .i64 0]) ∧ Q w w' := by
 have h := norm_any x.a x.b x.c x.d w
 rw [normR_ok hx] at h
 exact h
end Go.Proofs.YtcjflafjmdfanaaGreatDoor
/- Scale of package cyclo where the products fit. -/
namespace Go.Sub
def Cy.sc (x : Cy) (k : Int) : Cy := ⟨x.a * k, x.b * k, x.c * k, x.d * k⟩
theorem sc_in {x : Cy} {k l m : Int} (hx : x.In l) (h1 : -m ≤ k) (h2 : k ≤ m) : (x.sc k).In (l * m) := by
 obtain ⟨x1, x2, x3, x4, x5, x6, x7, x8⟩ := hx
 have a := bd_mul x1 x2 h1 h2
 have b := bd_mul x3 x4 h1 h2
 have c := bd_mul x5 x6 h1 h2
 have d := bd_mul x7 x8 h1 h2
 exact ⟨a.1, a.2, b.1, b.2, c.1, c.2, d.1, d.2⟩
theorem scaleR_fit {x : Cy} {k l m : Int} (hx : x.In l) (h1 : -m ≤ k) (h2 : k ≤ m) (hl : l ≤ 576460752303423488) (hm : m ≤ 576460752303423488) (hlm : l * m ≤ 576460752303423488) : scaleR x k = ⟨x.sc k, 0⟩ := by
 have h := sc_in hx h1 h2
 have e1 := wiB_of (hx.mono hl)
 have e2 := wiB_of (h.mono hlm)
 have e3 : brkB 576460752303423488 k = false := by simp [brkB]; omega
 unfold Cy.sc at e2
 simp [scaleR, limR, e1, e2, e3, Cy.sc]
end Go.Sub
namespace Go.Proofs.YtcjflafjmdfanaaGreatDoor
open Go.RowKit Go.Sub
theorem scale_fit (x : Cy) (k l m : Int) (w : World) (hx : x.In l) (h1 : -m ≤ k) (h2 : k ≤ m) (hl : l ≤ 576460752303423488) (hm : m ≤ 576460752303423488) (hlm : l * m ≤ 576460752303423488) :
  Calls Tryz.prog 99 #[.agg #[.int .i64 x.a, .int .i64 x.b, .int .i64 x.c, .int .i64 x.d], .int .i64 k] w fun e w' => e = .returned (.tuple #[.agg #[.int .i64 (x.sc k).a, .int .i64 (x.sc k).b, .int .i64 (x.sc k).c, .int .i64 (x.sc k).d], .int .i64 0]) ∧ Q w w' := by
 have h := scale_any x.a x.b x.c x.d k w
 rw [show scaleR ⟨x.a, x.b, x.c, x.d⟩ k = _ from scaleR_fit hx h1 h2 hl hm hlm] at h
 exact h
end Go.Proofs.YtcjflafjmdfanaaGreatDoor
/- The laws of the ring, in plain arithmetic. No program in sight. -/
namespace Go.Sub
theorem Cy.mul_comm (x y : Cy) : y.mul x = x.mul y := by
 apply Cy.ext' <;> simp only [Cy.mul] <;> grind
theorem Cy.mul_assoc (x y z : Cy) : x.mul (y.mul z) = (x.mul y).mul z := by
 apply Cy.ext' <;> simp only [Cy.mul] <;> grind
theorem Cy.mul_add (x y z : Cy) : x.mul (y.add z) = (x.mul y).add (x.mul z) := by
 apply Cy.ext' <;> simp only [Cy.mul, Cy.add] <;> grind
theorem Cy.add_in {x y : Cy} {l m : Int} (hx : x.In l) (hy : y.In m) : (x.add y).In (l + m) := by
 unfold Cy.In at *; unfold Cy.add; dsimp only; omega
theorem tmod_bd (a : Int) (n : Int) (hn : 0 < n) : -(n - 1) ≤ a.tmod n ∧ a.tmod n ≤ n - 1 := by
 rcases Int.le_total 0 a with h | h
 ·rw [Int.tmod_eq_emod_of_nonneg h]
  have h1 := Int.emod_nonneg a (show n ≠ 0 by omega)
  have h2 := Int.emod_lt_of_pos a hn
  omega
 obtain ⟨b, rfl⟩ : ∃ b, a = -b := ⟨-a, by omega⟩
 rw [Int.neg_tmod, Int.tmod_eq_emod_of_nonneg (show 0 ≤ b by omega)]
 have h1 := Int.emod_nonneg b (show n ≠ 0 by omega)
 have h2 := Int.emod_lt_of_pos b hn
 omega
end Go.Sub
/- Small on a number, and what turns, conjugates and sums come to: plain laws. -/
namespace Go.Sub
def smallC (x : Cy) : Cy := ⟨x.a.tmod 4096, x.b.tmod 4096, x.c.tmod 4096, x.d.tmod 4096⟩
theorem rootC_in (k : Int) : (rootC k).In 2 := Go.Proofs.YtcjflafjmdfanaaGreatDoor.turn_in k (x := ⟨1, 0, 0, 0⟩) (l := 1) (by unfold Cy.In; decide)
def Su.eqB (x y : Su) : Bool := x.a == y.a && x.b == y.b
@[go_sem] theorem Su.eqB_self (x : Su) : x.eqB x = true := by simp [Su.eqB]
theorem Su.eqB_of {x y : Su} (h : x = y) : x.eqB y = true := h ▸ Su.eqB_self x
theorem Su.eqB_iff (x y : Su) : x.eqB y = true ↔ x = y := by cases x; cases y; simp [Su.eqB]
end Go.Sub
namespace Go.Proofs.YtcjflafjmdfanaaGreatDoor
open Go.RowKit Go.Sub
@[go_sem high] theorem eqlSurd (w : World) (a b a' b' : Int) :
  (binOp .eql 166 (.agg #[.int .i64 a, .int .i64 b]) (.agg #[.int .i64 a', .int .i64 b'])).run Tryz.prog w = .ok (.bool (Su.eqB ⟨a, b⟩ ⟨a', b'⟩)) w := by
 simp only [Su.eqB]
 by_cases h : a = a'
 ·subst h; by_cases h2 : b = b' <;> simp [go_sem, h2]
 simp [go_sem, h]
end Go.Proofs.YtcjflafjmdfanaaGreatDoor
/- Squared magnitudes: plain laws. No program in sight. -/
namespace Go.Sub
theorem norm_in {x : Cy} {l : Int} (h : x.In l) : x.norm.In (6 * (l * l)) := by
 have p := prods_of h h
 obtain ⟨h1, h2, h3, h4, h5, h6, h7, h8, h9, h10, h11, h12, h13, h14, h15, h16⟩ := p
 unfold Su.In Cy.norm
 dsimp only
 omega
theorem sq3_nat (n : Nat) : ∀ a b : Nat, a < n → a * a = 3 * (b * b) → a = 0 := by
 induction n with
 | zero => intro a b h; omega
 | succ n ih =>
  intro a b ha h
  have h3 : a % 3 = 0 := by
   have h1 : a * a % 3 = 0 := by rw [h]; omega
   rw [Nat.mul_mod] at h1
   have : a % 3 = 0 ∨ a % 3 = 1 ∨ a % 3 = 2 := by omega
   rcases this with e | e | e <;> rw [e] at h1 <;> simp_all
  obtain ⟨c, rfl⟩ : ∃ c, a = 3 * c := ⟨a / 3, by omega⟩
  have h4 : b * b = 3 * (c * c) := by
   have : 3 * c * (3 * c) = 9 * (c * c) := by grind
   omega
  rcases Nat.eq_zero_or_pos c with rfl | hc
  ·rfl
  have hb : b < 3 * c := by
   rcases Nat.lt_or_ge b (3 * c) with h | h
   ·exact h
   have := Nat.mul_le_mul h h
   have e : 3 * c * (3 * c) = 9 * (c * c) := by grind
   have : 0 < c * c := Nat.mul_pos hc hc
   omega
  have hb0 := ih b c (by omega) h4
  subst hb0
  have : 0 < c * c := Nat.mul_pos hc hc
  omega
theorem sq3 (a b : Int) (h : a * a = 3 * (b * b)) : a = 0 ∧ b = 0 := by
 have h1 : a.natAbs * a.natAbs = 3 * (b.natAbs * b.natAbs) := by
  have := congrArg Int.natAbs h
  simpa [Int.natAbs_mul] using this
 have ha := sq3_nat (a.natAbs + 1) a.natAbs b.natAbs (by omega) h1
 have ha' : a = 0 := Int.natAbs_eq_zero.1 ha
 subst ha'
 have : b * b = 0 := by omega
 exact ⟨rfl, by rcases Int.mul_eq_zero.1 this with h | h <;> exact h⟩
theorem mag_sq (n : Int) : mag n * mag n = n * n := by
 unfold mag
 split
 ·exact Int.neg_mul_neg n n
 rfl
end Go.Sub
namespace Go.Sub
theorem saddR_ok {x y : Su} (hx : x.In 100000000000000000) (hy : y.In 100000000000000000) : saddR x y = ⟨x.add y, 0⟩ := by
 unfold Su.In at hx hy
 have h1 : wi4 1152921504606846976 x.a x.b y.a y.b = true := (wi4_iff _ _ _ _ _).2 (by omega)
 have h2 : wi2 1152921504606846976 (x.add y).a (x.add y).b = true := (wi2_iff _ _ _).2 (by simp only [Su.add]; omega)
 simp [saddR, limS, h1, h2]
theorem Su.In.mono {x : Su} {l m : Int} (h : x.In l) (hm : l ≤ m) : x.In m := by unfold Su.In at *; omega
end Go.Sub
namespace Go.Proofs.YtcjflafjmdfanaaGreatDoor
open Go.RowKit Go.Sub
theorem sadd_c (x y : Su) (w : World) (hx : x.In 100000000000000000) (hy : y.In 100000000000000000) :
  Calls Tryz.prog 132 #[.agg #[.int .i64 x.a, .int .i64 x.b], .agg #[.int .i64 y.a, .int .i64 y.b]] w fun e w' => e = .returned (.tuple #[.agg #[.int .i64 (x.add y).a, .int .i64 (x.add y).b], .int .i64 0]) ∧ Q w w' := by
 have h := sadd_any x.a x.b y.a y.b w
 rw [saddR_ok hx hy] at h
 exact h
end Go.Proofs.YtcjflafjmdfanaaGreatDoor
