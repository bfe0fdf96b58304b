
/- What Within, result and conj of the reference return. -/
import Derived.Test.YtomodppdolfinaaGreatCyL1
namespace Go.Proofs.YtomodppdolfinaaGreat
open Go.RowKit Go.Sub

set_option maxHeartbeats 1000000 in
theorem rwithin_any (a b c d l : Int) (w : World) (h0 : 0 ≤ l) (h1 : l ≤ 1000000000000000000) :
    Calls Tryz.prog 40 #[.agg #[.int .i64 a, .int .i64 b, .int .i64 c, .int .i64 d], .int .i64 l] w fun e w' => e = .returned (.bool (wiB ⟨a, b, c, d⟩ l)) ∧ Q w w' := by
  go_enter Tryz.func40, Tryz.ntmps40
  go_wp2
  refine wp_loop_rounds 5 ?_
  repeat any_goals (rw [rounds_succ]; go_wp2)
  all_goals go_ret
  all_goals (refine ⟨?_, (Q.refl _).alloc _⟩; simp [wiB, brkB, *] <;> omega)

set_option maxHeartbeats 400000 in
theorem rresult_any (a b c d : Int) (w : World) :
    Calls Tryz.prog 42 #[.agg #[.int .i64 a, .int .i64 b, .int .i64 c, .int .i64 d]] w fun e w' => e = .returned (.tuple #[.agg #[.int .i64 (limR ⟨a, b, c, d⟩).v.a, .int .i64 (limR ⟨a, b, c, d⟩).v.b, .int .i64 (limR ⟨a, b, c, d⟩).v.c, .int .i64 (limR ⟨a, b, c, d⟩).v.d], .int .i64 (limR ⟨a, b, c, d⟩).e]) ∧ Q w w' := by
  by_cases h : wiB ⟨a, b, c, d⟩ 576460752303423488 = true
  · go_enter Tryz.func42, Tryz.ntmps42
    go_wp2_with (go_at_call 40; refine (rwithin_any _ _ _ _ _ _ (by omega) (by omega)).mono ?_; rintro e w' ⟨rfl, kj, rfl⟩)
    refine bodyPost_ret (v := .tuple #[.agg #[.int .i64 a, .int .i64 b, .int .i64 c, .int .i64 d], .int .i64 0]) (by simp [results, Tryz.results42, go_sem]) rfl ⟨by simp [limR, h], ?_⟩
    repeat' (first | exact Q.refl _ | refine Q.alloc ?_ _ | refine Q.jk ?_ _ | refine Q.drew ?_)
  · have h : wiB ⟨a, b, c, d⟩ 576460752303423488 = false := by simpa using h
    go_enter Tryz.func42, Tryz.ntmps42
    go_wp2_with (go_at_call 40; refine (rwithin_any _ _ _ _ _ _ (by omega) (by omega)).mono ?_; rintro e w' ⟨rfl, kj, rfl⟩)
    refine bodyPost_ret (v := .tuple #[.agg #[.int .i64 0, .int .i64 0, .int .i64 0, .int .i64 0], .int .i64 2]) (by simp [results, Tryz.results42, go_sem]) rfl ⟨by simp [limR, h, zeroC], ?_⟩
    repeat' (first | exact Q.refl _ | refine Q.alloc ?_ _ | refine Q.jk ?_ _ | refine Q.drew ?_)

end Go.Proofs.YtomodppdolfinaaGreat
