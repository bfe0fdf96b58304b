
/- What within, limited, Add and Mul of package surd return. -/
import Derived.Test.YtomodppdolfinaaRows
import Derived.Test.YtomodppdolfinaaJk
import Derived.Test.YtomodppdolfinaaSuPlain
namespace Go.Proofs.Ytomodppdolfinaa
open Go.RowKit Go.Sub

set_option maxHeartbeats 1000000 in
theorem swithin4 (bk : Nat) (a b c d l : Int) (w : World) (h0 : 0 ≤ l) (h1 : l ≤ 4000000000000000000) (c0 : w.cell? ⟨bk, 0, none⟩ = some (.int .i64 a)) (c1 : w.cell? ⟨bk, 1, none⟩ = some (.int .i64 b)) (c2 : w.cell? ⟨bk, 2, none⟩ = some (.int .i64 c)) (c3 : w.cell? ⟨bk, 3, none⟩ = some (.int .i64 d)) :
    Calls Try.prog 75 #[.int .i64 l, .slice (some ⟨bk, 0, none⟩) 4 4] w fun e w' => e = .returned (.bool (wi4 l a b c d)) ∧ w = w' := by
  go_enter Try.func75, Try.ntmps75
  go_wp2
  refine wp_loop_rounds 5 ?_
  repeat any_goals (rw [rounds_succ]; go_wp2)
  all_goals go_ret
  all_goals (refine ⟨?_, rfl⟩; simp [wi4, brkB, *] <;> omega)

set_option maxHeartbeats 1000000 in
theorem swithin2 (bk : Nat) (a b l : Int) (w : World) (h0 : 0 ≤ l) (h1 : l ≤ 4000000000000000000) (c0 : w.cell? ⟨bk, 0, none⟩ = some (.int .i64 a)) (c1 : w.cell? ⟨bk, 1, none⟩ = some (.int .i64 b)) :
    Calls Try.prog 75 #[.int .i64 l, .slice (some ⟨bk, 0, none⟩) 2 2] w fun e w' => e = .returned (.bool (wi2 l a b)) ∧ w = w' := by
  go_enter Try.func75, Try.ntmps75
  go_wp2
  refine wp_loop_rounds 3 ?_
  repeat any_goals (rw [rounds_succ]; go_wp2)
  all_goals go_ret
  all_goals (refine ⟨?_, rfl⟩; simp [wi2, brkB, *] <;> omega)

set_option maxHeartbeats 1000000 in
theorem slimited_any (a b : Int) (w : World) :
    Calls Try.prog 77 #[.agg #[.int .i64 a, .int .i64 b]] w fun e w' => e = .returned (.tuple #[.agg #[.int .i64 (limS ⟨a, b⟩).v.a, .int .i64 (limS ⟨a, b⟩).v.b], .int .i64 (limS ⟨a, b⟩).e]) ∧ Q w w' := by
  by_cases h : wi2 1152921504606846976 a b = true
  · go_enter Try.func77, Try.ntmps77
    go_wp2_with (go_at_call 75; refine (swithin2 _ a b 1152921504606846976 _ (by omega) (by omega) (by simp [go_sem]) (by simp [go_sem])).mono ?_; rintro e w' ⟨rfl, rfl⟩)
    refine bodyPost_ret (v := .tuple #[.agg #[.int .i64 a, .int .i64 b], .int .i64 0]) (by simp [results, Try.results77, go_sem]) rfl ⟨by simp [limS, h], ?_⟩
    repeat' (first | exact Q.refl _ | refine Q.alloc ?_ _ | refine Q.jk ?_ _ | refine Q.drew ?_)
  · have h : wi2 1152921504606846976 a b = false := by simpa using h
    go_enter Try.func77, Try.ntmps77
    go_wp2_with (go_at_call 75; refine (swithin2 _ a b 1152921504606846976 _ (by omega) (by omega) (by simp [go_sem]) (by simp [go_sem])).mono ?_; rintro e w' ⟨rfl, rfl⟩)
    refine bodyPost_ret (v := .tuple #[.agg #[.int .i64 0, .int .i64 0], .int .i64 2]) (by simp [results, Try.results77, go_sem]) rfl ⟨by simp [limS, h, zeroS], ?_⟩
    repeat' (first | exact Q.refl _ | refine Q.alloc ?_ _ | refine Q.jk ?_ _ | refine Q.drew ?_)

end Go.Proofs.Ytomodppdolfinaa
