
/- What Within, result and conj of the reference return. -/
import Derived.Test.YtkkjifgcjfbcaaaCyL1
namespace Go.Proofs.Ytkkjifgcjfbcaaa
open Go.RowKit Go.Sub

set_option maxHeartbeats 1000000 in
theorem rwithin_any (a b c d l : Int) (w : World) (h0 : 0 ≤ l) (h1 : l ≤ 1000000000000000000) :
    Calls Try.prog 95 #[.agg #[.int .i64 a, .int .i64 b, .int .i64 c, .int .i64 d], .int .i64 l] w fun e w' => e = .returned (.bool (wiB ⟨a, b, c, d⟩ l)) ∧ Q w w' := by
  go_enter Try.func95, Try.ntmps95
  go_wp2
  refine wp_loop_rounds 5 ?_
  repeat any_goals (rw [rounds_succ]; go_wp2)
  all_goals go_ret
  all_goals (refine ⟨?_, (Q.refl _).alloc _⟩; simp [wiB, brkB, *] <;> omega)

end Go.Proofs.Ytkkjifgcjfbcaaa
