
/- SurdProducts: the walk. -/
import Derived.Test.YtkkjifgcjfbcaaaSuN
import Derived.Test.YtkkjifgcjfbcaaaFl
namespace Go.Proofs.Ytkkjifgcjfbcaaa
open Go.RowKit Go.Sub
set_option maxHeartbeats 2000000 in
theorem products_true (x y : Su) (w : World) (_ : (-9223372036854775808 ≤ x.a ∧ x.a ≤ 9223372036854775807) ∧ (-9223372036854775808 ≤ x.b ∧ x.b ≤ 9223372036854775807)) (_ : (-9223372036854775808 ≤ y.a ∧ y.a ≤ 9223372036854775807) ∧ (-9223372036854775808 ≤ y.b ∧ y.b ≤ 9223372036854775807)) :
    Calls Try.prog 4 #[.agg #[.int .i64 x.a, .int .i64 x.b], .agg #[.int .i64 y.a, .int .i64 y.b]] w fun e w' => e = .returned (.bool true) ∧ Q w w' := by
  go_enter Try.func4, Try.ntmps4
  go_wp2_with (first | (go_at_call 16; refine (known02 _).mono ?_; rintro e w' ⟨rfl, kj, rfl⟩) | (go_at_call 19; refine (smul_any _ _ _ _ _).mono ?_; rintro e w' ⟨rfl, kj, rfl⟩) | (go_at_call 20; refine (r2mul_any _ _ _ _ _).mono ?_; rintro e w' ⟨rfl, kj, rfl⟩) | (go_at_call 21; refine (snorm_any _ _ _).mono ?_; rintro e w' ⟨rfl, kj, rfl⟩) | (go_at_call 22; refine (r2norm_any _ _ _).mono ?_; rintro e w' ⟨rfl, kj, rfl⟩))
  go_ret
  refine ⟨rfl, ?_⟩
  repeat' (first | exact Q.refl _ | refine Q.alloc ?_ _ | refine Q.jk ?_ _ | refine Q.drew ?_)
end Go.Proofs.Ytkkjifgcjfbcaaa
