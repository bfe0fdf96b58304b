
/- SurdSums: the walk. -/
import Derived.Test.YtkkjifgcjfbcaaaSuN
import Derived.Test.YtkkjifgcjfbcaaaFl
import Derived.Test.YtkkjifgcjfbcaaaBgE
namespace Go.Proofs.Ytkkjifgcjfbcaaa
open Go.RowKit Go.Sub
set_option maxRecDepth 100000 in
set_option maxHeartbeats 4000000 in
theorem sums_true (x y : Su) (n : Int) (w : World) (_ : (-9223372036854775808 ≤ x.a ∧ x.a ≤ 9223372036854775807) ∧ (-9223372036854775808 ≤ x.b ∧ x.b ≤ 9223372036854775807)) (_ : (-9223372036854775808 ≤ y.a ∧ y.a ≤ 9223372036854775807) ∧ (-9223372036854775808 ≤ y.b ∧ y.b ≤ 9223372036854775807)) (_ : -9223372036854775808 ≤ n ∧ n ≤ 9223372036854775807) :
    Calls Try.prog 7 #[.agg #[.int .i64 x.a, .int .i64 x.b], .agg #[.int .i64 y.a, .int .i64 y.b], .int .i64 n] w fun e w' => e = .returned (.bool true) ∧ Q w w' := by
  go_enter Try.func7, Try.ntmps7
  go_wp2_with (first | (go_at_call 16; refine (known02 _).mono ?_; rintro e w' ⟨rfl, kj, rfl⟩) | (go_at_call 25; refine (sadd_any _ _ _ _ _).mono ?_; rintro e w' ⟨rfl, kj, rfl⟩) | (go_at_call 27; refine (r2add_any _ _ _ _ _).mono ?_; rintro e w' ⟨rfl, kj, rfl⟩) | (go_at_call 28; refine (ssub_any _ _ _ _ _).mono ?_; rintro e w' ⟨rfl, kj, rfl⟩) | (go_at_call 29; refine (r2sub_any _ _ _ _ _).mono ?_; rintro e w' ⟨rfl, kj, rfl⟩) | (go_at_call 30; refine (sscale_any _ _ _ _).mono ?_; rintro e w' ⟨rfl, kj, rfl⟩) | (go_at_call 31; refine (r2scale_any _ _ _ _).mono ?_; rintro e w' ⟨rfl, kj, rfl⟩) | (go_at_call 26; refine (sconj_any _ _ _).mono ?_; rintro e w' ⟨rfl, kj, rfl⟩) | (go_at_call 32; refine (r2conj_any _ _ _).mono ?_; rintro e w' ⟨rfl, kj, rfl⟩))
  go_ret
  refine ⟨rfl, ?_⟩
  repeat' (first | exact Q.refl _ | refine Q.alloc ?_ _ | refine Q.jk ?_ _ | refine Q.drew ?_)
end Go.Proofs.Ytkkjifgcjfbcaaa
