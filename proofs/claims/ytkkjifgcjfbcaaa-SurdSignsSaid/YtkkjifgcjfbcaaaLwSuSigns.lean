
/- SurdSigns: the walk. -/
import Derived.Test.YtkkjifgcjfbcaaaSuN
import Derived.Test.YtkkjifgcjfbcaaaFl
import Derived.Test.YtkkjifgcjfbcaaaBgD
namespace Go.Proofs.Ytkkjifgcjfbcaaa
open Go.RowKit Go.Sub
set_option maxHeartbeats 2000000 in
theorem signs_true (x : Su) (w : World) (hx : (-9223372036854775808 ≤ x.a ∧ x.a ≤ 9223372036854775807) ∧ (-9223372036854775808 ≤ x.b ∧ x.b ≤ 9223372036854775807)) :
    Calls Try.prog 3 #[.agg #[.int .i64 x.a, .int .i64 x.b]] w fun e w' => e = .returned (.bool true) ∧ Q w w' := by
  obtain ⟨⟨h0, h1⟩, k0, k1⟩ := hx
  go_enter Try.func3, Try.ntmps3
  go_wp2
  refine wp_region_jk (by kernel_rfl) (by kernel_rfl) ?_
  repeat (go_big_quiet_step ((first | (go_at_call 16; exact Calls.jk_of (known02 _)) | (go_at_call 17; exact Calls.jk_of (sgnS_any _ _ _ (by omega) (by omega) (by omega) (by omega))) | (go_at_call 18; exact Calls.jk_of (r2Sign_any _ _ _ (by omega) (by omega) (by omega) (by omega))))))
  refine wpQuiet_nil ?_
  intro _ hw'
  obtain ⟨kq, rfl⟩ := hw'
  go_wp2
  go_ret
  refine ⟨rfl, ?_⟩
  repeat' (first | exact Q.refl _ | refine Q.alloc ?_ _ | refine Q.jk ?_ _ | refine Q.drew ?_)
end Go.Proofs.Ytkkjifgcjfbcaaa
