
/- OvercurrentElements: the walk. -/
import Derived.Test.YtkkjifgcjfbcaaaOcC
import Derived.Test.YtkkjifgcjfbcaaaOcF
namespace Go.Proofs.Ytkkjifgcjfbcaaa
open Go.RowKit Go.Sub
set_option maxHeartbeats 4000000 in
theorem ocelem_core (x y z : Cy) (p u v e1 e2 : Int) (b1 b2 : Bool) (w : World)
    (A1 : Hid (∀ w, Calls Try.prog 34 #[.agg #[.int .i64 x.a, .int .i64 x.b, .int .i64 x.c, .int .i64 x.d, .int .i64 y.a, .int .i64 y.b, .int .i64 y.c, .int .i64 y.d, .int .i64 z.a, .int .i64 z.b, .int .i64 z.c, .int .i64 z.d]] w fun e w' => e = .returned (.tuple #[.agg #[.int .i64 u, .int .i64 v], .int .i64 e1]) ∧ Q w w')) (A2 : Hid (∀ w, Calls Try.prog 35 #[.agg #[.int .i64 x.a, .int .i64 x.b, .int .i64 x.c, .int .i64 x.d, .int .i64 y.a, .int .i64 y.b, .int .i64 y.c, .int .i64 y.d, .int .i64 z.a, .int .i64 z.b, .int .i64 z.c, .int .i64 z.d]] w fun e w' => e = .returned (.tuple #[.agg #[.int .i64 u, .int .i64 v], .int .i64 e1]) ∧ Q w w'))
    (A3 : Hid (∀ w, Calls Try.prog 36 #[.agg #[.int .i64 x.a, .int .i64 x.b, .int .i64 x.c, .int .i64 x.d, .int .i64 y.a, .int .i64 y.b, .int .i64 y.c, .int .i64 y.d, .int .i64 z.a, .int .i64 z.b, .int .i64 z.c, .int .i64 z.d], .int .i64 p] w fun e w' => e = .returned (.tuple #[.bool b1, .int .i64 e2]) ∧ Q w w')) (A4 : Hid (∀ w, Calls Try.prog 37 #[.agg #[.int .i64 x.a, .int .i64 x.b, .int .i64 x.c, .int .i64 x.d, .int .i64 y.a, .int .i64 y.b, .int .i64 y.c, .int .i64 y.d, .int .i64 z.a, .int .i64 z.b, .int .i64 z.c, .int .i64 z.d], .int .i64 p] w fun e w' => e = .returned (.tuple #[.bool b1, .int .i64 e2]) ∧ Q w w'))
    (A5 : Hid (∀ w, Calls Try.prog 38 #[.agg #[.int .i64 x.a, .int .i64 x.b, .int .i64 x.c, .int .i64 x.d, .int .i64 y.a, .int .i64 y.b, .int .i64 y.c, .int .i64 y.d, .int .i64 z.a, .int .i64 z.b, .int .i64 z.c, .int .i64 z.d], .int .i64 p] w fun e w' => e = .returned (.tuple #[.bool b2, .int .i64 e2]) ∧ Q w w')) (A6 : Hid (∀ w, Calls Try.prog 39 #[.agg #[.int .i64 x.a, .int .i64 x.b, .int .i64 x.c, .int .i64 x.d, .int .i64 y.a, .int .i64 y.b, .int .i64 y.c, .int .i64 y.d, .int .i64 z.a, .int .i64 z.b, .int .i64 z.c, .int .i64 z.d], .int .i64 p] w fun e w' => e = .returned (.tuple #[.bool b2, .int .i64 e2]) ∧ Q w w')) :
    Calls Try.prog 8 #[.agg #[.int .i64 x.a, .int .i64 x.b, .int .i64 x.c, .int .i64 x.d, .int .i64 y.a, .int .i64 y.b, .int .i64 y.c, .int .i64 y.d, .int .i64 z.a, .int .i64 z.b, .int .i64 z.c, .int .i64 z.d], .int .i64 p] w fun e w' => e = .returned (.bool true) ∧ Q w w' := by
  go_enter Try.func8, Try.ntmps8
  go_wp2_with (first | (go_at_call 33; refine (known24 _).mono ?_; rintro e w' ⟨rfl, kj, rfl⟩) | (go_at_call 34; (with_reducible refine (A1.out _).mono ?_); rintro e w' ⟨rfl, kj, rfl⟩) | (go_at_call 35; (with_reducible refine (A2.out _).mono ?_); rintro e w' ⟨rfl, kj, rfl⟩) | (go_at_call 36; (with_reducible refine (A3.out _).mono ?_); rintro e w' ⟨rfl, kj, rfl⟩) | (go_at_call 37; (with_reducible refine (A4.out _).mono ?_); rintro e w' ⟨rfl, kj, rfl⟩) | (go_at_call 38; (with_reducible refine (A5.out _).mono ?_); rintro e w' ⟨rfl, kj, rfl⟩) | (go_at_call 39; (with_reducible refine (A6.out _).mono ?_); rintro e w' ⟨rfl, kj, rfl⟩))
  go_ret
  refine ⟨rfl, ?_⟩
  repeat' (first | exact Q.refl _ | refine Q.alloc ?_ _ | refine Q.jk ?_ _ | refine Q.drew ?_)
theorem ocelem_true (x y z : Cy) (p : Int) (w : World) (_ : -9223372036854775808 ≤ p ∧ p ≤ 9223372036854775807) :
    Calls Try.prog 8 #[.agg #[.int .i64 x.a, .int .i64 x.b, .int .i64 x.c, .int .i64 x.d, .int .i64 y.a, .int .i64 y.b, .int .i64 y.c, .int .i64 y.d, .int .i64 z.a, .int .i64 z.b, .int .i64 z.c, .int .i64 z.d], .int .i64 p] w fun e w' => e = .returned (.bool true) ∧ Q w w' := by
  cases hf : fine3 x y z
  · have hn : (fine3 x y z && (decide (1 ≤ p) && decide (p ≤ 16383))) = false := by rw [hf]; rfl
    exact ocelem_core x y z p _ _ _ _ _ _ w (Lib.hid fun w => largest_no x y z w (Lib.hid hf)) (Lib.hid fun w => rlargest_no x y z w (Lib.hid hf))
      (Lib.hid fun w => ocabove_no x y z p w hn) (Lib.hid fun w => rabove_no x y z p w hn) (Lib.hid fun w => ocunder_no x y z p w hn) (Lib.hid fun w => runder_no x y z p w hn)
  · obtain ⟨hx, hy, hz⟩ := fine3_in hf
    cases hb : (decide (1 ≤ p) && decide (p ≤ 16383))
    · have hn : (fine3 x y z && (decide (1 ≤ p) && decide (p ≤ 16383))) = false := by rw [hf, hb]; rfl
      exact ocelem_core x y z p _ _ _ _ _ _ w (Lib.hid fun w => largest_c x y z w hx hy hz) (Lib.hid fun w => rlargest_c x y z w (Lib.hid hf))
        (Lib.hid fun w => ocabove_no x y z p w hn) (Lib.hid fun w => rabove_no x y z p w hn) (Lib.hid fun w => ocunder_no x y z p w hn) (Lib.hid fun w => runder_no x y z p w hn)
    · have hp : 1 ≤ p ∧ p ≤ 16383 := by simpa using hb
      exact ocelem_core x y z p _ _ _ _ _ _ w (Lib.hid fun w => largest_c x y z w hx hy hz) (Lib.hid fun w => rlargest_c x y z w (Lib.hid hf))
        (Lib.hid fun w => ocabove_c x y z p w hx hy hz hp.1 hp.2) (Lib.hid fun w => rabove_c x y z p w (Lib.hid hf) hp.1 hp.2 (Lib.hid hb)) (Lib.hid fun w => ocunder_c x y z p w hx hy hz hp.1 hp.2) (Lib.hid fun w => runder_c x y z p w (Lib.hid hf) hp.1 hp.2 (Lib.hid hb))
end Go.Proofs.Ytkkjifgcjfbcaaa
