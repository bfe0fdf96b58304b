
/- DistanceDirections: the walk. -/
import Derived.Test.YtomodppdolfinaaDsF
import Derived.Deep.RegionWith
import Derived.IntWalk
namespace Go.Proofs.Ytomodppdolfinaa
open Go.RowKit Go.Sub
set_option maxRecDepth 100000 in
set_option maxHeartbeats 4000000 in
theorem dir_core (p I A0 A B C : Cy) (n m s : Int) (w : World) (e1 : p.a.tmod 65536 = I.a) (e2 : p.b.tmod 65536 = I.b) (e3 : p.c.tmod 65536 = I.c) (e4 : p.d.tmod 65536 = I.d) (em : n % 100 = m) (_ : 0 ≤ m) (_ : m < 100)
    (T1 : Hid (∀ w, Calls Try.prog 19 #[.agg #[.int .i64 I.a, .int .i64 I.b, .int .i64 I.c, .int .i64 I.d], .int .i64 (-2)] w fun e w' => e = .returned (.tuple #[.agg #[.int .i64 A0.a, .int .i64 A0.b, .int .i64 A0.c, .int .i64 A0.d], .int .i64 0]) ∧ Q w w')) (T2 : Hid (∀ w, Calls Try.prog 19 #[.agg #[.int .i64 A.a, .int .i64 A.b, .int .i64 A.c, .int .i64 A.d], .int .i64 6] w fun e w' => e = .returned (.tuple #[.agg #[.int .i64 B.a, .int .i64 B.b, .int .i64 B.c, .int .i64 B.d], .int .i64 0]) ∧ Q w w')) (T3 : Hid (∀ w, Calls Try.prog 19 #[.agg #[.int .i64 A.a, .int .i64 A.b, .int .i64 A.c, .int .i64 A.d], .int .i64 3] w fun e w' => e = .returned (.tuple #[.agg #[.int .i64 C.a, .int .i64 C.b, .int .i64 C.c, .int .i64 C.d], .int .i64 0]) ∧ Q w w'))
    (SCL : Hid (∀ w, Calls Try.prog 20 #[.agg #[.int .i64 A0.a, .int .i64 A0.b, .int .i64 A0.c, .int .i64 A0.d], .int .i64 (1 + m)] w fun e w' => e = .returned (.tuple #[.agg #[.int .i64 A.a, .int .i64 A.b, .int .i64 A.c, .int .i64 A.d], .int .i64 0]) ∧ Q w w'))
    (D1 : Hid (∀ w, Calls Try.prog 21 #[.agg #[.int .i64 I.a, .int .i64 I.b, .int .i64 I.c, .int .i64 I.d], .agg #[.int .i64 A.a, .int .i64 A.b, .int .i64 A.c, .int .i64 A.d]] w fun e w' => e = .returned (.tuple #[.int .i64 s, .int .i64 0]) ∧ Q w w')) (D2 : Hid (∀ w, Calls Try.prog 21 #[.agg #[.int .i64 I.a, .int .i64 I.b, .int .i64 I.c, .int .i64 I.d], .agg #[.int .i64 B.a, .int .i64 B.b, .int .i64 B.c, .int .i64 B.d]] w fun e w' => e = .returned (.tuple #[.int .i64 (-s), .int .i64 0]) ∧ Q w w')) (D3 : Hid (∀ w, Calls Try.prog 21 #[.agg #[.int .i64 I.a, .int .i64 I.b, .int .i64 I.c, .int .i64 I.d], .agg #[.int .i64 C.a, .int .i64 C.b, .int .i64 C.c, .int .i64 C.d]] w fun e w' => e = .returned (.tuple #[.int .i64 0, .int .i64 0]) ∧ Q w w')) (D4 : Hid (∀ w, Calls Try.prog 21 #[.agg #[.int .i64 0, .int .i64 0, .int .i64 0, .int .i64 0], .agg #[.int .i64 A.a, .int .i64 A.b, .int .i64 A.c, .int .i64 A.d]] w fun e w' => e = .returned (.tuple #[.int .i64 0, .int .i64 0]) ∧ Q w w'))
    (HP : (Cy.eqB ⟨I.a, I.b, I.c, I.d⟩ ⟨0, 0, 0, 0⟩ = true ∧ s = 0) ∨ (Cy.eqB ⟨I.a, I.b, I.c, I.d⟩ ⟨0, 0, 0, 0⟩ = false ∧ s = 1)) :
    Calls Try.prog 5 #[.agg #[.int .i64 p.a, .int .i64 p.b, .int .i64 p.c, .int .i64 p.d], .int .i64 n] w fun e w' => e = .returned (.bool true) ∧ Q w w' := by
  have WI : Hid (∀ w, Calls Try.prog 16 #[.int .i64 n, .int .i64 100] w fun e w' => e = .returned (.int .i64 m) ∧ w = w') := Lib.hid fun w => by
    have h := within22_any n 100 w (by decide) (by decide)
    rw [em] at h
    exact h
  have EM : IntKind.i64.wrap (1 + m) = 1 + m := IntWalk.i64_in _ (by omega)
  rcases HP with ⟨h1, rfl⟩ | ⟨h1, rfl⟩
  all_goals
    go_enter Try.func5, Try.ntmps5
    go_wp2_with (go_at_call 15; refine (known22 _).mono ?_; rintro e w' ⟨rfl, kj, rfl⟩)
    refine wp_loop_rounds 5 ?_
    iterate 5 (rw [rounds_succ]; go_wp2_with ((first | (go_at_call 19; first | ((with_reducible refine (T1.out _).mono ?_); rintro e w' ⟨rfl, kj, rfl⟩) | ((with_reducible refine (T2.out _).mono ?_); rintro e w' ⟨rfl, kj, rfl⟩) | ((with_reducible refine (T3.out _).mono ?_); rintro e w' ⟨rfl, kj, rfl⟩)) | (go_at_call 21; first | ((with_reducible refine (D1.out _).mono ?_); rintro e w' ⟨rfl, kj, rfl⟩) | ((with_reducible refine (D2.out _).mono ?_); rintro e w' ⟨rfl, kj, rfl⟩) | ((with_reducible refine (D3.out _).mono ?_); rintro e w' ⟨rfl, kj, rfl⟩) | ((with_reducible refine (D4.out _).mono ?_); rintro e w' ⟨rfl, kj, rfl⟩)))))
    go_region_with (first | (go_at_call 16; (with_reducible refine (WI.out _).mono ?_); rintro e w' ⟨rfl, rfl⟩) | (go_at_call 20; (with_reducible refine (SCL.out _).mono ?_); rintro e w' ⟨rfl, kj, rfl⟩))
  all_goals
    go_wp2_with ((first | (go_at_call 19; first | ((with_reducible refine (T1.out _).mono ?_); rintro e w' ⟨rfl, kj, rfl⟩) | ((with_reducible refine (T2.out _).mono ?_); rintro e w' ⟨rfl, kj, rfl⟩) | ((with_reducible refine (T3.out _).mono ?_); rintro e w' ⟨rfl, kj, rfl⟩)) | (go_at_call 21; first | ((with_reducible refine (D1.out _).mono ?_); rintro e w' ⟨rfl, kj, rfl⟩) | ((with_reducible refine (D2.out _).mono ?_); rintro e w' ⟨rfl, kj, rfl⟩) | ((with_reducible refine (D3.out _).mono ?_); rintro e w' ⟨rfl, kj, rfl⟩) | ((with_reducible refine (D4.out _).mono ?_); rintro e w' ⟨rfl, kj, rfl⟩))))
    go_ret
    refine ⟨rfl, ?_⟩
    repeat' (first | exact Q.refl _ | refine Q.alloc ?_ _ | refine Q.jk ?_ _ | refine Q.drew ?_)
theorem dir_walk (p : Cy) (n : Int) (w : World) (_ : -9223372036854775808 ≤ n ∧ n ≤ 9223372036854775807) :
    Calls Try.prog 5 #[.agg #[.int .i64 p.a, .int .i64 p.b, .int .i64 p.c, .int .i64 p.d], .int .i64 n] w fun e w' => e = .returned (.bool true) ∧ Q w w' := by
  have hI : (small3 p).In 65536 := small3_in p
  have h0 := turn_in (-2) hI
  have hm0 : 0 ≤ n % 100 := by omega
  have hm1 : n % 100 < 100 := by omega
  have hA : (((small3 p).turn (-2)).sc (1 + n % 100)).In 13107200 := sc_in (k := 1 + n % 100) (m := 100) h0 (by omega) (by omega)
  have hB := turn_in 6 hA
  have hC := turn_in 3 hA
  refine dir_core p (small3 p) ((small3 p).turn (-2)) (((small3 p).turn (-2)).sc (1 + n % 100)) ((((small3 p).turn (-2)).sc (1 + n % 100)).turn 6) ((((small3 p).turn (-2)).sc (1 + n % 100)).turn 3) n (n % 100) (dirI (small3 p) (((small3 p).turn (-2)).sc (1 + n % 100))) w rfl rfl rfl rfl rfl hm0 hm1
    (Lib.hid fun w => turn_c _ _ w (hI.mono (by decide))) (Lib.hid fun w => turn_c _ _ w (hA.mono (by decide))) (Lib.hid fun w => turn_c _ _ w (hA.mono (by decide)))
    (Lib.hid fun w => scale_fit _ _ 131072 100 w h0 (by omega) (by omega) (by decide) (by decide) (by decide))
    (Lib.hid fun w => direction_c _ _ w (hI.mono (by decide)) (hA.mono (by decide))) (Lib.hid fun w => ?_) (Lib.hid fun w => ?_) (Lib.hid fun w => ?_) ?_
  · have h := direction_c (small3 p) ((((small3 p).turn (-2)).sc (1 + n % 100)).turn 6) w (hI.mono (by decide)) (hB.mono (by decide))
    rw [dir_neg] at h
    exact h
  · have h := direction_c (small3 p) ((((small3 p).turn (-2)).sc (1 + n % 100)).turn 3) w (hI.mono (by decide)) (hC.mono (by decide))
    rw [dir_side] at h
    exact h
  · have h := direction_c ⟨0, 0, 0, 0⟩ (((small3 p).turn (-2)).sc (1 + n % 100)) w (by unfold Cy.In; decide) (hA.mono (by decide))
    rw [dir_none] at h
    exact h
  · rw [dir_own (small3 p) (1 + n % 100) (by omega)]
    show (Cy.eqB (small3 p) ⟨0, 0, 0, 0⟩ = true ∧ _) ∨ (Cy.eqB (small3 p) ⟨0, 0, 0, 0⟩ = false ∧ _)
    cases Cy.eqB (small3 p) ⟨0, 0, 0, 0⟩
    · exact .inr ⟨rfl, rfl⟩
    · exact .inl ⟨rfl, rfl⟩
end Go.Proofs.Ytomodppdolfinaa
