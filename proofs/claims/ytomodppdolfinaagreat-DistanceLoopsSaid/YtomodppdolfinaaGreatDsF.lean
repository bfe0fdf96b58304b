
/- What the helpers of the laws of distance return. -/
import Derived.Test.YtomodppdolfinaaGreatDsE
namespace Go.Sub
/-- A number whose coefficients are below 2^16. -/
def small3 (x : Cy) : Cy := ⟨x.a.tmod 65536, x.b.tmod 65536, x.c.tmod 65536, x.d.tmod 65536⟩
theorem small3_in (x : Cy) : (small3 x).In 65536 := by
  have h1 := tmod_in x.a (show (0 : Int) < 65536 by decide)
  have h2 := tmod_in x.b (show (0 : Int) < 65536 by decide)
  have h3 := tmod_in x.c (show (0 : Int) < 65536 by decide)
  have h4 := tmod_in x.d (show (0 : Int) < 65536 by decide)
  unfold Cy.In small3
  dsimp only
  omega
/-- The eighth part of a number. -/
def q8 (x : Cy) : Cy := ⟨x.a.tdiv 8, x.b.tdiv 8, x.c.tdiv 8, x.d.tdiv 8⟩
theorem tdiv8_bd {n : Int} (h1 : -65536 ≤ n) (h2 : n ≤ 65536) : -8192 ≤ n.tdiv 8 ∧ n.tdiv 8 ≤ 8192 := by
  rcases Int.le_total 0 n with h | h
  · rw [Int.tdiv_eq_ediv_of_nonneg h]; omega
  · have e := Int.neg_tdiv n 8
    rw [Int.tdiv_eq_ediv_of_nonneg (show 0 ≤ -n by omega)] at e
    omega
theorem q8_in {x : Cy} (h : x.In 65536) : (q8 x).In 8192 := by
  obtain ⟨x1, x2, x3, x4, x5, x6, x7, x8⟩ := h
  have a := tdiv8_bd x1 x2
  have b := tdiv8_bd x3 x4
  have c := tdiv8_bd x5 x6
  have d := tdiv8_bd x7 x8
  exact ⟨a.1, a.2, b.1, b.2, c.1, c.2, d.1, d.2⟩
/-- What the laws make of a phasor. -/
def sm22 (x : Cy) : Cy := q8 (small3 x)
theorem sm22_in (x : Cy) : (sm22 x).In 8192 := q8_in (small3_in x)
end Go.Sub
namespace Go.Proofs.YtomodppdolfinaaGreat
open Go.RowKit Go.Sub
set_option maxHeartbeats 2000000 in
theorem known22 (w : World) :
    Calls Tryz.prog 4 #[] w fun e w' => e = .returned (.bool true) ∧ Q w w' := by
  have H1 : Hid (∀ w, Calls Tryz.prog 5 #[.agg #[.int .i64 100, .int .i64 0, .int .i64 0, .int .i64 0, .int .i64 0, .int .i64 0, .int .i64 0, .int .i64 0, .int .i64 0, .int .i64 0, .int .i64 0, .int .i64 0], .agg #[.int .i64 0, .int .i64 0, .int .i64 0, .int .i64 (-10), .int .i64 0, .int .i64 0, .int .i64 0, .int .i64 0, .int .i64 0, .int .i64 0, .int .i64 0, .int .i64 0], .int .i64 0, .int .i64 0] w fun e w' => e = .returned (.tuple #[.agg (c48L (loopV ⟨100, 0, 0, 0⟩ ⟨0, 0, 0, 0⟩ ⟨0, 0, 0, 0⟩) (loopI ⟨0, 0, 0, -10⟩ ⟨0, 0, 0, 0⟩ ⟨0, 0, 0, 0⟩ 0 0) 6), .int .i64 0]) ∧ Q w w') :=
    Lib.hid fun w => loops_c ⟨100, 0, 0, 0⟩ ⟨0, 0, 0, 0⟩ ⟨0, 0, 0, 0⟩ ⟨0, 0, 0, -10⟩ ⟨0, 0, 0, 0⟩ ⟨0, 0, 0, 0⟩ 0 0 w (by unfold Cy.In; decide) (by unfold Cy.In; decide) (by unfold Cy.In; decide) (by unfold Cy.In; decide) (by unfold Cy.In; decide) (by unfold Cy.In; decide) (by decide) (by decide) (by decide) (by decide)
  have H2 : Hid (∀ w, Calls Tryz.prog 10 #[.agg #[.int .i64 10000, .int .i64 0, .int .i64 0, .int .i64 0, .int .i64 0, .int .i64 0, .int .i64 0, .int .i64 (-1000)], .agg #[.bool false, .bool true, .int .i64 10, .int .i64 0, .int .i64 0, .int .i64 0]] w fun e w' => e = .returned (.tuple #[.bool true, .int .i64 0]) ∧ Q w w') :=
    Lib.hid fun w => inside_c ⟨10000, 0, 0, 0⟩ ⟨0, 0, 0, -1000⟩ ⟨false, true, 10, 0, 0, 0⟩ w (by unfold Cy.In; decide) (by unfold Cy.In; decide) ⟨by decide, by decide, by decide, by decide, by decide, by decide⟩
  have H3 : Hid (∀ w, Calls Tryz.prog 10 #[.agg #[.int .i64 10000, .int .i64 0, .int .i64 0, .int .i64 0, .int .i64 0, .int .i64 0, .int .i64 0, .int .i64 (-1000)], .agg #[.bool false, .bool true, .int .i64 9, .int .i64 0, .int .i64 0, .int .i64 0]] w fun e w' => e = .returned (.tuple #[.bool false, .int .i64 0]) ∧ Q w w') :=
    Lib.hid fun w => inside_c ⟨10000, 0, 0, 0⟩ ⟨0, 0, 0, -1000⟩ ⟨false, true, 9, 0, 0, 0⟩ w (by unfold Cy.In; decide) (by unfold Cy.In; decide) ⟨by decide, by decide, by decide, by decide, by decide, by decide⟩
  have H4 : Hid (∀ w, Calls Tryz.prog 11 #[.agg #[.int .i64 100, .int .i64 0, .int .i64 0, .int .i64 0], .agg #[.int .i64 0, .int .i64 0, .int .i64 0, .int .i64 (-10)]] w fun e w' => e = .returned (.tuple #[.int .i64 1, .int .i64 0]) ∧ Q w w') :=
    Lib.hid fun w => direction_c ⟨100, 0, 0, 0⟩ ⟨0, 0, 0, -10⟩ w (by unfold Cy.In; decide) (by unfold Cy.In; decide)
  have E1 : Hid (loopV ⟨100, 0, 0, 0⟩ ⟨0, 0, 0, 0⟩ ⟨0, 0, 0, 0⟩ 0 = ⟨10000, 0, 0, 0⟩) := Lib.hid rfl
  have E2 : Hid (loopI ⟨0, 0, 0, -10⟩ ⟨0, 0, 0, 0⟩ ⟨0, 0, 0, 0⟩ 0 0 0 = ⟨0, 0, 0, -1000⟩) := Lib.hid rfl
  go_enter Tryz.func4, Tryz.ntmps4
  go_wp2_with (first | (go_at_call 5; (with_reducible refine (H1.out _).mono ?_); rintro e w' ⟨rfl, kj, rfl⟩) | (go_at_call 10; rw [E1.out, E2.out]; (with_reducible refine (H2.out _).mono ?_); rintro e w' ⟨rfl, kj, rfl⟩) | (go_at_call 10; rw [E1.out, E2.out]; (with_reducible refine (H3.out _).mono ?_); rintro e w' ⟨rfl, kj, rfl⟩) | (go_at_call 11; (with_reducible refine (H4.out _).mono ?_); rintro e w' ⟨rfl, kj, rfl⟩))
  go_ret
  refine ⟨rfl, ?_⟩
  repeat' (first | exact Q.refl _ | refine Q.alloc ?_ _ | refine Q.jk ?_ _ | refine Q.drew ?_)
end Go.Proofs.YtomodppdolfinaaGreat
