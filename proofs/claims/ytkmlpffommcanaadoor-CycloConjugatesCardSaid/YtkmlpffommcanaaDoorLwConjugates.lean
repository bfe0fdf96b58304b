/- CycloConjugates: the walk. -/
import Derived.Test.YtkmlpffommcanaaDoorCyL2
namespace Go.Proofs.YtkmlpffommcanaaDoor
open Go.RowKit Go.Sub
set_option maxHeartbeats 4000000 in
theorem conjugates_walk (x y : Cy) (w : World) (hr : RootsOK w) :
    Calls Tryd.prog 8 #[.agg #[.int .i64 x.a, .int .i64 x.b, .int .i64 x.c, .int .i64 x.d], .agg #[.int .i64 y.a, .int .i64 y.b, .int .i64 y.c, .int .i64 y.d]] w fun e w' => e = .returned (.bool true) ∧ Q w w' := by
  have hX := smallC_in x
  have hY := smallC_in y
  have hXc := Cy.conj_in hX
  have hYc := Cy.conj_in hY
  have hM := Cy.mul_in' hX hY
  have hA := Cy.add_in hX hY
  have c1 := Cy.conj_conj (smallC x)
  have c2 := Cy.conj_mul (smallC x) (smallC y)
  have c3 := Cy.conj_add (smallC x) (smallC y)
  have c4 := Cy.real_conj (smallC x)
  have c5 : (smallC x).conj.imag.a = -(smallC x).imag.a := by simp only [Cy.conj, Cy.imag]; omega
  have c6 : (smallC x).conj.imag.b = -(smallC x).imag.b := by simp only [Cy.conj, Cy.imag]
  have c7 : (smallC x).add (smallC x).conj = ⟨(smallC x).real.a, 2 * (smallC x).real.b, 0, -(smallC x).real.b⟩ := by
    apply Cy.ext' <;> simp only [Cy.conj, Cy.real, Cy.add] <;> omega
  have b1 : -20000 ≤ (smallC x).imag.a ∧ (smallC x).imag.a ≤ 20000 ∧ -20000 ≤ (smallC x).imag.b ∧ (smallC x).imag.b ≤ 20000 ∧ -20000 ≤ (smallC x).real.b ∧ (smallC x).real.b ≤ 20000 := by
    unfold Cy.In at hX; simp only [Cy.imag, Cy.real]; omega
  obtain ⟨b1, b2, b3, b4, b5, b6⟩ := b1
  go_enter Tryd.func8, Tryd.ntmps8
  go_wp2_with (go_at_call 12; refine (known_any _ (by repeat' (first | with_reducible exact hr | refine RootsOK.alloc ?_ _ | refine RootsOK.jk ?_ _ | refine RootsOK.drew ?_))).mono ?_; rintro e w' ⟨rfl, kj, rfl⟩)
  try simp only [List.append]
  refine wp_region_tail 4 (by kernel_rfl) (by kernel_rfl) ?_
  simp only [List.take_succ_cons, List.take_zero, List.drop_succ_cons, List.drop_zero]
  repeat (go_big_quiet_step ((go_at_call 13; exact Calls.jk_of (small_c _ _))))
  refine wpQuiet_nil ?_
  intro _ hw'
  obtain ⟨kq, rfl⟩ := hw'
  go_wp2_with (first | (go_at_call 21; refine (real_c _ _ (Cy.In.mono (by assumption) (by decide))).mono ?_; rintro e w' ⟨rfl, kj, rfl⟩) | (go_at_call 23; refine (imag_c _ _ (Cy.In.mono (by assumption) (by decide))).mono ?_; rintro e w' ⟨rfl, kj, rfl⟩) | (go_at_call 27; refine (lconj_c _ _ (Cy.In.mono (by assumption) (by decide))).mono ?_; rintro e w' ⟨rfl, kj, rfl⟩))
  try simp only [List.append]
  refine wp_region_jk (by kernel_rfl) (by kernel_rfl) ?_
  repeat (go_big_quiet_step ((first | (go_at_call 27; exact Calls.jk_of (lconj_c _ _ (Cy.In.mono (by assumption) (by decide)))) | (go_at_call 14; exact Calls.jk_of (lmul_c _ _ _ (Cy.In.mono (by assumption) (by decide)) (Cy.In.mono (by assumption) (by decide)))) | (go_at_call 15; exact Calls.jk_of (ladd_c _ _ _ (Cy.In.mono (by assumption) (by decide)) (Cy.In.mono (by assumption) (by decide)))))))
  refine wpQuiet_nil ?_
  intro _ hw'
  obtain ⟨kq, rfl⟩ := hw'
  go_wp2
  go_ret
  refine ⟨rfl, ?_⟩
  repeat' (first | exact Q.refl _ | refine Q.alloc ?_ _ | refine Q.jk ?_ _ | refine Q.drew ?_)
end Go.Proofs.YtkmlpffommcanaaDoor
