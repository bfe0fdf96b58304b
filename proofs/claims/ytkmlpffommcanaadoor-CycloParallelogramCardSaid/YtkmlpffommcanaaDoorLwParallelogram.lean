/- CycloParallelogram: the walk. -/
import Derived.Test.YtkmlpffommcanaaDoorSuC
namespace Go.Proofs.YtkmlpffommcanaaDoor
open Go.RowKit Go.Sub
set_option maxHeartbeats 4000000 in
theorem parallelogram_walk (x y : Cy) (w : World) (hr : RootsOK w) :
    Calls Tryd.prog 9 #[.agg #[.int .i64 x.a, .int .i64 x.b, .int .i64 x.c, .int .i64 x.d], .agg #[.int .i64 y.a, .int .i64 y.b, .int .i64 y.c, .int .i64 y.d]] w fun e w' => e = .returned (.bool true) ∧ Q w w' := by
  have hX := smallC_in x
  have hY := smallC_in y
  have hA := Cy.add_in hX hY
  have hS := Cy.sub_in hX hY
  have nX := norm_in hX
  have nY := norm_in hY
  have nA := norm_in hA
  have nS := norm_in hS
  have c1 := parallelogram (smallC x) (smallC y)
  have b1 : -1000000000000 ≤ ((smallC x).norm.add (smallC y).norm).a ∧ ((smallC x).norm.add (smallC y).norm).a ≤ 1000000000000 ∧ -1000000000000 ≤ ((smallC x).norm.add (smallC y).norm).b ∧ ((smallC x).norm.add (smallC y).norm).b ≤ 1000000000000 := by
    unfold Su.In at nX nY; simp only [Su.add]; omega
  obtain ⟨b1, b2, b3, b4⟩ := b1
  go_enter Tryd.func9, Tryd.ntmps9
  go_wp2_with (go_at_call 12; refine (known_any _ (by repeat' (first | with_reducible exact hr | refine RootsOK.alloc ?_ _ | refine RootsOK.jk ?_ _ | refine RootsOK.drew ?_))).mono ?_; rintro e w' ⟨rfl, kj, rfl⟩)
  try simp only [List.append]
  refine wp_region_tail 4 (by kernel_rfl) (by kernel_rfl) ?_
  simp only [List.take_succ_cons, List.take_zero, List.drop_succ_cons, List.drop_zero]
  repeat (go_big_quiet_step ((go_at_call 13; exact Calls.jk_of (small_c _ _))))
  refine wpQuiet_nil ?_
  intro _ hw'
  obtain ⟨kq, rfl⟩ := hw'
  go_wp2_with (first | (go_at_call 28; refine (sub_c _ _ _ (Cy.In.mono (by assumption) (by decide)) (Cy.In.mono (by assumption) (by decide))).mono ?_; rintro e w' ⟨rfl, kj, rfl⟩) | (go_at_call 15; refine (ladd_c _ _ _ (Cy.In.mono (by assumption) (by decide)) (Cy.In.mono (by assumption) (by decide))).mono ?_; rintro e w' ⟨rfl, kj, rfl⟩) | (go_at_call 25; refine (norm_c _ _ (Cy.In.mono (by assumption) (by decide))).mono ?_; rintro e w' ⟨rfl, kj, rfl⟩) | (go_at_call 29; refine (sadd_c _ _ _ (Su.In.mono (by assumption) (by decide)) (Su.In.mono (by assumption) (by decide))).mono ?_; rintro e w' ⟨rfl, kj, rfl⟩))
  go_ret
  refine ⟨rfl, ?_⟩
  repeat' (first | exact Q.refl _ | refine Q.alloc ?_ _ | refine Q.jk ?_ _ | refine Q.drew ?_)
end Go.Proofs.YtkmlpffommcanaaDoor
