/- CycloBalanced: the walk. -/
import Derived.Test.YtkmlpffommcanaaDoorCyL2
namespace Go.Proofs.YtkmlpffommcanaaDoor
open Go.RowKit Go.Sub
set_option maxHeartbeats 4000000 in
theorem balanced_walk (x : Cy) (k : Int) (w : World) (hr : RootsOK w) :
    Calls Tryd.prog 7 #[.agg #[.int .i64 x.a, .int .i64 x.b, .int .i64 x.c, .int .i64 x.d], .int .i64 k] w fun e w' => e = .returned (.bool true) ∧ Q w w' := by
  have hX := smallC_in x
  have h4 := turn_in 4 hX
  have h8 := turn_in 8 hX
  have h6 := turn_in 6 hX
  have hk := turn_in k hX
  have ha := Cy.add_in hX h4
  have c1 := Cy.balanced (smallC x)
  have c2 := Cy.half (smallC x)
  have c3 : ((smallC x).turn k).turn 12 = (smallC x).turn k := Cy.turn_zero' _ 12 rfl
  go_enter Tryd.func7, Tryd.ntmps7
  go_wp2_with (first | (go_at_call 12; refine (known_any _ (by repeat' (first | with_reducible exact hr | refine RootsOK.alloc ?_ _ | refine RootsOK.jk ?_ _ | refine RootsOK.drew ?_))).mono ?_; rintro e w' ⟨rfl, kj, rfl⟩) | (go_at_call 13; refine (small_c _ _).mono ?_; rintro e w' ⟨rfl, kj, rfl⟩) | (go_at_call 19; refine (turn_c _ _ _ (Cy.In.mono (by assumption) (by decide))).mono ?_; rintro e w' ⟨rfl, kj, rfl⟩))
  refine wp_region_jk (by kernel_rfl) (by kernel_rfl) ?_
  repeat (go_big_quiet_step ((go_at_call 15; exact Calls.jk_of (ladd_c _ _ _ (Cy.In.mono (by assumption) (by decide)) (Cy.In.mono (by assumption) (by decide))))))
  refine wpQuiet_nil ?_
  intro _ hw'
  obtain ⟨kq, rfl⟩ := hw'
  go_wp2
  go_ret
  refine ⟨rfl, ?_⟩
  repeat' (first | exact Q.refl _ | refine Q.alloc ?_ _ | refine Q.jk ?_ _ | refine Q.drew ?_)
end Go.Proofs.YtkmlpffommcanaaDoor
