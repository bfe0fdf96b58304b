/- CycloRotations: the walk. -/
import Derived.Test.YtkmlpffommcanaaDoorCyL2
namespace Go.Proofs.YtkmlpffommcanaaDoor
open Go.RowKit Go.Sub
set_option maxHeartbeats 4000000 in
theorem rotations_walk (x : Cy) (j k : Int) (w : World) (hr : RootsOK w) :
    Calls Tryd.prog 5 #[.agg #[.int .i64 x.a, .int .i64 x.b, .int .i64 x.c, .int .i64 x.d], .int .i64 j, .int .i64 k] w fun e w' => e = .returned (.bool true) ∧ Q w w' := by
  have hX := smallC_in x
  obtain ⟨j1, j2⟩ := tmod_bd j 1000000 (by decide)
  obtain ⟨k1, k2⟩ := tmod_bd k 1000000 (by decide)
  have hk := turn_in (k.tmod 1000000) hX
  have hR := rootC_in (k.tmod 1000000)
  have c1 := Cy.mul_root (smallC x) (k.tmod 1000000)
  have c2 := Cy.turn_turn (smallC x) (j.tmod 1000000) (k.tmod 1000000)
  have c3 : ((smallC x).turn (k.tmod 1000000)).turn (-k.tmod 1000000) = smallC x := by
    rw [Cy.turn_turn]; exact Cy.turn_zero' _ _ (by omega)
  go_enter Tryd.func5, Tryd.ntmps5
  go_wp2_with (first | (go_at_call 12; refine (known_any _ (by repeat' (first | with_reducible exact hr | refine RootsOK.alloc ?_ _ | refine RootsOK.jk ?_ _ | refine RootsOK.drew ?_))).mono ?_; rintro e w' ⟨rfl, kj, rfl⟩) | (go_at_call 13; refine (small_c _ _).mono ?_; rintro e w' ⟨rfl, kj, rfl⟩) | (go_at_call 19; refine (turn_c _ _ _ (Cy.In.mono (by assumption) (by decide))).mono ?_; rintro e w' ⟨rfl, kj, rfl⟩))
  refine wp_region_jk (by kernel_rfl) (by kernel_rfl) ?_
  repeat (go_big_quiet_step ((first | (go_at_call 14; exact Calls.jk_of (lmul_c _ _ _ (Cy.In.mono (by assumption) (by decide)) (Cy.In.mono (by assumption) (by decide)))) | (go_at_call 16; exact Calls.jk_of (root_any _ _ (by repeat' (first | with_reducible exact hr | refine RootsOK.alloc ?_ _ | refine RootsOK.jk ?_ _ | refine RootsOK.drew ?_)))))))
  refine wpQuiet_nil ?_
  intro _ hw'
  obtain ⟨kq, rfl⟩ := hw'
  go_wp2
  go_ret
  refine ⟨rfl, ?_⟩
  repeat' (first | exact Q.refl _ | refine Q.alloc ?_ _ | refine Q.jk ?_ _ | refine Q.drew ?_)
end Go.Proofs.YtkmlpffommcanaaDoor
