
/- SequenceInverse: the walk. -/
import Derived.Test.YtbonaopcoeconaaDoorSqJ
namespace Go.Sub
theorem comb_inv (x y z : Cy) :
    comb 2 0 (comb 1 0 x y z) (comb 1 1 x y z) (comb 1 2 x y z) = Cy.smul 3 x ∧ comb 2 1 (comb 1 0 x y z) (comb 1 1 x y z) (comb 1 2 x y z) = Cy.smul 3 y ∧ comb 2 2 (comb 1 0 x y z) (comb 1 1 x y z) (comb 1 2 x y z) = Cy.smul 3 z := by
  refine ⟨?_, ?_, ?_⟩ <;>
  · apply Cy.ext' <;> simp only [comb, Cy.turn, Cy.add, Cy.smul, Int.reduceMul, Int.reduceMod, Int.reduceToNat, Cy.tn] <;> omega
end Go.Sub
namespace Go.Proofs.YtbonaopcoeconaaDoor
open Go.RowKit Go.Sub
set_option maxHeartbeats 4000000 in
theorem seqInv_walk (x y z : Cy) (w : World) (hr : RootsOK w) :
    Calls Tryd.prog 5 #[.agg #[.int .i64 x.a, .int .i64 x.b, .int .i64 x.c, .int .i64 x.d, .int .i64 y.a, .int .i64 y.b, .int .i64 y.c, .int .i64 y.d, .int .i64 z.a, .int .i64 z.b, .int .i64 z.c, .int .i64 z.d]] w fun e w' => e = .returned (.bool true) ∧ Q w w' := by
  have hX := smallS_in x
  have hY := smallS_in y
  have hZ := smallS_in z
  have i0 := comb_in 1 0 hX hY hZ
  have i1 := comb_in 1 1 hX hY hZ
  have i2 := comb_in 1 2 hX hY hZ
  obtain ⟨c0, c1, c2⟩ := comb_inv (smallS x) (smallS y) (smallS z)
  have hj := fun w' => join_c (comb 1 0 (smallS x) (smallS y) (smallS z)) (comb 1 1 (smallS x) (smallS y) (smallS z)) (comb 1 2 (smallS x) (smallS y) (smallS z)) (smallS x) (smallS y) (smallS z) w' (i0.mono (by decide)) (i1.mono (by decide)) (i2.mono (by decide)) (hX.mono (by decide)) (hY.mono (by decide)) (hZ.mono (by decide))
    (by rw [c0]; rfl) (by rw [c0]; rfl) (by rw [c0]; rfl) (by rw [c0]; rfl) (by rw [c1]; rfl) (by rw [c1]; rfl) (by rw [c1]; rfl) (by rw [c1]; rfl) (by rw [c2]; rfl) (by rw [c2]; rfl) (by rw [c2]; rfl) (by rw [c2]; rfl)
  have HJ := Lib.hid hj
  clear hj c0 c1 c2
  have E := eqAll_self [⟨(smallS x).a, (smallS x).b, (smallS x).c, (smallS x).d⟩, ⟨(smallS y).a, (smallS y).b, (smallS y).c, (smallS y).d⟩, ⟨(smallS z).a, (smallS z).b, (smallS z).c, (smallS z).d⟩]
  go_enter Tryd.func5, Tryd.ntmps5
  go_wp2_with (first | (go_at_call 15; refine (sqknown_any _ (by repeat' (first | with_reducible exact hr | refine RootsOK.alloc ?_ _ | refine RootsOK.jk ?_ _ | refine RootsOK.drew ?_))).mono ?_; rintro e w' ⟨rfl, kj, rfl⟩) | (go_at_call 16; refine (sqsmall_c _ _ _ _).mono ?_; rintro e w' ⟨rfl, kj, rfl⟩) | (go_at_call 20; refine (split_c _ _ _ _ (Cy.In.mono (by assumption) (by decide)) (Cy.In.mono (by assumption) (by decide)) (Cy.In.mono (by assumption) (by decide))).mono ?_; rintro e w' ⟨rfl, kj, rfl⟩) | (go_at_call 22; refine (HJ.out _).mono ?_; rintro e w' ⟨rfl, kj, rfl⟩))
  go_ret
  refine ⟨rfl, ?_⟩
  repeat' (first | exact Q.refl _ | refine Q.alloc ?_ _ | refine Q.jk ?_ _ | refine Q.drew ?_)
end Go.Proofs.YtbonaopcoeconaaDoor
