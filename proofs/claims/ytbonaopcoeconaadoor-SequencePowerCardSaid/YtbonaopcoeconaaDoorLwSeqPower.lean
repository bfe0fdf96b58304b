
/- SequencePower: the walk. -/
import Derived.Test.YtbonaopcoeconaaDoorSqN
import Derived.Test.YtbonaopcoeconaaDoorAl
namespace Go.Sub
theorem comb_power (x y z : Cy) : ((comb 1 0 x y z).norm.add (comb 1 1 x y z).norm).add (comb 1 2 x y z).norm = ⟨3 * (((x).norm.add (y).norm).add (z).norm).a, 3 * (((x).norm.add (y).norm).add (z).norm).b⟩ := by
  apply Su.ext' <;> simp only [comb, Cy.turn, Cy.add, Cy.norm, Su.add, Int.reduceMul, Int.reduceMod, Int.reduceToNat, Cy.tn] <;> grind
end Go.Sub
namespace Go.Proofs.YtbonaopcoeconaaDoor
open Go.RowKit Go.Sub
set_option maxHeartbeats 4000000 in
theorem seqPower_walk (x y z : Cy) (w : World) (hr : RootsOK w) :
    Calls Tryd.prog 6 #[.agg #[.int .i64 x.a, .int .i64 x.b, .int .i64 x.c, .int .i64 x.d, .int .i64 y.a, .int .i64 y.b, .int .i64 y.c, .int .i64 y.d, .int .i64 z.a, .int .i64 z.b, .int .i64 z.c, .int .i64 z.d]] w fun e w' => e = .returned (.bool true) ∧ Q w w' := by
  have hX := smallS_in x
  have hY := smallS_in y
  have hZ := smallS_in z
  have i0 := comb_in 1 0 hX hY hZ
  have i1 := comb_in 1 1 hX hY hZ
  have i2 := comb_in 1 2 hX hY hZ
  have nx := norm_in hX
  have ny := norm_in hY
  have nz := norm_in hZ
  have E : Su.eqB ⟨(((comb 1 0 (smallS x) (smallS y) (smallS z)).norm.add (comb 1 1 (smallS x) (smallS y) (smallS z)).norm).add (comb 1 2 (smallS x) (smallS y) (smallS z)).norm).a, (((comb 1 0 (smallS x) (smallS y) (smallS z)).norm.add (comb 1 1 (smallS x) (smallS y) (smallS z)).norm).add (comb 1 2 (smallS x) (smallS y) (smallS z)).norm).b⟩ ⟨3 * (((smallS x).norm.add (smallS y).norm).add (smallS z).norm).a, 3 * (((smallS x).norm.add (smallS y).norm).add (smallS z).norm).b⟩ = true := Su.eqB_of (comb_power (smallS x) (smallS y) (smallS z))
  have bT : (((smallS x).norm.add (smallS y).norm).add (smallS z).norm).In 100000000000000 := by unfold Su.In at *; simp only [Su.add]; omega
  obtain ⟨b1, b2, b3, b4⟩ := bT
  clear nx ny nz
  go_enter Tryd.func6, Tryd.ntmps6
  go_wp2_with (first | (go_at_call 15; refine (sqknown_any _ (by repeat' (first | with_reducible exact hr | refine RootsOK.alloc ?_ _ | refine RootsOK.jk ?_ _ | refine RootsOK.drew ?_))).mono ?_; rintro e w' ⟨rfl, kj, rfl⟩) | (go_at_call 16; refine (sqsmall_c _ _ _ _).mono ?_; rintro e w' ⟨rfl, kj, rfl⟩) | (go_at_call 20; refine (split_c _ _ _ _ (Cy.In.mono (by assumption) (by decide)) (Cy.In.mono (by assumption) (by decide)) (Cy.In.mono (by assumption) (by decide))).mono ?_; rintro e w' ⟨rfl, kj, rfl⟩) | (go_at_call 23; refine (sqtot_c _ _ _ _ (Cy.In.mono (by assumption) (by decide)) (Cy.In.mono (by assumption) (by decide)) (Cy.In.mono (by assumption) (by decide))).mono ?_; rintro e w' ⟨rfl, kj, rfl⟩))
  try simp only [List.append]
  refine wp_region_al2 6 4 5 (.cells #[.int .i64 0, .int .i64 0] 39) 5 6 (.cells #[.int .i64 0, .int .i64 0] 39) Tryd.func0 rfl (by kernel_rfl) (by kernel_rfl) (by kernel_rfl) (by kernel_rfl) (by decide) (by kernel_rfl) (by intro op hop a w; simp at hop; subst hop; simp [go_sem]) (by intro op hop a w; simp at hop; subst hop; simp [go_sem]) ?_
  intro k0
  simp only [List.map_cons, List.map_nil, unal, List.take_succ_cons, List.take_zero, List.drop_succ_cons, List.drop_zero]
  repeat (go_big_quiet_step ((go_at_call 23; exact Calls.jk_of (sqtot_c _ _ _ _ (Cy.In.mono (by assumption) (by decide)) (Cy.In.mono (by assumption) (by decide)) (Cy.In.mono (by assumption) (by decide))))))
  refine wpQuiet_nil ⟨?_, ?_⟩
  all_goals intro k1 k2 k3 _
  all_goals simp only [Act.put, List.setIfInBounds_toArray, List.set_cons_succ, List.set_cons_zero]
  all_goals go_wp2
  all_goals (go_ret; refine ⟨rfl, ?_⟩)
  all_goals (repeat' (first | exact Q.refl _ | refine Q.alloc ?_ _ | refine Q.jk ?_ _ | refine Q.drew ?_))
end Go.Proofs.YtbonaopcoeconaaDoor
