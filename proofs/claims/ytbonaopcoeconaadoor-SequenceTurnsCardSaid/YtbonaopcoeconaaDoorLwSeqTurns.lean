
/- SequenceTurns: the walk. -/
import Derived.Test.YtbonaopcoeconaaDoorSqB
namespace Go.Sub
theorem tn_add (x y : Cy) : ∀ n : Nat, n < 12 → (x.add y).tn n = (x.tn n).add (y.tn n) := by
  intro n hn
  have hn' : n = 0 ∨ n = 1 ∨ n = 2 ∨ n = 3 ∨ n = 4 ∨ n = 5 ∨ n = 6 ∨ n = 7 ∨ n = 8 ∨ n = 9 ∨ n = 10 ∨ n = 11 := by omega
  rcases hn' with rfl | rfl | rfl | rfl | rfl | rfl | rfl | rfl | rfl | rfl | rfl | rfl <;>
    (apply Cy.ext' <;> simp only [Cy.tn, Cy.add] <;> omega)
theorem turn_add (x y : Cy) (k : Int) : (x.add y).turn k = (x.turn k).add (y.turn k) := tn_add x y _ (by omega)
theorem turn_swap (x : Cy) (j k : Int) : (x.turn k).turn j = (x.turn j).turn k := by
  rw [Cy.turn_turn, Cy.turn_turn, Int.add_comm]
theorem comb_turn (t j k : Int) (x y z : Cy) : comb t j (x.turn k) (y.turn k) (z.turn k) = (comb t j x y z).turn k := by
  unfold comb
  rw [turn_add, turn_add, turn_swap x 0, turn_swap y (4 * t * j), turn_swap z (4 * t * j * 2)]
theorem comb_conj1 (x y z : Cy) : comb 1 1 x.conj y.conj z.conj = (comb 1 2 x y z).conj := by
  apply Cy.ext' <;> simp only [comb, Cy.turn, Cy.add, Cy.conj, Int.reduceMul, Int.reduceMod, Int.reduceToNat, Cy.tn] <;> omega
theorem comb_conj2 (x y z : Cy) : comb 1 2 x.conj y.conj z.conj = (comb 1 1 x y z).conj := by
  apply Cy.ext' <;> simp only [comb, Cy.turn, Cy.add, Cy.conj, Int.reduceMul, Int.reduceMod, Int.reduceToNat, Cy.tn] <;> omega
theorem comb_res (x y z : Cy) : (x.add y).add z = comb 1 0 x y z := by
  apply Cy.ext' <;> simp only [comb, Cy.turn, Cy.add, Int.reduceMul, Int.reduceMod, Int.reduceToNat, Cy.tn]
end Go.Sub
namespace Go.Proofs.YtbonaopcoeconaaDoor
open Go.RowKit Go.Sub
set_option maxHeartbeats 8000000 in
theorem seqTurns_walk (x y z : Cy) (k : Int) (w : World) (hr : RootsOK w) :
    Calls Tryd.prog 4 #[.agg #[.int .i64 x.a, .int .i64 x.b, .int .i64 x.c, .int .i64 x.d, .int .i64 y.a, .int .i64 y.b, .int .i64 y.c, .int .i64 y.d, .int .i64 z.a, .int .i64 z.b, .int .i64 z.c, .int .i64 z.d], .int .i64 k] w fun e w' => e = .returned (.bool true) ∧ Q w w' := by
  have hX := smallS_in x
  have hY := smallS_in y
  have hZ := smallS_in z
  have qX := turn_in (k.tmod 1000) hX
  have qY := turn_in (k.tmod 1000) hY
  have qZ := turn_in (k.tmod 1000) hZ
  have cX := Cy.conj_in hX
  have cY := Cy.conj_in hY
  have cZ := Cy.conj_in hZ
  have i0 := comb_in 1 0 hX hY hZ
  have i1 := comb_in 1 1 hX hY hZ
  have i2 := comb_in 1 2 hX hY hZ
  have c0 := comb_turn 1 0 (k.tmod 1000) (smallS x) (smallS y) (smallS z)
  have c1 := comb_turn 1 1 (k.tmod 1000) (smallS x) (smallS y) (smallS z)
  have c2 := comb_turn 1 2 (k.tmod 1000) (smallS x) (smallS y) (smallS z)
  have d1 := comb_conj1 (smallS x) (smallS y) (smallS z)
  have d2 := comb_conj2 (smallS x) (smallS y) (smallS z)
  have rr := comb_res (smallS x) (smallS y) (smallS z)
  go_enter Tryd.func4, Tryd.ntmps4
  go_wp2_with (first | (go_at_call 15; refine (sqknown_any _ (by repeat' (first | with_reducible exact hr | refine RootsOK.alloc ?_ _ | refine RootsOK.jk ?_ _ | refine RootsOK.drew ?_))).mono ?_; rintro e w' ⟨rfl, kj, rfl⟩) | (go_at_call 16; refine (sqsmall_c _ _ _ _).mono ?_; rintro e w' ⟨rfl, kj, rfl⟩))
  refine wp_loop_rounds 4 ?_
  repeat any_goals (rw [rounds_succ]; go_wp2_with (first | (go_at_call 18; refine (sqturn_c _ _ _ (Cy.In.mono (by assumption) (by decide))).mono ?_; rintro e w' ⟨rfl, kj, rfl⟩) | (go_at_call 19; refine (conj_c _ _ (Cy.In.mono (by assumption) (by decide))).mono ?_; rintro e w' ⟨rfl, kj, rfl⟩) | (go_at_call 20; refine (split_c _ _ _ _ (Cy.In.mono (by assumption) (by decide)) (Cy.In.mono (by assumption) (by decide)) (Cy.In.mono (by assumption) (by decide))).mono ?_; rintro e w' ⟨rfl, kj, rfl⟩) | (go_at_call 21; refine (residual_c _ _ _ _ (Cy.In.mono (by assumption) (by decide)) (Cy.In.mono (by assumption) (by decide)) (Cy.In.mono (by assumption) (by decide))).mono ?_; rintro e w' ⟨rfl, kj, rfl⟩)))
  try simp only [List.append]
  refine wp_region_jk (by kernel_rfl) (by kernel_rfl) ?_
  repeat (go_big_quiet_step ((go_at_call 18; exact Calls.jk_of (sqturn_c _ _ _ (Cy.In.mono (by assumption) (by decide))))))
  refine wpQuiet_nil ?_
  intro _ hw'
  obtain ⟨kq, rfl⟩ := hw'
  go_wp2
  go_ret
  refine ⟨rfl, ?_⟩
  repeat' (first | exact Q.refl _ | refine Q.alloc ?_ _ | refine Q.jk ?_ _ | refine Q.drew ?_)
end Go.Proofs.YtbonaopcoeconaaDoor
