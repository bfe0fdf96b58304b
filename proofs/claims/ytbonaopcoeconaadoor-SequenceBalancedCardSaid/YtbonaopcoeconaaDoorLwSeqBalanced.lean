
/- SequenceBalanced: the walk. -/
import Derived.Test.YtbonaopcoeconaaDoorSqB
namespace Go.Sub
def balB (x y z : Cy) : Bool := Cy.eqB (comb 1 0 x y z) ⟨0, 0, 0, 0⟩ && Cy.eqB (comb 1 2 x y z) ⟨0, 0, 0, 0⟩
theorem balB_iff (x y z : Cy) : balB x y z = true ↔ y = x.turn 8 ∧ z = x.turn 4 := by
  unfold balB
  rw [Bool.and_eq_true, Cy.eqB_iff, Cy.eqB_iff]
  cases x; cases y; cases z
  simp only [comb, Cy.turn, Cy.add, Int.reduceMul, Int.reduceMod, Int.reduceToNat, Cy.tn, Cy.mk.injEq]
  omega
theorem balB_turns (x : Cy) : balB x (x.turn 8) (x.turn 4) = true := (balB_iff _ _ _).2 ⟨rfl, rfl⟩
end Go.Sub
namespace Go.Proofs.YtbonaopcoeconaaDoor
open Go.RowKit Go.Sub
theorem balB_c (x y z : Cy) (w : World) (hx : x.In 1125899906842624) (hy : y.In 1125899906842624) (hz : z.In 1125899906842624) :
    Calls Tryd.prog 17 #[.agg #[.int .i64 x.a, .int .i64 x.b, .int .i64 x.c, .int .i64 x.d, .int .i64 y.a, .int .i64 y.b, .int .i64 y.c, .int .i64 y.d, .int .i64 z.a, .int .i64 z.b, .int .i64 z.c, .int .i64 z.d]] w fun e w' => e = .returned (.tuple #[.bool (balB x y z), .int .i64 0]) ∧ Q w w' := balanced_c x y z w hx hy hz
set_option maxHeartbeats 4000000 in
theorem seqBal_tt (x y z : Cy) (w : World) (hr : RootsOK w) (hA : balB (smallS x) (smallS y) (smallS z) = true) (h1 : Cy.eqB ⟨(smallS y).a, (smallS y).b, (smallS y).c, (smallS y).d⟩ ⟨((smallS x).turn 8).a, ((smallS x).turn 8).b, ((smallS x).turn 8).c, ((smallS x).turn 8).d⟩ = true) (h2 : Cy.eqB ⟨(smallS z).a, (smallS z).b, (smallS z).c, (smallS z).d⟩ ⟨((smallS x).turn 4).a, ((smallS x).turn 4).b, ((smallS x).turn 4).c, ((smallS x).turn 4).d⟩ = true) :
    Calls Tryd.prog 3 #[.agg #[.int .i64 x.a, .int .i64 x.b, .int .i64 x.c, .int .i64 x.d, .int .i64 y.a, .int .i64 y.b, .int .i64 y.c, .int .i64 y.d, .int .i64 z.a, .int .i64 z.b, .int .i64 z.c, .int .i64 z.d]] w fun e w' => e = .returned (.bool true) ∧ Q w w' := by
  have hX := smallS_in x
  have hY := smallS_in y
  have hZ := smallS_in z
  have h8 := turn_in 8 hX
  have h4 := turn_in 4 hX
  have hb := balB_turns (smallS x)
  go_enter Tryd.func3, Tryd.ntmps3
  go_wp2_with (first | (go_at_call 15; refine (sqknown_any _ (by repeat' (first | with_reducible exact hr | refine RootsOK.alloc ?_ _ | refine RootsOK.jk ?_ _ | refine RootsOK.drew ?_))).mono ?_; rintro e w' ⟨rfl, kj, rfl⟩) | (go_at_call 16; refine (sqsmall_c _ _ _ _).mono ?_; rintro e w' ⟨rfl, kj, rfl⟩) | (go_at_call 17; refine (balB_c _ _ _ _ (Cy.In.mono (by assumption) (by decide)) (Cy.In.mono (by assumption) (by decide)) (Cy.In.mono (by assumption) (by decide))).mono ?_; rintro e w' ⟨rfl, kj, rfl⟩))
  try simp only [List.append]
  refine wp_region_jk (by kernel_rfl) (by kernel_rfl) ?_
  repeat (go_big_quiet_step ((first | (go_at_call 18; exact Calls.jk_of (sqturn_c _ _ _ (Cy.In.mono (by assumption) (by decide)))) | (go_at_call 17; exact Calls.jk_of (balB_c _ _ _ _ (Cy.In.mono (by assumption) (by decide)) (Cy.In.mono (by assumption) (by decide)) (Cy.In.mono (by assumption) (by decide)))))))
  refine wpQuiet_nil ?_
  intro _ hw'
  obtain ⟨kq, rfl⟩ := hw'
  go_wp2
  try simp only [List.append]
  refine wp_region_jk (by kernel_rfl) (by kernel_rfl) ?_
  repeat (go_big_quiet_step ((go_at_call 18; exact Calls.jk_of (sqturn_c _ _ _ (Cy.In.mono (by assumption) (by decide))))))
  refine wpQuiet_nil ?_
  intro _ hw'
  obtain ⟨kq, rfl⟩ := hw'
  go_wp2
  go_ret
  refine ⟨rfl, ?_⟩
  repeat' (first | exact Q.refl _ | refine Q.alloc ?_ _ | refine Q.jk ?_ _ | refine Q.drew ?_)
set_option maxHeartbeats 4000000 in
theorem seqBal_tf (x y z : Cy) (w : World) (hr : RootsOK w) (hA : balB (smallS x) (smallS y) (smallS z) = false) (h1 : Cy.eqB ⟨(smallS y).a, (smallS y).b, (smallS y).c, (smallS y).d⟩ ⟨((smallS x).turn 8).a, ((smallS x).turn 8).b, ((smallS x).turn 8).c, ((smallS x).turn 8).d⟩ = true) (h2 : Cy.eqB ⟨(smallS z).a, (smallS z).b, (smallS z).c, (smallS z).d⟩ ⟨((smallS x).turn 4).a, ((smallS x).turn 4).b, ((smallS x).turn 4).c, ((smallS x).turn 4).d⟩ = false) :
    Calls Tryd.prog 3 #[.agg #[.int .i64 x.a, .int .i64 x.b, .int .i64 x.c, .int .i64 x.d, .int .i64 y.a, .int .i64 y.b, .int .i64 y.c, .int .i64 y.d, .int .i64 z.a, .int .i64 z.b, .int .i64 z.c, .int .i64 z.d]] w fun e w' => e = .returned (.bool true) ∧ Q w w' := by
  have hX := smallS_in x
  have hY := smallS_in y
  have hZ := smallS_in z
  have h8 := turn_in 8 hX
  have h4 := turn_in 4 hX
  have hb := balB_turns (smallS x)
  go_enter Tryd.func3, Tryd.ntmps3
  go_wp2_with (first | (go_at_call 15; refine (sqknown_any _ (by repeat' (first | with_reducible exact hr | refine RootsOK.alloc ?_ _ | refine RootsOK.jk ?_ _ | refine RootsOK.drew ?_))).mono ?_; rintro e w' ⟨rfl, kj, rfl⟩) | (go_at_call 16; refine (sqsmall_c _ _ _ _).mono ?_; rintro e w' ⟨rfl, kj, rfl⟩) | (go_at_call 17; refine (balB_c _ _ _ _ (Cy.In.mono (by assumption) (by decide)) (Cy.In.mono (by assumption) (by decide)) (Cy.In.mono (by assumption) (by decide))).mono ?_; rintro e w' ⟨rfl, kj, rfl⟩))
  try simp only [List.append]
  refine wp_region_jk (by kernel_rfl) (by kernel_rfl) ?_
  repeat (go_big_quiet_step ((first | (go_at_call 18; exact Calls.jk_of (sqturn_c _ _ _ (Cy.In.mono (by assumption) (by decide)))) | (go_at_call 17; exact Calls.jk_of (balB_c _ _ _ _ (Cy.In.mono (by assumption) (by decide)) (Cy.In.mono (by assumption) (by decide)) (Cy.In.mono (by assumption) (by decide)))))))
  refine wpQuiet_nil ?_
  intro _ hw'
  obtain ⟨kq, rfl⟩ := hw'
  go_wp2
  try simp only [List.append]
  refine wp_region_jk (by kernel_rfl) (by kernel_rfl) ?_
  repeat (go_big_quiet_step ((go_at_call 18; exact Calls.jk_of (sqturn_c _ _ _ (Cy.In.mono (by assumption) (by decide))))))
  refine wpQuiet_nil ?_
  intro _ hw'
  obtain ⟨kq, rfl⟩ := hw'
  go_wp2
  go_ret
  refine ⟨rfl, ?_⟩
  repeat' (first | exact Q.refl _ | refine Q.alloc ?_ _ | refine Q.jk ?_ _ | refine Q.drew ?_)
set_option maxHeartbeats 4000000 in
theorem seqBal_f (x y z : Cy) (w : World) (hr : RootsOK w) (hA : balB (smallS x) (smallS y) (smallS z) = false) (h1 : Cy.eqB ⟨(smallS y).a, (smallS y).b, (smallS y).c, (smallS y).d⟩ ⟨((smallS x).turn 8).a, ((smallS x).turn 8).b, ((smallS x).turn 8).c, ((smallS x).turn 8).d⟩ = false) :
    Calls Tryd.prog 3 #[.agg #[.int .i64 x.a, .int .i64 x.b, .int .i64 x.c, .int .i64 x.d, .int .i64 y.a, .int .i64 y.b, .int .i64 y.c, .int .i64 y.d, .int .i64 z.a, .int .i64 z.b, .int .i64 z.c, .int .i64 z.d]] w fun e w' => e = .returned (.bool true) ∧ Q w w' := by
  have hX := smallS_in x
  have hY := smallS_in y
  have hZ := smallS_in z
  have h8 := turn_in 8 hX
  have h4 := turn_in 4 hX
  have hb := balB_turns (smallS x)
  go_enter Tryd.func3, Tryd.ntmps3
  go_wp2_with (first | (go_at_call 15; refine (sqknown_any _ (by repeat' (first | with_reducible exact hr | refine RootsOK.alloc ?_ _ | refine RootsOK.jk ?_ _ | refine RootsOK.drew ?_))).mono ?_; rintro e w' ⟨rfl, kj, rfl⟩) | (go_at_call 16; refine (sqsmall_c _ _ _ _).mono ?_; rintro e w' ⟨rfl, kj, rfl⟩) | (go_at_call 17; refine (balB_c _ _ _ _ (Cy.In.mono (by assumption) (by decide)) (Cy.In.mono (by assumption) (by decide)) (Cy.In.mono (by assumption) (by decide))).mono ?_; rintro e w' ⟨rfl, kj, rfl⟩))
  try simp only [List.append]
  refine wp_region_jk (by kernel_rfl) (by kernel_rfl) ?_
  repeat (go_big_quiet_step ((first | (go_at_call 18; exact Calls.jk_of (sqturn_c _ _ _ (Cy.In.mono (by assumption) (by decide)))) | (go_at_call 17; exact Calls.jk_of (balB_c _ _ _ _ (Cy.In.mono (by assumption) (by decide)) (Cy.In.mono (by assumption) (by decide)) (Cy.In.mono (by assumption) (by decide)))))))
  refine wpQuiet_nil ?_
  intro _ hw'
  obtain ⟨kq, rfl⟩ := hw'
  go_wp2
  try simp only [List.append]
  refine wp_region_jk (by kernel_rfl) (by kernel_rfl) ?_
  repeat (go_big_quiet_step ((go_at_call 18; exact Calls.jk_of (sqturn_c _ _ _ (Cy.In.mono (by assumption) (by decide))))))
  refine wpQuiet_nil ?_
  intro _ hw'
  obtain ⟨kq, rfl⟩ := hw'
  go_wp2
  go_ret
  refine ⟨rfl, ?_⟩
  repeat' (first | exact Q.refl _ | refine Q.alloc ?_ _ | refine Q.jk ?_ _ | refine Q.drew ?_)
theorem seqBal_walk (x y z : Cy) (w : World) (hr : RootsOK w) :
    Calls Tryd.prog 3 #[.agg #[.int .i64 x.a, .int .i64 x.b, .int .i64 x.c, .int .i64 x.d, .int .i64 y.a, .int .i64 y.b, .int .i64 y.c, .int .i64 y.d, .int .i64 z.a, .int .i64 z.b, .int .i64 z.c, .int .i64 z.d]] w fun e w' => e = .returned (.bool true) ∧ Q w w' := by
  have hiff := balB_iff (smallS x) (smallS y) (smallS z)
  have bf : ¬ (smallS y = (smallS x).turn 8 ∧ smallS z = (smallS x).turn 4) → balB (smallS x) (smallS y) (smallS z) = false := by
    intro h
    cases e : balB (smallS x) (smallS y) (smallS z)
    · rfl
    · exact absurd (hiff.1 e) h
  rcases Classical.em (smallS y = (smallS x).turn 8) with h1 | h1
  · rcases Classical.em (smallS z = (smallS x).turn 4) with h2 | h2
    · exact seqBal_tt x y z w hr (hiff.2 ⟨h1, h2⟩) (Cy.eqB_of h1) (Cy.eqB_of h2)
    · exact seqBal_tf x y z w hr (bf fun h => h2 h.2) (Cy.eqB_of h1) (Cy.eqB_false h2)
  · exact seqBal_f x y z w hr (bf fun h => h1 h.1) (Cy.eqB_false h1)
end Go.Proofs.YtbonaopcoeconaaDoor
