/- CycloNorms: the walk. -/
import Derived.Test.YtkmlpffommcanaaDoorSuC
import Derived.Deep.RegionHeld3
namespace Go
instance Sz.jk_inc {w : World} {s : Nat} (k : Jk) [h : Sz w s] : Sz (w.jk k.inc) (s + k.os.size) := ⟨by simp [World.size_jk, h.eq, Jk.inc]⟩
instance Sz.jk_inc2 {w : World} {s : Nat} (k : Jk) [h : Sz w s] : Sz (w.jk k.inc.inc) (s + k.os.size) := ⟨by simp [World.size_jk, h.eq, Jk.inc]⟩
end Go
namespace Go.Proofs.YtkmlpffommcanaaDoor
open Go.RowKit Go.Sub
set_option maxHeartbeats 4000000 in
theorem norms_zero (x y : Cy) (k : Int) (w : World) (hr : RootsOK w) (hz : smallC x = ⟨0, 0, 0, 0⟩) :
    Calls Tryd.prog 11 #[.agg #[.int .i64 x.a, .int .i64 x.b, .int .i64 x.c, .int .i64 x.d], .agg #[.int .i64 y.a, .int .i64 y.b, .int .i64 y.c, .int .i64 y.d], .int .i64 k] w fun e w' => e = .returned (.bool true) ∧ Q w w' := by
  have hX := smallC_in x
  have hY := smallC_in y
  have hM := Cy.mul_in' hX hY
  have hT := turn_in k hX
  have hC := Cy.conj_in hX
  have hMC := Cy.mul_in' hX hC
  have nX := norm_in hX
  have nY := norm_in hY
  have c1 := norm_mul (smallC x) (smallC y)
  have c2 := norm_turn (smallC x) k
  have c3 := real_norm (smallC x)
  have c4 : sgnS ⟨(smallC x).norm.a, (smallC x).norm.b⟩ = 0 := sgn_norm0 _ hz
  have c5 : Cy.eqB ⟨(smallC x).a, (smallC x).b, (smallC x).c, (smallC x).d⟩ ⟨0, 0, 0, 0⟩ = true := Cy.eqB_of hz
  clear hz
  have b1 : -1000000000000 ≤ (smallC x).norm.a ∧ (smallC x).norm.a ≤ 1000000000000 ∧ -1000000000000 ≤ (smallC x).norm.b ∧ (smallC x).norm.b ≤ 1000000000000 := by
    unfold Su.In at nX; omega
  obtain ⟨b1, b2, b3, b4⟩ := b1
  go_enter Tryd.func11, Tryd.ntmps11
  go_wp2_with (go_at_call 12; refine (known_any _ (by repeat' (first | with_reducible exact hr | refine RootsOK.alloc ?_ _ | refine RootsOK.jk ?_ _ | refine RootsOK.drew ?_))).mono ?_; rintro e w' ⟨rfl, kj, rfl⟩)
  try simp only [List.append]
  refine wp_region_tail 4 (by kernel_rfl) (by kernel_rfl) ?_
  simp only [List.take_succ_cons, List.take_zero, List.drop_succ_cons, List.drop_zero]
  repeat (go_big_quiet_step ((go_at_call 13; exact Calls.jk_of (small_c _ _))))
  refine wpQuiet_nil ?_
  intro _ hw'
  obtain ⟨kq, rfl⟩ := hw'
  go_wp2_with (first | (go_at_call 25; refine (norm_c _ _ (Cy.In.mono (by assumption) (by decide))).mono ?_; rintro e w' ⟨rfl, kj, rfl⟩) | (go_at_call 14; refine (lmul_c _ _ _ (Cy.In.mono (by assumption) (by decide)) (Cy.In.mono (by assumption) (by decide))).mono ?_; rintro e w' ⟨rfl, kj, rfl⟩) | (go_at_call 38; refine (smul_c _ _ _ (Su.In.mono (by assumption) (by decide)) (Su.In.mono (by assumption) (by decide))).mono ?_; rintro e w' ⟨rfl, kj, rfl⟩) | (go_at_call 19; refine (turn_c _ _ _ (Cy.In.mono (by assumption) (by decide))).mono ?_; rintro e w' ⟨rfl, kj, rfl⟩))
  go_region_held3 (fun w' => w'.cell? ⟨w.heap.size, 0, none⟩ = some (.int .i64 (smallC x).a) ∧ w'.cell? ⟨w.heap.size, 1, none⟩ = some (.int .i64 (smallC x).b) ∧ w'.cell? ⟨w.heap.size, 2, none⟩ = some (.int .i64 (smallC x).c) ∧ w'.cell? ⟨w.heap.size, 3, none⟩ = some (.int .i64 (smallC x).d)) (simp [go_sem]) (first | (go_at_call 27; refine (lconj_c _ _ (Cy.In.mono (by assumption) (by decide))).mono ?_; rintro e w' ⟨rfl, kj, rfl⟩) | (go_at_call 14; refine (lmul_c _ _ _ (Cy.In.mono (by assumption) (by decide)) (Cy.In.mono (by assumption) (by decide))).mono ?_; rintro e w' ⟨rfl, kj, rfl⟩) | (go_at_call 21; refine (real_c _ _ (Cy.In.mono (by assumption) (by decide))).mono ?_; rintro e w' ⟨rfl, kj, rfl⟩))
  all_goals go_wp2
  all_goals
    refine wp_region_jk (by kernel_rfl) (by kernel_rfl) ?_
    repeat (go_big_quiet_step ((go_at_call 39; exact Calls.jk_of (sgnS_any _ _ _ (by omega) (by omega) (by omega) (by omega)))))
    refine wpQuiet_nil ?_
    intro _ hw'
    obtain ⟨kq, rfl⟩ := hw'
    go_wp2
    go_ret
    refine ⟨rfl, ?_⟩
    repeat' (first | exact Q.refl _ | refine Q.alloc ?_ _ | refine Q.jk ?_ _ | refine Q.drew ?_)
set_option maxHeartbeats 4000000 in
theorem norms_pos (x y : Cy) (k : Int) (w : World) (hr : RootsOK w) (hz : smallC x ≠ ⟨0, 0, 0, 0⟩) :
    Calls Tryd.prog 11 #[.agg #[.int .i64 x.a, .int .i64 x.b, .int .i64 x.c, .int .i64 x.d], .agg #[.int .i64 y.a, .int .i64 y.b, .int .i64 y.c, .int .i64 y.d], .int .i64 k] w fun e w' => e = .returned (.bool true) ∧ Q w w' := by
  have hX := smallC_in x
  have hY := smallC_in y
  have hM := Cy.mul_in' hX hY
  have hT := turn_in k hX
  have hC := Cy.conj_in hX
  have hMC := Cy.mul_in' hX hC
  have nX := norm_in hX
  have nY := norm_in hY
  have c1 := norm_mul (smallC x) (smallC y)
  have c2 := norm_turn (smallC x) k
  have c3 := real_norm (smallC x)
  have c4 : sgnS ⟨(smallC x).norm.a, (smallC x).norm.b⟩ = 1 := sgn_norm _ hz
  have c5 : Cy.eqB ⟨(smallC x).a, (smallC x).b, (smallC x).c, (smallC x).d⟩ ⟨0, 0, 0, 0⟩ = false := Cy.eqB_false hz
  clear hz
  have b1 : -1000000000000 ≤ (smallC x).norm.a ∧ (smallC x).norm.a ≤ 1000000000000 ∧ -1000000000000 ≤ (smallC x).norm.b ∧ (smallC x).norm.b ≤ 1000000000000 := by
    unfold Su.In at nX; omega
  obtain ⟨b1, b2, b3, b4⟩ := b1
  go_enter Tryd.func11, Tryd.ntmps11
  go_wp2_with (go_at_call 12; refine (known_any _ (by repeat' (first | with_reducible exact hr | refine RootsOK.alloc ?_ _ | refine RootsOK.jk ?_ _ | refine RootsOK.drew ?_))).mono ?_; rintro e w' ⟨rfl, kj, rfl⟩)
  try simp only [List.append]
  refine wp_region_tail 4 (by kernel_rfl) (by kernel_rfl) ?_
  simp only [List.take_succ_cons, List.take_zero, List.drop_succ_cons, List.drop_zero]
  repeat (go_big_quiet_step ((go_at_call 13; exact Calls.jk_of (small_c _ _))))
  refine wpQuiet_nil ?_
  intro _ hw'
  obtain ⟨kq, rfl⟩ := hw'
  go_wp2_with (first | (go_at_call 25; refine (norm_c _ _ (Cy.In.mono (by assumption) (by decide))).mono ?_; rintro e w' ⟨rfl, kj, rfl⟩) | (go_at_call 14; refine (lmul_c _ _ _ (Cy.In.mono (by assumption) (by decide)) (Cy.In.mono (by assumption) (by decide))).mono ?_; rintro e w' ⟨rfl, kj, rfl⟩) | (go_at_call 38; refine (smul_c _ _ _ (Su.In.mono (by assumption) (by decide)) (Su.In.mono (by assumption) (by decide))).mono ?_; rintro e w' ⟨rfl, kj, rfl⟩) | (go_at_call 19; refine (turn_c _ _ _ (Cy.In.mono (by assumption) (by decide))).mono ?_; rintro e w' ⟨rfl, kj, rfl⟩))
  go_region_held3 (fun w' => w'.cell? ⟨w.heap.size, 0, none⟩ = some (.int .i64 (smallC x).a) ∧ w'.cell? ⟨w.heap.size, 1, none⟩ = some (.int .i64 (smallC x).b) ∧ w'.cell? ⟨w.heap.size, 2, none⟩ = some (.int .i64 (smallC x).c) ∧ w'.cell? ⟨w.heap.size, 3, none⟩ = some (.int .i64 (smallC x).d)) (simp [go_sem]) (first | (go_at_call 27; refine (lconj_c _ _ (Cy.In.mono (by assumption) (by decide))).mono ?_; rintro e w' ⟨rfl, kj, rfl⟩) | (go_at_call 14; refine (lmul_c _ _ _ (Cy.In.mono (by assumption) (by decide)) (Cy.In.mono (by assumption) (by decide))).mono ?_; rintro e w' ⟨rfl, kj, rfl⟩) | (go_at_call 21; refine (real_c _ _ (Cy.In.mono (by assumption) (by decide))).mono ?_; rintro e w' ⟨rfl, kj, rfl⟩))
  all_goals go_wp2
  all_goals
    refine wp_region_jk (by kernel_rfl) (by kernel_rfl) ?_
    repeat (go_big_quiet_step ((go_at_call 39; exact Calls.jk_of (sgnS_any _ _ _ (by omega) (by omega) (by omega) (by omega)))))
    refine wpQuiet_nil ?_
    intro _ hw'
    obtain ⟨kq, rfl⟩ := hw'
    go_wp2
    go_ret
    refine ⟨rfl, ?_⟩
    repeat' (first | exact Q.refl _ | refine Q.alloc ?_ _ | refine Q.jk ?_ _ | refine Q.drew ?_)
theorem norms_walk (x y : Cy) (k : Int) (w : World) (hr : RootsOK w) :
    Calls Tryd.prog 11 #[.agg #[.int .i64 x.a, .int .i64 x.b, .int .i64 x.c, .int .i64 x.d], .agg #[.int .i64 y.a, .int .i64 y.b, .int .i64 y.c, .int .i64 y.d], .int .i64 k] w fun e w' => e = .returned (.bool true) ∧ Q w w' := by
  rcases Classical.em (smallC x = ⟨0, 0, 0, 0⟩) with hz | hz
  · exact norms_zero x y k w hr hz
  · exact norms_pos x y k w hr hz
end Go.Proofs.YtkmlpffommcanaaDoor
