
/- PhasorThresholds: the walk. -/
import Derived.Test.YtbonaopcoeconaaDoorPhB
import Derived.Test.YtbonaopcoeconaaDoorPhLaws
import Derived.Test.YtbonaopcoeconaaDoorCmp
namespace Go.Sub
theorem above_mono (c : Cy) (p q : Int) (h0 : 0 ≤ p) (h1 : p ≤ q) (h : aboveB c q = true) : aboveB c p = true := by
  unfold aboveB at *
  rw [decide_eq_true_eq] at *
  have e : 36 * p * p ≤ 36 * q * q := by
    rw [Int.mul_assoc, Int.mul_assoc]
    have := Int.mul_le_mul h1 h1 h0 (by omega)
    omega
  exact sgnS_mono (by dsimp only; omega) h
theorem above_two (c : Cy) (p : Int) : aboveB (c.scl 2) (2 * p) = aboveB c p := by
  unfold aboveB
  have e : (c.scl 2).norm.sub ⟨36 * (2 * p) * (2 * p), 0⟩ = ⟨4 * (c.norm.sub ⟨36 * p * p, 0⟩).a, 4 * (c.norm.sub ⟨36 * p * p, 0⟩).b⟩ := by
    apply Su.ext' <;> simp only [Cy.norm, Cy.scl, Su.sub] <;> grind
  rw [e, sgnS_smul (by decide)]
theorem above_0 (c : Cy) : aboveB c 0 = true := by
  unfold aboveB
  have e : c.norm.sub ⟨36 * 0 * 0, 0⟩ = c.norm := by apply Su.ext' <;> simp [Su.sub]
  rw [e, decide_eq_true_eq]
  rcases Classical.em (c = ⟨0, 0, 0, 0⟩) with h | h
  · rw [sgn_norm0 c h]
    decide
  · rw [sgn_norm c h]
    decide
theorem Cy.scl_in {x : Cy} {l : Int} (hx : x.In l) (k : Int) (hk : 0 ≤ k) : (x.scl k).In (l * k) := by
  obtain ⟨r1, r2, r3, r4, r5, r6, r7, r8⟩ := hx
  have p1 := bd_mul r1 r2 (show -k ≤ k by omega) (Int.le_refl k)
  have p2 := bd_mul r3 r4 (show -k ≤ k by omega) (Int.le_refl k)
  have p3 := bd_mul r5 r6 (show -k ≤ k by omega) (Int.le_refl k)
  have p4 := bd_mul r7 r8 (show -k ≤ k by omega) (Int.le_refl k)
  unfold Cy.In Cy.scl
  dsimp only
  omega
end Go.Sub
namespace Go.Proofs.YtbonaopcoeconaaDoor
open Go.RowKit Go.Sub
set_option maxHeartbeats 4000000 in
theorem phThresholds_walk (x : Nat → Int) (p : Int) (w : World) (hr : RootsOK w) :
    Calls Tryd.prog 14 #[.agg (cellsI x 12), .int .i64 p] w fun e w' => e = .returned (.bool true) ∧ Q w w' := by
  have ok : WinOK (fun k => winV (x k)) 16383 := winV_ok x
  have OK := Lib.hid ok
  have ic := harm_in 1 ok
  have ic2 := Cy.scl_in ic 2 (by decide)
  have hp0 : 0 ≤ p % 8191 := by omega
  have hp1 : p % 8191 < 8191 := by omega
  have A2 := above_two (harm (fun k => winV (x k)) 1) (p % 8191)
  have A0 := above_0 (harm (fun k => winV (x k)) 1)
  have AM := above_mono (harm (fun k => winV (x k)) 1) (p % 8191) (p % 8191 + 1) hp0 (by omega)
  clear ok
  cases ha : aboveB (harm (fun k => winV (x k)) 1) (p % 8191) with
  | true =>
    cases hb : aboveB (harm (fun k => winV (x k)) 1) (p % 8191 + 1)
    all_goals
      rw [ha] at A2
      clear AM
      go_enter Tryd.func14, Tryd.ntmps14
      go_wp2_with (first | (go_at_call 24; refine (known20_c _ (by repeat' (first | with_reducible exact hr | refine RootsOK.alloc ?_ _ | refine RootsOK.jk ?_ _ | refine RootsOK.drew ?_))).mono ?_; rintro e w' ⟨rfl, kj, rfl⟩) | (go_at_call 36; refine (window_c x _).mono ?_; rintro e w' ⟨g, c, rfl, ⟨kx, rfl⟩, hwin⟩; have HV := Lib.hid hwin; clear hwin) | (go_at_call 28; refine (within20_c _ _ _ (by decide) (by decide)).mono ?_; rintro e w' ⟨rfl, rfl⟩) | (go_at_call 25; refine (phharm_c _ _ _ _ (fun k => winV (x k)) _ (by repeat' (first | with_reducible exact hr | refine RootsOK.alloc ?_ _ | refine RootsOK.jk ?_ _ | refine RootsOK.drew ?_)) (HV.out.q (by repeat' (first | exact Q.refl _ | refine Q.alloc ?_ _ | refine Q.jk ?_ _ | refine Q.drew ?_))) OK.out).mono ?_; rintro e w' ⟨rfl, kj, rfl⟩) | (go_at_call 27; refine (scale_c _ _ _ (Cy.In.mono (by with_reducible assumption) (by decide)) (by decide)).mono ?_; rintro e w' ⟨rfl, kj, rfl⟩) | (go_at_call 43; refine (phabove_c _ _ _ (Cy.In.mono (by with_reducible assumption) (by decide)) (by omega) (by omega)).mono ?_; rintro e w' ⟨rfl, kj, rfl⟩))
      go_ret
      refine ⟨rfl, ?_⟩
      repeat' (first | exact Q.refl _ | refine Q.alloc ?_ _ | refine Q.jk ?_ _ | refine Q.drew ?_)
  | false =>
    have hb : aboveB (harm (fun k => winV (x k)) 1) (p % 8191 + 1) = false := by
      cases hb : aboveB (harm (fun k => winV (x k)) 1) (p % 8191 + 1)
      · rfl
      · rw [AM hb] at ha
        cases ha
    rw [ha] at A2
    clear AM
    go_enter Tryd.func14, Tryd.ntmps14
    go_wp2_with (first | (go_at_call 24; refine (known20_c _ (by repeat' (first | with_reducible exact hr | refine RootsOK.alloc ?_ _ | refine RootsOK.jk ?_ _ | refine RootsOK.drew ?_))).mono ?_; rintro e w' ⟨rfl, kj, rfl⟩) | (go_at_call 36; refine (window_c x _).mono ?_; rintro e w' ⟨g, c, rfl, ⟨kx, rfl⟩, hwin⟩; have HV := Lib.hid hwin; clear hwin) | (go_at_call 28; refine (within20_c _ _ _ (by decide) (by decide)).mono ?_; rintro e w' ⟨rfl, rfl⟩) | (go_at_call 25; refine (phharm_c _ _ _ _ (fun k => winV (x k)) _ (by repeat' (first | with_reducible exact hr | refine RootsOK.alloc ?_ _ | refine RootsOK.jk ?_ _ | refine RootsOK.drew ?_)) (HV.out.q (by repeat' (first | exact Q.refl _ | refine Q.alloc ?_ _ | refine Q.jk ?_ _ | refine Q.drew ?_))) OK.out).mono ?_; rintro e w' ⟨rfl, kj, rfl⟩) | (go_at_call 27; refine (scale_c _ _ _ (Cy.In.mono (by with_reducible assumption) (by decide)) (by decide)).mono ?_; rintro e w' ⟨rfl, kj, rfl⟩) | (go_at_call 43; refine (phabove_c _ _ _ (Cy.In.mono (by with_reducible assumption) (by decide)) (by omega) (by omega)).mono ?_; rintro e w' ⟨rfl, kj, rfl⟩))
    go_ret
    refine ⟨rfl, ?_⟩
    repeat' (first | exact Q.refl _ | refine Q.alloc ?_ _ | refine Q.jk ?_ _ | refine Q.drew ?_)
end Go.Proofs.YtbonaopcoeconaaDoor
