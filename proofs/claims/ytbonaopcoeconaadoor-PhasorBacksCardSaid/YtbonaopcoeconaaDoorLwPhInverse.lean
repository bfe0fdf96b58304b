
/- PhasorInverse: the walk. -/
import Derived.Test.YtbonaopcoeconaaDoorPhK
namespace Go.Proofs.YtbonaopcoeconaaDoor
open Go.RowKit Go.Sub
set_option maxHeartbeats 1000000 in
theorem same12_c (b o c b' o' c' : Nat) (x : Nat → Int) (w : World) (h1 : Win w b o x) (h2 : Win w b' o' x) :
    Calls Tryd.prog 42 #[.slice (some ⟨b, o, none⟩) 12 c, .slice (some ⟨b', o', none⟩) 12 c'] w fun e w' => e = .returned (.bool true) ∧ Q w w' := by
  haveI := h1.old
  haveI := h2.old
  go_enter Tryd.func42, Tryd.ntmps42
  go_wp2
  go_loopw [5] (fun i wr => ∃ k : Nat, k ≤ 12 ∧ i = .int .i64 k ∧ Q w wr) (fun i _ => 12 - (intOf i).toNat)
  case atStart => exact ⟨0, by omega, rfl, Q.refl _⟩
  case round =>
    obtain ⟨k, hk, rfl, kw, rfl⟩ := hrel
    by_cases hlt : k < 12
    · have d1 := h1 k hlt
      have d2 := h2 k hlt
      clear h1 h2
      have kk : (0 : Int) ≤ (k : Int) := by omega
      have kk2 : (k : Int) < 12 := by omega
      go_wp2
      try simp only [List.append]
      refine wp_region_jk (by kernel_rfl) (by kernel_rfl) ?_
      repeat (go_big_quiet_step (fail))
      refine wpQuiet_nil ?_
      intro _ hw'
      obtain ⟨kq, rfl⟩ := hw'
      go_wp2
      go_roundw
      case rel =>
        refine ⟨k + 1, by omega, by go_num, ?_⟩
        repeat' (first | exact Q.refl _ | refine Q.alloc ?_ _ | refine Q.jk ?_ _ | refine Q.drew ?_)
      case measure => simp [intOf]; omega
    · obtain rfl : k = 12 := by omega
      clear h1 h2
      go_wp2
      go_ret
      refine ⟨rfl, ?_⟩
      repeat' (first | exact Q.refl _ | refine Q.alloc ?_ _ | refine Q.jk ?_ _ | refine Q.drew ?_)
set_option maxHeartbeats 1000000 in
theorem samenil_c (w : World) :
    Calls Tryd.prog 42 #[.slice none 0 0, .slice none 0 0] w fun e w' => e = .returned (.bool true) ∧ Q w w' := by
  go_enter Tryd.func42, Tryd.ntmps42
  go_wp2
  refine wp_loop_rounds 1 ?_
  rw [rounds_succ]
  go_wp2
  go_ret
  exact ⟨rfl, Q.refl _⟩

theorem inv_back (z : Nat → Int) (hz : WinOK z 16383) : backE (fun h => harm z (h : Int)) = 0 ∧ ∀ k, k < 12 → bkX (fun h => harm z (h : Int)) k = z k := by
  have hb : ∀ k, k < 12 → bk (fun h => harm z (h : Int)) k = ⟨12 * z k, 0, 0, 0⟩ := fun k hk => harm_back z k hk
  have hX : ∀ k, k < 12 → bkX (fun h => harm z (h : Int)) k = z k := by
    intro k hk
    unfold bkX
    rw [hb k hk]
    exact Int.mul_tdiv_cancel_left _ (by decide)
  refine ⟨?_, hX⟩
  rw [backE_ok]
  · refine chkE_good fun k hk => ?_
    rw [hX k hk]
    have := hz k hk
    simp [brkB]
    omega
  · intro h _
    exact wiB_of ((harm_in _ hz).mono (by decide))
  · intro k hk
    unfold bkOK
    rw [hb k hk, Cy.eqB_self]
    simp
set_option maxRecDepth 100000 in
set_option maxHeartbeats 4000000 in
theorem phInverse_walk (x : Nat → Int) (w : World) (hr : RootsOK w) :
    Calls Tryd.prog 13 #[.agg (cellsI x 12)] w fun e w' => e = .returned (.bool true) ∧ Q w w' := by
  have ok : WinOK (fun k => winV (x k)) 16383 := winV_ok x
  have OK := Lib.hid ok
  obtain ⟨i1, i2⟩ := inv_back (fun k => winV (x k)) ok
  have I1 := Lib.hid i1
  have I2 := Lib.hid i2
  clear ok i1 i2
  go_enter Tryd.func13, Tryd.ntmps13
  go_wp2_with (first | (go_at_call 24; refine (known20_c _ (by repeat' (first | with_reducible exact hr | refine RootsOK.alloc ?_ _ | refine RootsOK.jk ?_ _ | refine RootsOK.drew ?_))).mono ?_; rintro e w' ⟨rfl, kj, rfl⟩) | (go_at_call 36; refine (window_c x _).mono ?_; rintro e w' ⟨g, c, rfl, ⟨kx, rfl⟩, hwin⟩; have HV := Lib.hid hwin; clear hwin) | (go_at_call 31; refine (phall_c _ _ _ (fun k => winV (x k)) _ (by repeat' (first | with_reducible exact hr | refine RootsOK.alloc ?_ _ | refine RootsOK.jk ?_ _ | refine RootsOK.drew ?_)) (HV.out.q (by repeat' (first | exact Q.refl _ | refine Q.alloc ?_ _ | refine Q.jk ?_ _ | refine Q.drew ?_))) OK.out).mono ?_; rintro e w' ⟨rfl, ka, rfl⟩))
  go_at_call 40
  refine (phback_c (fun h : Nat => harm (fun k => winV (x k)) (h : Int)) _).mono ?_
  rintro e w' ⟨⟨kb, rfl⟩, hres⟩
  rcases hres with ⟨_, gb, cb, rfl, hwb⟩ | ⟨hne, _⟩
  · have HB : Hid (Win _ gb 0 (fun k => winV (x k))) := Lib.hid (fun k hk => by have := hwb k hk; rwa [I2.out k hk] at this)
    clear hwb
    go_wp2_with (go_at_call 42; refine (same12_c _ _ _ _ _ _ (fun k => winV (x k)) _ HB.out (HV.out.q (by repeat' (first | exact Q.refl _ | refine Q.alloc ?_ _ | refine Q.jk ?_ _ | refine Q.drew ?_)))).mono ?_; rintro e w' ⟨rfl, kj, rfl⟩)
    go_ret
    refine ⟨rfl, ?_⟩
    repeat' (first | exact Q.refl _ | refine Q.alloc ?_ _ | refine Q.jk ?_ _ | refine Q.drew ?_)
  · exact absurd I1.out hne
end Go.Proofs.YtbonaopcoeconaaDoor
