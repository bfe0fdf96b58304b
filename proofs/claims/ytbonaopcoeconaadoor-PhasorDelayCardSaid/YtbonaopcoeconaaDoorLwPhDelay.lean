
/- PhasorDelay: the walk. -/
import Derived.Test.YtbonaopcoeconaaDoorPhB
import Derived.Test.YtbonaopcoeconaaDoorPhLaws
namespace Go.Proofs.YtbonaopcoeconaaDoor
open Go.RowKit Go.Sub
set_option maxHeartbeats 4000000 in
theorem phDelay_walk (x : Nat → Int) (j h : Int) (w : World) (hr : RootsOK w) :
    Calls Tryd.prog 10 #[.agg (cellsI x 12), .int .i64 j, .int .i64 h] w fun e w' => e = .returned (.bool true) ∧ Q w w' := by
  obtain ⟨jn, hjn⟩ : ∃ jn : Nat, j % 12 = jn := ⟨(j % 12).toNat, by omega⟩
  have hj12 : jn < 12 := by omega
  have hh1 : 0 ≤ h % 12 := by omega
  have hh2 : h % 12 < 12 := by omega
  go_enter Tryd.func10, Tryd.ntmps10
  go_wp2_with (first | (go_at_call 24; refine (known20_c _ (by repeat' (first | with_reducible exact hr | refine RootsOK.alloc ?_ _ | refine RootsOK.jk ?_ _ | refine RootsOK.drew ?_))).mono ?_; rintro e w' ⟨rfl, kj, rfl⟩) | (go_at_call 36; refine (window_c x _).mono ?_; rintro e w' ⟨g, c, rfl, ⟨kx, rfl⟩, hwin⟩) | (go_at_call 28; refine (within20_c _ _ _ (by decide) (by decide)).mono ?_; rintro e w' ⟨rfl, rfl⟩))
  obtain ⟨W0, hW⟩ : ∃ W0, W0 = ((w.alloc (Obj.cells (cellsI x 12) 41)).jk kj).jk kx := ⟨_, rfl⟩
  rw [← hW] at hwin ⊢
  have HW := Lib.hid hW
  have HV := Lib.hid hwin
  clear hW hwin
  go_loopw [8, 9] (fun v i wr => ∃ k : Nat, k ≤ 12 ∧ i = .int .i64 k ∧ Q W0 wr ∧ RowI W0 wr v ((List.range k).map (fun k => winV (x ((k + 12 - jn) % 12))))) (fun _ i _ => 12 - (intOf i).toNat)
  case atStart => exact ⟨0, by omega, rfl, Q.refl _, RowI.nil _ _⟩
  case round =>
    obtain ⟨k, hk, rfl, ⟨kw, rfl⟩, hrow⟩ := hrel
    have HR := Lib.hid hrow
    clear hrow
    by_cases hlt : k < 12
    · have hx := (HV.out.q ⟨kw, rfl⟩) ((k + 12 - jn) % 12) (by omega)
      rw [Nat.zero_add] at hx
      have kk : (0 : Int) ≤ (k : Int) := by omega
      have kk2 : (k : Int) < 12 := by omega
      have kk3 : (0 : Int) ≤ (jn : Int) := by omega
      have kk4 : (jn : Int) < 12 := by omega
      go_wp2_with (at_builtin; refine wpList_app_int rfl _ _ rfl W0 _ _ (winV (x ((k + 12 - jn) % 12))) _ (by rfl) (by rfl) (HR.out.q ?c1) ?c2 ?c3 ?c4 ?_)
      case c1 => repeat' (first | exact Q.refl _ | refine Q.alloc ?_ _ | refine Q.jk ?_ _ | refine Q.drew ?_)
      case c3 => first | omega | (simp; omega)
      case c4 => repeat' (first | exact Q.refl _ | refine Q.alloc ?_ _ | refine Q.jk ?_ _ | refine Q.drew ?_)
      intro v' kk hr' hg
      rw [range_snoc (fun k => winV (x ((k + 12 - jn) % 12)))] at hr'
      have HR' := Lib.hid hr'
      clear hr' hg hx
      go_wp2
      go_roundw
      case rel => exact ⟨k + 1, by omega, by go_num, ⟨kk, rfl⟩, HR'.out⟩
      case measure => simp [intOf]; omega
    · obtain rfl : k = 12 := by omega
      obtain ⟨g2, c2, rfl, hw2⟩ := HR.out.Win
      have HV2 := Lib.hid hw2
      clear hw2
      have ok1 : WinOK (fun k => winV (x k)) 16383 := winV_ok x
      have ok2 : WinOK (fun k => winV (x ((k + 12 - jn) % 12))) 16383 := winV_ok fun k => x ((k + 12 - jn) % 12)
      have ia := harm_in (h % 12) ok1
      have E := harm_delay (fun k => winV (x k)) jn hj12 (h % 12)
      have bm := bd_mul (n := 12) (m := 12) (a := (jn : Int)) (b := h % 12) (by omega) (by omega) (by omega) (by omega)
      have bm1 : -1000 ≤ (jn : Int) * (h % 12) := by omega
      have bm2 : (jn : Int) * (h % 12) ≤ 1000 := by omega
      clear bm
      have O1 := Lib.hid ok1
      have O2 := Lib.hid ok2
      have hr : RootsOK W0 := by rw [HW.out]; exact (by repeat' (first | with_reducible exact hr | refine RootsOK.alloc ?_ _ | refine RootsOK.jk ?_ _ | refine RootsOK.drew ?_))
      clear ok1 ok2
      go_wp2_with (first | (go_at_call 25; (with_reducible show Calls _ _ #[.slice (some ⟨g, 0, none⟩) _ _, _] _ _); refine (phharm_c _ g 0 c (fun k => winV (x k)) _ (by repeat' (first | with_reducible exact hr | refine RootsOK.alloc ?_ _ | refine RootsOK.jk ?_ _ | refine RootsOK.drew ?_)) (HV.out.q (by repeat' (first | exact Q.refl _ | refine Q.alloc ?_ _ | refine Q.jk ?_ _ | refine Q.drew ?_))) O1.out).mono ?_; rintro e w' ⟨rfl, kj, rfl⟩) | (go_at_call 25; (with_reducible show Calls _ _ #[.slice (some ⟨g2, 0, none⟩) _ _, _] _ _); refine (phharm_c _ g2 0 c2 (fun k => winV (x ((k + 12 - jn) % 12))) _ (by repeat' (first | with_reducible exact hr | refine RootsOK.alloc ?_ _ | refine RootsOK.jk ?_ _ | refine RootsOK.drew ?_)) (HV2.out.q (by repeat' (first | exact Q.refl _ | refine Q.alloc ?_ _ | refine Q.jk ?_ _ | refine Q.drew ?_))) O2.out).mono ?_; rintro e w' ⟨rfl, kj, rfl⟩) | (go_at_call 37; refine (turn_c _ _ _ (Cy.In.mono (by with_reducible assumption) (by decide))).mono ?_; rintro e w' ⟨rfl, kj, rfl⟩))
      go_ret
      refine ⟨rfl, ?_⟩
      rw [HW.out]
      repeat' (first | exact Q.refl _ | refine Q.alloc ?_ _ | refine Q.jk ?_ _ | refine Q.drew ?_)
end Go.Proofs.YtbonaopcoeconaaDoor
