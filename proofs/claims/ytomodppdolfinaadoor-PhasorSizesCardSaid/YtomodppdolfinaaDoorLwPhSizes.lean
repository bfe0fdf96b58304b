
/- PhasorSizes: the walk. -/
import Derived.Test.YtomodppdolfinaaDoorPhD
namespace Go.Proofs.YtomodppdolfinaaDoor
open Go.RowKit Go.Sub
set_option maxHeartbeats 4000000 in
theorem phSz_err (c : Cy) (a : Option Addr) (n cp : Nat) (p E : Int) (w : World) (hr : RootsOK w) (hE : E ≠ 0) (hc : Fails 42 (.slice a n cp) E w) (hd : Fails 45 (.slice a n cp) E w) :
    Calls Tryd.prog 5 #[.agg #[.int .i64 c.a, .int .i64 c.b, .int .i64 c.c, .int .i64 c.d], .slice a n cp, .int .i64 p] w fun e w' => e = .returned (.bool true) ∧ Q w w' := by
  have HC := Lib.hid hc
  have HD := Lib.hid hd
  clear hc hd
  go_enter Tryd.func5, Tryd.ntmps5
  go_wp2_with (first | (go_at_call 20; refine (known20_c _ (by repeat' (first | with_reducible exact hr | refine RootsOK.alloc ?_ _ | refine RootsOK.jk ?_ _ | refine RootsOK.drew ?_))).mono ?_; rintro e w' ⟨rfl, kj, rfl⟩) | (go_at_call 21; refine (phabove_any c p _).mono ?_; rintro e w' ⟨rfl, kj, rfl⟩) | (go_at_call 22; refine (rabove20_any c p _).mono ?_; rintro e w' ⟨rfl, kj, rfl⟩) | (go_at_call 23; refine (phdist_err p a n cp E _ hE (fun w' hq => HC.out w' (Q.trans (by repeat' (first | exact Q.refl _ | refine Q.alloc ?_ _ | refine Q.jk ?_ _ | refine Q.drew ?_)) hq))).mono ?_; rintro e w' ⟨rfl, kj, rfl⟩) | (go_at_call 24; refine (rdist_err p a n cp E _ hE (fun w' hq => HD.out w' (Q.trans (by repeat' (first | exact Q.refl _ | refine Q.alloc ?_ _ | refine Q.jk ?_ _ | refine Q.drew ?_)) hq))).mono ?_; rintro e w' ⟨rfl, kj, rfl⟩))
  go_ret
  refine ⟨rfl, ?_⟩
  repeat' (first | exact Q.refl _ | refine Q.alloc ?_ _ | refine Q.jk ?_ _ | refine Q.drew ?_)
set_option maxHeartbeats 4000000 in
theorem phSz_arg (c : Cy) (b o cp : Nat) (x : Nat → Int) (p : Int) (w : World) (hr : RootsOK w) (hw : Win w b o x) (hx : WinOK x 16383) (hp : p < 0 ∨ 100 < p) :
    Calls Tryd.prog 5 #[.agg #[.int .i64 c.a, .int .i64 c.b, .int .i64 c.c, .int .i64 c.d], .slice (some ⟨b, o, none⟩) 12 cp, .int .i64 p] w fun e w' => e = .returned (.bool true) ∧ Q w w' := by
  have HW := Lib.hid hw
  have HX := Lib.hid hx
  have HP := Lib.hid hp
  clear hw hx hp
  go_enter Tryd.func5, Tryd.ntmps5
  go_wp2_with (first | (go_at_call 20; refine (known20_c _ (by repeat' (first | with_reducible exact hr | refine RootsOK.alloc ?_ _ | refine RootsOK.jk ?_ _ | refine RootsOK.drew ?_))).mono ?_; rintro e w' ⟨rfl, kj, rfl⟩) | (go_at_call 21; refine (phabove_any c p _).mono ?_; rintro e w' ⟨rfl, kj, rfl⟩) | (go_at_call 22; refine (rabove20_any c p _).mono ?_; rintro e w' ⟨rfl, kj, rfl⟩) | (go_at_call 23; refine (phdist_arg b o cp x p _ (HW.out.q (by repeat' (first | exact Q.refl _ | refine Q.alloc ?_ _ | refine Q.jk ?_ _ | refine Q.drew ?_))) HX.out HP.out).mono ?_; rintro e w' ⟨rfl, kj, rfl⟩) | (go_at_call 24; refine (rdist_arg b o cp x p _ (HW.out.q (by repeat' (first | exact Q.refl _ | refine Q.alloc ?_ _ | refine Q.jk ?_ _ | refine Q.drew ?_))) HX.out HP.out).mono ?_; rintro e w' ⟨rfl, kj, rfl⟩))
  go_ret
  refine ⟨rfl, ?_⟩
  repeat' (first | exact Q.refl _ | refine Q.alloc ?_ _ | refine Q.jk ?_ _ | refine Q.drew ?_)
set_option maxHeartbeats 4000000 in
theorem phSz_ok (c : Cy) (b o cp : Nat) (x : Nat → Int) (p : Int) (w : World) (hr : RootsOK w) (hw : Win w b o x) (hx : WinOK x 16383) (p0 : 0 ≤ p) (p1 : p ≤ 100) :
    Calls Tryd.prog 5 #[.agg #[.int .i64 c.a, .int .i64 c.b, .int .i64 c.c, .int .i64 c.d], .slice (some ⟨b, o, none⟩) 12 cp, .int .i64 p] w fun e w' => e = .returned (.bool true) ∧ Q w w' := by
  have HW := Lib.hid hw
  have HX := Lib.hid hx
  clear hw hx
  go_enter Tryd.func5, Tryd.ntmps5
  go_wp2_with (first | (go_at_call 20; refine (known20_c _ (by repeat' (first | with_reducible exact hr | refine RootsOK.alloc ?_ _ | refine RootsOK.jk ?_ _ | refine RootsOK.drew ?_))).mono ?_; rintro e w' ⟨rfl, kj, rfl⟩) | (go_at_call 21; refine (phabove_any c p _).mono ?_; rintro e w' ⟨rfl, kj, rfl⟩) | (go_at_call 22; refine (rabove20_any c p _).mono ?_; rintro e w' ⟨rfl, kj, rfl⟩) | (go_at_call 23; refine (phdist_c b o cp x p _ (by repeat' (first | with_reducible exact hr | refine RootsOK.alloc ?_ _ | refine RootsOK.jk ?_ _ | refine RootsOK.drew ?_)) (HW.out.q (by repeat' (first | exact Q.refl _ | refine Q.alloc ?_ _ | refine Q.jk ?_ _ | refine Q.drew ?_))) HX.out p0 p1).mono ?_; rintro e w' ⟨rfl, kj, rfl⟩) | (go_at_call 24; refine (rdist_c b o cp x p _ (HW.out.q (by repeat' (first | exact Q.refl _ | refine Q.alloc ?_ _ | refine Q.jk ?_ _ | refine Q.drew ?_))) HX.out p0 p1).mono ?_; rintro e w' ⟨rfl, kj, rfl⟩))
  go_ret
  refine ⟨rfl, ?_⟩
  repeat' (first | exact Q.refl _ | refine Q.alloc ?_ _ | refine Q.jk ?_ _ | refine Q.drew ?_)
end Go.Proofs.YtomodppdolfinaaDoor
