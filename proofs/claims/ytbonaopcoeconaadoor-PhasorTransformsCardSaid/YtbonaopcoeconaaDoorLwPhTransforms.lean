
/- PhasorTransforms: the walk. -/
import Derived.Test.YtbonaopcoeconaaDoorPhE
import Derived.Test.YtbonaopcoeconaaDoorEq3
namespace Go.Proofs.YtbonaopcoeconaaDoor
open Go.RowKit Go.Sub
@[go_sem high] theorem eql48_self (c : Nat → Cy) (w : World) : (binOp .eql 52 (.agg (cells48 c 12)) (.agg (cells48 c 12))).run Tryd.prog w = .ok (.bool true) w := by
  have h := run_eql_cycs (P := Tryd.prog) w 52 23 3 12 Tryd.underlying52 Tryd.underlying23 Tryd.underlying3 (fun _ => by kernel_rfl) (fun _ => by kernel_rfl) [c 0, c 1, c 2, c 3, c 4, c 5, c 6, c 7, c 8, c 9, c 10, c 11] [c 0, c 1, c 2, c 3, c 4, c 5, c 6, c 7, c 8, c 9, c 10, c 11] rfl rfl
  rw [eqAll_self] at h
  exact h
set_option maxRecDepth 100000 in
set_option maxHeartbeats 4000000 in
theorem phTr_err (a : Option Addr) (n c : Nat) (h E : Int) (w : World) (hr : RootsOK w) (hE : E ≠ 0) (hc : Fails 34 (.slice a n c) E w) (hd : Fails 35 (.slice a n c) E w) :
    Calls Tryd.prog 9 #[.slice a n c, .int .i64 h] w fun e w' => e = .returned (.bool true) ∧ Q w w' := by
  have HC := Lib.hid hc
  have HD := Lib.hid hd
  clear hc hd
  go_enter Tryd.func9, Tryd.ntmps9
  go_wp2_with (first | (go_at_call 24; refine (known20_c _ (by repeat' (first | with_reducible exact hr | refine RootsOK.alloc ?_ _ | refine RootsOK.jk ?_ _ | refine RootsOK.drew ?_))).mono ?_; rintro e w' ⟨rfl, kj, rfl⟩) | (go_at_call 25; refine (phharmonic_err _ a n c E _ hE (fun w' hq => HC.out w' (Q.trans (by repeat' (first | exact Q.refl _ | refine Q.alloc ?_ _ | refine Q.jk ?_ _ | refine Q.drew ?_)) hq))).mono ?_; rintro e w' ⟨rfl, kj, rfl⟩) | (go_at_call 31; refine (phall_err a n c E _ hE (fun w' hq => HC.out w' (Q.trans (by repeat' (first | exact Q.refl _ | refine Q.alloc ?_ _ | refine Q.jk ?_ _ | refine Q.drew ?_)) hq))).mono ?_; rintro e w' ⟨rfl, kj, rfl⟩) | (go_at_call 29; refine (phenergy_err a n c E _ hE (fun w' hq => HC.out w' (Q.trans (by repeat' (first | exact Q.refl _ | refine Q.alloc ?_ _ | refine Q.jk ?_ _ | refine Q.drew ?_)) hq))).mono ?_; rintro e w' ⟨rfl, kj, rfl⟩) | (go_at_call 34; refine (HC.out _ (by repeat' (first | exact Q.refl _ | refine Q.alloc ?_ _ | refine Q.jk ?_ _ | refine Q.drew ?_))).mono ?_; rintro e w' ⟨rfl, rfl⟩) | (go_at_call 30; refine (rharmonic_err _ a n c E _ hE (fun w' hq => HD.out w' (Q.trans (by repeat' (first | exact Q.refl _ | refine Q.alloc ?_ _ | refine Q.jk ?_ _ | refine Q.drew ?_)) hq))).mono ?_; rintro e w' ⟨rfl, kj, rfl⟩) | (go_at_call 32; refine (rall_err a n c E _ hE (fun w' hq => HD.out w' (Q.trans (by repeat' (first | exact Q.refl _ | refine Q.alloc ?_ _ | refine Q.jk ?_ _ | refine Q.drew ?_)) hq))).mono ?_; rintro e w' ⟨rfl, kj, rfl⟩) | (go_at_call 33; refine (renergy_err a n c E _ hE (fun w' hq => HD.out w' (Q.trans (by repeat' (first | exact Q.refl _ | refine Q.alloc ?_ _ | refine Q.jk ?_ _ | refine Q.drew ?_)) hq))).mono ?_; rintro e w' ⟨rfl, kj, rfl⟩) | (go_at_call 35; refine (HD.out _ (by repeat' (first | exact Q.refl _ | refine Q.alloc ?_ _ | refine Q.jk ?_ _ | refine Q.drew ?_))).mono ?_; rintro e w' ⟨rfl, rfl⟩))
  go_ret
  refine ⟨rfl, ?_⟩
  repeat' (first | exact Q.refl _ | refine Q.alloc ?_ _ | refine Q.jk ?_ _ | refine Q.drew ?_)
set_option maxRecDepth 100000 in
set_option maxHeartbeats 4000000 in
theorem phTr_ok (b o cp : Nat) (x : Nat → Int) (h : Int) (w : World) (hr : RootsOK w) (hw : Win w b o x) (hx : WinOK x 16383) :
    Calls Tryd.prog 9 #[.slice (some ⟨b, o, none⟩) 12 cp, .int .i64 h] w fun e w' => e = .returned (.bool true) ∧ Q w w' := by
  have HW := Lib.hid hw
  have HX := Lib.hid hx
  clear hw hx
  go_enter Tryd.func9, Tryd.ntmps9
  go_wp2_with (first | (go_at_call 24; refine (known20_c _ (by repeat' (first | with_reducible exact hr | refine RootsOK.alloc ?_ _ | refine RootsOK.jk ?_ _ | refine RootsOK.drew ?_))).mono ?_; rintro e w' ⟨rfl, kj, rfl⟩) | (go_at_call 25; refine (phharm_c _ _ _ _ x _ (by repeat' (first | with_reducible exact hr | refine RootsOK.alloc ?_ _ | refine RootsOK.jk ?_ _ | refine RootsOK.drew ?_)) (HW.out.q (by repeat' (first | exact Q.refl _ | refine Q.alloc ?_ _ | refine Q.jk ?_ _ | refine Q.drew ?_))) HX.out).mono ?_; rintro e w' ⟨rfl, kj, rfl⟩) | (go_at_call 31; refine (phall_c _ _ _ x _ (by repeat' (first | with_reducible exact hr | refine RootsOK.alloc ?_ _ | refine RootsOK.jk ?_ _ | refine RootsOK.drew ?_)) (HW.out.q (by repeat' (first | exact Q.refl _ | refine Q.alloc ?_ _ | refine Q.jk ?_ _ | refine Q.drew ?_))) HX.out).mono ?_; rintro e w' ⟨rfl, kj, rfl⟩) | (go_at_call 29; refine (phenergy_c _ _ _ x _ (HW.out.q (by repeat' (first | exact Q.refl _ | refine Q.alloc ?_ _ | refine Q.jk ?_ _ | refine Q.drew ?_))) HX.out).mono ?_; rintro e w' ⟨rfl, rfl⟩) | (go_at_call 34; refine (phcheck_any _ _ _ x _ (HW.out.q (by repeat' (first | exact Q.refl _ | refine Q.alloc ?_ _ | refine Q.jk ?_ _ | refine Q.drew ?_)))).mono ?_; rintro e w' ⟨rfl, rfl⟩) | (go_at_call 35; refine (rcheck_any _ _ _ x _ (HW.out.q (by repeat' (first | exact Q.refl _ | refine Q.alloc ?_ _ | refine Q.jk ?_ _ | refine Q.drew ?_)))).mono ?_; rintro e w' ⟨rfl, rfl⟩) | (go_at_call 30; refine (rharm_c _ _ _ _ x _ (HW.out.q (by repeat' (first | exact Q.refl _ | refine Q.alloc ?_ _ | refine Q.jk ?_ _ | refine Q.drew ?_))) HX.out).mono ?_; rintro e w' ⟨rfl, kj, rfl⟩) | (go_at_call 32; refine (rall_c _ _ _ x _ (HW.out.q (by repeat' (first | exact Q.refl _ | refine Q.alloc ?_ _ | refine Q.jk ?_ _ | refine Q.drew ?_))) HX.out).mono ?_; rintro e w' ⟨rfl, kj, rfl⟩) | (go_at_call 33; refine (renergy_c _ _ _ x _ (HW.out.q (by repeat' (first | exact Q.refl _ | refine Q.alloc ?_ _ | refine Q.jk ?_ _ | refine Q.drew ?_))) HX.out).mono ?_; rintro e w' ⟨rfl, kj, rfl⟩))
  go_ret
  refine ⟨rfl, ?_⟩
  repeat' (first | exact Q.refl _ | refine Q.alloc ?_ _ | refine Q.jk ?_ _ | refine Q.drew ?_)
/-- A slice of ints: of another length than 12, or a window. -/
def IntsArg (w : World) (v : Value) : Prop := (∃ a n c, v = .slice a n c ∧ n ≠ 12) ∨ ∃ b o cp x, v = .slice (some ⟨b, o, none⟩) 12 cp ∧ Win w b o x
theorem phTr_walk (v : Value) (h : Int) (w : World) (hr : RootsOK w) (hv : IntsArg w v) :
    Calls Tryd.prog 9 #[v, .int .i64 h] w fun e w' => e = .returned (.bool true) ∧ Q w w' := by
  rcases hv with ⟨a, n, c, rfl, hn⟩ | ⟨b, o, cp, x, rfl, hw⟩
  · exact phTr_err a n c h 3 w hr (by decide) (fun w' _ => phcheck_len a n c w' hn) (fun w' _ => rcheck_len a n c w' hn)
  · by_cases hz : chkE x = 0
    · exact phTr_ok b o cp x h w hr hw (chkE_win hz)
    · exact phTr_err (some ⟨b, o, none⟩) 12 cp h (chkE x) w hr hz (fun w' hq => phcheck_any b o cp x w' (hw.q hq)) (fun w' hq => rcheck_any b o cp x w' (hw.q hq))
end Go.Proofs.YtbonaopcoeconaaDoor
