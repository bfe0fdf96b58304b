
/- What the functions of phasor and of its reference return where Check returns an error. -/
import Derived.Test.YtomodppdolfinaaDoorPhS
namespace Go.Proofs.YtomodppdolfinaaDoor
open Go.RowKit Go.Sub
/-- Check returns E for the slice v, in every world behind w. -/
def Fails (F : FuncId) (v : Value) (E : Int) (w : World) : Prop := ∀ w', Q w w' → Calls Tryd.prog F #[v] w' fun e w'' => e = .returned (.int .i64 E) ∧ w' = w''

set_option maxHeartbeats 1000000 in
theorem phcheck_len (a : Option Addr) (n c : Nat) (w : World) (hn : n ≠ 12) :
    Calls Tryd.prog 42 #[.slice a n c] w fun e w' => e = .returned (.int .i64 3) ∧ w = w' := by
  have h1 : ((n : Int) != 12) = true := by simp; omega
  have h2 : ((n : Int) == 12) = false := by simp; omega
  go_enter Tryd.func42, Tryd.ntmps42
  go_wp2
  go_ret
  exact ⟨rfl, rfl⟩

set_option maxHeartbeats 1000000 in
theorem phharmonic_err (h : Int) (a : Option Addr) (n c : Nat) (E : Int) (w : World) (hE : E ≠ 0) (hc : Fails 42 (.slice a n c) E w) :
    Calls Tryd.prog 37 #[.slice a n c, .int .i64 h] w fun e w' => e = .returned (.tuple #[.agg #[.int .i64 0, .int .i64 0, .int .i64 0, .int .i64 0], .int .i64 E]) ∧ Q w w' := by
  have HC := Lib.hid hc
  have h1 : (E != 0) = true := by simpa using hE
  clear hc
  go_enter Tryd.func37, Tryd.ntmps37
  go_wp2_with (go_at_call 42; refine (HC.out _ (by repeat' (first | exact Q.refl _ | refine Q.alloc ?_ _ | refine Q.jk ?_ _ | refine Q.drew ?_))).mono ?_; rintro e w' ⟨rfl, rfl⟩)
  refine bodyPost_ret (v := .tuple #[.agg #[.int .i64 0, .int .i64 0, .int .i64 0, .int .i64 0], .int .i64 E]) (by simp [results, Tryd.results37, go_sem]) rfl ⟨rfl, ?_⟩
  repeat' (first | exact Q.refl _ | refine Q.alloc ?_ _ | refine Q.jk ?_ _ | refine Q.drew ?_)

set_option maxHeartbeats 1000000 in
theorem phenergy_err (a : Option Addr) (n c : Nat) (E : Int) (w : World) (hE : E ≠ 0) (hc : Fails 42 (.slice a n c) E w) :
    Calls Tryd.prog 36 #[.slice a n c] w fun e w' => e = .returned (.tuple #[.int .i64 0, .int .i64 E]) ∧ Q w w' := by
  have HC := Lib.hid hc
  have h1 : (E != 0) = true := by simpa using hE
  clear hc
  go_enter Tryd.func36, Tryd.ntmps36
  go_wp2_with (go_at_call 42; refine (HC.out _ (by repeat' (first | exact Q.refl _ | refine Q.alloc ?_ _ | refine Q.jk ?_ _ | refine Q.drew ?_))).mono ?_; rintro e w' ⟨rfl, rfl⟩)
  go_ret2
  refine ⟨rfl, ?_⟩
  repeat' (first | exact Q.refl _ | refine Q.alloc ?_ _ | refine Q.jk ?_ _ | refine Q.drew ?_)

set_option maxHeartbeats 1000000 in
theorem rcheck_len (a : Option Addr) (n c : Nat) (w : World) (hn : n ≠ 12) :
    Calls Tryd.prog 45 #[.slice a n c] w fun e w' => e = .returned (.int .i64 3) ∧ w = w' := by
  have h1 : ((n : Int) != 12) = true := by simp; omega
  have h2 : ((n : Int) == 12) = false := by simp; omega
  go_enter Tryd.func45, Tryd.ntmps45
  go_wp2
  go_ret
  exact ⟨rfl, rfl⟩

end Go.Proofs.YtomodppdolfinaaDoor
