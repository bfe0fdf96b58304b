
/- What the functions of phasor and of its reference return where Check returns an error. -/
import Derived.Test.YtbonaopcoeconaaDoorPhS
namespace Go.Proofs.YtbonaopcoeconaaDoor
open Go.RowKit Go.Sub
/-- Check returns E for the slice v, in every world behind w. -/
def Fails (F : FuncId) (v : Value) (E : Int) (w : World) : Prop := ∀ w', Q w w' → Calls Tryd.prog F #[v] w' fun e w'' => e = .returned (.int .i64 E) ∧ w' = w''

set_option maxHeartbeats 1000000 in
theorem phcheck_len (a : Option Addr) (n c : Nat) (w : World) (hn : n ≠ 12) :
    Calls Tryd.prog 34 #[.slice a n c] w fun e w' => e = .returned (.int .i64 3) ∧ w = w' := by
  have h1 : ((n : Int) != 12) = true := by simp; omega
  have h2 : ((n : Int) == 12) = false := by simp; omega
  go_enter Tryd.func34, Tryd.ntmps34
  go_wp2
  go_ret
  exact ⟨rfl, rfl⟩

set_option maxHeartbeats 1000000 in
theorem phharmonic_err (h : Int) (a : Option Addr) (n c : Nat) (E : Int) (w : World) (hE : E ≠ 0) (hc : Fails 34 (.slice a n c) E w) :
    Calls Tryd.prog 25 #[.slice a n c, .int .i64 h] w fun e w' => e = .returned (.tuple #[.agg #[.int .i64 0, .int .i64 0, .int .i64 0, .int .i64 0], .int .i64 E]) ∧ Q w w' := by
  have HC := Lib.hid hc
  have h1 : (E != 0) = true := by simpa using hE
  clear hc
  go_enter Tryd.func25, Tryd.ntmps25
  go_wp2_with (go_at_call 34; refine (HC.out _ (by repeat' (first | exact Q.refl _ | refine Q.alloc ?_ _ | refine Q.jk ?_ _ | refine Q.drew ?_))).mono ?_; rintro e w' ⟨rfl, rfl⟩)
  refine bodyPost_ret (v := .tuple #[.agg #[.int .i64 0, .int .i64 0, .int .i64 0, .int .i64 0], .int .i64 E]) (by simp [results, Tryd.results25, go_sem]) rfl ⟨rfl, ?_⟩
  repeat' (first | exact Q.refl _ | refine Q.alloc ?_ _ | refine Q.jk ?_ _ | refine Q.drew ?_)

set_option maxHeartbeats 1000000 in
theorem phenergy_err (a : Option Addr) (n c : Nat) (E : Int) (w : World) (hE : E ≠ 0) (hc : Fails 34 (.slice a n c) E w) :
    Calls Tryd.prog 29 #[.slice a n c] w fun e w' => e = .returned (.tuple #[.int .i64 0, .int .i64 E]) ∧ Q w w' := by
  have HC := Lib.hid hc
  have h1 : (E != 0) = true := by simpa using hE
  clear hc
  go_enter Tryd.func29, Tryd.ntmps29
  go_wp2_with (go_at_call 34; refine (HC.out _ (by repeat' (first | exact Q.refl _ | refine Q.alloc ?_ _ | refine Q.jk ?_ _ | refine Q.drew ?_))).mono ?_; rintro e w' ⟨rfl, rfl⟩)
  go_ret2
  refine ⟨rfl, ?_⟩
  repeat' (first | exact Q.refl _ | refine Q.alloc ?_ _ | refine Q.jk ?_ _ | refine Q.drew ?_)

set_option maxHeartbeats 1000000 in
theorem rcheck_len (a : Option Addr) (n c : Nat) (w : World) (hn : n ≠ 12) :
    Calls Tryd.prog 35 #[.slice a n c] w fun e w' => e = .returned (.int .i64 3) ∧ w = w' := by
  have h1 : ((n : Int) != 12) = true := by simp; omega
  have h2 : ((n : Int) == 12) = false := by simp; omega
  go_enter Tryd.func35, Tryd.ntmps35
  go_wp2
  go_ret
  exact ⟨rfl, rfl⟩

set_option maxHeartbeats 1000000 in
theorem rharmonic_err (h : Int) (a : Option Addr) (n c : Nat) (E : Int) (w : World) (hE : E ≠ 0) (hc : Fails 35 (.slice a n c) E w) :
    Calls Tryd.prog 30 #[.slice a n c, .int .i64 h] w fun e w' => e = .returned (.tuple #[.agg #[.int .i64 0, .int .i64 0, .int .i64 0, .int .i64 0], .int .i64 E]) ∧ Q w w' := by
  have HC := Lib.hid hc
  have h1 : (E != 0) = true := by simpa using hE
  clear hc
  go_enter Tryd.func30, Tryd.ntmps30
  go_wp2_with (go_at_call 35; refine (HC.out _ (by repeat' (first | exact Q.refl _ | refine Q.alloc ?_ _ | refine Q.jk ?_ _ | refine Q.drew ?_))).mono ?_; rintro e w' ⟨rfl, rfl⟩)
  refine bodyPost_ret (v := .tuple #[.agg #[.int .i64 0, .int .i64 0, .int .i64 0, .int .i64 0], .int .i64 E]) (by simp [results, Tryd.results30, go_sem]) rfl ⟨rfl, ?_⟩
  repeat' (first | exact Q.refl _ | refine Q.alloc ?_ _ | refine Q.jk ?_ _ | refine Q.drew ?_)

set_option maxHeartbeats 1000000 in
theorem renergy_err (a : Option Addr) (n c : Nat) (E : Int) (w : World) (hE : E ≠ 0) (hc : Fails 35 (.slice a n c) E w) :
    Calls Tryd.prog 33 #[.slice a n c] w fun e w' => e = .returned (.tuple #[.int .i64 0, .int .i64 E]) ∧ Q w w' := by
  have HC := Lib.hid hc
  have h1 : (E != 0) = true := by simpa using hE
  clear hc
  go_enter Tryd.func33, Tryd.ntmps33
  go_wp2_with (go_at_call 35; refine (HC.out _ (by repeat' (first | exact Q.refl _ | refine Q.alloc ?_ _ | refine Q.jk ?_ _ | refine Q.drew ?_))).mono ?_; rintro e w' ⟨rfl, rfl⟩)
  go_ret2
  refine ⟨rfl, ?_⟩
  repeat' (first | exact Q.refl _ | refine Q.alloc ?_ _ | refine Q.jk ?_ _ | refine Q.drew ?_)

set_option maxRecDepth 100000 in
set_option maxHeartbeats 1000000 in
theorem phall_err (a : Option Addr) (n c : Nat) (E : Int) (w : World) (hE : E ≠ 0) (hc : Fails 34 (.slice a n c) E w) :
    Calls Tryd.prog 31 #[.slice a n c] w fun e w' => e = .returned (.tuple #[.agg (cells48 (fun _ => ⟨0, 0, 0, 0⟩) 12), .int .i64 E]) ∧ Q w w' := by
  have HC := Lib.hid hc
  have h1 : (E != 0) = true := by simpa using hE
  clear hc
  go_enter Tryd.func31, Tryd.ntmps31
  go_wp2
  refine wp_loop_rounds 1 ?_
  rw [rounds_succ]
  go_wp2_with (go_at_call 25; refine (phharmonic_err _ a n c E _ hE (fun w' hq => HC.out w' (Q.trans (by repeat' (first | exact Q.refl _ | refine Q.alloc ?_ _ | refine Q.jk ?_ _ | refine Q.drew ?_)) hq))).mono ?_; rintro e w' ⟨rfl, kj, rfl⟩)
  refine bodyPost_ret (v := .tuple #[.agg (cells48 (fun _ => ⟨0, 0, 0, 0⟩) 12), .int .i64 E]) (results_blk2 Tryd.results31 rfl rfl Tryd.underlying52 rfl (by rw [cells48_size]; exact info48)) rfl ⟨rfl, ?_⟩
  repeat' (first | exact Q.refl _ | refine Q.alloc ?_ _ | refine Q.jk ?_ _ | refine Q.drew ?_)

set_option maxRecDepth 100000 in
set_option maxHeartbeats 1000000 in
theorem rall_err (a : Option Addr) (n c : Nat) (E : Int) (w : World) (hE : E ≠ 0) (hc : Fails 35 (.slice a n c) E w) :
    Calls Tryd.prog 32 #[.slice a n c] w fun e w' => e = .returned (.tuple #[.agg (cells48 (fun _ => ⟨0, 0, 0, 0⟩) 12), .int .i64 E]) ∧ Q w w' := by
  have HC := Lib.hid hc
  have h1 : (E != 0) = true := by simpa using hE
  clear hc
  go_enter Tryd.func32, Tryd.ntmps32
  go_wp2_with (go_at_call 35; refine (HC.out _ (by repeat' (first | exact Q.refl _ | refine Q.alloc ?_ _ | refine Q.jk ?_ _ | refine Q.drew ?_))).mono ?_; rintro e w' ⟨rfl, rfl⟩)
  refine bodyPost_ret (v := .tuple #[.agg (cells48 (fun _ => ⟨0, 0, 0, 0⟩) 12), .int .i64 E]) (results_blk2 Tryd.results32 rfl rfl Tryd.underlying52 rfl (by rw [cells48_size]; exact info48)) rfl ⟨rfl, ?_⟩
  repeat' (first | exact Q.refl _ | refine Q.alloc ?_ _ | refine Q.jk ?_ _ | refine Q.drew ?_)

end Go.Proofs.YtbonaopcoeconaaDoor
