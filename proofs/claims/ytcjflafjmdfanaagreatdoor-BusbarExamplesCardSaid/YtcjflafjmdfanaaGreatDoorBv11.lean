
/- Worlds under a name, in which some blocks are known. -/
import Derived.Test.YtcjflafjmdfanaaGreatDoorBv10
import Derived.Test.YtcjflafjmdfanaaGreatDoorBv03
import Derived.Outline
import Derived.Test.YtcjflafjmdfanaaGreatDoorBv02
import Derived.IntWalk
import Derived.Test.YtcjflafjmdfanaaGreatDoorBv08
import Derived.Lib.Hide
import Derived.Test.YtcjflafjmdfanaaGreatDoorBv01
import Derived.Deep.RegionLaw
import Derived.Laws.MakeOwn
import Derived.Laws.BitsAllLaws
import Derived.Deep.RegionHeld3
import Derived.Deep.DrawnRows
import Derived.StillTailTactics
import Derived.Deep.DeepCutAuto
set_option maxHeartbeats 64000000
set_option linter.unusedSimpArgs false
set_option linter.unusedVariables false
/- The helpers of the laws of phasor: within, Window and known. -/
namespace Go.Sub
def cellsI (x : Nat → Int) (n : Nat) : Array Value := ((List.range n).map fun k => Value.int .i64 (x k)).toArray
@[go_sem] theorem cellsI_size (x : Nat → Int) (n : Nat) : (cellsI x n).size = n := by simp [cellsI]
theorem cellsI_at (x : Nat → Int) (n k : Nat) (h : k < n) : (cellsI x n)[k]? = some (.int .i64 (x k)) := by simp [cellsI, h]
def winV (n : Int) : Int := n % 32767 - 16383
end Go.Sub
namespace Go.Proofs.YtcjflafjmdfanaaGreatDoor
open Go.RowKit Go.Sub
@[go_sem ↓ high] theorem lv12 (a : Addr) : loadVar 69 a = bigLoad 69 a := rfl
theorem info12 : (Tryz.prog.info? 69).map (·.size) = some 12 := by kernel_rfl
@[go_sem] theorem run_load12 {w : World} {n : Nat} {cs : Array Value} {t : TypeId} {fr : Nat × Nat} [h : Blk w n (.cells cs t fr)] (hs : cs.size = 12) :
  (bigLoad 69 ⟨n, 0, none⟩).run Tryz.prog w = .ok (.agg cs) w := run_bigLoad Tryz.underlying69 rfl (by rw [hs]; exact info12)
def RetWin (w : World) (x : Nat → Int) (e : Ending) (w' : World) : Prop := ∃ g c, e = .returned (.slice (some ⟨g, 0, none⟩) 12 c) ∧ Q w w' ∧ Win w' g 0 x
theorem RowI.Win {W0 w : World} {v : Value} {x : Nat → Int} (h : RowI W0 w v ((List.range 12).map x)) : ∃ g c, v = .slice (some ⟨g, 0, none⟩) 12 c ∧ Win w g 0 x := by
 obtain ⟨g, c, hv, _, hc⟩ := h.win (by simp)
 refine ⟨g, c, by simpa using hv, fun k hk => ?_⟩
 have := hc k (by simpa using hk)
 simpa [List.getD, hk] using this
def kwin (k : Nat) : Int := ([2, 1, 1, 0, -1, -1, -2, -1, -1, 0, 1, 1] : List Int).getD k 0
end Go.Proofs.YtcjflafjmdfanaaGreatDoor
/- Plain laws of harmonics. No program in sight. -/
namespace Go.Sub
def Cy.ng (x : Cy) : Cy := ⟨-x.a, -x.b, -x.c, -x.d⟩
def sumS (y : Nat → Su) : Nat → Su
 | 0 => ⟨0, 0⟩
 | n + 1 => (sumS y n).add (y n)
def dft6 (u : Nat → Int) (h : Int) : Cy := sumC (fun m => (rootC (-(2 * h) * m)).scl (u m)) 6
end Go.Sub
/- What Check and Back of package phasor return for any window and any harmonics. -/
namespace Go.Sub
def chkE (x : Nat → Int) : Int := if (List.range 12).all (fun k => !brkB 16383 (x k)) then 0 else 2
theorem chkE_bad {x : Nat → Int} {k : Nat} (hk : k < 12) (h : brkB 16383 (x k) = true) : chkE x = 2 := by
 unfold chkE
 rw [if_neg]
 intro h1
 have := List.all_eq_true.1 h1 k (List.mem_range.2 hk)
 rw [h] at this
 cases this
theorem chkE_good {x : Nat → Int} (h : ∀ k, k < 12 → brkB 16383 (x k) = false) : chkE x = 0 := by
 unfold chkE
 rw [if_pos]
 apply List.all_eq_true.2
 intro k hk
 rw [h k (List.mem_range.1 hk)]
 rfl
def bk (c : Nat → Cy) (k : Nat) : Cy := sumC (fun h => (c h).turn ((h : Int) * k)) 12
def bkOK (c : Nat → Cy) (k : Nat) : Bool := Cy.eqB (bk c k) ⟨(bk c k).a, 0, 0, 0⟩ && (bk c k).a.tmod 12 == 0
def bkX (c : Nat → Cy) (k : Nat) : Int := (bk c k).a.tdiv 12
def backE (c : Nat → Cy) : Int :=
 if (List.range 12).all (fun h => wiB (c h) 1099511627776) then if (List.range 12).all (bkOK c) then chkE (bkX c) else 16 else 1
end Go.Sub
namespace Go.Proofs.YtcjflafjmdfanaaGreatDoor
open Go.RowKit Go.Sub
theorem phcheck_any (b o c : Nat) (x : Nat → Int) (w : World) (hw : Win w b o x) :
  Calls Tryz.prog 33 #[.slice (some ⟨b, o, none⟩) 12 c] w fun e w' => e = .returned (.int .i64 (chkE x)) ∧ w = w' := by
 go_enter Tryz.func33, Tryz.ntmps33
 go_wp2
 go_loop [10] (fun i => ∃ k : Nat, k ≤ 12 ∧ i = .int .i64 k ∧ ∀ j, j < k → brkB 16383 (x j) = false) (fun i => 12 - (intOf i).toNat)
 case atStart => exact ⟨0, by omega, rfl, fun j hj => absurd hj (Nat.not_lt_zero j)⟩
 case round =>
  obtain ⟨k, hk, rfl, hin⟩ := hrel
  have HI := hh hin
  clear hin
  by_cases hlt : k < 12
  rotate_left
  ·obtain rfl : k = 12 := by omega
   have E := hh (chkE_good (x := x) HI.o)
   clear hw
   go_wp2
   go_ret
   exact ⟨by rw [E.o]; rfl, rfl⟩
  have hc := hw k hlt
  clear hw
  by_cases h1 : x k < -16383
  ·have E := hh (chkE_bad (x := x) hlt (by simp [brkB, h1]))
   go_wp2
   go_ret
   exact ⟨by rw [E.o]; rfl, rfl⟩
  by_cases h2 : 16383 < x k
  ·have E := hh (chkE_bad (x := x) hlt (by simp [brkB, h2]))
   go_wp2
   go_ret
   exact ⟨by rw [E.o]; rfl, rfl⟩
  go_wp2
  go_round
  case rel =>
   refine ⟨k + 1, by omega, by go_num, fun j hj => ?_⟩
   rcases Nat.lt_or_ge j k with h | h
   ·exact HI.o j h
   obtain rfl : j = k := by omega
   simp [brkB]
   omega
  case measure => simp [intOf]; omega
@[go_sem] theorem make12 (w : World) : (Instr.makeSlice 61 (.int .i64 12) (.int .i64 12)).run Tryz.prog w = .ok (.slice (some ⟨w.heap.size, 0, none⟩) 12 12) (w.alloc (.cells #[.int .i64 0, .int .i64 0, .int .i64 0, .int .i64 0, .int .i64 0, .int .i64 0, .int .i64 0, .int .i64 0, .int .i64 0, .int .i64 0, .int .i64 0, .int .i64 0] 3)) := by kernel_rfl
def RetBack (w : World) (c : Nat → Cy) (e : Ending) (w' : World) : Prop :=
 Q w w' ∧ ((backE c = 0 ∧ ∃ g cp, e = .returned (.tuple #[.slice (some ⟨g, 0, none⟩) 12 cp, .int .i64 0]) ∧ Win w' g 0 (bkX c)) ∨ (backE c ≠ 0 ∧ e = .returned (.tuple #[.slice none 0 0, .int .i64 (backE c)])))
def AllIn (c : Nat → Cy) (k : Nat) : Prop := ∀ j, j < k → wiB (c j) 1099511627776 = true
def AllOK (c : Nat → Cy) (k : Nat) : Prop := ∀ j, j < k → bkOK c j = true
end Go.Proofs.YtcjflafjmdfanaaGreatDoor
/- What reduced, product, Mul, Root and Turn of the reference return. -/
namespace Go.Sub
theorem Prods.mono {x y : Cy} {B B' : Int} (h : Prods x y B) (hb : B ≤ B') : Prods x y B' := by
 obtain ⟨h1, h2, h3, h4, h5, h6, h7, h8, h9, h10, h11, h12, h13, h14, h15, h16⟩ := h
 constructor <;> omega
end Go.Sub
namespace Go.Proofs.YtcjflafjmdfanaaGreatDoor
open Go.RowKit Go.Sub
theorem rroot_0p (k : Int) (w : World) (ht : k.tmod 12 = 0) :
  Calls Tryz.prog 115 #[.int .i64 k] w fun e w' => e = .returned (.agg #[.int .i64 (1), .int .i64 (0), .int .i64 (0), .int .i64 (0)]) ∧ Q w w' := by
 go_enter Tryz.func115, Tryz.ntmps115
 go_wp2
 refine bodyPost_ret (v := .agg #[.int .i64 (1), .int .i64 (0), .int .i64 (0), .int .i64 (0)]) (by simp [results, Tryz.results115, go_sem]) rfl ⟨rfl, ?_⟩
 exact Q.i
theorem rroot_1p (k : Int) (w : World) (ht : k.tmod 12 = 1) :
  Calls Tryz.prog 115 #[.int .i64 k] w fun e w' => e = .returned (.agg #[.int .i64 (0), .int .i64 (1), .int .i64 (0), .int .i64 (0)]) ∧ Q w w' := by
 go_enter Tryz.func115, Tryz.ntmps115
 go_wp2
 refine bodyPost_ret (v := .agg #[.int .i64 (0), .int .i64 (1), .int .i64 (0), .int .i64 (0)]) (by simp [results, Tryz.results115, go_sem]) rfl ⟨rfl, ?_⟩
 exact Q.i
theorem rroot_1n (k : Int) (w : World) (ht : k.tmod 12 = -11) :
  Calls Tryz.prog 115 #[.int .i64 k] w fun e w' => e = .returned (.agg #[.int .i64 (0), .int .i64 (1), .int .i64 (0), .int .i64 (0)]) ∧ Q w w' := by
 go_enter Tryz.func115, Tryz.ntmps115
 go_wp2
 refine bodyPost_ret (v := .agg #[.int .i64 (0), .int .i64 (1), .int .i64 (0), .int .i64 (0)]) (by simp [results, Tryz.results115, go_sem]) rfl ⟨rfl, ?_⟩
 exact Q.i
theorem rroot_2p (k : Int) (w : World) (ht : k.tmod 12 = 2) :
  Calls Tryz.prog 115 #[.int .i64 k] w fun e w' => e = .returned (.agg #[.int .i64 (0), .int .i64 (0), .int .i64 (1), .int .i64 (0)]) ∧ Q w w' := by
 go_enter Tryz.func115, Tryz.ntmps115
 go_wp2
 refine bodyPost_ret (v := .agg #[.int .i64 (0), .int .i64 (0), .int .i64 (1), .int .i64 (0)]) (by simp [results, Tryz.results115, go_sem]) rfl ⟨rfl, ?_⟩
 exact Q.i
theorem rroot_2n (k : Int) (w : World) (ht : k.tmod 12 = -10) :
  Calls Tryz.prog 115 #[.int .i64 k] w fun e w' => e = .returned (.agg #[.int .i64 (0), .int .i64 (0), .int .i64 (1), .int .i64 (0)]) ∧ Q w w' := by
 go_enter Tryz.func115, Tryz.ntmps115
 go_wp2
 refine bodyPost_ret (v := .agg #[.int .i64 (0), .int .i64 (0), .int .i64 (1), .int .i64 (0)]) (by simp [results, Tryz.results115, go_sem]) rfl ⟨rfl, ?_⟩
 exact Q.i
theorem rroot_3p (k : Int) (w : World) (ht : k.tmod 12 = 3) :
  Calls Tryz.prog 115 #[.int .i64 k] w fun e w' => e = .returned (.agg #[.int .i64 (0), .int .i64 (0), .int .i64 (0), .int .i64 (1)]) ∧ Q w w' := by
 go_enter Tryz.func115, Tryz.ntmps115
 go_wp2
 refine bodyPost_ret (v := .agg #[.int .i64 (0), .int .i64 (0), .int .i64 (0), .int .i64 (1)]) (by simp [results, Tryz.results115, go_sem]) rfl ⟨rfl, ?_⟩
 exact Q.i
theorem rroot_3n (k : Int) (w : World) (ht : k.tmod 12 = -9) :
  Calls Tryz.prog 115 #[.int .i64 k] w fun e w' => e = .returned (.agg #[.int .i64 (0), .int .i64 (0), .int .i64 (0), .int .i64 (1)]) ∧ Q w w' := by
 go_enter Tryz.func115, Tryz.ntmps115
 go_wp2
 refine bodyPost_ret (v := .agg #[.int .i64 (0), .int .i64 (0), .int .i64 (0), .int .i64 (1)]) (by simp [results, Tryz.results115, go_sem]) rfl ⟨rfl, ?_⟩
 exact Q.i
theorem rroot_4p (k : Int) (w : World) (ht : k.tmod 12 = 4) :
  Calls Tryz.prog 115 #[.int .i64 k] w fun e w' => e = .returned (.agg #[.int .i64 (-1), .int .i64 (0), .int .i64 (1), .int .i64 (0)]) ∧ Q w w' := by
 go_enter Tryz.func115, Tryz.ntmps115
 go_wp2
 refine bodyPost_ret (v := .agg #[.int .i64 (-1), .int .i64 (0), .int .i64 (1), .int .i64 (0)]) (by simp [results, Tryz.results115, go_sem]) rfl ⟨rfl, ?_⟩
 exact Q.i
theorem rroot_4n (k : Int) (w : World) (ht : k.tmod 12 = -8) :
  Calls Tryz.prog 115 #[.int .i64 k] w fun e w' => e = .returned (.agg #[.int .i64 (-1), .int .i64 (0), .int .i64 (1), .int .i64 (0)]) ∧ Q w w' := by
 go_enter Tryz.func115, Tryz.ntmps115
 go_wp2
 refine bodyPost_ret (v := .agg #[.int .i64 (-1), .int .i64 (0), .int .i64 (1), .int .i64 (0)]) (by simp [results, Tryz.results115, go_sem]) rfl ⟨rfl, ?_⟩
 exact Q.i
theorem rroot_5p (k : Int) (w : World) (ht : k.tmod 12 = 5) :
  Calls Tryz.prog 115 #[.int .i64 k] w fun e w' => e = .returned (.agg #[.int .i64 (0), .int .i64 (-1), .int .i64 (0), .int .i64 (1)]) ∧ Q w w' := by
 go_enter Tryz.func115, Tryz.ntmps115
 go_wp2
 refine bodyPost_ret (v := .agg #[.int .i64 (0), .int .i64 (-1), .int .i64 (0), .int .i64 (1)]) (by simp [results, Tryz.results115, go_sem]) rfl ⟨rfl, ?_⟩
 exact Q.i
theorem rroot_5n (k : Int) (w : World) (ht : k.tmod 12 = -7) :
  Calls Tryz.prog 115 #[.int .i64 k] w fun e w' => e = .returned (.agg #[.int .i64 (0), .int .i64 (-1), .int .i64 (0), .int .i64 (1)]) ∧ Q w w' := by
 go_enter Tryz.func115, Tryz.ntmps115
 go_wp2
 refine bodyPost_ret (v := .agg #[.int .i64 (0), .int .i64 (-1), .int .i64 (0), .int .i64 (1)]) (by simp [results, Tryz.results115, go_sem]) rfl ⟨rfl, ?_⟩
 exact Q.i
theorem rroot_6p (k : Int) (w : World) (ht : k.tmod 12 = 6) :
  Calls Tryz.prog 115 #[.int .i64 k] w fun e w' => e = .returned (.agg #[.int .i64 (-1), .int .i64 (0), .int .i64 (0), .int .i64 (0)]) ∧ Q w w' := by
 go_enter Tryz.func115, Tryz.ntmps115
 go_wp2
 refine bodyPost_ret (v := .agg #[.int .i64 (-1), .int .i64 (0), .int .i64 (0), .int .i64 (0)]) (by simp [results, Tryz.results115, go_sem]) rfl ⟨rfl, ?_⟩
 exact Q.i
theorem rroot_6n (k : Int) (w : World) (ht : k.tmod 12 = -6) :
  Calls Tryz.prog 115 #[.int .i64 k] w fun e w' => e = .returned (.agg #[.int .i64 (-1), .int .i64 (0), .int .i64 (0), .int .i64 (0)]) ∧ Q w w' := by
 go_enter Tryz.func115, Tryz.ntmps115
 go_wp2
 refine bodyPost_ret (v := .agg #[.int .i64 (-1), .int .i64 (0), .int .i64 (0), .int .i64 (0)]) (by simp [results, Tryz.results115, go_sem]) rfl ⟨rfl, ?_⟩
 exact Q.i
theorem rroot_7p (k : Int) (w : World) (ht : k.tmod 12 = 7) :
  Calls Tryz.prog 115 #[.int .i64 k] w fun e w' => e = .returned (.agg #[.int .i64 (0), .int .i64 (-1), .int .i64 (0), .int .i64 (0)]) ∧ Q w w' := by
 go_enter Tryz.func115, Tryz.ntmps115
 go_wp2
 refine bodyPost_ret (v := .agg #[.int .i64 (0), .int .i64 (-1), .int .i64 (0), .int .i64 (0)]) (by simp [results, Tryz.results115, go_sem]) rfl ⟨rfl, ?_⟩
 exact Q.i
theorem rroot_7n (k : Int) (w : World) (ht : k.tmod 12 = -5) :
  Calls Tryz.prog 115 #[.int .i64 k] w fun e w' => e = .returned (.agg #[.int .i64 (0), .int .i64 (-1), .int .i64 (0), .int .i64 (0)]) ∧ Q w w' := by
 go_enter Tryz.func115, Tryz.ntmps115
 go_wp2
 refine bodyPost_ret (v := .agg #[.int .i64 (0), .int .i64 (-1), .int .i64 (0), .int .i64 (0)]) (by simp [results, Tryz.results115, go_sem]) rfl ⟨rfl, ?_⟩
 exact Q.i
theorem rroot_8p (k : Int) (w : World) (ht : k.tmod 12 = 8) :
  Calls Tryz.prog 115 #[.int .i64 k] w fun e w' => e = .returned (.agg #[.int .i64 (0), .int .i64 (0), .int .i64 (-1), .int .i64 (0)]) ∧ Q w w' := by
 go_enter Tryz.func115, Tryz.ntmps115
 go_wp2
 refine bodyPost_ret (v := .agg #[.int .i64 (0), .int .i64 (0), .int .i64 (-1), .int .i64 (0)]) (by simp [results, Tryz.results115, go_sem]) rfl ⟨rfl, ?_⟩
 exact Q.i
theorem rroot_8n (k : Int) (w : World) (ht : k.tmod 12 = -4) :
  Calls Tryz.prog 115 #[.int .i64 k] w fun e w' => e = .returned (.agg #[.int .i64 (0), .int .i64 (0), .int .i64 (-1), .int .i64 (0)]) ∧ Q w w' := by
 go_enter Tryz.func115, Tryz.ntmps115
 go_wp2
 refine bodyPost_ret (v := .agg #[.int .i64 (0), .int .i64 (0), .int .i64 (-1), .int .i64 (0)]) (by simp [results, Tryz.results115, go_sem]) rfl ⟨rfl, ?_⟩
 exact Q.i
theorem rroot_9p (k : Int) (w : World) (ht : k.tmod 12 = 9) :
  Calls Tryz.prog 115 #[.int .i64 k] w fun e w' => e = .returned (.agg #[.int .i64 (0), .int .i64 (0), .int .i64 (0), .int .i64 (-1)]) ∧ Q w w' := by
 go_enter Tryz.func115, Tryz.ntmps115
 go_wp2
 refine bodyPost_ret (v := .agg #[.int .i64 (0), .int .i64 (0), .int .i64 (0), .int .i64 (-1)]) (by simp [results, Tryz.results115, go_sem]) rfl ⟨rfl, ?_⟩
 exact Q.i
theorem rroot_9n (k : Int) (w : World) (ht : k.tmod 12 = -3) :
  Calls Tryz.prog 115 #[.int .i64 k] w fun e w' => e = .returned (.agg #[.int .i64 (0), .int .i64 (0), .int .i64 (0), .int .i64 (-1)]) ∧ Q w w' := by
 go_enter Tryz.func115, Tryz.ntmps115
 go_wp2
 refine bodyPost_ret (v := .agg #[.int .i64 (0), .int .i64 (0), .int .i64 (0), .int .i64 (-1)]) (by simp [results, Tryz.results115, go_sem]) rfl ⟨rfl, ?_⟩
 exact Q.i
theorem rroot_10p (k : Int) (w : World) (ht : k.tmod 12 = 10) :
  Calls Tryz.prog 115 #[.int .i64 k] w fun e w' => e = .returned (.agg #[.int .i64 (1), .int .i64 (0), .int .i64 (-1), .int .i64 (0)]) ∧ Q w w' := by
 go_enter Tryz.func115, Tryz.ntmps115
 go_wp2
 refine bodyPost_ret (v := .agg #[.int .i64 (1), .int .i64 (0), .int .i64 (-1), .int .i64 (0)]) (by simp [results, Tryz.results115, go_sem]) rfl ⟨rfl, ?_⟩
 exact Q.i
theorem rroot_10n (k : Int) (w : World) (ht : k.tmod 12 = -2) :
  Calls Tryz.prog 115 #[.int .i64 k] w fun e w' => e = .returned (.agg #[.int .i64 (1), .int .i64 (0), .int .i64 (-1), .int .i64 (0)]) ∧ Q w w' := by
 go_enter Tryz.func115, Tryz.ntmps115
 go_wp2
 refine bodyPost_ret (v := .agg #[.int .i64 (1), .int .i64 (0), .int .i64 (-1), .int .i64 (0)]) (by simp [results, Tryz.results115, go_sem]) rfl ⟨rfl, ?_⟩
 exact Q.i
theorem rroot_11p (k : Int) (w : World) (ht : k.tmod 12 = 11) :
  Calls Tryz.prog 115 #[.int .i64 k] w fun e w' => e = .returned (.agg #[.int .i64 (0), .int .i64 (1), .int .i64 (0), .int .i64 (-1)]) ∧ Q w w' := by
 go_enter Tryz.func115, Tryz.ntmps115
 go_wp2
 refine bodyPost_ret (v := .agg #[.int .i64 (0), .int .i64 (1), .int .i64 (0), .int .i64 (-1)]) (by simp [results, Tryz.results115, go_sem]) rfl ⟨rfl, ?_⟩
 exact Q.i
theorem rroot_11n (k : Int) (w : World) (ht : k.tmod 12 = -1) :
  Calls Tryz.prog 115 #[.int .i64 k] w fun e w' => e = .returned (.agg #[.int .i64 (0), .int .i64 (1), .int .i64 (0), .int .i64 (-1)]) ∧ Q w w' := by
 go_enter Tryz.func115, Tryz.ntmps115
 go_wp2
 refine bodyPost_ret (v := .agg #[.int .i64 (0), .int .i64 (1), .int .i64 (0), .int .i64 (-1)]) (by simp [results, Tryz.results115, go_sem]) rfl ⟨rfl, ?_⟩
 exact Q.i
theorem tmod12 (k : Int) : k.tmod 12 = k % 12 ∨ (k.tmod 12 = k % 12 - 12 ∧ k % 12 ≠ 0) := by
 rcases Int.le_total 0 k with h | h
 ·left; exact Int.tmod_eq_emod_of_nonneg h
 have := Int.tmod_eq_emod (a := k) (b := 12)
 split at this
 ·left; omega
 rename_i hd
 right
 refine ⟨by omega, fun h0 => hd (Or.inr (Int.dvd_of_emod_eq_zero h0))⟩
theorem rroot_any (k : Int) (w : World) :
  Calls Tryz.prog 115 #[.int .i64 k] w fun e w' => e = .returned (.agg #[.int .i64 (rootC k).a, .int .i64 (rootC k).b, .int .i64 (rootC k).c, .int .i64 (rootC k).d]) ∧ Q w w' := by
 have h12 := tmod12 k
 rcases dz_cases k with hk | hk | hk | hk | hk | hk | hk | hk | hk | hk | hk | hk
 ·rw [show rootC k = (Cy.mk 1 0 0 0).tn 0 by simp [rootC, hk]]
  exact rroot_0p k w (by omega)
 ·rw [show rootC k = (Cy.mk 1 0 0 0).tn 1 by simp [rootC, hk]]
  rcases h12 with h | ⟨h, _⟩
  ·exact rroot_1p k w (by omega)
  exact rroot_1n k w (by omega)
 ·rw [show rootC k = (Cy.mk 1 0 0 0).tn 2 by simp [rootC, hk]]
  rcases h12 with h | ⟨h, _⟩
  ·exact rroot_2p k w (by omega)
  exact rroot_2n k w (by omega)
 ·rw [show rootC k = (Cy.mk 1 0 0 0).tn 3 by simp [rootC, hk]]
  rcases h12 with h | ⟨h, _⟩
  ·exact rroot_3p k w (by omega)
  exact rroot_3n k w (by omega)
 ·rw [show rootC k = (Cy.mk 1 0 0 0).tn 4 by simp [rootC, hk]]
  rcases h12 with h | ⟨h, _⟩
  ·exact rroot_4p k w (by omega)
  exact rroot_4n k w (by omega)
 ·rw [show rootC k = (Cy.mk 1 0 0 0).tn 5 by simp [rootC, hk]]
  rcases h12 with h | ⟨h, _⟩
  ·exact rroot_5p k w (by omega)
  exact rroot_5n k w (by omega)
 ·rw [show rootC k = (Cy.mk 1 0 0 0).tn 6 by simp [rootC, hk]]
  rcases h12 with h | ⟨h, _⟩
  ·exact rroot_6p k w (by omega)
  exact rroot_6n k w (by omega)
 ·rw [show rootC k = (Cy.mk 1 0 0 0).tn 7 by simp [rootC, hk]]
  rcases h12 with h | ⟨h, _⟩
  ·exact rroot_7p k w (by omega)
  exact rroot_7n k w (by omega)
 ·rw [show rootC k = (Cy.mk 1 0 0 0).tn 8 by simp [rootC, hk]]
  rcases h12 with h | ⟨h, _⟩
  ·exact rroot_8p k w (by omega)
  exact rroot_8n k w (by omega)
 ·rw [show rootC k = (Cy.mk 1 0 0 0).tn 9 by simp [rootC, hk]]
  rcases h12 with h | ⟨h, _⟩
  ·exact rroot_9p k w (by omega)
  exact rroot_9n k w (by omega)
 ·rw [show rootC k = (Cy.mk 1 0 0 0).tn 10 by simp [rootC, hk]]
  rcases h12 with h | ⟨h, _⟩
  ·exact rroot_10p k w (by omega)
  exact rroot_10n k w (by omega)
 rw [show rootC k = (Cy.mk 1 0 0 0).tn 11 by simp [rootC, hk]]
 rcases h12 with h | ⟨h, _⟩
 ·exact rroot_11p k w (by omega)
 exact rroot_11n k w (by omega)
end Go.Proofs.YtcjflafjmdfanaaGreatDoor
/- What Check and Back of the reference of phasor return. -/
namespace Go.Proofs.YtcjflafjmdfanaaGreatDoor
open Go.RowKit Go.Sub
theorem rcheck_any (b o c : Nat) (x : Nat → Int) (w : World) (hw : Win w b o x) :
  Calls Tryz.prog 25 #[.slice (some ⟨b, o, none⟩) 12 c] w fun e w' => e = .returned (.int .i64 (chkE x)) ∧ w = w' := by
 go_enter Tryz.func25, Tryz.ntmps25
 go_wp2
 go_loop [3] (fun i => ∃ k : Nat, k ≤ 12 ∧ i = .int .i64 k ∧ ∀ j, j < k → brkB 16383 (x j) = false) (fun i => 12 - (intOf i).toNat)
 case atStart => exact ⟨0, by omega, rfl, fun j hj => absurd hj (Nat.not_lt_zero j)⟩
 case round =>
  obtain ⟨k, hk, rfl, hin⟩ := hrel
  have HI := hh hin
  clear hin
  by_cases hlt : k < 12
  rotate_left
  ·obtain rfl : k = 12 := by omega
   have E := hh (chkE_good (x := x) HI.o)
   clear hw
   go_wp2
   go_ret
   exact ⟨by rw [E.o]; rfl, rfl⟩
  have hc := hw k hlt
  clear hw
  have kk : (0 : Int) ≤ (k : Int) := by omega
  have kk2 : (k : Int) < 12 := by omega
  by_cases h1 : x k < -16383
  ·have E := hh (chkE_bad (x := x) hlt (by simp [brkB, h1]))
   go_wp2
   go_ret
   exact ⟨by rw [E.o]; rfl, rfl⟩
  by_cases h2 : 16383 < x k
  ·have E := hh (chkE_bad (x := x) hlt (by simp [brkB, h2]))
   go_wp2
   go_ret
   exact ⟨by rw [E.o]; rfl, rfl⟩
  go_wp2
  go_round
  case rel =>
   refine ⟨k + 1, by omega, by go_num, fun j hj => ?_⟩
   rcases Nat.lt_or_ge j k with h | h
   ·exact HI.o j h
   obtain rfl : j = k := by omega
   simp [brkB]
   omega
  case measure => simp [intOf]; omega
theorem radd_c (x y : Cy) (w : World) (hx : x.In 100000000000000000) (hy : y.In 100000000000000000) :
  Calls Tryz.prog 138 #[.agg #[.int .i64 x.a, .int .i64 x.b, .int .i64 x.c, .int .i64 x.d], .agg #[.int .i64 y.a, .int .i64 y.b, .int .i64 y.c, .int .i64 y.d]] w fun e w' => e = .returned (.tuple #[.agg #[.int .i64 (x.add y).a, .int .i64 (x.add y).b, .int .i64 (x.add y).c, .int .i64 (x.add y).d], .int .i64 0]) ∧ Q w w' := by
 have h := radd_any x.a x.b x.c x.d y.a y.b y.c y.d w
 rw [addR_ok hx hy] at h
 exact h
end Go.Proofs.YtcjflafjmdfanaaGreatDoor
/- What Harmonic, All and Energy of the reference of phasor return for windows in their range. -/
namespace Go.Proofs.YtcjflafjmdfanaaGreatDoor
open Go.RowKit Go.Sub
theorem hstep (x : Nat → Int) (h : Int) (k : Nat) : (sumC (hterm x h) k).a + x k * (rootC (-(h * k))).a = (sumC (hterm x h) (k + 1)).a ∧ (sumC (hterm x h) k).b + x k * (rootC (-(h * k))).b = (sumC (hterm x h) (k + 1)).b ∧
  (sumC (hterm x h) k).c + x k * (rootC (-(h * k))).c = (sumC (hterm x h) (k + 1)).c ∧ (sumC (hterm x h) k).d + x k * (rootC (-(h * k))).d = (sumC (hterm x h) (k + 1)).d := by
 rw [← Int.neg_mul]
 refine ⟨?_, ?_, ?_, ?_⟩ <;> simp only [sumC, Cy.add, hterm, Cy.scl, Int.mul_comm (x k)]
theorem rharm0_c (h : Int) (b o c : Nat) (x : Nat → Int) (w : World) (hw : Win w b o x) (hx : WinOK x 16383) :
  Calls Tryz.prog 88 #[.slice (some ⟨b, o, none⟩) 12 c, .int .i64 h] w fun e w' => e = .returned (.agg #[.int .i64 (harm x h).a, .int .i64 (harm x h).b, .int .i64 (harm x h).c, .int .i64 (harm x h).d]) ∧ Q w w' := by
 rw [← harm_tmod]
 have tb := tmod_bd h 12 (by decide)
 haveI := hw.old
 have HW := hh hw
 have HX := hh hx
 clear hw hx
 obtain ⟨t, ht⟩ : ∃ t, h.tmod 12 = t := ⟨_, rfl⟩
 rw [ht] at tb ⊢
 go_enter Tryz.func88, Tryz.ntmps88
 go_wp2
 go_loopw [6] (fun i wr => ∃ k : Nat, k ≤ 12 ∧ i = .int .i64 k ∧ Q ((w.alloc (.cells #[.int .i64 0, .int .i64 0, .int .i64 0, .int .i64 0] 141)).alloc (.cells #[.int .i64 (sumC (hterm x t) k).a, .int .i64 (sumC (hterm x t) k).b, .int .i64 (sumC (hterm x t) k).c, .int .i64 (sumC (hterm x t) k).d] 141)) wr) (fun i _ => 12 - (intOf i).toNat)
 case atStart => exact ⟨0, by omega, rfl, Q.refl _⟩
 case round =>
  obtain ⟨k, hk, rfl, kw, rfl⟩ := hrel
  by_cases hlt : k < 12
  rotate_left
  ·obtain rfl : k = 12 := by omega
   go_wp2
   refine bodyPost_ret (v := .agg #[.int .i64 (harm x t).a, .int .i64 (harm x t).b, .int .i64 (harm x t).c, .int .i64 (harm x t).d]) (by simp [results, Tryz.results88, go_sem, harm]) rfl ⟨rfl, ?_⟩
   exact Q.i
  have hc := HW.o k hlt
  obtain ⟨h1, h2⟩ := HX.o k hlt
  obtain ⟨s1, s2, s3, s4⟩ := hstep x t k
  have kk : (0 : Int) ≤ (k : Int) := by omega
  have kk2 : (k : Int) < 12 := by omega
  have bm := bd_mul (n := 12) (m := 12) (a := t) (b := (k : Int)) (by omega) (by omega) (by omega) (by omega)
  have bm1 : -1000 ≤ t * (k : Int) := by omega
  have bm2 : t * (k : Int) ≤ 1000 := by omega
  clear bm
  obtain ⟨r1, r2, r3, r4, r5, r6, r7, r8⟩ := rootC_in (-(t * k))
  have p1 := bd_mul h1 h2 r1 r2
  have p2 := bd_mul h1 h2 r3 r4
  have p3 := bd_mul h1 h2 r5 r6
  have p4 := bd_mul h1 h2 r7 r8
  have hi3 := sumC_in (y := hterm x t) (l := 2 * 16383) k fun j hj => hterm_in (HX.o j (by omega)).1 (HX.o j (by omega)).2
  have hi4 := hi3.mono (show (k : Int) * (2 * 16383) ≤ 1000000 by omega)
  clear hi3
  obtain ⟨q1, q2, q3, q4, q5, q6, q7, q8⟩ := hi4
  go_wp2_with (go_at_call 115; refine (rroot_any _ _).q ?_; intro kj)
  refine wp_loop_rounds 5 ?_
  rw [rounds_succ]; go_wp2
  try simp only [List.append]
  refine wp_region_tail 13 (by kernel_rfl) (by kernel_rfl) ?_
  simp only [List.take_succ_cons, List.take_zero, List.drop_succ_cons, List.drop_zero]
  repeat (go_big_quiet_step (fail))
  refine wq0 fun kq => ?_
  go_wp2
  rw [rounds_succ]; go_wp2
  try simp only [List.append]
  refine wp_region_tail 13 (by kernel_rfl) (by kernel_rfl) ?_
  simp only [List.take_succ_cons, List.take_zero, List.drop_succ_cons, List.drop_zero]
  repeat (go_big_quiet_step (fail))
  refine wq0 fun kq => ?_
  go_wp2
  rw [rounds_succ]; go_wp2
  try simp only [List.append]
  refine wp_region_tail 13 (by kernel_rfl) (by kernel_rfl) ?_
  simp only [List.take_succ_cons, List.take_zero, List.drop_succ_cons, List.drop_zero]
  repeat (go_big_quiet_step (fail))
  refine wq0 fun kq => ?_
  go_wp2
  rw [rounds_succ]; go_wp2
  try simp only [List.append]
  refine wp_region_tail 13 (by kernel_rfl) (by kernel_rfl) ?_
  simp only [List.take_succ_cons, List.take_zero, List.drop_succ_cons, List.drop_zero]
  repeat (go_big_quiet_step (fail))
  refine wq0 fun kq => ?_
  go_wp2
  rw [rounds_succ]; go_wp2
  go_roundw
  case rel =>
   refine ⟨k + 1, by omega, by go_num, ?_⟩
   exact Q.i
  case measure => simp [intOf]; omega
theorem chkE_ok {x : Nat → Int} (hx : WinOK x 16383) : chkE x = 0 := chkE_good fun k hk => by
 have := hx k hk
 simp [brkB]
 omega
theorem chkE_win {x : Nat → Int} (h : chkE x = 0) : WinOK x 16383 := by
 intro k hk
 cases hb : brkB 16383 (x k)
 ·simp [brkB] at hb
  omega
 rw [chkE_bad hk hb] at h
 cases h
theorem rharm_c (h : Int) (b o c : Nat) (x : Nat → Int) (w : World) (hw : Win w b o x) (hx : WinOK x 16383) :
  Calls Tryz.prog 85 #[.slice (some ⟨b, o, none⟩) 12 c, .int .i64 h] w fun e w' => e = .returned (.tuple #[.agg #[.int .i64 (harm x h).a, .int .i64 (harm x h).b, .int .i64 (harm x h).c, .int .i64 (harm x h).d], .int .i64 0]) ∧ Q w w' := by
 have HW := hh hw
 have HX := hh hx
 have ec := chkE_ok hx
 clear hw hx
 go_enter Tryz.func85, Tryz.ntmps85
 go_wp2_with (first | (go_at_call 25; refine (rcheck_any _ _ _ x _ (HW.o.q Q.i)).p ?_) | (go_at_call 88; refine (rharm0_c _ _ _ _ x _ (HW.o.q Q.i) HX.o).q ?_; intro kj))
 refine bodyPost_ret (v := .tuple #[.agg #[.int .i64 (harm x h).a, .int .i64 (harm x h).b, .int .i64 (harm x h).c, .int .i64 (harm x h).d], .int .i64 0]) (by simp [results, Tryz.results85, go_sem]) rfl ⟨rfl, ?_⟩
 exact Q.i
end Go.Proofs.YtcjflafjmdfanaaGreatDoor
/- What the functions of phasor and of its reference return where Check returns an error. -/
namespace Go.Proofs.YtcjflafjmdfanaaGreatDoor
open Go.RowKit Go.Sub
def Fails (F : FuncId) (v : Value) (E : Int) (w : World) : Prop := ∀ w', Q w w' → Calls Tryz.prog F #[v] w' fun e w'' => e = .returned (.int .i64 E) ∧ w' = w''
end Go.Proofs.YtcjflafjmdfanaaGreatDoor
/- What Versus of package substationref02 returns. -/
namespace Go.Proofs.YtcjflafjmdfanaaGreatDoor
open Go.RowKit Go.Sub
theorem r2vers_ok (x : Su) (j : Int) (y : Su) (k : Int) (w : World) (h4 : wi4 1152921504606846976 x.a x.b y.a y.b = true) (h2 : wi2 1073741824 j k = true) :
  Calls Tryz.prog 89 #[.agg #[.int .i64 x.a, .int .i64 x.b], .int .i64 j, .agg #[.int .i64 y.a, .int .i64 y.b], .int .i64 k] w fun e w' => e = .returned (.tuple #[.int .i64 (versS x j y k), .int .i64 0]) ∧ Q w w' := by
 obtain ⟨a1, a2, a3, a4, b1, b2, b3, b4⟩ := (wi4_iff _ _ _ _ _).1 h4
 obtain ⟨j0, j1, k0, k1⟩ := (wi2_iff _ _ _).1 h2
 have hx : wi2 1152921504606846976 x.a x.b = true := (wi2_iff _ _ _).2 (by omega)
 have hy : wi2 1152921504606846976 y.a y.b = true := (wi2_iff _ _ _).2 (by omega)
 have HJ : Hid ((decide (-1073741824 ≤ j) && decide (j ≤ 1073741824)) = true) := hh (by simp; omega)
 have HK : Hid ((decide (-1073741824 ≤ k) && decide (k ≤ 1073741824)) = true) := hh (by simp; omega)
 have Ca := hh (fun w => r2comb_z x.a j y.a k w (by omega) (by omega) (by omega) (by omega) (by omega) (by omega) (by omega) (by omega))
 have Cb := hh (fun w => r2comb_z x.b j y.b k w (by omega) (by omega) (by omega) (by omega) (by omega) (by omega) (by omega) (by omega))
 have q1 := bd_mul a1 a2 j0 j1
 have q2 := bd_mul a3 a4 j0 j1
 have q3 := bd_mul b1 b2 k0 k1
 have q4 := bd_mul b3 b4 k0 k1
 have HV : Hid (versS x j y k = sgnS ⟨x.a * j - y.a * k, x.b * j - y.b * k⟩) := hh (by unfold versS; rw [Int.mul_comm j, Int.mul_comm k, Int.mul_comm j, Int.mul_comm k])
 have HQ : Hid ((-1267650600228229401496703205376 ≤ x.a * j - y.a * k ∧ x.a * j - y.a * k ≤ 1267650600228229401496703205376) ∧ (-1267650600228229401496703205376 ≤ x.b * j - y.b * k ∧ x.b * j - y.b * k ≤ 1267650600228229401496703205376)) := hh (by omega)
 rw [HV.o]
 clear q1 q2 q3 q4 h4 h2 a1 a2 a3 a4 b1 b2 b3 b4 j0 j1 k0 k1
 go_enter Tryz.func89, Tryz.ntmps89
 go_wp2_with (first | (go_at_call 116; refine (r2within_any _ _ 1152921504606846976 _ (by omega) (by omega)).q ?_; intro kj) | (go_at_call 117; refine (r2between_any _ _ _ _).p ?_; first | rw [HJ.o] | rw [HK.o]))
 go_region_held3 (fun w' => w'.cell? ⟨w.heap.size, 0, none⟩ = some (.int .i64 x.a) ∧ w'.cell? ⟨w.heap.size, 1, none⟩ = some (.int .i64 x.b) ∧ w'.cell? ⟨w.heap.size + 1, 0, none⟩ = some (.int .i64 y.a) ∧ w'.cell? ⟨w.heap.size + 1, 1, none⟩ = some (.int .i64 y.b)) (simp [go_sem])
  (first | (go_at_call 119; first | ((with_reducible refine (Ca.o _).mono ?_); rintro e w' ⟨A1, n1, c1, k1, rfl, rfl, hr1, hf1⟩; have HR1 := hh hr1; clear hr1 hf1; obtain ⟨nb1, hnb1⟩ : ∃ nb, decide (x.a * j - y.a * k < 0) = nb := ⟨_, rfl⟩; rw [hnb1]; have HB1 := hh hnb1; clear hnb1) | ((with_reducible refine (Cb.o _).mono ?_); rintro e w' ⟨A2, n2, c2, k2, rfl, rfl, hr2, hf2⟩; have HR2 := hh hr2; clear hr2 hf2; obtain ⟨nb2, hnb2⟩ : ∃ nb, decide (x.b * j - y.b * k < 0) = nb := ⟨_, rfl⟩; rw [hnb2]; have HB2 := hh hnb2; clear hnb2)) | (go_at_call 118; refine (r2sign_z _ _ _ _ (x.a * j - y.a * k) _ _ _ _ (x.b * j - y.b * k) _ HB1.o.symm (HR1.o.q Q.i) HB2.o.symm (HR2.o.q Q.i) HQ.o.1.1 HQ.o.1.2 HQ.o.2.1 HQ.o.2.2).q ?_; intro kj))
 rename_i hHeld
 clear hHeld
 go_wp2
 go_ret2
 refine ⟨rfl, ?_⟩
 exact Q.i
end Go.Proofs.YtcjflafjmdfanaaGreatDoor
/- What Above and Distorted of package phasor and of its reference return for any argument. -/
namespace Go.Proofs.YtcjflafjmdfanaaGreatDoor
open Go.RowKit Go.Sub
def abvR (c : Cy) (p : Int) : Bool × Int := if wiB c 16777216 && decide (0 ≤ p) && decide (p ≤ 16383) then (aboveB c p, 0) else (false, 1)
theorem rnorm_c (x : Cy) (w : World) (hx : x.In 268435456) :
  Calls Tryz.prog 87 #[.agg #[.int .i64 x.a, .int .i64 x.b, .int .i64 x.c, .int .i64 x.d]] w fun e w' => e = .returned (.tuple #[.agg #[.int .i64 x.norm.a, .int .i64 x.norm.b], .int .i64 0]) ∧ Q w w' := by
 have h := rnorm_any x.a x.b x.c x.d w
 rw [show normR ⟨x.a, x.b, x.c, x.d⟩ = _ from normR_ok hx] at h
 exact h
theorem r2cmp_c (x y : Su) (w : World) (hx : x.In 1000000000000000000) (hy : y.In 1000000000000000000) :
  Calls Tryz.prog 113 #[.agg #[.int .i64 x.a, .int .i64 x.b], .agg #[.int .i64 y.a, .int .i64 y.b]] w fun e w' => e = .returned (.tuple #[.int .i64 (sgnS (x.sub y)), .int .i64 0]) ∧ Q w w' := by
 have h := r2cmp_any x.a x.b y.a y.b w
 have e : scmpR x y = (sgnS (x.sub y), 0) := by
  unfold Su.In at hx hy
  have : wi4 1152921504606846976 x.a x.b y.a y.b = true := (wi4_iff _ _ _ _ _).2 (by omega)
  simp [scmpR, this]
 rw [show scmpR ⟨x.a, x.b⟩ ⟨y.a, y.b⟩ = _ from e] at h
 exact h
theorem harm_norm {x : Nat → Int} (h : Int) (hx : WinOK x 16383) : (harm x h).In 400000 ∧ (harm x h).norm.In 1000000000000 := by
 have h1 := (harm_in h hx).mono (show 24 * 16383 ≤ (400000 : Int) by decide)
 exact ⟨h1, (norm_in h1).mono (by decide)⟩
def dstB (x : Nat → Int) (p : Int) : Bool := decide (0 < versS (harm x 2).norm 10000 (harm x 1).norm (p * p))
theorem phsize_c (h : Int) (b o c : Nat) (x : Nat → Int) (w : World) (hr : RootsOK w) (hw : Win w b o x) (hx : WinOK x 16383) :
  Calls Tryz.prog 106 #[.slice (some ⟨b, o, none⟩) 12 c, .int .i64 h] w fun e w' => e = .returned (.tuple #[.agg #[.int .i64 (harm x h).norm.a, .int .i64 (harm x h).norm.b], .int .i64 0]) ∧ Q w w' := by
 have hn := (harm_norm h hx).1
 have HW := hh hw
 have HX := hh hx
 clear hw hx
 go_enter Tryz.func106, Tryz.ntmps106
 go_wp2_with (first | (go_at_call 68; refine (phharm_c h _ _ _ x _ (hr.q Q.i) (HW.o.q Q.i) HX.o).q ?_; intro kj) | (go_at_call 103; refine (norm_c (harm x h) _ (hn.mono (by decide))).q ?_; intro kj))
 refine bodyPost_ret (v := .tuple #[.agg #[.int .i64 (harm x h).norm.a, .int .i64 (harm x h).norm.b], .int .i64 0]) (by simp [results, Tryz.results106, go_sem]) rfl ⟨rfl, ?_⟩
 exact Q.i
theorem phdist_c (b o c : Nat) (x : Nat → Int) (p : Int) (w : World) (hr : RootsOK w) (hw : Win w b o x) (hx : WinOK x 16383) (p0 : 0 ≤ p) (p1 : p ≤ 100) :
  Calls Tryz.prog 70 #[.slice (some ⟨b, o, none⟩) 12 c, .int .i64 p] w fun e w' => e = .returned (.tuple #[.bool (dstB x p), .int .i64 0]) ∧ Q w w' := by
 obtain ⟨m2, n2⟩ := harm_norm 2 hx
 obtain ⟨m1, n1⟩ := harm_norm 1 hx
 have hp := bd_mul (show -100 ≤ p by omega) p1 (show -100 ≤ p by omega) p1
 have hpp : 0 ≤ p * p := Int.mul_nonneg p0 p0
 have hs : VsSmall (harm x 2).norm 10000 (harm x 1).norm (p * p) := VsSmall.of (l := 1000000000000) (m := 10000) n2 n1 (by decide) (by decide) (by omega) (by omega) (by decide)
 have h4 : wi4 1152921504606846976 (harm x 2).norm.a (harm x 2).norm.b (harm x 1).norm.a (harm x 1).norm.b = true := (wi4_iff _ _ _ _ _).2 (by unfold Su.In at n1 n2; omega)
 have h2 : wi2 1073741824 10000 (p * p) = true := (wi2_iff _ _ _).2 (by omega)
 have HW := hh hw
 have HX := hh hx
 have ck := chkE_ok hx
 have CK := hh (fun w' (hq : Q w w') => phcheck_any b o c x w' (HW.o.q hq))
 rw [ck] at CK
 have Z2 := hh (fun w' (hq : Q w w') => phsize_c 2 b o c x w' (hr.q hq) (HW.o.q hq) HX.o)
 have Z1 := hh (fun w' (hq : Q w w') => phsize_c 1 b o c x w' (hr.q hq) (HW.o.q hq) HX.o)
 have VS := hh (fun w => vers_c (harm x 2).norm 10000 (harm x 1).norm (p * p) w (n2.mono (by decide)) (n1.mono (by decide)) (by decide) (by decide) (by omega) (by omega) hs)
 obtain ⟨q1, q2⟩ := hp
 simp only [Int.reduceMul, Int.reduceNeg] at q1 q2
 unfold dstB
 obtain ⟨A, hA⟩ : ∃ A, A = (harm x 2).norm := ⟨_, rfl⟩
 obtain ⟨B, hB⟩ : ∃ B, B = (harm x 1).norm := ⟨_, rfl⟩
 clear hw hx ck hs h4 h2
 go_enter Tryz.func70, Tryz.ntmps70
 go_wp2_with (first | (go_at_call 33; refine (CK.o _ Q.i).p ?_) | (go_at_call 106; first | ((with_reducible refine (Z2.o _ Q.i).q ?_); intro kj) | ((with_reducible refine (Z1.o _ Q.i).q ?_); intro kj)) | (go_at_call 105; (with_reducible refine (VS.o _).q ?_); intro kj))
 go_ret2
 refine ⟨rfl, ?_⟩
 exact Q.i
theorem rdist_c (b o c : Nat) (x : Nat → Int) (p : Int) (w : World) (hw : Win w b o x) (hx : WinOK x 16383) (p0 : 0 ≤ p) (p1 : p ≤ 100) :
  Calls Tryz.prog 53 #[.slice (some ⟨b, o, none⟩) 12 c, .int .i64 p] w fun e w' => e = .returned (.tuple #[.bool (dstB x p), .int .i64 0]) ∧ Q w w' := by
 obtain ⟨m2, n2⟩ := harm_norm 2 hx
 obtain ⟨m1, n1⟩ := harm_norm 1 hx
 have hp := bd_mul (show -100 ≤ p by omega) p1 (show -100 ≤ p by omega) p1
 have hpp : 0 ≤ p * p := Int.mul_nonneg p0 p0
 have hs : VsSmall (harm x 2).norm 10000 (harm x 1).norm (p * p) := VsSmall.of (l := 1000000000000) (m := 10000) n2 n1 (by decide) (by decide) (by omega) (by omega) (by decide)
 have h4 : wi4 1152921504606846976 (harm x 2).norm.a (harm x 2).norm.b (harm x 1).norm.a (harm x 1).norm.b = true := (wi4_iff _ _ _ _ _).2 (by unfold Su.In at n1 n2; omega)
 have h2 : wi2 1073741824 10000 (p * p) = true := (wi2_iff _ _ _).2 (by omega)
 have HW := hh hw
 have HX := hh hx
 have ck := chkE_ok hx
 have CK := hh (fun w' (hq : Q w w') => rcheck_any b o c x w' (HW.o.q hq))
 rw [ck] at CK
 have Z2 := hh (fun w' (hq : Q w w') => rharm0_c 2 b o c x w' (HW.o.q hq) HX.o)
 have Z1 := hh (fun w' (hq : Q w w') => rharm0_c 1 b o c x w' (HW.o.q hq) HX.o)
 have N2 := hh (fun w => rnorm_c (harm x 2) w (m2.mono (by decide)))
 have N1 := hh (fun w => rnorm_c (harm x 1) w (m1.mono (by decide)))
 have VS := hh (fun w => r2vers_ok (harm x 2).norm 10000 (harm x 1).norm (p * p) w h4 h2)
 obtain ⟨q1, q2⟩ := hp
 simp only [Int.reduceMul, Int.reduceNeg] at q1 q2
 unfold dstB
 obtain ⟨A, hA⟩ : ∃ A, A = (harm x 2).norm := ⟨_, rfl⟩
 obtain ⟨B, hB⟩ : ∃ B, B = (harm x 1).norm := ⟨_, rfl⟩
 clear hw hx ck hs h4 h2
 go_enter Tryz.func53, Tryz.ntmps53
 go_wp2_with (first | (go_at_call 25; refine (CK.o _ Q.i).p ?_) | (go_at_call 88; first | ((with_reducible refine (Z2.o _ Q.i).q ?_); intro kj) | ((with_reducible refine (Z1.o _ Q.i).q ?_); intro kj)) | (go_at_call 87; first | ((with_reducible refine (N2.o _).q ?_); intro kj) | ((with_reducible refine (N1.o _).q ?_); intro kj)) | (go_at_call 89; (with_reducible refine (VS.o _).q ?_); intro kj))
 go_ret2
 refine ⟨rfl, ?_⟩
 exact Q.i
end Go.Proofs.YtcjflafjmdfanaaGreatDoor
/- Slices of whatever elements, as they lie in memory: the cells one behind the other. -/
namespace Go
open Go.RowKit
def RdV (w : World) (A : Option Addr) (n c size : Nat) (vs : List Value) : Prop :=
 vs.length = n * size ∧ n ≤ c ∧ (0 < n → ∃ g o, A = some ⟨g, o, none⟩ ∧ g < w.heap.size ∧ ∀ i u, vs[i]? = some u → w.cell? ⟨g, o + i, none⟩ = some u) ∧ (A = none → c = 0)
theorem RdV.q {w w' : World} {A : Option Addr} {n c size : Nat} {vs : List Value} (h : RdV w A n c size vs) (hq : Q w w') : RdV w' A n c size vs := by
 refine ⟨h.1, h.2.1, fun hn => ?_, h.2.2.2⟩
 obtain ⟨g, o, rfl, hg, hc⟩ := h.2.2.1 hn
 have hb := hq.below
 exact ⟨g, o, rfl, Nat.lt_of_lt_of_le hg hb.size, fun i u hi => (hb.cell (p := ⟨g, o + i, none⟩) hg).trans (hc i u hi)⟩
theorem RdV.nil (w : World) (size : Nat) : RdV w none 0 0 size [] := ⟨by simp, Nat.zero_le _, fun h => absurd h (by omega), fun _ => rfl⟩
theorem RdV.nil' (w : World) (size : Nat) (ad : Addr) (c : Nat) : RdV w (some ad) 0 c size [] := ⟨by simp, Nat.zero_le _, fun h => absurd h (by omega), fun h => by cases h⟩
theorem RdV.at_ {w : World} {A : Option Addr} {n c size : Nat} {vs : List Value} (h : RdV w A n c size vs) (hn : 0 < n) : ∃ g o, A = some ⟨g, o, none⟩ ∧ Old g w ∧ Hid (∀ i u, vs[i]? = some u → w.cell? ⟨g, o + i, none⟩ = some u) := by
 obtain ⟨g, o, e, hg, hc⟩ := h.2.2.1 hn
 exact ⟨g, o, e, ⟨hg⟩, hh hc⟩
theorem RdV.part {w : World} {g o n c size : Nat} {vs : List Value} (h : RdV w (some ⟨g, o, none⟩) n c size vs) (lo hi c' : Nat) (h1 : lo ≤ hi) (h2 : hi ≤ n) (h3 : hi - lo ≤ c') :
  RdV w (some ⟨g, o + lo * size, none⟩) (hi - lo) c' size ((vs.drop (lo * size)).take ((hi - lo) * size)) := by
 have hmul : lo * size + (hi - lo) * size ≤ n * size := by rw [← Nat.add_mul]; exact Nat.mul_le_mul_right _ (by omega)
 refine ⟨by rw [List.length_take, List.length_drop, h.1]; omega, h3, fun hn => ?_, fun e => by cases e⟩
 obtain ⟨g', o', e, hg, hc⟩ := h.2.2.1 (by omega)
 cases e
 refine ⟨g, _, rfl, hg, fun i u hi => ?_⟩
 rw [List.getElem?_take] at hi
 split at hi
 ·rw [List.getElem?_drop] at hi
  have := hc _ u hi
  rwa [show o + lo * size + i = o + (lo * size + i) by omega]
 cases hi
theorem RdV.swap {W W' : World} {k : Jk} {A : Option Addr} {n c size : Nat} {vs : List Value} (hs : W.heap.size = W'.heap.size) (h : RdV (W.jk k) A n c size vs) (hf : ∀ ad, A = some ad → W.heap.size ≤ ad.block) : RdV (W'.jk k) A n c size vs := by
 refine ⟨h.1, h.2.1, fun hn => ?_, h.2.2.2⟩
 obtain ⟨g, o, rfl, hg, hc⟩ := h.2.2.1 hn
 have hge : W.heap.size ≤ g := hf ⟨g, o, .none⟩ rfl
 refine ⟨g, o, rfl, by rw [World.size_jk] at *; omega, fun i u hi => ?_⟩
 rw [← hc i u hi]
 refine World.cell?_of_block (w := W.jk k) (a := ⟨g, o + i, .none⟩) ?_
 show (W'.jk k).heap[g]? = (W.jk k).heap[g]?
 simp only [World.jk, Array.getElem?_append]
 rw [if_neg (by omega), if_neg (by omega), hs]
theorem rdv_of_own {w : World} {base size n : Nat} {e : TypeId} {v : Value} {vs : List Value} (h : w.ownsRow base e size v n vs) (hl : vs.length = n * size) : ∃ A c, v = .slice A n c ∧ RdV w A n c size vs := by
 have h' := h
 rcases h.2 with ⟨rfl, h0⟩ | ⟨g, cap, cur, rfl, hb, hg, hc, _, hcs, htake⟩
 ·obtain rfl : n = 0 := h0
  have : vs = [] := List.eq_nil_of_length_eq_zero (by rw [hl]; simp)
  subst this
  exact ⟨none, 0, rfl, RdV.nil w size⟩
 refine ⟨_, cap, rfl, hl, hc, fun _ => ⟨g, 0, rfl, (h'.lt g rfl).2, fun i u hi => ?_⟩, fun e => by cases e⟩
 have := h'.cells (g := g) rfl i u hi
 have e : (⟨g, 0, none⟩ : Addr).add i = ⟨g, 0 + i, none⟩ := by unfold Addr.add; split <;> simp_all
 rw [e] at this
 exact this
end Go
/- What the small functions return that the laws of the sample streams reach: within, between, Count, Check and has of a ring, take. -/
namespace Go.Sub
end Go.Sub
namespace Go.Proofs.YtcjflafjmdfanaaGreatDoor
open Go.RowKit Go.Sub
end Go.Proofs.YtcjflafjmdfanaaGreatDoor
/- What Check of a frame returns for a frame in its ranges; pair. -/
namespace Go.Sub
def InB (lo hi : Int) (l : List Int) : Prop := ∀ k, k < l.length → lo ≤ l.getD k 0 ∧ l.getD k 0 ≤ hi
end Go.Sub
namespace Go
open Go.RowKit
def RdN (w : World) (A : Option Addr) (n c : Nat) (k : IntKind) (l : List Int) : Prop := RdV w A n c 1 (l.map (Value.int k))
theorem RdN.q {w w' : World} {A : Option Addr} {n c : Nat} {k : IntKind} {l : List Int} (h : RdN w A n c k l) (hq : Q w w') : RdN w' A n c k l := RdV.q h hq
theorem RdN.len {w : World} {A : Option Addr} {n c : Nat} {k : IntKind} {l : List Int} (h : RdN w A n c k l) : l.length = n := by
 have := h.1
 simpa using this
theorem RdN.at_ {w : World} {A : Option Addr} {n c : Nat} {k : IntKind} {l : List Int} (h : RdN w A n c k l) (hn : 0 < n) : ∃ g o, A = some ⟨g, o, none⟩ ∧ Old g w ∧ Hid (∀ i, i < n → w.cell? ⟨g, o + i, none⟩ = some (Value.int k (l.getD i 0))) := by
 obtain ⟨g, o, e, ho, hc⟩ := RdV.at_ h hn
 refine ⟨g, o, e, ho, hh fun i hi => hc.o i _ ?_⟩
 have hl := h.len
 rw [List.getElem?_map, List.getD_eq_getElem?_getD, List.getElem?_eq_getElem (by omega)]
 rfl
end Go
namespace Go.Proofs.YtcjflafjmdfanaaGreatDoor
open Go.RowKit Go.Sub
end Go.Proofs.YtcjflafjmdfanaaGreatDoor
/- Rows of numbers of a kind as cells, and copy into a row that lies ahead of other new blocks. -/
namespace Go.Sub
def cellsN (k : IntKind) (o : List Int) : Array Value := (o.map (Value.int k)).toArray
end Go.Sub
namespace Go
open Go.RowKit Go.Sub
theorem addr_add0 (b o j : Nat) : (⟨b, o, none⟩ : Addr).add j = ⟨b, o + j, none⟩ := by unfold Addr.add; split <;> simp_all
theorem one_ints (k : IntKind) (l : List Int) : ∀ v ∈ l.map (Value.int k), v.oneCell' = true := by
 intro v hv
 obtain ⟨x, _, rfl⟩ := List.mem_map.1 hv
 rfl
theorem World.jk_alloc (w : World) (kx : Jk) (o : Obj) : (w.jk kx).alloc o = w.jk ⟨kx.os.push o, kx.n⟩ := by
 unfold World.jk World.alloc
 simp
def splice (cur : List Int) (lo : Nat) (cs : List Int) : List Int := cur.take lo ++ cs ++ cur.drop (lo + cs.length)
end Go
namespace Go.Proofs.YtcjflafjmdfanaaGreatDoor
open Go.RowKit Go.Sub
end Go.Proofs.YtcjflafjmdfanaaGreatDoor
/- Bytes put together: two bytes as a number, a number of 16 bits with a sign. Plain. -/
namespace Go.Sub
open Go Go.RowKit
end Go.Sub
namespace Go
open Go.RowKit Go.Sub
def HB (w : World) (b : Nat) (cs : Array Value) (t : TypeId) : Prop := w.heap[b]? = some (.cells cs t)
theorem HB.lt {w : World} {b : Nat} {cs : Array Value} {t : TypeId} (h : HB w b cs t) : b < w.heap.size := (Array.getElem?_eq_some_iff.1 h).1
theorem HB.old {w : World} {b : Nat} {cs : Array Value} {t : TypeId} (h : HB w b cs t) : Old b w := ⟨h.lt⟩
theorem HB.cell {w : World} {b : Nat} {cs : Array Value} {t : TypeId} (h : HB w b cs t) (i : Nat) : w.cell? ⟨b, i, none⟩ = cs[i]? := cell_of_row _ _ _ cs _ (0, 0) h
theorem HB.soft {w : World} {b : Nat} {cs : Array Value} {t : TypeId} (h : HB w b cs t) (i : Nat) : w.frozen? ⟨b, i, none⟩ = false := by
 have h' : w.heap[b]? = some (.cells cs t) := h
 simp [World.frozen?, h']
theorem HB.q {w w' : World} {b : Nat} {cs : Array Value} {t : TypeId} (h : HB w b cs t) (hq : Q w w') : HB w' b cs t := (hq.below.block b h.lt).trans h
theorem HB.set {w : World} {b : Nat} {cs : Array Value} {t : TypeId} (h : HB w b cs t) (i : Nat) (v : Value) : HB (w.setCell ⟨b, i, none⟩ v) b (cs.setIfInBounds i v) t := by
 have h' : w.heap[b]? = some (.cells cs t) := h
 show (w.setCell ⟨b, i, none⟩ v).heap[b]? = _
 simp [World.setCell, Array.getElem?_modify, h']
theorem HB.other {w : World} {b c i : Nat} {v : Value} {cs : Array Value} {t : TypeId} (h : HB w c cs t) (hne : b ≠ c) : HB (w.setCell ⟨b, i, none⟩ v) c cs t := by
 have h' : w.heap[c]? = some (.cells cs t) := h
 show (w.setCell ⟨b, i, none⟩ v).heap[c]? = _
 simp [World.setCell, Array.getElem?_modify, h', hne]
theorem HB.new (w : World) (cs : Array Value) (t : TypeId) (b : Nat) (hb : b = w.heap.size) : HB (w.alloc (.cells cs t)) b cs t := by subst hb; exact heap_alloc_new w _
theorem HB.jk {w : World} {b : Nat} {cs : Array Value} {t : TypeId} (h : HB w b cs t) (k : Jk) : HB (w.jk k) b cs t := (World.block_jk k b h.lt).trans h
theorem HB.alloc {w : World} {b : Nat} {cs : Array Value} {t : TypeId} (h : HB w b cs t) (o : Obj) : HB (w.alloc o) b cs t := h.q (.alloc (.refl _) _)
theorem HB.drew {w : World} {b : Nat} {cs : Array Value} {t : TypeId} (h : HB w b cs t) : HB w.drew b cs t := h
theorem wp_world {P : Program} {c : Code} {R : Exit → Act → World → Prop} {a : Act} {w : World} (h : ∀ B, B = w → Code.wp P c R a B) : Code.wp P c R a w := h w rfl
end Go
