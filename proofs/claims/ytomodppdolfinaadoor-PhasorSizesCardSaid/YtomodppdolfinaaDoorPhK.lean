
/- What Check and Back of package phasor return for any window and any harmonics. -/
import Derived.Test.YtomodppdolfinaaDoorPhB
import Derived.Test.YtomodppdolfinaaDoorPhLaws
import Derived.Test.YtomodppdolfinaaDoorCmp
namespace Go.Sub
/-- The error of a window of twelve numbers. -/
def chkE (x : Nat → Int) : Int := if (List.range 12).all (fun k => !brkB 16383 (x k)) then 0 else 2
theorem chkE_bad {x : Nat → Int} {k : Nat} (hk : k < 12) (h : brkB 16383 (x k) = true) : chkE x = 2 := by
  unfold chkE
  rw [if_neg]
  intro h1
  have := List.all_eq_true.1 h1 k (List.mem_range.2 hk)
  rw [h] at this
  cases this
theorem chkE_good {x : Nat → Int} (h : ∀ k, k < 12 → brkB 16383 (x k) = false) : chkE x = 0 := by
  unfold chkE
  rw [if_pos]
  apply List.all_eq_true.2
  intro k hk
  rw [h k (List.mem_range.1 hk)]
  rfl
/-- What the harmonics give at instant k, times 12. -/
def bk (c : Nat → Cy) (k : Nat) : Cy := sumC (fun h => (c h).turn ((h : Int) * k)) 12
def bkOK (c : Nat → Cy) (k : Nat) : Bool := Cy.eqB (bk c k) ⟨(bk c k).a, 0, 0, 0⟩ && (bk c k).a.tmod 12 == 0
def bkX (c : Nat → Cy) (k : Nat) : Int := (bk c k).a.tdiv 12
def backE (c : Nat → Cy) : Int :=
  if (List.range 12).all (fun h => wiB (c h) 1099511627776) then if (List.range 12).all (bkOK c) then chkE (bkX c) else 16 else 1
theorem bk_in {c : Nat → Cy} (h : ∀ j, j < 12 → wiB (c j) 1099511627776 = true) (k : Nat) : (bk c k).In 100000000000000 :=
  (sumC_in 12 fun j hj => Go.Proofs.YtomodppdolfinaaDoor.turn_in _ (wiB_in (h j hj))).mono (by decide)
end Go.Sub
namespace Go.Proofs.YtomodppdolfinaaDoor
open Go.RowKit Go.Sub

set_option maxHeartbeats 1000000 in
theorem phcheck_any (b o c : Nat) (x : Nat → Int) (w : World) (hw : Win w b o x) :
    Calls Tryd.prog 42 #[.slice (some ⟨b, o, none⟩) 12 c] w fun e w' => e = .returned (.int .i64 (chkE x)) ∧ w = w' := by
  go_enter Tryd.func42, Tryd.ntmps42
  go_wp2
  go_loop [10] (fun i => ∃ k : Nat, k ≤ 12 ∧ i = .int .i64 k ∧ ∀ j, j < k → brkB 16383 (x j) = false) (fun i => 12 - (intOf i).toNat)
  case atStart => exact ⟨0, by omega, rfl, fun j hj => absurd hj (Nat.not_lt_zero j)⟩
  case round =>
    obtain ⟨k, hk, rfl, hin⟩ := hrel
    have HI := Lib.hid hin
    clear hin
    by_cases hlt : k < 12
    · have hc := hw k hlt
      clear hw
      by_cases h1 : x k < -16383
      · have E := Lib.hid (chkE_bad (x := x) hlt (by simp [brkB, h1]))
        go_wp2
        go_ret
        exact ⟨by rw [E.out]; rfl, rfl⟩
      · by_cases h2 : 16383 < x k
        · have E := Lib.hid (chkE_bad (x := x) hlt (by simp [brkB, h2]))
          go_wp2
          go_ret
          exact ⟨by rw [E.out]; rfl, rfl⟩
        · go_wp2
          go_round
          case rel =>
            refine ⟨k + 1, by omega, by go_num, fun j hj => ?_⟩
            rcases Nat.lt_or_ge j k with h | h
            · exact HI.out j h
            · obtain rfl : j = k := by omega
              simp [brkB]
              omega
          case measure => simp [intOf]; omega
    · obtain rfl : k = 12 := by omega
      have E := Lib.hid (chkE_good (x := x) HI.out)
      clear hw
      go_wp2
      go_ret
      exact ⟨by rw [E.out]; rfl, rfl⟩

theorem zero12 (x : Nat → Int) : #[.int .i64 0, .int .i64 0, .int .i64 0, .int .i64 0, .int .i64 0, .int .i64 0, .int .i64 0, .int .i64 0, .int .i64 0, .int .i64 0, .int .i64 0, .int .i64 0] = cellsI (fun j => if j < 0 then x j else 0) 12 := rfl
@[go_sem] theorem make12 (w : World) : (Instr.makeSlice 35 (.int .i64 12) (.int .i64 12)).run Tryd.prog w = .ok (.slice (some ⟨w.heap.size, 0, none⟩) 12 12) (w.alloc (.cells #[.int .i64 0, .int .i64 0, .int .i64 0, .int .i64 0, .int .i64 0, .int .i64 0, .int .i64 0, .int .i64 0, .int .i64 0, .int .i64 0, .int .i64 0, .int .i64 0] 3)) := by kernel_rfl
/-- Back's result: a window, or none and an error. -/
def RetBack (w : World) (c : Nat → Cy) (e : Ending) (w' : World) : Prop :=
  Q w w' ∧ ((backE c = 0 ∧ ∃ g cp, e = .returned (.tuple #[.slice (some ⟨g, 0, none⟩) 12 cp, .int .i64 0]) ∧ Win w' g 0 (bkX c)) ∨ (backE c ≠ 0 ∧ e = .returned (.tuple #[.slice none 0 0, .int .i64 (backE c)])))
def AllIn (c : Nat → Cy) (k : Nat) : Prop := ∀ j, j < k → wiB (c j) 1099511627776 = true
def AllOK (c : Nat → Cy) (k : Nat) : Prop := ∀ j, j < k → bkOK c j = true
theorem backE_1 {c : Nat → Cy} {k : Nat} (hk : k < 12) (h : wiB (c k) 1099511627776 = false) : backE c = 1 := by
  unfold backE
  rw [if_neg]
  intro h1
  have := List.all_eq_true.1 h1 k (List.mem_range.2 hk)
  rw [h] at this
  cases this
theorem backE_16 {c : Nat → Cy} {k : Nat} (hin : AllIn c 12) (hk : k < 12) (h : bkOK c k = false) : backE c = 16 := by
  unfold backE
  rw [if_pos (List.all_eq_true.2 fun j hj => hin j (List.mem_range.1 hj)), if_neg]
  intro h1
  have := List.all_eq_true.1 h1 k (List.mem_range.2 hk)
  rw [h] at this
  cases this
theorem backE_ok {c : Nat → Cy} (hin : AllIn c 12) (h : AllOK c 12) : backE c = chkE (bkX c) := by
  unfold backE
  rw [if_pos (List.all_eq_true.2 fun j hj => hin j (List.mem_range.1 hj)), if_pos (List.all_eq_true.2 fun j hj => h j (List.mem_range.1 hj))]
theorem cells48_get (y : Nat → Cy) (k : Nat) (hk : k < 12) : (cells48 y 12)[k * 4]? = some (.int .i64 (y k).a) ∧ (cells48 y 12)[k * 4 + 1]? = some (.int .i64 (y k).b) ∧ (cells48 y 12)[k * 4 + 2]? = some (.int .i64 (y k).c) ∧ (cells48 y 12)[k * 4 + 3]? = some (.int .i64 (y k).d) := by
  have hk' : k = 0 ∨ k = 1 ∨ k = 2 ∨ k = 3 ∨ k = 4 ∨ k = 5 ∨ k = 6 ∨ k = 7 ∨ k = 8 ∨ k = 9 ∨ k = 10 ∨ k = 11 := by omega
  rcases hk' with rfl | rfl | rfl | rfl | rfl | rfl | rfl | rfl | rfl | rfl | rfl | rfl <;> exact ⟨rfl, rfl, rfl, rfl⟩
theorem cellsI_set (x : Nat → Int) (k n : Nat) (hk : k < n) : (cellsI (fun j => if j < k then x j else 0) n).setIfInBounds k (.int .i64 (x k)) = cellsI (fun j => if j < k + 1 then x j else 0) n := by
  apply Array.ext_getElem?
  intro i
  rw [Array.getElem?_setIfInBounds, cellsI_size]
  by_cases hi : k = i
  · subst hi
    rw [if_pos rfl, if_pos hk, cellsI_at _ _ _ hk]
    simp
  · rw [if_neg hi]
    by_cases hn : i < n
    · rw [cellsI_at _ _ _ hn, cellsI_at _ _ _ hn]
      have : i < k ↔ i < k + 1 := by omega
      simp [this]
    · rw [Array.getElem?_eq_none (by rw [cellsI_size]; omega), Array.getElem?_eq_none (by rw [cellsI_size]; omega)]
end Go.Proofs.YtomodppdolfinaaDoor
