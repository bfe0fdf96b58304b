
/- What times and Scale of package surd return. -/
import Derived.Test.YtcjflafjmdfanaaGreatDoorBq09
import Derived.Test.YtcjflafjmdfanaaGreatDoorBq01
import Derived.Test.YtcjflafjmdfanaaGreatDoorRows
import Derived.Laws.MathBits
set_option linter.unusedSimpArgs false
set_option linter.unusedVariables false
/- What Mul, Root and Turn of package cyclo return. -/
namespace Go.Proofs.YtcjflafjmdfanaaGreatDoor
open Go.RowKit Go.Sub

/-- The table of package cyclo lies in its place. -/
def rootTab : List Int := [1, 0, 0, 0, 0, 1, 0, 0, 0, 0, 1, 0, 0, 0, 0, 1, -1, 0, 1, 0, 0, -1, 0, 1]
def RootsOK (w : World) : Prop := 0 < w.heap.size ∧ ∀ i, i < 24 → w.cell? ⟨0, i, none⟩ = some (.int .i64 (rootTab.getD i 0))
theorem RootsOK.alloc {w : World} (h : RootsOK w) (o : Obj) : RootsOK (w.alloc o) :=
  ⟨Nat.lt_of_lt_of_le h.1 (by simp), fun i hi => by rw [World.cell?_alloc_past o _ i h.1]; exact h.2 i hi⟩
theorem RootsOK.jk {w : World} (h : RootsOK w) (k : Jk) : RootsOK (w.jk k) :=
  ⟨Nat.lt_of_lt_of_le h.1 (by rw [World.size_jk]; omega), fun i hi => by rw [World.cell?_jk_lt k _ i h.1]; exact h.2 i hi⟩
theorem RootsOK.drew {w : World} (h : RootsOK w) : RootsOK w.drew := h
theorem RootsOK.q {w w' : World} (h : RootsOK w) (hq : Q w w') : RootsOK w' := by
  obtain ⟨k, rfl⟩ := hq
  exact h.jk k

set_option maxHeartbeats 400000 in
theorem root_0 (k : Int) (w : World) (hr : RootsOK w) (hk : k % 12 = 0) :
    Calls Tryz.prog 100 #[.int .i64 k] w fun e w' => e = .returned (.agg #[.int .i64 (1), .int .i64 (0), .int .i64 (0), .int .i64 (0)]) ∧ Q w w' := by
  have t0 := hr.2 0 (by omega)
  have t1 := hr.2 1 (by omega)
  have t2 := hr.2 2 (by omega)
  have t3 := hr.2 3 (by omega)
  simp only [rootTab, List.getD_cons_zero, List.getD_cons_succ] at t0 t1 t2 t3
  haveI : Old 0 w := ⟨hr.1⟩
  clear hr
  go_enter Tryz.func100, Tryz.ntmps100
  go_wp2_with (first | (go_at_call 126; refine (dozen_any _ _).mono ?_; rintro e w' ⟨rfl, rfl⟩) | (go_at_call 127; refine (minus_any _ _ _ _ _ (by omega) (by omega) (by omega) (by omega) (by omega) (by omega) (by omega) (by omega)).mono ?_; rintro e w' ⟨rfl, kj, rfl⟩))
  refine bodyPost_ret (v := .agg #[.int .i64 (1), .int .i64 (0), .int .i64 (0), .int .i64 (0)]) (by simp [results, Tryz.results100, go_sem]) rfl ⟨rfl, ?_⟩
  repeat' (first | exact Q.refl _ | refine Q.alloc ?_ _ | refine Q.jk ?_ _ | refine Q.drew ?_)

set_option maxHeartbeats 400000 in
theorem root_1 (k : Int) (w : World) (hr : RootsOK w) (hk : k % 12 = 1) :
    Calls Tryz.prog 100 #[.int .i64 k] w fun e w' => e = .returned (.agg #[.int .i64 (0), .int .i64 (1), .int .i64 (0), .int .i64 (0)]) ∧ Q w w' := by
  have t0 := hr.2 4 (by omega)
  have t1 := hr.2 5 (by omega)
  have t2 := hr.2 6 (by omega)
  have t3 := hr.2 7 (by omega)
  simp only [rootTab, List.getD_cons_zero, List.getD_cons_succ] at t0 t1 t2 t3
  haveI : Old 0 w := ⟨hr.1⟩
  clear hr
  go_enter Tryz.func100, Tryz.ntmps100
  go_wp2_with (first | (go_at_call 126; refine (dozen_any _ _).mono ?_; rintro e w' ⟨rfl, rfl⟩) | (go_at_call 127; refine (minus_any _ _ _ _ _ (by omega) (by omega) (by omega) (by omega) (by omega) (by omega) (by omega) (by omega)).mono ?_; rintro e w' ⟨rfl, kj, rfl⟩))
  refine bodyPost_ret (v := .agg #[.int .i64 (0), .int .i64 (1), .int .i64 (0), .int .i64 (0)]) (by simp [results, Tryz.results100, go_sem]) rfl ⟨rfl, ?_⟩
  repeat' (first | exact Q.refl _ | refine Q.alloc ?_ _ | refine Q.jk ?_ _ | refine Q.drew ?_)

set_option maxHeartbeats 400000 in
theorem root_2 (k : Int) (w : World) (hr : RootsOK w) (hk : k % 12 = 2) :
    Calls Tryz.prog 100 #[.int .i64 k] w fun e w' => e = .returned (.agg #[.int .i64 (0), .int .i64 (0), .int .i64 (1), .int .i64 (0)]) ∧ Q w w' := by
  have t0 := hr.2 8 (by omega)
  have t1 := hr.2 9 (by omega)
  have t2 := hr.2 10 (by omega)
  have t3 := hr.2 11 (by omega)
  simp only [rootTab, List.getD_cons_zero, List.getD_cons_succ] at t0 t1 t2 t3
  haveI : Old 0 w := ⟨hr.1⟩
  clear hr
  go_enter Tryz.func100, Tryz.ntmps100
  go_wp2_with (first | (go_at_call 126; refine (dozen_any _ _).mono ?_; rintro e w' ⟨rfl, rfl⟩) | (go_at_call 127; refine (minus_any _ _ _ _ _ (by omega) (by omega) (by omega) (by omega) (by omega) (by omega) (by omega) (by omega)).mono ?_; rintro e w' ⟨rfl, kj, rfl⟩))
  refine bodyPost_ret (v := .agg #[.int .i64 (0), .int .i64 (0), .int .i64 (1), .int .i64 (0)]) (by simp [results, Tryz.results100, go_sem]) rfl ⟨rfl, ?_⟩
  repeat' (first | exact Q.refl _ | refine Q.alloc ?_ _ | refine Q.jk ?_ _ | refine Q.drew ?_)

set_option maxHeartbeats 400000 in
theorem root_3 (k : Int) (w : World) (hr : RootsOK w) (hk : k % 12 = 3) :
    Calls Tryz.prog 100 #[.int .i64 k] w fun e w' => e = .returned (.agg #[.int .i64 (0), .int .i64 (0), .int .i64 (0), .int .i64 (1)]) ∧ Q w w' := by
  have t0 := hr.2 12 (by omega)
  have t1 := hr.2 13 (by omega)
  have t2 := hr.2 14 (by omega)
  have t3 := hr.2 15 (by omega)
  simp only [rootTab, List.getD_cons_zero, List.getD_cons_succ] at t0 t1 t2 t3
  haveI : Old 0 w := ⟨hr.1⟩
  clear hr
  go_enter Tryz.func100, Tryz.ntmps100
  go_wp2_with (first | (go_at_call 126; refine (dozen_any _ _).mono ?_; rintro e w' ⟨rfl, rfl⟩) | (go_at_call 127; refine (minus_any _ _ _ _ _ (by omega) (by omega) (by omega) (by omega) (by omega) (by omega) (by omega) (by omega)).mono ?_; rintro e w' ⟨rfl, kj, rfl⟩))
  refine bodyPost_ret (v := .agg #[.int .i64 (0), .int .i64 (0), .int .i64 (0), .int .i64 (1)]) (by simp [results, Tryz.results100, go_sem]) rfl ⟨rfl, ?_⟩
  repeat' (first | exact Q.refl _ | refine Q.alloc ?_ _ | refine Q.jk ?_ _ | refine Q.drew ?_)

set_option maxHeartbeats 400000 in
theorem root_4 (k : Int) (w : World) (hr : RootsOK w) (hk : k % 12 = 4) :
    Calls Tryz.prog 100 #[.int .i64 k] w fun e w' => e = .returned (.agg #[.int .i64 (-1), .int .i64 (0), .int .i64 (1), .int .i64 (0)]) ∧ Q w w' := by
  have t0 := hr.2 16 (by omega)
  have t1 := hr.2 17 (by omega)
  have t2 := hr.2 18 (by omega)
  have t3 := hr.2 19 (by omega)
  simp only [rootTab, List.getD_cons_zero, List.getD_cons_succ] at t0 t1 t2 t3
  haveI : Old 0 w := ⟨hr.1⟩
  clear hr
  go_enter Tryz.func100, Tryz.ntmps100
  go_wp2_with (first | (go_at_call 126; refine (dozen_any _ _).mono ?_; rintro e w' ⟨rfl, rfl⟩) | (go_at_call 127; refine (minus_any _ _ _ _ _ (by omega) (by omega) (by omega) (by omega) (by omega) (by omega) (by omega) (by omega)).mono ?_; rintro e w' ⟨rfl, kj, rfl⟩))
  refine bodyPost_ret (v := .agg #[.int .i64 (-1), .int .i64 (0), .int .i64 (1), .int .i64 (0)]) (by simp [results, Tryz.results100, go_sem]) rfl ⟨rfl, ?_⟩
  repeat' (first | exact Q.refl _ | refine Q.alloc ?_ _ | refine Q.jk ?_ _ | refine Q.drew ?_)

set_option maxHeartbeats 400000 in
theorem root_5 (k : Int) (w : World) (hr : RootsOK w) (hk : k % 12 = 5) :
    Calls Tryz.prog 100 #[.int .i64 k] w fun e w' => e = .returned (.agg #[.int .i64 (0), .int .i64 (-1), .int .i64 (0), .int .i64 (1)]) ∧ Q w w' := by
  have t0 := hr.2 20 (by omega)
  have t1 := hr.2 21 (by omega)
  have t2 := hr.2 22 (by omega)
  have t3 := hr.2 23 (by omega)
  simp only [rootTab, List.getD_cons_zero, List.getD_cons_succ] at t0 t1 t2 t3
  haveI : Old 0 w := ⟨hr.1⟩
  clear hr
  go_enter Tryz.func100, Tryz.ntmps100
  go_wp2_with (first | (go_at_call 126; refine (dozen_any _ _).mono ?_; rintro e w' ⟨rfl, rfl⟩) | (go_at_call 127; refine (minus_any _ _ _ _ _ (by omega) (by omega) (by omega) (by omega) (by omega) (by omega) (by omega) (by omega)).mono ?_; rintro e w' ⟨rfl, kj, rfl⟩))
  refine bodyPost_ret (v := .agg #[.int .i64 (0), .int .i64 (-1), .int .i64 (0), .int .i64 (1)]) (by simp [results, Tryz.results100, go_sem]) rfl ⟨rfl, ?_⟩
  repeat' (first | exact Q.refl _ | refine Q.alloc ?_ _ | refine Q.jk ?_ _ | refine Q.drew ?_)

set_option maxHeartbeats 400000 in
theorem root_6 (k : Int) (w : World) (hr : RootsOK w) (hk : k % 12 = 6) :
    Calls Tryz.prog 100 #[.int .i64 k] w fun e w' => e = .returned (.agg #[.int .i64 (-1), .int .i64 (0), .int .i64 (0), .int .i64 (0)]) ∧ Q w w' := by
  have t0 := hr.2 0 (by omega)
  have t1 := hr.2 1 (by omega)
  have t2 := hr.2 2 (by omega)
  have t3 := hr.2 3 (by omega)
  simp only [rootTab, List.getD_cons_zero, List.getD_cons_succ] at t0 t1 t2 t3
  haveI : Old 0 w := ⟨hr.1⟩
  clear hr
  go_enter Tryz.func100, Tryz.ntmps100
  go_wp2_with (first | (go_at_call 126; refine (dozen_any _ _).mono ?_; rintro e w' ⟨rfl, rfl⟩) | (go_at_call 127; refine (minus_any _ _ _ _ _ (by omega) (by omega) (by omega) (by omega) (by omega) (by omega) (by omega) (by omega)).mono ?_; rintro e w' ⟨rfl, kj, rfl⟩))
  refine bodyPost_ret (v := .agg #[.int .i64 (-1), .int .i64 (0), .int .i64 (0), .int .i64 (0)]) (by simp [results, Tryz.results100, go_sem]) rfl ⟨rfl, ?_⟩
  repeat' (first | exact Q.refl _ | refine Q.alloc ?_ _ | refine Q.jk ?_ _ | refine Q.drew ?_)

set_option maxHeartbeats 400000 in
theorem root_7 (k : Int) (w : World) (hr : RootsOK w) (hk : k % 12 = 7) :
    Calls Tryz.prog 100 #[.int .i64 k] w fun e w' => e = .returned (.agg #[.int .i64 (0), .int .i64 (-1), .int .i64 (0), .int .i64 (0)]) ∧ Q w w' := by
  have t0 := hr.2 4 (by omega)
  have t1 := hr.2 5 (by omega)
  have t2 := hr.2 6 (by omega)
  have t3 := hr.2 7 (by omega)
  simp only [rootTab, List.getD_cons_zero, List.getD_cons_succ] at t0 t1 t2 t3
  haveI : Old 0 w := ⟨hr.1⟩
  clear hr
  go_enter Tryz.func100, Tryz.ntmps100
  go_wp2_with (first | (go_at_call 126; refine (dozen_any _ _).mono ?_; rintro e w' ⟨rfl, rfl⟩) | (go_at_call 127; refine (minus_any _ _ _ _ _ (by omega) (by omega) (by omega) (by omega) (by omega) (by omega) (by omega) (by omega)).mono ?_; rintro e w' ⟨rfl, kj, rfl⟩))
  refine bodyPost_ret (v := .agg #[.int .i64 (0), .int .i64 (-1), .int .i64 (0), .int .i64 (0)]) (by simp [results, Tryz.results100, go_sem]) rfl ⟨rfl, ?_⟩
  repeat' (first | exact Q.refl _ | refine Q.alloc ?_ _ | refine Q.jk ?_ _ | refine Q.drew ?_)

set_option maxHeartbeats 400000 in
theorem root_8 (k : Int) (w : World) (hr : RootsOK w) (hk : k % 12 = 8) :
    Calls Tryz.prog 100 #[.int .i64 k] w fun e w' => e = .returned (.agg #[.int .i64 (0), .int .i64 (0), .int .i64 (-1), .int .i64 (0)]) ∧ Q w w' := by
  have t0 := hr.2 8 (by omega)
  have t1 := hr.2 9 (by omega)
  have t2 := hr.2 10 (by omega)
  have t3 := hr.2 11 (by omega)
  simp only [rootTab, List.getD_cons_zero, List.getD_cons_succ] at t0 t1 t2 t3
  haveI : Old 0 w := ⟨hr.1⟩
  clear hr
  go_enter Tryz.func100, Tryz.ntmps100
  go_wp2_with (first | (go_at_call 126; refine (dozen_any _ _).mono ?_; rintro e w' ⟨rfl, rfl⟩) | (go_at_call 127; refine (minus_any _ _ _ _ _ (by omega) (by omega) (by omega) (by omega) (by omega) (by omega) (by omega) (by omega)).mono ?_; rintro e w' ⟨rfl, kj, rfl⟩))
  refine bodyPost_ret (v := .agg #[.int .i64 (0), .int .i64 (0), .int .i64 (-1), .int .i64 (0)]) (by simp [results, Tryz.results100, go_sem]) rfl ⟨rfl, ?_⟩
  repeat' (first | exact Q.refl _ | refine Q.alloc ?_ _ | refine Q.jk ?_ _ | refine Q.drew ?_)

set_option maxHeartbeats 400000 in
theorem root_9 (k : Int) (w : World) (hr : RootsOK w) (hk : k % 12 = 9) :
    Calls Tryz.prog 100 #[.int .i64 k] w fun e w' => e = .returned (.agg #[.int .i64 (0), .int .i64 (0), .int .i64 (0), .int .i64 (-1)]) ∧ Q w w' := by
  have t0 := hr.2 12 (by omega)
  have t1 := hr.2 13 (by omega)
  have t2 := hr.2 14 (by omega)
  have t3 := hr.2 15 (by omega)
  simp only [rootTab, List.getD_cons_zero, List.getD_cons_succ] at t0 t1 t2 t3
  haveI : Old 0 w := ⟨hr.1⟩
  clear hr
  go_enter Tryz.func100, Tryz.ntmps100
  go_wp2_with (first | (go_at_call 126; refine (dozen_any _ _).mono ?_; rintro e w' ⟨rfl, rfl⟩) | (go_at_call 127; refine (minus_any _ _ _ _ _ (by omega) (by omega) (by omega) (by omega) (by omega) (by omega) (by omega) (by omega)).mono ?_; rintro e w' ⟨rfl, kj, rfl⟩))
  refine bodyPost_ret (v := .agg #[.int .i64 (0), .int .i64 (0), .int .i64 (0), .int .i64 (-1)]) (by simp [results, Tryz.results100, go_sem]) rfl ⟨rfl, ?_⟩
  repeat' (first | exact Q.refl _ | refine Q.alloc ?_ _ | refine Q.jk ?_ _ | refine Q.drew ?_)

set_option maxHeartbeats 400000 in
theorem root_10 (k : Int) (w : World) (hr : RootsOK w) (hk : k % 12 = 10) :
    Calls Tryz.prog 100 #[.int .i64 k] w fun e w' => e = .returned (.agg #[.int .i64 (1), .int .i64 (0), .int .i64 (-1), .int .i64 (0)]) ∧ Q w w' := by
  have t0 := hr.2 16 (by omega)
  have t1 := hr.2 17 (by omega)
  have t2 := hr.2 18 (by omega)
  have t3 := hr.2 19 (by omega)
  simp only [rootTab, List.getD_cons_zero, List.getD_cons_succ] at t0 t1 t2 t3
  haveI : Old 0 w := ⟨hr.1⟩
  clear hr
  go_enter Tryz.func100, Tryz.ntmps100
  go_wp2_with (first | (go_at_call 126; refine (dozen_any _ _).mono ?_; rintro e w' ⟨rfl, rfl⟩) | (go_at_call 127; refine (minus_any _ _ _ _ _ (by omega) (by omega) (by omega) (by omega) (by omega) (by omega) (by omega) (by omega)).mono ?_; rintro e w' ⟨rfl, kj, rfl⟩))
  refine bodyPost_ret (v := .agg #[.int .i64 (1), .int .i64 (0), .int .i64 (-1), .int .i64 (0)]) (by simp [results, Tryz.results100, go_sem]) rfl ⟨rfl, ?_⟩
  repeat' (first | exact Q.refl _ | refine Q.alloc ?_ _ | refine Q.jk ?_ _ | refine Q.drew ?_)

set_option maxHeartbeats 400000 in
theorem root_11 (k : Int) (w : World) (hr : RootsOK w) (hk : k % 12 = 11) :
    Calls Tryz.prog 100 #[.int .i64 k] w fun e w' => e = .returned (.agg #[.int .i64 (0), .int .i64 (1), .int .i64 (0), .int .i64 (-1)]) ∧ Q w w' := by
  have t0 := hr.2 20 (by omega)
  have t1 := hr.2 21 (by omega)
  have t2 := hr.2 22 (by omega)
  have t3 := hr.2 23 (by omega)
  simp only [rootTab, List.getD_cons_zero, List.getD_cons_succ] at t0 t1 t2 t3
  haveI : Old 0 w := ⟨hr.1⟩
  clear hr
  go_enter Tryz.func100, Tryz.ntmps100
  go_wp2_with (first | (go_at_call 126; refine (dozen_any _ _).mono ?_; rintro e w' ⟨rfl, rfl⟩) | (go_at_call 127; refine (minus_any _ _ _ _ _ (by omega) (by omega) (by omega) (by omega) (by omega) (by omega) (by omega) (by omega)).mono ?_; rintro e w' ⟨rfl, kj, rfl⟩))
  refine bodyPost_ret (v := .agg #[.int .i64 (0), .int .i64 (1), .int .i64 (0), .int .i64 (-1)]) (by simp [results, Tryz.results100, go_sem]) rfl ⟨rfl, ?_⟩
  repeat' (first | exact Q.refl _ | refine Q.alloc ?_ _ | refine Q.jk ?_ _ | refine Q.drew ?_)

theorem root_any (k : Int) (w : World) (hr : RootsOK w) :
    Calls Tryz.prog 100 #[.int .i64 k] w fun e w' => e = .returned (.agg #[.int .i64 (rootC k).a, .int .i64 (rootC k).b, .int .i64 (rootC k).c, .int .i64 (rootC k).d]) ∧ Q w w' := by
  rcases dz_cases k with hk | hk | hk | hk | hk | hk | hk | hk | hk | hk | hk | hk
  · rw [show rootC k = (Cy.mk 1 0 0 0).tn 0 by simp [rootC, hk]]; exact root_0 k w hr hk
  · rw [show rootC k = (Cy.mk 1 0 0 0).tn 1 by simp [rootC, hk]]; exact root_1 k w hr hk
  · rw [show rootC k = (Cy.mk 1 0 0 0).tn 2 by simp [rootC, hk]]; exact root_2 k w hr hk
  · rw [show rootC k = (Cy.mk 1 0 0 0).tn 3 by simp [rootC, hk]]; exact root_3 k w hr hk
  · rw [show rootC k = (Cy.mk 1 0 0 0).tn 4 by simp [rootC, hk]]; exact root_4 k w hr hk
  · rw [show rootC k = (Cy.mk 1 0 0 0).tn 5 by simp [rootC, hk]]; exact root_5 k w hr hk
  · rw [show rootC k = (Cy.mk 1 0 0 0).tn 6 by simp [rootC, hk]]; exact root_6 k w hr hk
  · rw [show rootC k = (Cy.mk 1 0 0 0).tn 7 by simp [rootC, hk]]; exact root_7 k w hr hk
  · rw [show rootC k = (Cy.mk 1 0 0 0).tn 8 by simp [rootC, hk]]; exact root_8 k w hr hk
  · rw [show rootC k = (Cy.mk 1 0 0 0).tn 9 by simp [rootC, hk]]; exact root_9 k w hr hk
  · rw [show rootC k = (Cy.mk 1 0 0 0).tn 10 by simp [rootC, hk]]; exact root_10 k w hr hk
  · rw [show rootC k = (Cy.mk 1 0 0 0).tn 11 by simp [rootC, hk]]; exact root_11 k w hr hk

end Go.Proofs.YtcjflafjmdfanaaGreatDoor
/- What the helpers of the laws on the ring return: Small, mul, add, conj, known; and the contracts of package cyclo within the limits. -/
namespace Go.Proofs.YtcjflafjmdfanaaGreatDoor
open Go.RowKit Go.Sub

theorem addR_ok {x y : Cy} (hx : x.In 100000000000000000) (hy : y.In 100000000000000000) : addR x y = ⟨x.add y, 0⟩ := by
  have h1 := wiB_of (hx.mono (show (100000000000000000 : Int) ≤ 576460752303423488 by decide))
  have h2 := wiB_of (hy.mono (show (100000000000000000 : Int) ≤ 576460752303423488 by decide))
  have h3 : wiB (x.add y) 576460752303423488 = true := wiB_of (by unfold Cy.In at *; unfold Cy.add; dsimp only; omega)
  simp [addR, limR, h1, h2, h3]
theorem tn_in {x : Cy} {l : Int} (hx : x.In l) : ∀ n, n < 12 → (x.tn n).In (2 * l)
  | 0, _ | 1, _ | 2, _ | 3, _ | 4, _ | 5, _ | 6, _ | 7, _ | 8, _ | 9, _ | 10, _ | 11, _ => by
    unfold Cy.In at *
    simp only [Cy.tn]
    omega
  | _ + 12, h => by omega
theorem turn_in {x : Cy} {l : Int} (k : Int) (hx : x.In l) : (x.turn k).In (2 * l) := tn_in hx _ (by omega)
theorem normR_ok {x : Cy} (hx : x.In 268435456) : normR x = ⟨x.norm, 0⟩ := by
  simp [normR, wiB_of hx]

theorem add_c (x y : Cy) (w : World) (hx : x.In 100000000000000000) (hy : y.In 100000000000000000) : Calls Tryz.prog 121 #[.agg #[.int .i64 x.a, .int .i64 x.b, .int .i64 x.c, .int .i64 x.d], .agg #[.int .i64 y.a, .int .i64 y.b, .int .i64 y.c, .int .i64 y.d]] w fun e w' => e = .returned (.tuple #[.agg #[.int .i64 (x.add y).a, .int .i64 (x.add y).b, .int .i64 (x.add y).c, .int .i64 (x.add y).d], .int .i64 0]) ∧ Q w w' := by
  have h := add_any x.a x.b x.c x.d y.a y.b y.c y.d w
  rw [addR_ok hx hy] at h
  exact h
theorem norm_c (x : Cy) (w : World) (hx : x.In 268435456) : Calls Tryz.prog 103 #[.agg #[.int .i64 x.a, .int .i64 x.b, .int .i64 x.c, .int .i64 x.d]] w fun e w' => e = .returned (.tuple #[.agg #[.int .i64 (x.norm).a, .int .i64 (x.norm).b], .int .i64 0]) ∧ Q w w' := by
  have h := norm_any x.a x.b x.c x.d w
  rw [normR_ok hx] at h
  exact h

end Go.Proofs.YtcjflafjmdfanaaGreatDoor
/- The laws of the ring, in plain arithmetic. No program in sight. -/
namespace Go.Sub
theorem Cy.mul_comm (x y : Cy) : y.mul x = x.mul y := by
  apply Cy.ext' <;> simp only [Cy.mul] <;> grind
theorem Cy.mul_assoc (x y z : Cy) : x.mul (y.mul z) = (x.mul y).mul z := by
  apply Cy.ext' <;> simp only [Cy.mul] <;> grind
theorem Cy.mul_add (x y z : Cy) : x.mul (y.add z) = (x.mul y).add (x.mul z) := by
  apply Cy.ext' <;> simp only [Cy.mul, Cy.add] <;> grind
theorem Cy.add_in {x y : Cy} {l m : Int} (hx : x.In l) (hy : y.In m) : (x.add y).In (l + m) := by
  unfold Cy.In at *; unfold Cy.add; dsimp only; omega
theorem tmod_bd (a : Int) (n : Int) (hn : 0 < n) : -(n - 1) ≤ a.tmod n ∧ a.tmod n ≤ n - 1 := by
  rcases Int.le_total 0 a with h | h
  · rw [Int.tmod_eq_emod_of_nonneg h]
    have h1 := Int.emod_nonneg a (show n ≠ 0 by omega)
    have h2 := Int.emod_lt_of_pos a hn
    omega
  · obtain ⟨b, rfl⟩ : ∃ b, a = -b := ⟨-a, by omega⟩
    rw [Int.neg_tmod, Int.tmod_eq_emod_of_nonneg (show 0 ≤ b by omega)]
    have h1 := Int.emod_nonneg b (show n ≠ 0 by omega)
    have h2 := Int.emod_lt_of_pos b hn
    omega
end Go.Sub
/- Small on a number, and what turns, conjugates and sums come to: plain laws. -/
namespace Go.Sub
def smallC (x : Cy) : Cy := ⟨x.a.tmod 4096, x.b.tmod 4096, x.c.tmod 4096, x.d.tmod 4096⟩
theorem rootC_in (k : Int) : (rootC k).In 2 := Go.Proofs.YtcjflafjmdfanaaGreatDoor.turn_in k (x := ⟨1, 0, 0, 0⟩) (l := 1) (by unfold Cy.In; decide)
def Su.eqB (x y : Su) : Bool := x.a == y.a && x.b == y.b
@[go_sem] theorem Su.eqB_self (x : Su) : x.eqB x = true := by simp [Su.eqB]
theorem Su.eqB_of {x y : Su} (h : x = y) : x.eqB y = true := h ▸ Su.eqB_self x
theorem Su.eqB_iff (x y : Su) : x.eqB y = true ↔ x = y := by cases x; cases y; simp [Su.eqB]
end Go.Sub
namespace Go.Proofs.YtcjflafjmdfanaaGreatDoor
open Go.RowKit Go.Sub
@[go_sem high] theorem eqlSurd (w : World) (a b a' b' : Int) :
    (binOp .eql 166 (.agg #[.int .i64 a, .int .i64 b]) (.agg #[.int .i64 a', .int .i64 b'])).run Tryz.prog w = .ok (.bool (Su.eqB ⟨a, b⟩ ⟨a', b'⟩)) w := by
  simp only [Su.eqB]
  by_cases h : a = a'
  · subst h; by_cases h2 : b = b' <;> simp [go_sem, h2]
  · simp [go_sem, h]
end Go.Proofs.YtcjflafjmdfanaaGreatDoor
/- The plain arithmetic of numbers A + B*sqrt(3), with the errors of the program. No program in sight. -/
namespace Go.Sub
def wi4 (l a b c d : Int) : Bool := !(brkB l a) && !(brkB l b) && !(brkB l c) && !(brkB l d)
def wi3 (l a b c : Int) : Bool := !(brkB l a) && !(brkB l b) && !(brkB l c)
def wi2 (l a b : Int) : Bool := !(brkB l a) && !(brkB l b)
theorem wi4_iff (l a b c d : Int) : wi4 l a b c d = true ↔ -l ≤ a ∧ a ≤ l ∧ -l ≤ b ∧ b ≤ l ∧ -l ≤ c ∧ c ≤ l ∧ -l ≤ d ∧ d ≤ l := by
  simp only [wi4, brkB, Bool.and_eq_true, Bool.not_eq_true', Bool.or_eq_false_iff, decide_eq_false_iff_not]
  omega
theorem wi3_iff (l a b c : Int) : wi3 l a b c = true ↔ -l ≤ a ∧ a ≤ l ∧ -l ≤ b ∧ b ≤ l ∧ -l ≤ c ∧ c ≤ l := by
  simp only [wi3, brkB, Bool.and_eq_true, Bool.not_eq_true', Bool.or_eq_false_iff, decide_eq_false_iff_not]
  omega
theorem wi2_iff (l a b : Int) : wi2 l a b = true ↔ -l ≤ a ∧ a ≤ l ∧ -l ≤ b ∧ b ≤ l := by
  simp only [wi2, brkB, Bool.and_eq_true, Bool.not_eq_true', Bool.or_eq_false_iff, decide_eq_false_iff_not]
  omega
def Su.In (x : Su) (l : Int) : Prop := -l ≤ x.a ∧ x.a ≤ l ∧ -l ≤ x.b ∧ x.b ≤ l
def Su.add (x y : Su) : Su := ⟨x.a + y.a, x.b + y.b⟩
def Su.sub (x y : Su) : Su := ⟨x.a - y.a, x.b - y.b⟩
def Su.mul (x y : Su) : Su := ⟨x.a * y.a + 3 * x.b * y.b, x.a * y.b + x.b * y.a⟩
def Su.conj (x : Su) : Su := ⟨x.a, -x.b⟩
def Su.norm (x : Su) : Int := x.a * x.a - 3 * x.b * x.b
def zeroS : Su := ⟨0, 0⟩
def limS (x : Su) : R2 := if wi2 1152921504606846976 x.a x.b then ⟨x, 0⟩ else ⟨zeroS, 2⟩
def saddR (x y : Su) : R2 := if wi4 1152921504606846976 x.a x.b y.a y.b then limS (x.add y) else ⟨zeroS, 1⟩
def ssubR (x y : Su) : R2 := if wi4 1152921504606846976 x.a x.b y.a y.b then limS (x.sub y) else ⟨zeroS, 1⟩
def smulR (x y : Su) : R2 := if wi4 268435456 x.a x.b y.a y.b then limS (x.mul y) else ⟨zeroS, 1⟩
theorem Su.ext' {x y : Su} (h1 : x.a = y.a) (h2 : x.b = y.b) : x = y := by cases x; cases y; simp_all
end Go.Sub
/- What within, limited, Add and Mul of package surd return. -/
namespace Go.Proofs.YtcjflafjmdfanaaGreatDoor
open Go.RowKit Go.Sub

set_option maxHeartbeats 1000000 in
theorem swithin4 (bk : Nat) (a b c d l : Int) (w : World) (h0 : 0 ≤ l) (h1 : l ≤ 4000000000000000000) (c0 : w.cell? ⟨bk, 0, none⟩ = some (.int .i64 a)) (c1 : w.cell? ⟨bk, 1, none⟩ = some (.int .i64 b)) (c2 : w.cell? ⟨bk, 2, none⟩ = some (.int .i64 c)) (c3 : w.cell? ⟨bk, 3, none⟩ = some (.int .i64 d)) :
    Calls Tryz.prog 133 #[.int .i64 l, .slice (some ⟨bk, 0, none⟩) 4 4] w fun e w' => e = .returned (.bool (wi4 l a b c d)) ∧ w = w' := by
  go_enter Tryz.func133, Tryz.ntmps133
  go_wp2
  refine wp_loop_rounds 5 ?_
  repeat any_goals (rw [rounds_succ]; go_wp2)
  all_goals go_ret
  all_goals (refine ⟨?_, rfl⟩; simp [wi4, brkB, *] <;> omega)

set_option maxHeartbeats 1000000 in
theorem swithin2 (bk : Nat) (a b l : Int) (w : World) (h0 : 0 ≤ l) (h1 : l ≤ 4000000000000000000) (c0 : w.cell? ⟨bk, 0, none⟩ = some (.int .i64 a)) (c1 : w.cell? ⟨bk, 1, none⟩ = some (.int .i64 b)) :
    Calls Tryz.prog 133 #[.int .i64 l, .slice (some ⟨bk, 0, none⟩) 2 2] w fun e w' => e = .returned (.bool (wi2 l a b)) ∧ w = w' := by
  go_enter Tryz.func133, Tryz.ntmps133
  go_wp2
  refine wp_loop_rounds 3 ?_
  repeat any_goals (rw [rounds_succ]; go_wp2)
  all_goals go_ret
  all_goals (refine ⟨?_, rfl⟩; simp [wi2, brkB, *] <;> omega)

set_option maxHeartbeats 1000000 in
theorem slimited_any (a b : Int) (w : World) :
    Calls Tryz.prog 149 #[.agg #[.int .i64 a, .int .i64 b]] w fun e w' => e = .returned (.tuple #[.agg #[.int .i64 (limS ⟨a, b⟩).v.a, .int .i64 (limS ⟨a, b⟩).v.b], .int .i64 (limS ⟨a, b⟩).e]) ∧ Q w w' := by
  by_cases h : wi2 1152921504606846976 a b = true
  · go_enter Tryz.func149, Tryz.ntmps149
    go_wp2_with (go_at_call 133; refine (swithin2 _ a b 1152921504606846976 _ (by omega) (by omega) (by simp [go_sem]) (by simp [go_sem])).mono ?_; rintro e w' ⟨rfl, rfl⟩)
    refine bodyPost_ret (v := .tuple #[.agg #[.int .i64 a, .int .i64 b], .int .i64 0]) (by simp [results, Tryz.results149, go_sem]) rfl ⟨by simp [limS, h], ?_⟩
    repeat' (first | exact Q.refl _ | refine Q.alloc ?_ _ | refine Q.jk ?_ _ | refine Q.drew ?_)
  · have h : wi2 1152921504606846976 a b = false := by simpa using h
    go_enter Tryz.func149, Tryz.ntmps149
    go_wp2_with (go_at_call 133; refine (swithin2 _ a b 1152921504606846976 _ (by omega) (by omega) (by simp [go_sem]) (by simp [go_sem])).mono ?_; rintro e w' ⟨rfl, rfl⟩)
    refine bodyPost_ret (v := .tuple #[.agg #[.int .i64 0, .int .i64 0], .int .i64 2]) (by simp [results, Tryz.results149, go_sem]) rfl ⟨by simp [limS, h, zeroS], ?_⟩
    repeat' (first | exact Q.refl _ | refine Q.alloc ?_ _ | refine Q.jk ?_ _ | refine Q.drew ?_)

set_option maxHeartbeats 1000000 in
theorem sadd_any (a b a' b' : Int) (w : World) :
    Calls Tryz.prog 132 #[.agg #[.int .i64 a, .int .i64 b], .agg #[.int .i64 a', .int .i64 b']] w fun e w' => e = .returned (.tuple #[.agg #[.int .i64 (saddR ⟨a, b⟩ ⟨a', b'⟩).v.a, .int .i64 (saddR ⟨a, b⟩ ⟨a', b'⟩).v.b], .int .i64 (saddR ⟨a, b⟩ ⟨a', b'⟩).e]) ∧ Q w w' := by
  by_cases h : wi4 1152921504606846976 a b a' b' = true
  · obtain ⟨l1, l2, l3, l4, m1, m2, m3, m4⟩ := (wi4_iff _ _ _ _ _).1 h
    have hR : saddR ⟨a, b⟩ ⟨a', b'⟩ = limS ⟨a + a', b + b'⟩ := by simp [saddR, h, Su.add]
    rw [hR]
    clear hR
    go_enter Tryz.func132, Tryz.ntmps132
    go_wp2_with (first | (go_at_call 133; refine (swithin4 _ a b a' b' 1152921504606846976 _ (by omega) (by omega) (by simp [go_sem]) (by simp [go_sem]) (by simp [go_sem]) (by simp [go_sem])).mono ?_; rintro e w' ⟨rfl, rfl⟩) | (go_at_call 149; refine (slimited_any _ _ _).mono ?_; rintro e w' ⟨rfl, kj, rfl⟩))
    refine bodyPost_ret (v := .tuple #[.agg #[.int .i64 (limS ⟨a + a', b + b'⟩).v.a, .int .i64 (limS ⟨a + a', b + b'⟩).v.b], .int .i64 (limS ⟨a + a', b + b'⟩).e]) (by simp [results, Tryz.results132, go_sem]) rfl ⟨rfl, ?_⟩
    repeat' (first | exact Q.refl _ | refine Q.alloc ?_ _ | refine Q.jk ?_ _ | refine Q.drew ?_)
  · have h : wi4 1152921504606846976 a b a' b' = false := by simpa using h
    go_enter Tryz.func132, Tryz.ntmps132
    go_wp2_with (go_at_call 133; refine (swithin4 _ a b a' b' 1152921504606846976 _ (by omega) (by omega) (by simp [go_sem]) (by simp [go_sem]) (by simp [go_sem]) (by simp [go_sem])).mono ?_; rintro e w' ⟨rfl, rfl⟩)
    refine bodyPost_ret (v := .tuple #[.agg #[.int .i64 (R2.mk zeroS 1).v.a, .int .i64 (R2.mk zeroS 1).v.b], .int .i64 (R2.mk zeroS 1).e]) (by simp [results, Tryz.results132, go_sem, zeroS]) rfl ⟨by simp [saddR, h], ?_⟩
    repeat' (first | exact Q.refl _ | refine Q.alloc ?_ _ | refine Q.jk ?_ _ | refine Q.drew ?_)

end Go.Proofs.YtcjflafjmdfanaaGreatDoor
/- What math/bits.Mul64, and size, sign and triple of package surd return. -/
namespace Go.Sub
theorem mask32 (a : Int) (h0 : 0 ≤ a) (h1 : a < 18446744073709551616) : bits .and .u64 a 4294967295 = a % 4294967296 := by
  obtain ⟨n, rfl⟩ := Int.eq_ofNat_of_zero_le h0
  have h := bits_and_u64_nat n 4294967295 (by omega) (by omega)
  rw [Nat.and_two_pow_sub_one_eq_mod n 32] at h
  refine Eq.trans h ?_
  omega
theorem mask32w (a : Int) : bits .and .u64 (a % 18446744073709551616) 4294967295 = a % 18446744073709551616 % 4294967296 := mask32 _ (by omega) (by omega)
def sgn (n : Int) : Int := if n < 0 then -1 else if 0 < n then 1 else 0
def mag (n : Int) : Int := if n < 0 then -n else n
/-- The sign of A + B*sqrt(3), as the program finds it. -/
def sgnS (x : Su) : Int := if sgn x.a = sgn x.b ∨ sgn x.b = 0 then sgn x.a else if sgn x.a = 0 then sgn x.b else if 3 * mag x.b * mag x.b < mag x.a * mag x.a then sgn x.a else sgn x.b
theorem mag_bd {n : Int} (h0 : -9223372036854775808 ≤ n) (h1 : n ≤ 9223372036854775807) : 0 ≤ mag n ∧ mag n ≤ 9223372036854775808 := by
  unfold mag; split <;> omega
end Go.Sub
namespace Go.Proofs.YtcjflafjmdfanaaGreatDoor
open Go.RowKit Go.Sub
set_option maxHeartbeats 1000000 in
theorem mul64_any (x y : Int) (w : World) (hx0 : 0 ≤ x) (hx : x < 18446744073709551616) (hy0 : 0 ≤ y) (hy : y < 18446744073709551616) :
    Calls Tryz.prog 153 #[.int .u64 x, .int .u64 y] w fun e w' => e = .returned (.tuple #[.int .u64 (x * y / 18446744073709551616), .int .u64 (x * y % 18446744073709551616)]) ∧ w = w' := by
  go_enter Tryz.func153, Tryz.ntmps153
  go_wp2
  simp only [mask32 x hx0 hx, mask32 y hy0 hy, IntKind.wrap_u64, mask32w]
  rw [mul64_arith x y hx0 hx hy0 hy]
  go_ret2
  exact ⟨rfl, rfl⟩
set_option maxHeartbeats 1000000 in
theorem size_any (n : Int) (w : World) (h0 : -9223372036854775808 ≤ n) (h1 : n ≤ 9223372036854775807) :
    Calls Tryz.prog 152 #[.int .i64 n] w fun e w' => e = .returned (.int .u64 (mag n)) ∧ w = w' := by
  by_cases h : n < 0
  · have e : mag n = -n := by simp [mag, h]
    rw [e]
    clear e
    go_enter Tryz.func152, Tryz.ntmps152
    go_wp2
    simp only [IntKind.wrap_u64]
    rw [show -(n % 18446744073709551616) % 18446744073709551616 = -n by omega]
    go_ret
    exact ⟨rfl, rfl⟩
  · have e : mag n = n := by simp [mag, h]
    rw [e]
    clear e
    go_enter Tryz.func152, Tryz.ntmps152
    go_wp2
    go_ret
    exact ⟨rfl, rfl⟩
set_option maxHeartbeats 1000000 in
theorem ssign_any (n : Int) (w : World) :
    Calls Tryz.prog 151 #[.int .i64 n] w fun e w' => e = .returned (.int .i64 (sgn n)) ∧ w = w' := by
  by_cases h : n < 0
  · rw [show sgn n = -1 by simp [sgn, h]]
    go_enter Tryz.func151, Tryz.ntmps151
    go_wp2
    go_ret
    exact ⟨rfl, rfl⟩
  · by_cases h2 : 0 < n
    · rw [show sgn n = 1 by simp [sgn, h, h2]]
      go_enter Tryz.func151, Tryz.ntmps151
      go_wp2
      go_ret
      exact ⟨rfl, rfl⟩
    · rw [show sgn n = 0 by simp [sgn, h, h2]]
      go_enter Tryz.func151, Tryz.ntmps151
      go_wp2
      go_ret
      exact ⟨rfl, rfl⟩
theorem triple_hi (n : Int) : 3 * (n * n / 18446744073709551616) + n * n % 18446744073709551616 * 3 / 18446744073709551616 = 3 * n * n / 18446744073709551616 := by
  rw [Int.mul_assoc]; omega
theorem triple_lo (n : Int) : n * n % 18446744073709551616 * 3 % 18446744073709551616 = 3 * n * n % 18446744073709551616 := by
  rw [Int.mul_assoc]; omega
set_option maxHeartbeats 1000000 in
theorem triple_any (n : Int) (w : World) (h0 : 0 ≤ n) (h1 : n ≤ 9223372036854775808) :
    Calls Tryz.prog 154 #[.int .u64 n] w fun e w' => e = .returned (.tuple #[.int .u64 (3 * n * n / 18446744073709551616), .int .u64 (3 * n * n % 18446744073709551616)]) ∧ w = w' := by
  obtain ⟨b1, b2⟩ := bd_mul (a := n) (b := n) (n := 9223372036854775808) (m := 9223372036854775808) (by omega) h1 (by omega) h1
  have b0 : 0 ≤ n * n := Int.mul_nonneg h0 h0
  simp only [Int.reduceMul, Int.reduceNeg] at b1 b2
  have q1 : 0 ≤ n * n / 18446744073709551616 := by omega
  have q2 : n * n / 18446744073709551616 ≤ 4611686018427387904 := by omega
  have q3 : 0 ≤ n * n % 18446744073709551616 := by omega
  have q4 : n * n % 18446744073709551616 < 18446744073709551616 := by omega
  have q5 : 0 ≤ n * n % 18446744073709551616 * 3 / 18446744073709551616 := by omega
  have q6 : n * n % 18446744073709551616 * 3 / 18446744073709551616 ≤ 2 := by omega
  rw [← triple_hi, ← triple_lo]
  clear b0 b1 b2
  go_enter Tryz.func154, Tryz.ntmps154
  go_wp2_with (go_at_call 153; refine (mul64_any _ _ _ (by omega) (by omega) (by omega) (by omega)).mono ?_; rintro e w' ⟨rfl, rfl⟩)
  go_ret2
  exact ⟨rfl, rfl⟩

set_option maxHeartbeats 1000000 in
theorem sgnS_any (a b : Int) (w : World) (ha0 : -9223372036854775808 ≤ a) (ha1 : a ≤ 9223372036854775807) (hb0 : -9223372036854775808 ≤ b) (hb1 : b ≤ 9223372036854775807) :
    Calls Tryz.prog 134 #[.agg #[.int .i64 a, .int .i64 b]] w fun e w' => e = .returned (.int .i64 (sgnS ⟨a, b⟩)) ∧ Q w w' := by
  by_cases h1 : sgn a = sgn b
  · have e : sgnS ⟨a, b⟩ = sgn a := by simp [sgnS, h1]
    have h1 : (sgn a == sgn b) = true := by simpa using h1
    rw [e]
    clear e
    go_enter Tryz.func134, Tryz.ntmps134
    go_wp2
    refine wp_region_jk (by kernel_rfl) (by kernel_rfl) ?_
    repeat (go_big_quiet_step ((go_at_call 151; exact Calls.jk_of_same (ssign_any _ _))))
    refine wpQuiet_nil ?_
    intro _ hw'
    obtain ⟨kq, rfl⟩ := hw'
    go_wp2
    go_ret
    refine ⟨rfl, ?_⟩
    repeat' (first | exact Q.refl _ | refine Q.alloc ?_ _ | refine Q.jk ?_ _ | refine Q.drew ?_)
  by_cases h2 : sgn b = 0
  · have e : sgnS ⟨a, b⟩ = sgn a := by simp [sgnS, h2]
    have h1 : (sgn a == sgn b) = false := by simpa using h1
    have h2 : (sgn b == 0) = true := by simpa using h2
    rw [e]
    clear e
    go_enter Tryz.func134, Tryz.ntmps134
    go_wp2
    refine wp_region_jk (by kernel_rfl) (by kernel_rfl) ?_
    repeat (go_big_quiet_step ((go_at_call 151; exact Calls.jk_of_same (ssign_any _ _))))
    refine wpQuiet_nil ?_
    intro _ hw'
    obtain ⟨kq, rfl⟩ := hw'
    go_wp2
    go_ret
    refine ⟨rfl, ?_⟩
    repeat' (first | exact Q.refl _ | refine Q.alloc ?_ _ | refine Q.jk ?_ _ | refine Q.drew ?_)
  by_cases h3 : sgn a = 0
  · have e : sgnS ⟨a, b⟩ = sgn b := by simp [sgnS, h2, h3]
    have h1 : (sgn a == sgn b) = false := by simpa using h1
    have h2 : (sgn b == 0) = false := by simpa using h2
    have h3 : (sgn a == 0) = true := by simpa using h3
    rw [e]
    clear e
    go_enter Tryz.func134, Tryz.ntmps134
    go_wp2
    refine wp_region_jk (by kernel_rfl) (by kernel_rfl) ?_
    repeat (go_big_quiet_step ((go_at_call 151; exact Calls.jk_of_same (ssign_any _ _))))
    refine wpQuiet_nil ?_
    intro _ hw'
    obtain ⟨kq, rfl⟩ := hw'
    go_wp2
    go_ret
    refine ⟨rfl, ?_⟩
    repeat' (first | exact Q.refl _ | refine Q.alloc ?_ _ | refine Q.jk ?_ _ | refine Q.drew ?_)
  have e1 : 3 * mag b * mag b < mag a * mag a → sgn a = sgnS ⟨a, b⟩ := fun h => by simp [sgnS, h1, h2, h3, h]
  have e2 : ¬ 3 * mag b * mag b < mag a * mag a → sgn b = sgnS ⟨a, b⟩ := fun h => by simp [sgnS, h1, h2, h3, h]
  have E1 := Lib.hid e1
  have E2 := Lib.hid e2
  clear e1 e2
  have h1 : (sgn a == sgn b) = false := by simpa using h1
  have h2 : (sgn b == 0) = false := by simpa using h2
  have h3 : (sgn a == 0) = false := by simpa using h3
  obtain ⟨ma0, ma1⟩ := mag_bd ha0 ha1
  obtain ⟨mb0, mb1⟩ := mag_bd hb0 hb1
  have c1 : (3 * mag b * mag b / 18446744073709551616 < mag a * mag a / 18446744073709551616) ∨ (¬ (3 * mag b * mag b / 18446744073709551616 < mag a * mag a / 18446744073709551616) ∧ ((mag a * mag a / 18446744073709551616 == 3 * mag b * mag b / 18446744073709551616) = true ∧ (3 * mag b * mag b % 18446744073709551616 < mag a * mag a % 18446744073709551616))) ∨ (¬ (3 * mag b * mag b / 18446744073709551616 < mag a * mag a / 18446744073709551616) ∧ ((mag a * mag a / 18446744073709551616 == 3 * mag b * mag b / 18446744073709551616) = true ∧ ¬ (3 * mag b * mag b % 18446744073709551616 < mag a * mag a % 18446744073709551616))) ∨ (¬ (3 * mag b * mag b / 18446744073709551616 < mag a * mag a / 18446744073709551616) ∧ (mag a * mag a / 18446744073709551616 == 3 * mag b * mag b / 18446744073709551616) = false) := by
    by_cases q1 : 3 * mag b * mag b / 18446744073709551616 < mag a * mag a / 18446744073709551616
    · exact Or.inl q1
    · cases q2 : (mag a * mag a / 18446744073709551616 == 3 * mag b * mag b / 18446744073709551616)
      · exact Or.inr (Or.inr (Or.inr ⟨q1, rfl⟩))
      · by_cases q3 : 3 * mag b * mag b % 18446744073709551616 < mag a * mag a % 18446744073709551616
        · exact Or.inr (Or.inl ⟨q1, rfl, q3⟩)
        · exact Or.inr (Or.inr (Or.inl ⟨q1, rfl, q3⟩))
  rcases c1 with q1 | ⟨q1, q2, q3⟩ | ⟨q1, q2, q3⟩ | ⟨q1, q2⟩
  · have E := Lib.hid (E1.out (by omega))
    clear E1 E2
    go_enter Tryz.func134, Tryz.ntmps134
    go_wp2
    refine wp_region_jk (by kernel_rfl) (by kernel_rfl) ?_
    repeat (go_big_quiet_step ((go_at_call 151; exact Calls.jk_of_same (ssign_any _ _))))
    refine wpQuiet_nil ?_
    intro _ hw'
    obtain ⟨kq, rfl⟩ := hw'
    go_wp2
    refine wp_region_jk (by kernel_rfl) (by kernel_rfl) ?_
    repeat (go_big_quiet_step ((go_at_call 152; exact Calls.jk_of_same (size_any _ _ (by omega) (by omega)))))
    refine wpQuiet_nil ?_
    intro _ hw'
    obtain ⟨kq, rfl⟩ := hw'
    go_wp2_with (first | (go_at_call 153; refine (mul64_any _ _ _ (by omega) (by omega) (by omega) (by omega)).mono ?_; rintro e w' ⟨rfl, rfl⟩) | (go_at_call 154; refine (triple_any _ _ (by omega) (by omega)).mono ?_; rintro e w' ⟨rfl, rfl⟩))
    go_ret
    refine ⟨by rw [← E.out]; rfl, ?_⟩
    repeat' (first | exact Q.refl _ | refine Q.alloc ?_ _ | refine Q.jk ?_ _ | refine Q.drew ?_)
  · have E := Lib.hid (E1.out (by have := beq_iff_eq.1 q2; omega))
    clear E1 E2
    go_enter Tryz.func134, Tryz.ntmps134
    go_wp2
    refine wp_region_jk (by kernel_rfl) (by kernel_rfl) ?_
    repeat (go_big_quiet_step ((go_at_call 151; exact Calls.jk_of_same (ssign_any _ _))))
    refine wpQuiet_nil ?_
    intro _ hw'
    obtain ⟨kq, rfl⟩ := hw'
    go_wp2
    refine wp_region_jk (by kernel_rfl) (by kernel_rfl) ?_
    repeat (go_big_quiet_step ((go_at_call 152; exact Calls.jk_of_same (size_any _ _ (by omega) (by omega)))))
    refine wpQuiet_nil ?_
    intro _ hw'
    obtain ⟨kq, rfl⟩ := hw'
    go_wp2_with (first | (go_at_call 153; refine (mul64_any _ _ _ (by omega) (by omega) (by omega) (by omega)).mono ?_; rintro e w' ⟨rfl, rfl⟩) | (go_at_call 154; refine (triple_any _ _ (by omega) (by omega)).mono ?_; rintro e w' ⟨rfl, rfl⟩))
    go_ret
    refine ⟨by rw [← E.out]; rfl, ?_⟩
    repeat' (first | exact Q.refl _ | refine Q.alloc ?_ _ | refine Q.jk ?_ _ | refine Q.drew ?_)
  · have E := Lib.hid (E2.out (by have := beq_iff_eq.1 q2; omega))
    clear E1 E2
    go_enter Tryz.func134, Tryz.ntmps134
    go_wp2
    refine wp_region_jk (by kernel_rfl) (by kernel_rfl) ?_
    repeat (go_big_quiet_step ((go_at_call 151; exact Calls.jk_of_same (ssign_any _ _))))
    refine wpQuiet_nil ?_
    intro _ hw'
    obtain ⟨kq, rfl⟩ := hw'
    go_wp2
    refine wp_region_jk (by kernel_rfl) (by kernel_rfl) ?_
    repeat (go_big_quiet_step ((go_at_call 152; exact Calls.jk_of_same (size_any _ _ (by omega) (by omega)))))
    refine wpQuiet_nil ?_
    intro _ hw'
    obtain ⟨kq, rfl⟩ := hw'
    go_wp2_with (first | (go_at_call 153; refine (mul64_any _ _ _ (by omega) (by omega) (by omega) (by omega)).mono ?_; rintro e w' ⟨rfl, rfl⟩) | (go_at_call 154; refine (triple_any _ _ (by omega) (by omega)).mono ?_; rintro e w' ⟨rfl, rfl⟩))
    go_ret
    refine ⟨by rw [← E.out]; rfl, ?_⟩
    repeat' (first | exact Q.refl _ | refine Q.alloc ?_ _ | refine Q.jk ?_ _ | refine Q.drew ?_)
  · have E := Lib.hid (E2.out (by have := beq_eq_false_iff_ne.1 q2; omega))
    clear E1 E2
    go_enter Tryz.func134, Tryz.ntmps134
    go_wp2
    refine wp_region_jk (by kernel_rfl) (by kernel_rfl) ?_
    repeat (go_big_quiet_step ((go_at_call 151; exact Calls.jk_of_same (ssign_any _ _))))
    refine wpQuiet_nil ?_
    intro _ hw'
    obtain ⟨kq, rfl⟩ := hw'
    go_wp2
    refine wp_region_jk (by kernel_rfl) (by kernel_rfl) ?_
    repeat (go_big_quiet_step ((go_at_call 152; exact Calls.jk_of_same (size_any _ _ (by omega) (by omega)))))
    refine wpQuiet_nil ?_
    intro _ hw'
    obtain ⟨kq, rfl⟩ := hw'
    go_wp2_with (first | (go_at_call 153; refine (mul64_any _ _ _ (by omega) (by omega) (by omega) (by omega)).mono ?_; rintro e w' ⟨rfl, rfl⟩) | (go_at_call 154; refine (triple_any _ _ (by omega) (by omega)).mono ?_; rintro e w' ⟨rfl, rfl⟩))
    go_ret
    refine ⟨by rw [← E.out]; rfl, ?_⟩
    repeat' (first | exact Q.refl _ | refine Q.alloc ?_ _ | refine Q.jk ?_ _ | refine Q.drew ?_)
end Go.Proofs.YtcjflafjmdfanaaGreatDoor
namespace Go.Sub
def sscaleR (x : Su) (k : Int) : R2 := if wi3 1152921504606846976 x.a x.b k then limS ⟨x.a * k, x.b * k⟩ else ⟨zeroS, 1⟩
theorem mag_mul (n k : Int) : mag n * mag k = mag (n * k) := by
  unfold mag
  rcases Int.lt_or_le n 0 with h | h <;> rcases Int.lt_or_le k 0 with h' | h'
  · have := Int.mul_pos_of_neg_of_neg h h'
    rw [if_pos h, if_pos h', if_neg (by omega), Int.neg_mul_neg]
  · rw [if_pos h, if_neg (by omega)]
    rcases Int.lt_or_le 0 k with hk | hk
    · have := Int.mul_neg_of_neg_of_pos h hk
      rw [if_pos this, Int.neg_mul]
    · obtain rfl : k = 0 := by omega
      simp
  · rw [if_neg (by omega), if_pos h']
    rcases Int.lt_or_le 0 n with hn | hn
    · have := Int.mul_neg_of_pos_of_neg hn h'
      rw [if_pos this, Int.mul_neg]
    · obtain rfl : n = 0 := by omega
      simp
  · have := Int.mul_nonneg h h'
    rw [if_neg (by omega), if_neg (by omega), if_neg (by omega)]
end Go.Sub
namespace Go.Proofs.YtcjflafjmdfanaaGreatDoor
open Go.RowKit Go.Sub

set_option maxHeartbeats 1000000 in
theorem swithin3 (bk : Nat) (a b c l : Int) (w : World) (h0 : 0 ≤ l) (h1 : l ≤ 4000000000000000000) (c0 : w.cell? ⟨bk, 0, none⟩ = some (.int .i64 a)) (c1 : w.cell? ⟨bk, 1, none⟩ = some (.int .i64 b)) (c2 : w.cell? ⟨bk, 2, none⟩ = some (.int .i64 c)) :
    Calls Tryz.prog 133 #[.int .i64 l, .slice (some ⟨bk, 0, none⟩) 3 3] w fun e w' => e = .returned (.bool (wi3 l a b c)) ∧ w = w' := by
  go_enter Tryz.func133, Tryz.ntmps133
  go_wp2
  refine wp_loop_rounds 4 ?_
  repeat any_goals (rw [rounds_succ]; go_wp2)
  all_goals go_ret
  all_goals (refine ⟨?_, rfl⟩; simp [wi3, brkB, *] <;> omega)

set_option maxHeartbeats 1000000 in
theorem times_ok (n k : Int) (w : World) (h0 : -9223372036854775808 ≤ n) (h1 : n ≤ 9223372036854775807) (k0 : -9223372036854775808 ≤ k) (k1 : k ≤ 9223372036854775807) (b0 : -4611686018427387904 ≤ n * k) (b1 : n * k ≤ 4611686018427387904) :
    Calls Tryz.prog 148 #[.int .i64 n, .int .i64 k] w fun e w' => e = .returned (.tuple #[.int .i64 (n * k), .bool true]) ∧ w = w' := by
  obtain ⟨mn0, mn1⟩ := mag_bd (n := n) (by omega) (by omega)
  obtain ⟨mk0, mk1⟩ := mag_bd (n := k) (by omega) (by omega)
  have hm : mag n * mag k ≤ 4611686018427387904 := by rw [mag_mul]; unfold mag; split <;> omega
  have hp : 0 ≤ mag n * mag k := Int.mul_nonneg mn0 mk0
  have q1 : (mag n * mag k / 18446744073709551616 != 0) = false := by
    rw [show mag n * mag k / 18446744073709551616 = 0 by omega]; rfl
  have q2 : ¬ 4611686018427387904 < mag n * mag k % 18446744073709551616 := by omega
  clear hm hp
  go_enter Tryz.func148, Tryz.ntmps148
  go_wp2_with (first | (go_at_call 153; refine (mul64_any _ _ _ (by omega) (by omega) (by omega) (by omega)).mono ?_; rintro e w' ⟨rfl, rfl⟩) | (go_at_call 152; refine (size_any _ _ (by omega) (by omega)).mono ?_; rintro e w' ⟨rfl, rfl⟩))
  go_ret2
  exact ⟨rfl, rfl⟩

set_option maxHeartbeats 1000000 in
theorem times_no1 (n k : Int) (w : World) (h0 : -9223372036854775808 ≤ n) (h1 : n ≤ 9223372036854775807) (k0 : -9223372036854775808 ≤ k) (k1 : k ≤ 9223372036854775807) (q1 : (mag n * mag k / 18446744073709551616 != 0) = true) :
    Calls Tryz.prog 148 #[.int .i64 n, .int .i64 k] w fun e w' => e = .returned (.tuple #[.int .i64 0, .bool false]) ∧ w = w' := by
  obtain ⟨mn0, mn1⟩ := mag_bd (n := n) (by omega) (by omega)
  obtain ⟨mk0, mk1⟩ := mag_bd (n := k) (by omega) (by omega)
  go_enter Tryz.func148, Tryz.ntmps148
  go_wp2_with (first | (go_at_call 153; refine (mul64_any _ _ _ (by omega) (by omega) (by omega) (by omega)).mono ?_; rintro e w' ⟨rfl, rfl⟩) | (go_at_call 152; refine (size_any _ _ (by omega) (by omega)).mono ?_; rintro e w' ⟨rfl, rfl⟩))
  go_ret2
  exact ⟨rfl, rfl⟩

set_option maxHeartbeats 1000000 in
theorem times_no2 (n k : Int) (w : World) (h0 : -9223372036854775808 ≤ n) (h1 : n ≤ 9223372036854775807) (k0 : -9223372036854775808 ≤ k) (k1 : k ≤ 9223372036854775807) (q1 : (mag n * mag k / 18446744073709551616 != 0) = false) (q2 : 4611686018427387904 < mag n * mag k % 18446744073709551616) :
    Calls Tryz.prog 148 #[.int .i64 n, .int .i64 k] w fun e w' => e = .returned (.tuple #[.int .i64 0, .bool false]) ∧ w = w' := by
  obtain ⟨mn0, mn1⟩ := mag_bd (n := n) (by omega) (by omega)
  obtain ⟨mk0, mk1⟩ := mag_bd (n := k) (by omega) (by omega)
  go_enter Tryz.func148, Tryz.ntmps148
  go_wp2_with (first | (go_at_call 153; refine (mul64_any _ _ _ (by omega) (by omega) (by omega) (by omega)).mono ?_; rintro e w' ⟨rfl, rfl⟩) | (go_at_call 152; refine (size_any _ _ (by omega) (by omega)).mono ?_; rintro e w' ⟨rfl, rfl⟩))
  go_ret2
  exact ⟨rfl, rfl⟩

theorem times_no (n k : Int) (w : World) (h0 : -9223372036854775808 ≤ n) (h1 : n ≤ 9223372036854775807) (k0 : -9223372036854775808 ≤ k) (k1 : k ≤ 9223372036854775807) (b : ¬ (-4611686018427387904 ≤ n * k ∧ n * k ≤ 4611686018427387904)) :
    Calls Tryz.prog 148 #[.int .i64 n, .int .i64 k] w fun e w' => e = .returned (.tuple #[.int .i64 0, .bool false]) ∧ w = w' := by
  have hm : 4611686018427387904 < mag n * mag k := by rw [mag_mul]; unfold mag; split <;> omega
  cases q1 : (mag n * mag k / 18446744073709551616 != 0)
  · refine times_no2 n k w h0 h1 k0 k1 q1 ?_
    have : mag n * mag k / 18446744073709551616 = 0 := by simpa using q1
    omega
  · exact times_no1 n k w h0 h1 k0 k1 q1

set_option maxHeartbeats 1000000 in
theorem sscale_ok (a b k : Int) (w : World) (h : wi3 1152921504606846976 a b k = true) (ha : -4611686018427387904 ≤ a * k ∧ a * k ≤ 4611686018427387904) (hb : -4611686018427387904 ≤ b * k ∧ b * k ≤ 4611686018427387904) :
    Calls Tryz.prog 124 #[.agg #[.int .i64 a, .int .i64 b], .int .i64 k] w fun e w' => e = .returned (.tuple #[.agg #[.int .i64 (limS ⟨a * k, b * k⟩).v.a, .int .i64 (limS ⟨a * k, b * k⟩).v.b], .int .i64 (limS ⟨a * k, b * k⟩).e]) ∧ Q w w' := by
  obtain ⟨l1, l2, l3, l4, l5, l6⟩ := (wi3_iff _ _ _ _).1 h
  have hta := fun w => times_ok a k w (by omega) (by omega) (by omega) (by omega) ha.1 ha.2
  have htb := fun w => times_ok b k w (by omega) (by omega) (by omega) (by omega) hb.1 hb.2
  have HA := Lib.hid hta
  have HB := Lib.hid htb
  clear hta htb
  go_enter Tryz.func124, Tryz.ntmps124
  go_wp2_with (first | (go_at_call 133; refine (swithin3 _ a b k 1152921504606846976 _ (by omega) (by omega) (by simp [go_sem]) (by simp [go_sem]) (by simp [go_sem])).mono ?_; rintro e w' ⟨rfl, rfl⟩) | (go_at_call 148; first | ((with_reducible refine (HA.out _).mono ?_); rintro e w' ⟨rfl, rfl⟩) | ((with_reducible refine (HB.out _).mono ?_); rintro e w' ⟨rfl, rfl⟩)) | (go_at_call 149; refine (slimited_any _ _ _).mono ?_; rintro e w' ⟨rfl, kj, rfl⟩))
  refine bodyPost_ret (v := .tuple #[.agg #[.int .i64 (limS ⟨a * k, b * k⟩).v.a, .int .i64 (limS ⟨a * k, b * k⟩).v.b], .int .i64 (limS ⟨a * k, b * k⟩).e]) (by simp [results, Tryz.results124, go_sem]) rfl ⟨rfl, ?_⟩
  repeat' (first | exact Q.refl _ | refine Q.alloc ?_ _ | refine Q.jk ?_ _ | refine Q.drew ?_)

set_option maxHeartbeats 1000000 in
theorem sscale_no1 (a b k : Int) (w : World) (h : wi3 1152921504606846976 a b k = true) (ha : ¬ (-4611686018427387904 ≤ a * k ∧ a * k ≤ 4611686018427387904)) (hb : -4611686018427387904 ≤ b * k ∧ b * k ≤ 4611686018427387904) :
    Calls Tryz.prog 124 #[.agg #[.int .i64 a, .int .i64 b], .int .i64 k] w fun e w' => e = .returned (.tuple #[.agg #[.int .i64 (R2.mk zeroS 2).v.a, .int .i64 (R2.mk zeroS 2).v.b], .int .i64 (R2.mk zeroS 2).e]) ∧ Q w w' := by
  obtain ⟨l1, l2, l3, l4, l5, l6⟩ := (wi3_iff _ _ _ _).1 h
  have hta := fun w => times_no a k w (by omega) (by omega) (by omega) (by omega) ha
  have htb := fun w => times_ok b k w (by omega) (by omega) (by omega) (by omega) hb.1 hb.2
  have HA := Lib.hid hta
  have HB := Lib.hid htb
  clear hta htb
  go_enter Tryz.func124, Tryz.ntmps124
  go_wp2_with (first | (go_at_call 133; refine (swithin3 _ a b k 1152921504606846976 _ (by omega) (by omega) (by simp [go_sem]) (by simp [go_sem]) (by simp [go_sem])).mono ?_; rintro e w' ⟨rfl, rfl⟩) | (go_at_call 148; first | ((with_reducible refine (HA.out _).mono ?_); rintro e w' ⟨rfl, rfl⟩) | ((with_reducible refine (HB.out _).mono ?_); rintro e w' ⟨rfl, rfl⟩)) | (go_at_call 149; refine (slimited_any _ _ _).mono ?_; rintro e w' ⟨rfl, kj, rfl⟩))
  refine bodyPost_ret (v := .tuple #[.agg #[.int .i64 (R2.mk zeroS 2).v.a, .int .i64 (R2.mk zeroS 2).v.b], .int .i64 (R2.mk zeroS 2).e]) (by simp [results, Tryz.results124, go_sem, zeroS]) rfl ⟨rfl, ?_⟩
  repeat' (first | exact Q.refl _ | refine Q.alloc ?_ _ | refine Q.jk ?_ _ | refine Q.drew ?_)

set_option maxHeartbeats 1000000 in
theorem sscale_no2 (a b k : Int) (w : World) (h : wi3 1152921504606846976 a b k = true) (ha : -4611686018427387904 ≤ a * k ∧ a * k ≤ 4611686018427387904) (hb : ¬ (-4611686018427387904 ≤ b * k ∧ b * k ≤ 4611686018427387904)) :
    Calls Tryz.prog 124 #[.agg #[.int .i64 a, .int .i64 b], .int .i64 k] w fun e w' => e = .returned (.tuple #[.agg #[.int .i64 (R2.mk zeroS 2).v.a, .int .i64 (R2.mk zeroS 2).v.b], .int .i64 (R2.mk zeroS 2).e]) ∧ Q w w' := by
  obtain ⟨l1, l2, l3, l4, l5, l6⟩ := (wi3_iff _ _ _ _).1 h
  have hta := fun w => times_ok a k w (by omega) (by omega) (by omega) (by omega) ha.1 ha.2
  have htb := fun w => times_no b k w (by omega) (by omega) (by omega) (by omega) hb
  have HA := Lib.hid hta
  have HB := Lib.hid htb
  clear hta htb
  go_enter Tryz.func124, Tryz.ntmps124
  go_wp2_with (first | (go_at_call 133; refine (swithin3 _ a b k 1152921504606846976 _ (by omega) (by omega) (by simp [go_sem]) (by simp [go_sem]) (by simp [go_sem])).mono ?_; rintro e w' ⟨rfl, rfl⟩) | (go_at_call 148; first | ((with_reducible refine (HA.out _).mono ?_); rintro e w' ⟨rfl, rfl⟩) | ((with_reducible refine (HB.out _).mono ?_); rintro e w' ⟨rfl, rfl⟩)) | (go_at_call 149; refine (slimited_any _ _ _).mono ?_; rintro e w' ⟨rfl, kj, rfl⟩))
  refine bodyPost_ret (v := .tuple #[.agg #[.int .i64 (R2.mk zeroS 2).v.a, .int .i64 (R2.mk zeroS 2).v.b], .int .i64 (R2.mk zeroS 2).e]) (by simp [results, Tryz.results124, go_sem, zeroS]) rfl ⟨rfl, ?_⟩
  repeat' (first | exact Q.refl _ | refine Q.alloc ?_ _ | refine Q.jk ?_ _ | refine Q.drew ?_)

set_option maxHeartbeats 1000000 in
theorem sscale_no3 (a b k : Int) (w : World) (h : wi3 1152921504606846976 a b k = true) (ha : ¬ (-4611686018427387904 ≤ a * k ∧ a * k ≤ 4611686018427387904)) (hb : ¬ (-4611686018427387904 ≤ b * k ∧ b * k ≤ 4611686018427387904)) :
    Calls Tryz.prog 124 #[.agg #[.int .i64 a, .int .i64 b], .int .i64 k] w fun e w' => e = .returned (.tuple #[.agg #[.int .i64 (R2.mk zeroS 2).v.a, .int .i64 (R2.mk zeroS 2).v.b], .int .i64 (R2.mk zeroS 2).e]) ∧ Q w w' := by
  obtain ⟨l1, l2, l3, l4, l5, l6⟩ := (wi3_iff _ _ _ _).1 h
  have hta := fun w => times_no a k w (by omega) (by omega) (by omega) (by omega) ha
  have htb := fun w => times_no b k w (by omega) (by omega) (by omega) (by omega) hb
  have HA := Lib.hid hta
  have HB := Lib.hid htb
  clear hta htb
  go_enter Tryz.func124, Tryz.ntmps124
  go_wp2_with (first | (go_at_call 133; refine (swithin3 _ a b k 1152921504606846976 _ (by omega) (by omega) (by simp [go_sem]) (by simp [go_sem]) (by simp [go_sem])).mono ?_; rintro e w' ⟨rfl, rfl⟩) | (go_at_call 148; first | ((with_reducible refine (HA.out _).mono ?_); rintro e w' ⟨rfl, rfl⟩) | ((with_reducible refine (HB.out _).mono ?_); rintro e w' ⟨rfl, rfl⟩)) | (go_at_call 149; refine (slimited_any _ _ _).mono ?_; rintro e w' ⟨rfl, kj, rfl⟩))
  refine bodyPost_ret (v := .tuple #[.agg #[.int .i64 (R2.mk zeroS 2).v.a, .int .i64 (R2.mk zeroS 2).v.b], .int .i64 (R2.mk zeroS 2).e]) (by simp [results, Tryz.results124, go_sem, zeroS]) rfl ⟨rfl, ?_⟩
  repeat' (first | exact Q.refl _ | refine Q.alloc ?_ _ | refine Q.jk ?_ _ | refine Q.drew ?_)

set_option maxHeartbeats 1000000 in
theorem sscale_any (a b k : Int) (w : World) :
    Calls Tryz.prog 124 #[.agg #[.int .i64 a, .int .i64 b], .int .i64 k] w fun e w' => e = .returned (.tuple #[.agg #[.int .i64 (sscaleR ⟨a, b⟩ k).v.a, .int .i64 (sscaleR ⟨a, b⟩ k).v.b], .int .i64 (sscaleR ⟨a, b⟩ k).e]) ∧ Q w w' := by
  by_cases h : wi3 1152921504606846976 a b k = true
  · have hR : sscaleR ⟨a, b⟩ k = limS ⟨a * k, b * k⟩ := by simp [sscaleR, h]
    rw [hR]
    have hno : ¬ (-4611686018427387904 ≤ a * k ∧ a * k ≤ 4611686018427387904) ∨ ¬ (-4611686018427387904 ≤ b * k ∧ b * k ≤ 4611686018427387904) → limS ⟨a * k, b * k⟩ = ⟨zeroS, 2⟩ := by
      intro hh
      have : wi2 1152921504606846976 (a * k) (b * k) = false := by
        cases e : wi2 1152921504606846976 (a * k) (b * k)
        · rfl
        · have := (wi2_iff _ _ _).1 e; omega
      simp [limS, this]
    by_cases ha : -4611686018427387904 ≤ a * k ∧ a * k ≤ 4611686018427387904
    · by_cases hb : -4611686018427387904 ≤ b * k ∧ b * k ≤ 4611686018427387904
      · exact sscale_ok a b k w h ha hb
      · rw [hno (Or.inr hb)]; exact sscale_no2 a b k w h ha hb
    · rw [hno (Or.inl ha)]
      by_cases hb : -4611686018427387904 ≤ b * k ∧ b * k ≤ 4611686018427387904
      · exact sscale_no1 a b k w h ha hb
      · exact sscale_no3 a b k w h ha hb
  · have h : wi3 1152921504606846976 a b k = false := by simpa using h
    go_enter Tryz.func124, Tryz.ntmps124
    go_wp2_with (go_at_call 133; refine (swithin3 _ a b k 1152921504606846976 _ (by omega) (by omega) (by simp [go_sem]) (by simp [go_sem]) (by simp [go_sem])).mono ?_; rintro e w' ⟨rfl, rfl⟩)
    refine bodyPost_ret (v := .tuple #[.agg #[.int .i64 (R2.mk zeroS 1).v.a, .int .i64 (R2.mk zeroS 1).v.b], .int .i64 (R2.mk zeroS 1).e]) (by simp [results, Tryz.results124, go_sem, zeroS]) rfl ⟨by simp [sscaleR, h], ?_⟩
    repeat' (first | exact Q.refl _ | refine Q.alloc ?_ _ | refine Q.jk ?_ _ | refine Q.drew ?_)
end Go.Proofs.YtcjflafjmdfanaaGreatDoor
