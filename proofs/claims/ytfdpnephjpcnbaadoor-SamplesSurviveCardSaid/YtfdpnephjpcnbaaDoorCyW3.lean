
/- What Mul, Root and Turn of package cyclo return. -/
import Derived.Test.YtfdpnephjpcnbaaDoorCyW2
import Derived.Test.YtfdpnephjpcnbaaDoorEqsP
namespace Go.Proofs.YtfdpnephjpcnbaaDoor
open Go.RowKit Go.Sub

theorem limR_mul (a b c d a' b' c' d' : Int) (h : wiB ⟨a, b, c, d⟩ 268435456 = true) (h' : wiB ⟨a', b', c', d'⟩ 268435456 = true) :
    limR ⟨a * a' - (b * d' + c * c' + d * b') - d * d', a * b' + b * a' - (c * d' + d * c'), a * c' + b * b' + c * a' + (b * d' + c * c' + d * b'), a * d' + b * c' + c * b' + d * a' + (c * d' + d * c')⟩ = mulR ⟨a, b, c, d⟩ ⟨a', b', c', d'⟩ := by
  have e : (Cy.mk (a * a' - (b * d' + c * c' + d * b') - d * d') (a * b' + b * a' - (c * d' + d * c')) (a * c' + b * b' + c * a' + (b * d' + c * c' + d * b')) (a * d' + b * c' + c * b' + d * a' + (c * d' + d * c'))) = Cy.mul ⟨a, b, c, d⟩ ⟨a', b', c', d'⟩ := by
    simp only [Cy.mul]
  rw [e]
  have hi := (mul_in (prods_of (wiB_in h) (wiB_in h'))).mono (show 6 * (268435456 * 268435456) ≤ (576460752303423488 : Int) by decide)
  simp [limR, mulR, h, h', wiB_of hi]

theorem turn_close (a b c d k t1 t2 t3 t4 : Int) (h : wiB ⟨a, b, c, d⟩ 576460752303423488 = true) (e1 : t1 = (Cy.turn ⟨a, b, c, d⟩ k).a) (e2 : t2 = (Cy.turn ⟨a, b, c, d⟩ k).b) (e3 : t3 = (Cy.turn ⟨a, b, c, d⟩ k).c) (e4 : t4 = (Cy.turn ⟨a, b, c, d⟩ k).d) :
    limR ⟨t1, t2, t3, t4⟩ = turnR ⟨a, b, c, d⟩ k := by
  have e : Cy.mk t1 t2 t3 t4 = Cy.turn ⟨a, b, c, d⟩ k := Cy.ext' e1 e2 e3 e4
  simp [turnR, h, e]

/-- The table of package cyclo lies in its place. -/
def rootTab : List Int := [1, 0, 0, 0, 0, 1, 0, 0, 0, 0, 1, 0, 0, 0, 0, 1, -1, 0, 1, 0, 0, -1, 0, 1]
def RootsOK (w : World) : Prop := 0 < w.heap.size ∧ ∀ i, i < 24 → w.cell? ⟨0, i, none⟩ = some (.int .i64 (rootTab.getD i 0))
theorem RootsOK.alloc {w : World} (h : RootsOK w) (o : Obj) : RootsOK (w.alloc o) :=
  ⟨Nat.lt_of_lt_of_le h.1 (by simp), fun i hi => by rw [World.cell?_alloc_past o _ i h.1]; exact h.2 i hi⟩
theorem RootsOK.jk {w : World} (h : RootsOK w) (k : Jk) : RootsOK (w.jk k) :=
  ⟨Nat.lt_of_lt_of_le h.1 (by rw [World.size_jk]; omega), fun i hi => by rw [World.cell?_jk_lt k _ i h.1]; exact h.2 i hi⟩
theorem RootsOK.drew {w : World} (h : RootsOK w) : RootsOK w.drew := h
theorem RootsOK.q {w w' : World} (h : RootsOK w) (hq : Q w w') : RootsOK w' := by
  obtain ⟨k, rfl⟩ := hq
  exact h.jk k

set_option maxHeartbeats 400000 in
theorem root_0 (k : Int) (w : World) (hr : RootsOK w) (hk : k % 12 = 0) :
    Calls Tryd.prog 43 #[.int .i64 k] w fun e w' => e = .returned (.agg #[.int .i64 (1), .int .i64 (0), .int .i64 (0), .int .i64 (0)]) ∧ Q w w' := by
  have t0 := hr.2 0 (by omega)
  have t1 := hr.2 1 (by omega)
  have t2 := hr.2 2 (by omega)
  have t3 := hr.2 3 (by omega)
  simp only [rootTab, List.getD_cons_zero, List.getD_cons_succ] at t0 t1 t2 t3
  haveI : Old 0 w := ⟨hr.1⟩
  clear hr
  go_enter Tryd.func43, Tryd.ntmps43
  go_wp2_with (first | (go_at_call 70; refine (dozen_any _ _).mono ?_; rintro e w' ⟨rfl, rfl⟩) | (go_at_call 71; refine (minus_any _ _ _ _ _ (by omega) (by omega) (by omega) (by omega) (by omega) (by omega) (by omega) (by omega)).mono ?_; rintro e w' ⟨rfl, kj, rfl⟩))
  refine bodyPost_ret (v := .agg #[.int .i64 (1), .int .i64 (0), .int .i64 (0), .int .i64 (0)]) (by simp [results, Tryd.results43, go_sem]) rfl ⟨rfl, ?_⟩
  repeat' (first | exact Q.refl _ | refine Q.alloc ?_ _ | refine Q.jk ?_ _ | refine Q.drew ?_)

set_option maxHeartbeats 400000 in
theorem root_1 (k : Int) (w : World) (hr : RootsOK w) (hk : k % 12 = 1) :
    Calls Tryd.prog 43 #[.int .i64 k] w fun e w' => e = .returned (.agg #[.int .i64 (0), .int .i64 (1), .int .i64 (0), .int .i64 (0)]) ∧ Q w w' := by
  have t0 := hr.2 4 (by omega)
  have t1 := hr.2 5 (by omega)
  have t2 := hr.2 6 (by omega)
  have t3 := hr.2 7 (by omega)
  simp only [rootTab, List.getD_cons_zero, List.getD_cons_succ] at t0 t1 t2 t3
  haveI : Old 0 w := ⟨hr.1⟩
  clear hr
  go_enter Tryd.func43, Tryd.ntmps43
  go_wp2_with (first | (go_at_call 70; refine (dozen_any _ _).mono ?_; rintro e w' ⟨rfl, rfl⟩) | (go_at_call 71; refine (minus_any _ _ _ _ _ (by omega) (by omega) (by omega) (by omega) (by omega) (by omega) (by omega) (by omega)).mono ?_; rintro e w' ⟨rfl, kj, rfl⟩))
  refine bodyPost_ret (v := .agg #[.int .i64 (0), .int .i64 (1), .int .i64 (0), .int .i64 (0)]) (by simp [results, Tryd.results43, go_sem]) rfl ⟨rfl, ?_⟩
  repeat' (first | exact Q.refl _ | refine Q.alloc ?_ _ | refine Q.jk ?_ _ | refine Q.drew ?_)

set_option maxHeartbeats 400000 in
theorem root_2 (k : Int) (w : World) (hr : RootsOK w) (hk : k % 12 = 2) :
    Calls Tryd.prog 43 #[.int .i64 k] w fun e w' => e = .returned (.agg #[.int .i64 (0), .int .i64 (0), .int .i64 (1), .int .i64 (0)]) ∧ Q w w' := by
  have t0 := hr.2 8 (by omega)
  have t1 := hr.2 9 (by omega)
  have t2 := hr.2 10 (by omega)
  have t3 := hr.2 11 (by omega)
  simp only [rootTab, List.getD_cons_zero, List.getD_cons_succ] at t0 t1 t2 t3
  haveI : Old 0 w := ⟨hr.1⟩
  clear hr
  go_enter Tryd.func43, Tryd.ntmps43
  go_wp2_with (first | (go_at_call 70; refine (dozen_any _ _).mono ?_; rintro e w' ⟨rfl, rfl⟩) | (go_at_call 71; refine (minus_any _ _ _ _ _ (by omega) (by omega) (by omega) (by omega) (by omega) (by omega) (by omega) (by omega)).mono ?_; rintro e w' ⟨rfl, kj, rfl⟩))
  refine bodyPost_ret (v := .agg #[.int .i64 (0), .int .i64 (0), .int .i64 (1), .int .i64 (0)]) (by simp [results, Tryd.results43, go_sem]) rfl ⟨rfl, ?_⟩
  repeat' (first | exact Q.refl _ | refine Q.alloc ?_ _ | refine Q.jk ?_ _ | refine Q.drew ?_)

set_option maxHeartbeats 400000 in
theorem root_3 (k : Int) (w : World) (hr : RootsOK w) (hk : k % 12 = 3) :
    Calls Tryd.prog 43 #[.int .i64 k] w fun e w' => e = .returned (.agg #[.int .i64 (0), .int .i64 (0), .int .i64 (0), .int .i64 (1)]) ∧ Q w w' := by
  have t0 := hr.2 12 (by omega)
  have t1 := hr.2 13 (by omega)
  have t2 := hr.2 14 (by omega)
  have t3 := hr.2 15 (by omega)
  simp only [rootTab, List.getD_cons_zero, List.getD_cons_succ] at t0 t1 t2 t3
  haveI : Old 0 w := ⟨hr.1⟩
  clear hr
  go_enter Tryd.func43, Tryd.ntmps43
  go_wp2_with (first | (go_at_call 70; refine (dozen_any _ _).mono ?_; rintro e w' ⟨rfl, rfl⟩) | (go_at_call 71; refine (minus_any _ _ _ _ _ (by omega) (by omega) (by omega) (by omega) (by omega) (by omega) (by omega) (by omega)).mono ?_; rintro e w' ⟨rfl, kj, rfl⟩))
  refine bodyPost_ret (v := .agg #[.int .i64 (0), .int .i64 (0), .int .i64 (0), .int .i64 (1)]) (by simp [results, Tryd.results43, go_sem]) rfl ⟨rfl, ?_⟩
  repeat' (first | exact Q.refl _ | refine Q.alloc ?_ _ | refine Q.jk ?_ _ | refine Q.drew ?_)

set_option maxHeartbeats 400000 in
theorem root_4 (k : Int) (w : World) (hr : RootsOK w) (hk : k % 12 = 4) :
    Calls Tryd.prog 43 #[.int .i64 k] w fun e w' => e = .returned (.agg #[.int .i64 (-1), .int .i64 (0), .int .i64 (1), .int .i64 (0)]) ∧ Q w w' := by
  have t0 := hr.2 16 (by omega)
  have t1 := hr.2 17 (by omega)
  have t2 := hr.2 18 (by omega)
  have t3 := hr.2 19 (by omega)
  simp only [rootTab, List.getD_cons_zero, List.getD_cons_succ] at t0 t1 t2 t3
  haveI : Old 0 w := ⟨hr.1⟩
  clear hr
  go_enter Tryd.func43, Tryd.ntmps43
  go_wp2_with (first | (go_at_call 70; refine (dozen_any _ _).mono ?_; rintro e w' ⟨rfl, rfl⟩) | (go_at_call 71; refine (minus_any _ _ _ _ _ (by omega) (by omega) (by omega) (by omega) (by omega) (by omega) (by omega) (by omega)).mono ?_; rintro e w' ⟨rfl, kj, rfl⟩))
  refine bodyPost_ret (v := .agg #[.int .i64 (-1), .int .i64 (0), .int .i64 (1), .int .i64 (0)]) (by simp [results, Tryd.results43, go_sem]) rfl ⟨rfl, ?_⟩
  repeat' (first | exact Q.refl _ | refine Q.alloc ?_ _ | refine Q.jk ?_ _ | refine Q.drew ?_)

set_option maxHeartbeats 400000 in
theorem root_5 (k : Int) (w : World) (hr : RootsOK w) (hk : k % 12 = 5) :
    Calls Tryd.prog 43 #[.int .i64 k] w fun e w' => e = .returned (.agg #[.int .i64 (0), .int .i64 (-1), .int .i64 (0), .int .i64 (1)]) ∧ Q w w' := by
  have t0 := hr.2 20 (by omega)
  have t1 := hr.2 21 (by omega)
  have t2 := hr.2 22 (by omega)
  have t3 := hr.2 23 (by omega)
  simp only [rootTab, List.getD_cons_zero, List.getD_cons_succ] at t0 t1 t2 t3
  haveI : Old 0 w := ⟨hr.1⟩
  clear hr
  go_enter Tryd.func43, Tryd.ntmps43
  go_wp2_with (first | (go_at_call 70; refine (dozen_any _ _).mono ?_; rintro e w' ⟨rfl, rfl⟩) | (go_at_call 71; refine (minus_any _ _ _ _ _ (by omega) (by omega) (by omega) (by omega) (by omega) (by omega) (by omega) (by omega)).mono ?_; rintro e w' ⟨rfl, kj, rfl⟩))
  refine bodyPost_ret (v := .agg #[.int .i64 (0), .int .i64 (-1), .int .i64 (0), .int .i64 (1)]) (by simp [results, Tryd.results43, go_sem]) rfl ⟨rfl, ?_⟩
  repeat' (first | exact Q.refl _ | refine Q.alloc ?_ _ | refine Q.jk ?_ _ | refine Q.drew ?_)

set_option maxHeartbeats 400000 in
theorem root_6 (k : Int) (w : World) (hr : RootsOK w) (hk : k % 12 = 6) :
    Calls Tryd.prog 43 #[.int .i64 k] w fun e w' => e = .returned (.agg #[.int .i64 (-1), .int .i64 (0), .int .i64 (0), .int .i64 (0)]) ∧ Q w w' := by
  have t0 := hr.2 0 (by omega)
  have t1 := hr.2 1 (by omega)
  have t2 := hr.2 2 (by omega)
  have t3 := hr.2 3 (by omega)
  simp only [rootTab, List.getD_cons_zero, List.getD_cons_succ] at t0 t1 t2 t3
  haveI : Old 0 w := ⟨hr.1⟩
  clear hr
  go_enter Tryd.func43, Tryd.ntmps43
  go_wp2_with (first | (go_at_call 70; refine (dozen_any _ _).mono ?_; rintro e w' ⟨rfl, rfl⟩) | (go_at_call 71; refine (minus_any _ _ _ _ _ (by omega) (by omega) (by omega) (by omega) (by omega) (by omega) (by omega) (by omega)).mono ?_; rintro e w' ⟨rfl, kj, rfl⟩))
  refine bodyPost_ret (v := .agg #[.int .i64 (-1), .int .i64 (0), .int .i64 (0), .int .i64 (0)]) (by simp [results, Tryd.results43, go_sem]) rfl ⟨rfl, ?_⟩
  repeat' (first | exact Q.refl _ | refine Q.alloc ?_ _ | refine Q.jk ?_ _ | refine Q.drew ?_)

set_option maxHeartbeats 400000 in
theorem root_7 (k : Int) (w : World) (hr : RootsOK w) (hk : k % 12 = 7) :
    Calls Tryd.prog 43 #[.int .i64 k] w fun e w' => e = .returned (.agg #[.int .i64 (0), .int .i64 (-1), .int .i64 (0), .int .i64 (0)]) ∧ Q w w' := by
  have t0 := hr.2 4 (by omega)
  have t1 := hr.2 5 (by omega)
  have t2 := hr.2 6 (by omega)
  have t3 := hr.2 7 (by omega)
  simp only [rootTab, List.getD_cons_zero, List.getD_cons_succ] at t0 t1 t2 t3
  haveI : Old 0 w := ⟨hr.1⟩
  clear hr
  go_enter Tryd.func43, Tryd.ntmps43
  go_wp2_with (first | (go_at_call 70; refine (dozen_any _ _).mono ?_; rintro e w' ⟨rfl, rfl⟩) | (go_at_call 71; refine (minus_any _ _ _ _ _ (by omega) (by omega) (by omega) (by omega) (by omega) (by omega) (by omega) (by omega)).mono ?_; rintro e w' ⟨rfl, kj, rfl⟩))
  refine bodyPost_ret (v := .agg #[.int .i64 (0), .int .i64 (-1), .int .i64 (0), .int .i64 (0)]) (by simp [results, Tryd.results43, go_sem]) rfl ⟨rfl, ?_⟩
  repeat' (first | exact Q.refl _ | refine Q.alloc ?_ _ | refine Q.jk ?_ _ | refine Q.drew ?_)

set_option maxHeartbeats 400000 in
theorem root_8 (k : Int) (w : World) (hr : RootsOK w) (hk : k % 12 = 8) :
    Calls Tryd.prog 43 #[.int .i64 k] w fun e w' => e = .returned (.agg #[.int .i64 (0), .int .i64 (0), .int .i64 (-1), .int .i64 (0)]) ∧ Q w w' := by
  have t0 := hr.2 8 (by omega)
  have t1 := hr.2 9 (by omega)
  have t2 := hr.2 10 (by omega)
  have t3 := hr.2 11 (by omega)
  simp only [rootTab, List.getD_cons_zero, List.getD_cons_succ] at t0 t1 t2 t3
  haveI : Old 0 w := ⟨hr.1⟩
  clear hr
  go_enter Tryd.func43, Tryd.ntmps43
  go_wp2_with (first | (go_at_call 70; refine (dozen_any _ _).mono ?_; rintro e w' ⟨rfl, rfl⟩) | (go_at_call 71; refine (minus_any _ _ _ _ _ (by omega) (by omega) (by omega) (by omega) (by omega) (by omega) (by omega) (by omega)).mono ?_; rintro e w' ⟨rfl, kj, rfl⟩))
  refine bodyPost_ret (v := .agg #[.int .i64 (0), .int .i64 (0), .int .i64 (-1), .int .i64 (0)]) (by simp [results, Tryd.results43, go_sem]) rfl ⟨rfl, ?_⟩
  repeat' (first | exact Q.refl _ | refine Q.alloc ?_ _ | refine Q.jk ?_ _ | refine Q.drew ?_)

set_option maxHeartbeats 400000 in
theorem root_9 (k : Int) (w : World) (hr : RootsOK w) (hk : k % 12 = 9) :
    Calls Tryd.prog 43 #[.int .i64 k] w fun e w' => e = .returned (.agg #[.int .i64 (0), .int .i64 (0), .int .i64 (0), .int .i64 (-1)]) ∧ Q w w' := by
  have t0 := hr.2 12 (by omega)
  have t1 := hr.2 13 (by omega)
  have t2 := hr.2 14 (by omega)
  have t3 := hr.2 15 (by omega)
  simp only [rootTab, List.getD_cons_zero, List.getD_cons_succ] at t0 t1 t2 t3
  haveI : Old 0 w := ⟨hr.1⟩
  clear hr
  go_enter Tryd.func43, Tryd.ntmps43
  go_wp2_with (first | (go_at_call 70; refine (dozen_any _ _).mono ?_; rintro e w' ⟨rfl, rfl⟩) | (go_at_call 71; refine (minus_any _ _ _ _ _ (by omega) (by omega) (by omega) (by omega) (by omega) (by omega) (by omega) (by omega)).mono ?_; rintro e w' ⟨rfl, kj, rfl⟩))
  refine bodyPost_ret (v := .agg #[.int .i64 (0), .int .i64 (0), .int .i64 (0), .int .i64 (-1)]) (by simp [results, Tryd.results43, go_sem]) rfl ⟨rfl, ?_⟩
  repeat' (first | exact Q.refl _ | refine Q.alloc ?_ _ | refine Q.jk ?_ _ | refine Q.drew ?_)

set_option maxHeartbeats 400000 in
theorem root_10 (k : Int) (w : World) (hr : RootsOK w) (hk : k % 12 = 10) :
    Calls Tryd.prog 43 #[.int .i64 k] w fun e w' => e = .returned (.agg #[.int .i64 (1), .int .i64 (0), .int .i64 (-1), .int .i64 (0)]) ∧ Q w w' := by
  have t0 := hr.2 16 (by omega)
  have t1 := hr.2 17 (by omega)
  have t2 := hr.2 18 (by omega)
  have t3 := hr.2 19 (by omega)
  simp only [rootTab, List.getD_cons_zero, List.getD_cons_succ] at t0 t1 t2 t3
  haveI : Old 0 w := ⟨hr.1⟩
  clear hr
  go_enter Tryd.func43, Tryd.ntmps43
  go_wp2_with (first | (go_at_call 70; refine (dozen_any _ _).mono ?_; rintro e w' ⟨rfl, rfl⟩) | (go_at_call 71; refine (minus_any _ _ _ _ _ (by omega) (by omega) (by omega) (by omega) (by omega) (by omega) (by omega) (by omega)).mono ?_; rintro e w' ⟨rfl, kj, rfl⟩))
  refine bodyPost_ret (v := .agg #[.int .i64 (1), .int .i64 (0), .int .i64 (-1), .int .i64 (0)]) (by simp [results, Tryd.results43, go_sem]) rfl ⟨rfl, ?_⟩
  repeat' (first | exact Q.refl _ | refine Q.alloc ?_ _ | refine Q.jk ?_ _ | refine Q.drew ?_)

set_option maxHeartbeats 400000 in
theorem root_11 (k : Int) (w : World) (hr : RootsOK w) (hk : k % 12 = 11) :
    Calls Tryd.prog 43 #[.int .i64 k] w fun e w' => e = .returned (.agg #[.int .i64 (0), .int .i64 (1), .int .i64 (0), .int .i64 (-1)]) ∧ Q w w' := by
  have t0 := hr.2 20 (by omega)
  have t1 := hr.2 21 (by omega)
  have t2 := hr.2 22 (by omega)
  have t3 := hr.2 23 (by omega)
  simp only [rootTab, List.getD_cons_zero, List.getD_cons_succ] at t0 t1 t2 t3
  haveI : Old 0 w := ⟨hr.1⟩
  clear hr
  go_enter Tryd.func43, Tryd.ntmps43
  go_wp2_with (first | (go_at_call 70; refine (dozen_any _ _).mono ?_; rintro e w' ⟨rfl, rfl⟩) | (go_at_call 71; refine (minus_any _ _ _ _ _ (by omega) (by omega) (by omega) (by omega) (by omega) (by omega) (by omega) (by omega)).mono ?_; rintro e w' ⟨rfl, kj, rfl⟩))
  refine bodyPost_ret (v := .agg #[.int .i64 (0), .int .i64 (1), .int .i64 (0), .int .i64 (-1)]) (by simp [results, Tryd.results43, go_sem]) rfl ⟨rfl, ?_⟩
  repeat' (first | exact Q.refl _ | refine Q.alloc ?_ _ | refine Q.jk ?_ _ | refine Q.drew ?_)

theorem root_any (k : Int) (w : World) (hr : RootsOK w) :
    Calls Tryd.prog 43 #[.int .i64 k] w fun e w' => e = .returned (.agg #[.int .i64 (rootC k).a, .int .i64 (rootC k).b, .int .i64 (rootC k).c, .int .i64 (rootC k).d]) ∧ Q w w' := by
  rcases dz_cases k with hk | hk | hk | hk | hk | hk | hk | hk | hk | hk | hk | hk
  · rw [show rootC k = (Cy.mk 1 0 0 0).tn 0 by simp [rootC, hk]]; exact root_0 k w hr hk
  · rw [show rootC k = (Cy.mk 1 0 0 0).tn 1 by simp [rootC, hk]]; exact root_1 k w hr hk
  · rw [show rootC k = (Cy.mk 1 0 0 0).tn 2 by simp [rootC, hk]]; exact root_2 k w hr hk
  · rw [show rootC k = (Cy.mk 1 0 0 0).tn 3 by simp [rootC, hk]]; exact root_3 k w hr hk
  · rw [show rootC k = (Cy.mk 1 0 0 0).tn 4 by simp [rootC, hk]]; exact root_4 k w hr hk
  · rw [show rootC k = (Cy.mk 1 0 0 0).tn 5 by simp [rootC, hk]]; exact root_5 k w hr hk
  · rw [show rootC k = (Cy.mk 1 0 0 0).tn 6 by simp [rootC, hk]]; exact root_6 k w hr hk
  · rw [show rootC k = (Cy.mk 1 0 0 0).tn 7 by simp [rootC, hk]]; exact root_7 k w hr hk
  · rw [show rootC k = (Cy.mk 1 0 0 0).tn 8 by simp [rootC, hk]]; exact root_8 k w hr hk
  · rw [show rootC k = (Cy.mk 1 0 0 0).tn 9 by simp [rootC, hk]]; exact root_9 k w hr hk
  · rw [show rootC k = (Cy.mk 1 0 0 0).tn 10 by simp [rootC, hk]]; exact root_10 k w hr hk
  · rw [show rootC k = (Cy.mk 1 0 0 0).tn 11 by simp [rootC, hk]]; exact root_11 k w hr hk

end Go.Proofs.YtfdpnephjpcnbaaDoor
