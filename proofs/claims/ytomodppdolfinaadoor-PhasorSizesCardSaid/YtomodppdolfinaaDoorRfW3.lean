
/- What reduced, product, Mul, Root and Turn of the reference return. -/
import Derived.Test.YtomodppdolfinaaDoorRfW1
import Derived.Test.YtomodppdolfinaaDoorCyL2
namespace Go.Sub
theorem Prods.mono {x y : Cy} {B B' : Int} (h : Prods x y B) (hb : B ≤ B') : Prods x y B' := by
  obtain ⟨h1, h2, h3, h4, h5, h6, h7, h8, h9, h10, h11, h12, h13, h14, h15, h16⟩ := h
  constructor <;> omega
end Go.Sub
namespace Go.Proofs.YtomodppdolfinaaDoor
open Go.RowKit Go.Sub

set_option maxHeartbeats 400000 in
theorem rroot_0p (k : Int) (w : World) (ht : k.tmod 12 = 0) :
    Calls Tryd.prog 13 #[.int .i64 k] w fun e w' => e = .returned (.agg #[.int .i64 (1), .int .i64 (0), .int .i64 (0), .int .i64 (0)]) ∧ Q w w' := by
  go_enter Tryd.func13, Tryd.ntmps13
  go_wp2
  refine bodyPost_ret (v := .agg #[.int .i64 (1), .int .i64 (0), .int .i64 (0), .int .i64 (0)]) (by simp [results, Tryd.results13, go_sem]) rfl ⟨rfl, ?_⟩
  repeat' (first | exact Q.refl _ | refine Q.alloc ?_ _ | refine Q.jk ?_ _ | refine Q.drew ?_)
set_option maxHeartbeats 400000 in
theorem rroot_1p (k : Int) (w : World) (ht : k.tmod 12 = 1) :
    Calls Tryd.prog 13 #[.int .i64 k] w fun e w' => e = .returned (.agg #[.int .i64 (0), .int .i64 (1), .int .i64 (0), .int .i64 (0)]) ∧ Q w w' := by
  go_enter Tryd.func13, Tryd.ntmps13
  go_wp2
  refine bodyPost_ret (v := .agg #[.int .i64 (0), .int .i64 (1), .int .i64 (0), .int .i64 (0)]) (by simp [results, Tryd.results13, go_sem]) rfl ⟨rfl, ?_⟩
  repeat' (first | exact Q.refl _ | refine Q.alloc ?_ _ | refine Q.jk ?_ _ | refine Q.drew ?_)
set_option maxHeartbeats 400000 in
theorem rroot_1n (k : Int) (w : World) (ht : k.tmod 12 = -11) :
    Calls Tryd.prog 13 #[.int .i64 k] w fun e w' => e = .returned (.agg #[.int .i64 (0), .int .i64 (1), .int .i64 (0), .int .i64 (0)]) ∧ Q w w' := by
  go_enter Tryd.func13, Tryd.ntmps13
  go_wp2
  refine bodyPost_ret (v := .agg #[.int .i64 (0), .int .i64 (1), .int .i64 (0), .int .i64 (0)]) (by simp [results, Tryd.results13, go_sem]) rfl ⟨rfl, ?_⟩
  repeat' (first | exact Q.refl _ | refine Q.alloc ?_ _ | refine Q.jk ?_ _ | refine Q.drew ?_)
set_option maxHeartbeats 400000 in
theorem rroot_2p (k : Int) (w : World) (ht : k.tmod 12 = 2) :
    Calls Tryd.prog 13 #[.int .i64 k] w fun e w' => e = .returned (.agg #[.int .i64 (0), .int .i64 (0), .int .i64 (1), .int .i64 (0)]) ∧ Q w w' := by
  go_enter Tryd.func13, Tryd.ntmps13
  go_wp2
  refine bodyPost_ret (v := .agg #[.int .i64 (0), .int .i64 (0), .int .i64 (1), .int .i64 (0)]) (by simp [results, Tryd.results13, go_sem]) rfl ⟨rfl, ?_⟩
  repeat' (first | exact Q.refl _ | refine Q.alloc ?_ _ | refine Q.jk ?_ _ | refine Q.drew ?_)
set_option maxHeartbeats 400000 in
theorem rroot_2n (k : Int) (w : World) (ht : k.tmod 12 = -10) :
    Calls Tryd.prog 13 #[.int .i64 k] w fun e w' => e = .returned (.agg #[.int .i64 (0), .int .i64 (0), .int .i64 (1), .int .i64 (0)]) ∧ Q w w' := by
  go_enter Tryd.func13, Tryd.ntmps13
  go_wp2
  refine bodyPost_ret (v := .agg #[.int .i64 (0), .int .i64 (0), .int .i64 (1), .int .i64 (0)]) (by simp [results, Tryd.results13, go_sem]) rfl ⟨rfl, ?_⟩
  repeat' (first | exact Q.refl _ | refine Q.alloc ?_ _ | refine Q.jk ?_ _ | refine Q.drew ?_)
set_option maxHeartbeats 400000 in
theorem rroot_3p (k : Int) (w : World) (ht : k.tmod 12 = 3) :
    Calls Tryd.prog 13 #[.int .i64 k] w fun e w' => e = .returned (.agg #[.int .i64 (0), .int .i64 (0), .int .i64 (0), .int .i64 (1)]) ∧ Q w w' := by
  go_enter Tryd.func13, Tryd.ntmps13
  go_wp2
  refine bodyPost_ret (v := .agg #[.int .i64 (0), .int .i64 (0), .int .i64 (0), .int .i64 (1)]) (by simp [results, Tryd.results13, go_sem]) rfl ⟨rfl, ?_⟩
  repeat' (first | exact Q.refl _ | refine Q.alloc ?_ _ | refine Q.jk ?_ _ | refine Q.drew ?_)
set_option maxHeartbeats 400000 in
theorem rroot_3n (k : Int) (w : World) (ht : k.tmod 12 = -9) :
    Calls Tryd.prog 13 #[.int .i64 k] w fun e w' => e = .returned (.agg #[.int .i64 (0), .int .i64 (0), .int .i64 (0), .int .i64 (1)]) ∧ Q w w' := by
  go_enter Tryd.func13, Tryd.ntmps13
  go_wp2
  refine bodyPost_ret (v := .agg #[.int .i64 (0), .int .i64 (0), .int .i64 (0), .int .i64 (1)]) (by simp [results, Tryd.results13, go_sem]) rfl ⟨rfl, ?_⟩
  repeat' (first | exact Q.refl _ | refine Q.alloc ?_ _ | refine Q.jk ?_ _ | refine Q.drew ?_)
set_option maxHeartbeats 400000 in
theorem rroot_4p (k : Int) (w : World) (ht : k.tmod 12 = 4) :
    Calls Tryd.prog 13 #[.int .i64 k] w fun e w' => e = .returned (.agg #[.int .i64 (-1), .int .i64 (0), .int .i64 (1), .int .i64 (0)]) ∧ Q w w' := by
  go_enter Tryd.func13, Tryd.ntmps13
  go_wp2
  refine bodyPost_ret (v := .agg #[.int .i64 (-1), .int .i64 (0), .int .i64 (1), .int .i64 (0)]) (by simp [results, Tryd.results13, go_sem]) rfl ⟨rfl, ?_⟩
  repeat' (first | exact Q.refl _ | refine Q.alloc ?_ _ | refine Q.jk ?_ _ | refine Q.drew ?_)
set_option maxHeartbeats 400000 in
theorem rroot_4n (k : Int) (w : World) (ht : k.tmod 12 = -8) :
    Calls Tryd.prog 13 #[.int .i64 k] w fun e w' => e = .returned (.agg #[.int .i64 (-1), .int .i64 (0), .int .i64 (1), .int .i64 (0)]) ∧ Q w w' := by
  go_enter Tryd.func13, Tryd.ntmps13
  go_wp2
  refine bodyPost_ret (v := .agg #[.int .i64 (-1), .int .i64 (0), .int .i64 (1), .int .i64 (0)]) (by simp [results, Tryd.results13, go_sem]) rfl ⟨rfl, ?_⟩
  repeat' (first | exact Q.refl _ | refine Q.alloc ?_ _ | refine Q.jk ?_ _ | refine Q.drew ?_)
set_option maxHeartbeats 400000 in
theorem rroot_5p (k : Int) (w : World) (ht : k.tmod 12 = 5) :
    Calls Tryd.prog 13 #[.int .i64 k] w fun e w' => e = .returned (.agg #[.int .i64 (0), .int .i64 (-1), .int .i64 (0), .int .i64 (1)]) ∧ Q w w' := by
  go_enter Tryd.func13, Tryd.ntmps13
  go_wp2
  refine bodyPost_ret (v := .agg #[.int .i64 (0), .int .i64 (-1), .int .i64 (0), .int .i64 (1)]) (by simp [results, Tryd.results13, go_sem]) rfl ⟨rfl, ?_⟩
  repeat' (first | exact Q.refl _ | refine Q.alloc ?_ _ | refine Q.jk ?_ _ | refine Q.drew ?_)
set_option maxHeartbeats 400000 in
theorem rroot_5n (k : Int) (w : World) (ht : k.tmod 12 = -7) :
    Calls Tryd.prog 13 #[.int .i64 k] w fun e w' => e = .returned (.agg #[.int .i64 (0), .int .i64 (-1), .int .i64 (0), .int .i64 (1)]) ∧ Q w w' := by
  go_enter Tryd.func13, Tryd.ntmps13
  go_wp2
  refine bodyPost_ret (v := .agg #[.int .i64 (0), .int .i64 (-1), .int .i64 (0), .int .i64 (1)]) (by simp [results, Tryd.results13, go_sem]) rfl ⟨rfl, ?_⟩
  repeat' (first | exact Q.refl _ | refine Q.alloc ?_ _ | refine Q.jk ?_ _ | refine Q.drew ?_)
set_option maxHeartbeats 400000 in
theorem rroot_6p (k : Int) (w : World) (ht : k.tmod 12 = 6) :
    Calls Tryd.prog 13 #[.int .i64 k] w fun e w' => e = .returned (.agg #[.int .i64 (-1), .int .i64 (0), .int .i64 (0), .int .i64 (0)]) ∧ Q w w' := by
  go_enter Tryd.func13, Tryd.ntmps13
  go_wp2
  refine bodyPost_ret (v := .agg #[.int .i64 (-1), .int .i64 (0), .int .i64 (0), .int .i64 (0)]) (by simp [results, Tryd.results13, go_sem]) rfl ⟨rfl, ?_⟩
  repeat' (first | exact Q.refl _ | refine Q.alloc ?_ _ | refine Q.jk ?_ _ | refine Q.drew ?_)
set_option maxHeartbeats 400000 in
theorem rroot_6n (k : Int) (w : World) (ht : k.tmod 12 = -6) :
    Calls Tryd.prog 13 #[.int .i64 k] w fun e w' => e = .returned (.agg #[.int .i64 (-1), .int .i64 (0), .int .i64 (0), .int .i64 (0)]) ∧ Q w w' := by
  go_enter Tryd.func13, Tryd.ntmps13
  go_wp2
  refine bodyPost_ret (v := .agg #[.int .i64 (-1), .int .i64 (0), .int .i64 (0), .int .i64 (0)]) (by simp [results, Tryd.results13, go_sem]) rfl ⟨rfl, ?_⟩
  repeat' (first | exact Q.refl _ | refine Q.alloc ?_ _ | refine Q.jk ?_ _ | refine Q.drew ?_)
set_option maxHeartbeats 400000 in
theorem rroot_7p (k : Int) (w : World) (ht : k.tmod 12 = 7) :
    Calls Tryd.prog 13 #[.int .i64 k] w fun e w' => e = .returned (.agg #[.int .i64 (0), .int .i64 (-1), .int .i64 (0), .int .i64 (0)]) ∧ Q w w' := by
  go_enter Tryd.func13, Tryd.ntmps13
  go_wp2
  refine bodyPost_ret (v := .agg #[.int .i64 (0), .int .i64 (-1), .int .i64 (0), .int .i64 (0)]) (by simp [results, Tryd.results13, go_sem]) rfl ⟨rfl, ?_⟩
  repeat' (first | exact Q.refl _ | refine Q.alloc ?_ _ | refine Q.jk ?_ _ | refine Q.drew ?_)
set_option maxHeartbeats 400000 in
theorem rroot_7n (k : Int) (w : World) (ht : k.tmod 12 = -5) :
    Calls Tryd.prog 13 #[.int .i64 k] w fun e w' => e = .returned (.agg #[.int .i64 (0), .int .i64 (-1), .int .i64 (0), .int .i64 (0)]) ∧ Q w w' := by
  go_enter Tryd.func13, Tryd.ntmps13
  go_wp2
  refine bodyPost_ret (v := .agg #[.int .i64 (0), .int .i64 (-1), .int .i64 (0), .int .i64 (0)]) (by simp [results, Tryd.results13, go_sem]) rfl ⟨rfl, ?_⟩
  repeat' (first | exact Q.refl _ | refine Q.alloc ?_ _ | refine Q.jk ?_ _ | refine Q.drew ?_)
set_option maxHeartbeats 400000 in
theorem rroot_8p (k : Int) (w : World) (ht : k.tmod 12 = 8) :
    Calls Tryd.prog 13 #[.int .i64 k] w fun e w' => e = .returned (.agg #[.int .i64 (0), .int .i64 (0), .int .i64 (-1), .int .i64 (0)]) ∧ Q w w' := by
  go_enter Tryd.func13, Tryd.ntmps13
  go_wp2
  refine bodyPost_ret (v := .agg #[.int .i64 (0), .int .i64 (0), .int .i64 (-1), .int .i64 (0)]) (by simp [results, Tryd.results13, go_sem]) rfl ⟨rfl, ?_⟩
  repeat' (first | exact Q.refl _ | refine Q.alloc ?_ _ | refine Q.jk ?_ _ | refine Q.drew ?_)
set_option maxHeartbeats 400000 in
theorem rroot_8n (k : Int) (w : World) (ht : k.tmod 12 = -4) :
    Calls Tryd.prog 13 #[.int .i64 k] w fun e w' => e = .returned (.agg #[.int .i64 (0), .int .i64 (0), .int .i64 (-1), .int .i64 (0)]) ∧ Q w w' := by
  go_enter Tryd.func13, Tryd.ntmps13
  go_wp2
  refine bodyPost_ret (v := .agg #[.int .i64 (0), .int .i64 (0), .int .i64 (-1), .int .i64 (0)]) (by simp [results, Tryd.results13, go_sem]) rfl ⟨rfl, ?_⟩
  repeat' (first | exact Q.refl _ | refine Q.alloc ?_ _ | refine Q.jk ?_ _ | refine Q.drew ?_)
set_option maxHeartbeats 400000 in
theorem rroot_9p (k : Int) (w : World) (ht : k.tmod 12 = 9) :
    Calls Tryd.prog 13 #[.int .i64 k] w fun e w' => e = .returned (.agg #[.int .i64 (0), .int .i64 (0), .int .i64 (0), .int .i64 (-1)]) ∧ Q w w' := by
  go_enter Tryd.func13, Tryd.ntmps13
  go_wp2
  refine bodyPost_ret (v := .agg #[.int .i64 (0), .int .i64 (0), .int .i64 (0), .int .i64 (-1)]) (by simp [results, Tryd.results13, go_sem]) rfl ⟨rfl, ?_⟩
  repeat' (first | exact Q.refl _ | refine Q.alloc ?_ _ | refine Q.jk ?_ _ | refine Q.drew ?_)
set_option maxHeartbeats 400000 in
theorem rroot_9n (k : Int) (w : World) (ht : k.tmod 12 = -3) :
    Calls Tryd.prog 13 #[.int .i64 k] w fun e w' => e = .returned (.agg #[.int .i64 (0), .int .i64 (0), .int .i64 (0), .int .i64 (-1)]) ∧ Q w w' := by
  go_enter Tryd.func13, Tryd.ntmps13
  go_wp2
  refine bodyPost_ret (v := .agg #[.int .i64 (0), .int .i64 (0), .int .i64 (0), .int .i64 (-1)]) (by simp [results, Tryd.results13, go_sem]) rfl ⟨rfl, ?_⟩
  repeat' (first | exact Q.refl _ | refine Q.alloc ?_ _ | refine Q.jk ?_ _ | refine Q.drew ?_)
set_option maxHeartbeats 400000 in
theorem rroot_10p (k : Int) (w : World) (ht : k.tmod 12 = 10) :
    Calls Tryd.prog 13 #[.int .i64 k] w fun e w' => e = .returned (.agg #[.int .i64 (1), .int .i64 (0), .int .i64 (-1), .int .i64 (0)]) ∧ Q w w' := by
  go_enter Tryd.func13, Tryd.ntmps13
  go_wp2
  refine bodyPost_ret (v := .agg #[.int .i64 (1), .int .i64 (0), .int .i64 (-1), .int .i64 (0)]) (by simp [results, Tryd.results13, go_sem]) rfl ⟨rfl, ?_⟩
  repeat' (first | exact Q.refl _ | refine Q.alloc ?_ _ | refine Q.jk ?_ _ | refine Q.drew ?_)
set_option maxHeartbeats 400000 in
theorem rroot_10n (k : Int) (w : World) (ht : k.tmod 12 = -2) :
    Calls Tryd.prog 13 #[.int .i64 k] w fun e w' => e = .returned (.agg #[.int .i64 (1), .int .i64 (0), .int .i64 (-1), .int .i64 (0)]) ∧ Q w w' := by
  go_enter Tryd.func13, Tryd.ntmps13
  go_wp2
  refine bodyPost_ret (v := .agg #[.int .i64 (1), .int .i64 (0), .int .i64 (-1), .int .i64 (0)]) (by simp [results, Tryd.results13, go_sem]) rfl ⟨rfl, ?_⟩
  repeat' (first | exact Q.refl _ | refine Q.alloc ?_ _ | refine Q.jk ?_ _ | refine Q.drew ?_)
set_option maxHeartbeats 400000 in
theorem rroot_11p (k : Int) (w : World) (ht : k.tmod 12 = 11) :
    Calls Tryd.prog 13 #[.int .i64 k] w fun e w' => e = .returned (.agg #[.int .i64 (0), .int .i64 (1), .int .i64 (0), .int .i64 (-1)]) ∧ Q w w' := by
  go_enter Tryd.func13, Tryd.ntmps13
  go_wp2
  refine bodyPost_ret (v := .agg #[.int .i64 (0), .int .i64 (1), .int .i64 (0), .int .i64 (-1)]) (by simp [results, Tryd.results13, go_sem]) rfl ⟨rfl, ?_⟩
  repeat' (first | exact Q.refl _ | refine Q.alloc ?_ _ | refine Q.jk ?_ _ | refine Q.drew ?_)
set_option maxHeartbeats 400000 in
theorem rroot_11n (k : Int) (w : World) (ht : k.tmod 12 = -1) :
    Calls Tryd.prog 13 #[.int .i64 k] w fun e w' => e = .returned (.agg #[.int .i64 (0), .int .i64 (1), .int .i64 (0), .int .i64 (-1)]) ∧ Q w w' := by
  go_enter Tryd.func13, Tryd.ntmps13
  go_wp2
  refine bodyPost_ret (v := .agg #[.int .i64 (0), .int .i64 (1), .int .i64 (0), .int .i64 (-1)]) (by simp [results, Tryd.results13, go_sem]) rfl ⟨rfl, ?_⟩
  repeat' (first | exact Q.refl _ | refine Q.alloc ?_ _ | refine Q.jk ?_ _ | refine Q.drew ?_)
theorem tmod12 (k : Int) : k.tmod 12 = k % 12 ∨ (k.tmod 12 = k % 12 - 12 ∧ k % 12 ≠ 0) := by
  rcases Int.le_total 0 k with h | h
  · left; exact Int.tmod_eq_emod_of_nonneg h
  · have := Int.tmod_eq_emod (a := k) (b := 12)
    split at this
    · left; omega
    · rename_i hd
      right
      refine ⟨by omega, fun h0 => hd (Or.inr (Int.dvd_of_emod_eq_zero h0))⟩
theorem rroot_any (k : Int) (w : World) :
    Calls Tryd.prog 13 #[.int .i64 k] w fun e w' => e = .returned (.agg #[.int .i64 (rootC k).a, .int .i64 (rootC k).b, .int .i64 (rootC k).c, .int .i64 (rootC k).d]) ∧ Q w w' := by
  have h12 := tmod12 k
  rcases dz_cases k with hk | hk | hk | hk | hk | hk | hk | hk | hk | hk | hk | hk
  · rw [show rootC k = (Cy.mk 1 0 0 0).tn 0 by simp [rootC, hk]]
    exact rroot_0p k w (by omega)
  · rw [show rootC k = (Cy.mk 1 0 0 0).tn 1 by simp [rootC, hk]]
    rcases h12 with h | ⟨h, _⟩
    · exact rroot_1p k w (by omega)
    · exact rroot_1n k w (by omega)
  · rw [show rootC k = (Cy.mk 1 0 0 0).tn 2 by simp [rootC, hk]]
    rcases h12 with h | ⟨h, _⟩
    · exact rroot_2p k w (by omega)
    · exact rroot_2n k w (by omega)
  · rw [show rootC k = (Cy.mk 1 0 0 0).tn 3 by simp [rootC, hk]]
    rcases h12 with h | ⟨h, _⟩
    · exact rroot_3p k w (by omega)
    · exact rroot_3n k w (by omega)
  · rw [show rootC k = (Cy.mk 1 0 0 0).tn 4 by simp [rootC, hk]]
    rcases h12 with h | ⟨h, _⟩
    · exact rroot_4p k w (by omega)
    · exact rroot_4n k w (by omega)
  · rw [show rootC k = (Cy.mk 1 0 0 0).tn 5 by simp [rootC, hk]]
    rcases h12 with h | ⟨h, _⟩
    · exact rroot_5p k w (by omega)
    · exact rroot_5n k w (by omega)
  · rw [show rootC k = (Cy.mk 1 0 0 0).tn 6 by simp [rootC, hk]]
    rcases h12 with h | ⟨h, _⟩
    · exact rroot_6p k w (by omega)
    · exact rroot_6n k w (by omega)
  · rw [show rootC k = (Cy.mk 1 0 0 0).tn 7 by simp [rootC, hk]]
    rcases h12 with h | ⟨h, _⟩
    · exact rroot_7p k w (by omega)
    · exact rroot_7n k w (by omega)
  · rw [show rootC k = (Cy.mk 1 0 0 0).tn 8 by simp [rootC, hk]]
    rcases h12 with h | ⟨h, _⟩
    · exact rroot_8p k w (by omega)
    · exact rroot_8n k w (by omega)
  · rw [show rootC k = (Cy.mk 1 0 0 0).tn 9 by simp [rootC, hk]]
    rcases h12 with h | ⟨h, _⟩
    · exact rroot_9p k w (by omega)
    · exact rroot_9n k w (by omega)
  · rw [show rootC k = (Cy.mk 1 0 0 0).tn 10 by simp [rootC, hk]]
    rcases h12 with h | ⟨h, _⟩
    · exact rroot_10p k w (by omega)
    · exact rroot_10n k w (by omega)
  · rw [show rootC k = (Cy.mk 1 0 0 0).tn 11 by simp [rootC, hk]]
    rcases h12 with h | ⟨h, _⟩
    · exact rroot_11p k w (by omega)
    · exact rroot_11n k w (by omega)

theorem rootC_in1 (k : Int) : (rootC k).In 1 := by
  rcases dz_cases k with hk | hk | hk | hk | hk | hk | hk | hk | hk | hk | hk | hk <;> (unfold rootC; rw [hk]; unfold Cy.In; decide)
theorem rootC_mod (k j : Int) (h : j % 12 = k % 12) : rootC j = rootC k := by unfold rootC; rw [h]
theorem limR_turn (x : Cy) (k : Int) (h : wiB x 576460752303423488 = true) : limR (x.mul (rootC k)) = turnR x k := by
  rw [Cy.mul_root]; simp [turnR, h]

end Go.Proofs.YtomodppdolfinaaDoor
