
/- The helpers of the laws of phasor: within, Window and known. -/
import Derived.Test.YtomodppdolfinaaDoorPhA
import Derived.Test.YtomodppdolfinaaDoorApp
import Derived.Outline
namespace Go.Sub
/-- n numbers as cells. -/
def cellsI (x : Nat → Int) (n : Nat) : Array Value := ((List.range n).map fun k => Value.int .i64 (x k)).toArray
@[go_sem] theorem cellsI_size (x : Nat → Int) (n : Nat) : (cellsI x n).size = n := by simp [cellsI]
theorem cellsI_at (x : Nat → Int) (n k : Nat) (h : k < n) : (cellsI x n)[k]? = some (.int .i64 (x k)) := by simp [cellsI, h]
def winV (n : Int) : Int := n % 32767 - 16383
theorem winV_ok (x : Nat → Int) : WinOK (fun k => winV (x k)) 16383 := by
  intro k _
  simp only [winV]
  omega
theorem tmod_emod (n m : Int) (hm : 0 < m) : (n.tmod m < 0 → n.tmod m + m = n % m) ∧ (0 ≤ n.tmod m → n.tmod m = n % m) := by
  have hb := Int.emod_nonneg n (show m ≠ 0 by omega)
  have hb2 := Int.emod_lt_of_pos n hm
  rcases Int.le_total 0 n with h | h
  · rw [Int.tmod_eq_emod_of_nonneg h]
    exact ⟨fun h => by omega, fun _ => rfl⟩
  · have := Int.tmod_eq_emod (a := n) (b := m)
    split at this
    · constructor <;> intro <;> omega
    · have e : (m.natAbs : Int) = m := by omega
      constructor <;> intro <;> omega
end Go.Sub
namespace Go.Proofs.YtomodppdolfinaaDoor
open Go.RowKit Go.Sub

/-- A window is returned. -/
def RetWin (w : World) (x : Nat → Int) (e : Ending) (w' : World) : Prop := ∃ g c, e = .returned (.slice (some ⟨g, 0, none⟩) 12 c) ∧ Q w w' ∧ Win w' g 0 x
theorem RowI.Win {W0 w : World} {v : Value} {x : Nat → Int} (h : RowI W0 w v ((List.range 12).map x)) : ∃ g c, v = .slice (some ⟨g, 0, none⟩) 12 c ∧ Win w g 0 x := by
  obtain ⟨g, c, hv, _, hc⟩ := h.win (by simp)
  refine ⟨g, c, by simpa using hv, fun k hk => ?_⟩
  have := hc k (by simpa using hk)
  simpa [List.getD, hk] using this
theorem range_snoc (x : Nat → Int) (k : Nat) : (List.range k).map x ++ [x k] = (List.range (k + 1)).map x := by simp [List.range_succ]
def kwin (k : Nat) : Int := ([2, 1, 1, 0, -1, -1, -2, -1, -1, 0, 1, 1] : List Int).getD k 0
theorem kwin_ok : WinOK kwin 16383 := by
  intro k hk
  have hk' : k = 0 ∨ k = 1 ∨ k = 2 ∨ k = 3 ∨ k = 4 ∨ k = 5 ∨ k = 6 ∨ k = 7 ∨ k = 8 ∨ k = 9 ∨ k = 10 ∨ k = 11 := by omega
  rcases hk' with rfl | rfl | rfl | rfl | rfl | rfl | rfl | rfl | rfl | rfl | rfl | rfl <;> decide
theorem kwin_e : enrg kwin 12 = 16 := by decide +kernel
theorem kwin_0 : harm kwin 0 = ⟨0, 0, 0, 0⟩ := by
  apply Cy.ext' <;> decide +kernel
set_option maxHeartbeats 2000000 in
theorem known20_c (w : World) (hr : RootsOK w) :
    Calls Tryd.prog 20 #[] w fun e w' => e = .returned (.bool true) ∧ Q w w' := by
  have hw : Win (w.alloc (.cells #[.int .i64 2, .int .i64 1, .int .i64 1, .int .i64 0, .int .i64 (-1), .int .i64 (-1), .int .i64 (-2), .int .i64 (-1), .int .i64 (-1), .int .i64 0, .int .i64 1, .int .i64 1] 3)) w.heap.size 0 kwin := by
    intro k hk
    rw [World.cell?_alloc_at _ _ _ _ rfl]
    have hk' : k = 0 ∨ k = 1 ∨ k = 2 ∨ k = 3 ∨ k = 4 ∨ k = 5 ∨ k = 6 ∨ k = 7 ∨ k = 8 ∨ k = 9 ∨ k = 10 ∨ k = 11 := by omega
    rcases hk' with rfl | rfl | rfl | rfl | rfl | rfl | rfl | rfl | rfl | rfl | rfl | rfl <;> rfl
  have HW := Lib.hid hw
  clear hw
  have e1 := kwin_e
  have e2 := kwin_0
  have e3 : Cy.eqB ⟨(harm kwin 1).a, (harm kwin 1).b, (harm kwin 1).c, (harm kwin 1).d⟩ ⟨0, 0, 0, 0⟩ = false := by decide +kernel
  go_enter Tryd.func20, Tryd.ntmps20
  go_wp2_with (first | (go_at_call 36; refine (phenergy_c _ _ _ kwin _ (HW.out.q (by repeat' (first | exact Q.refl _ | refine Q.alloc ?_ _ | refine Q.jk ?_ _ | refine Q.drew ?_))) kwin_ok).mono ?_; rintro e w' ⟨rfl, rfl⟩) | (go_at_call 37; refine (phharm_c _ _ _ _ kwin _ (by repeat' (first | with_reducible exact hr | refine RootsOK.alloc ?_ _ | refine RootsOK.jk ?_ _ | refine RootsOK.drew ?_)) (HW.out.q (by repeat' (first | exact Q.refl _ | refine Q.alloc ?_ _ | refine Q.jk ?_ _ | refine Q.drew ?_))) kwin_ok).mono ?_; rintro e w' ⟨rfl, kj, rfl⟩))
  go_ret
  refine ⟨rfl, ?_⟩
  repeat' (first | exact Q.refl _ | refine Q.alloc ?_ _ | refine Q.jk ?_ _ | refine Q.drew ?_)

end Go.Proofs.YtomodppdolfinaaDoor
