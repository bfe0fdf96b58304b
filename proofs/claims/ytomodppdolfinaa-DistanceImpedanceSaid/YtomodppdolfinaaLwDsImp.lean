
/- DistanceImpedance: the walk. -/
import Derived.Test.YtomodppdolfinaaDsF
import Derived.Deep.RegionHeld3
namespace Go.Proofs.Ytomodppdolfinaa
open Go.RowKit Go.Sub
set_option maxRecDepth 100000 in
set_option maxHeartbeats 4000000 in
theorem imp_core (i I M : Cy) (r x R X zx zr zl zd X1 R1 L1 : Int) (on fwd p : Bool) (w : World) (_ : i.a.tmod 4096 = I.a) (_ : i.b.tmod 4096 = I.b) (_ : i.c.tmod 4096 = I.c) (_ : i.d.tmod 4096 = I.d)
    (_ : r.tmod 1000 = R) (_ : x.tmod 1000 = X) (ex : zx % 1000 = X1) (er : zr % 1000 = R1) (el : zl % 1000 = L1) (_ : 0 ≤ L1) (_ : L1 < 1000)
    (MU : Hid (∀ w, Calls Try.prog 17 #[.agg #[.int .i64 I.a, .int .i64 I.b, .int .i64 I.c, .int .i64 I.d], .agg #[.int .i64 R, .int .i64 0, .int .i64 0, .int .i64 X]] w fun e w' => e = .returned (.tuple #[.agg #[.int .i64 M.a, .int .i64 M.b, .int .i64 M.c, .int .i64 M.d], .int .i64 0]) ∧ Q w w'))
    (IN : Hid (∀ w, Calls Try.prog 18 #[.agg #[.int .i64 M.a, .int .i64 M.b, .int .i64 M.c, .int .i64 M.d, .int .i64 I.a, .int .i64 I.b, .int .i64 I.c, .int .i64 I.d], .agg #[.bool false, .bool true, .int .i64 X1, .int .i64 R1, .int .i64 L1, .int .i64 0]] w fun e w' => e = .returned (.tuple #[.bool p, .int .i64 0]) ∧ Q w w'))
    (HP : (Cy.eqB ⟨I.a, I.b, I.c, I.d⟩ ⟨0, 0, 0, 0⟩ = true ∧ p = false) ∨ (Cy.eqB ⟨I.a, I.b, I.c, I.d⟩ ⟨0, 0, 0, 0⟩ = false ∧ X1 < X ∧ p = false) ∨ (Cy.eqB ⟨I.a, I.b, I.c, I.d⟩ ⟨0, 0, 0, 0⟩ = false ∧ X ≤ X1 ∧ R1 < R ∧ p = false) ∨ (Cy.eqB ⟨I.a, I.b, I.c, I.d⟩ ⟨0, 0, 0, 0⟩ = false ∧ X ≤ X1 ∧ R ≤ R1 ∧ R < -L1 ∧ p = false) ∨ (Cy.eqB ⟨I.a, I.b, I.c, I.d⟩ ⟨0, 0, 0, 0⟩ = false ∧ X ≤ X1 ∧ R ≤ R1 ∧ -L1 ≤ R ∧ p = true)) :
    Calls Try.prog 4 #[.agg #[.int .i64 i.a, .int .i64 i.b, .int .i64 i.c, .int .i64 i.d, .int .i64 r, .int .i64 x, .bool on, .bool fwd, .int .i64 zx, .int .i64 zr, .int .i64 zl, .int .i64 zd]] w fun e w' => e = .returned (.bool true) ∧ Q w w' := by
  have HPP := Lib.hid HP
  clear HP
  go_enter Try.func4, Try.ntmps4
  go_wp2_with (go_at_call 15; refine (known22 _).mono ?_; rintro e w' ⟨rfl, kj, rfl⟩)
  go_region_held3 (fun w' => w'.cell? ⟨w.heap.size, 0, none⟩ = some (.int .i64 i.a) ∧ w'.cell? ⟨w.heap.size, 1, none⟩ = some (.int .i64 i.b) ∧ w'.cell? ⟨w.heap.size, 2, none⟩ = some (.int .i64 i.c) ∧ w'.cell? ⟨w.heap.size, 3, none⟩ = some (.int .i64 i.d) ∧ w'.cell? ⟨w.heap.size, 4, none⟩ = some (.int .i64 r) ∧ w'.cell? ⟨w.heap.size, 5, none⟩ = some (.int .i64 x) ∧ w'.cell? ⟨w.heap.size, 6, none⟩ = some (.bool on) ∧ w'.cell? ⟨w.heap.size, 7, none⟩ = some (.bool fwd) ∧ w'.cell? ⟨w.heap.size, 8, none⟩ = some (.int .i64 zx) ∧ w'.cell? ⟨w.heap.size, 9, none⟩ = some (.int .i64 zr) ∧ w'.cell? ⟨w.heap.size, 10, none⟩ = some (.int .i64 zl) ∧ w'.cell? ⟨w.heap.size, 11, none⟩ = some (.int .i64 zd)) (simp [go_sem]) (first | fail)
  all_goals (rename_i hHeld; clear hHeld)
  all_goals go_wp2_with fail
  all_goals (refine wp_loop_rounds 5 ?_)
  iterate 5 (all_goals (rw [rounds_succ]; go_wp2_with fail))
  all_goals
    try simp only [List.append]
    refine wp_region_tail 10 (by kernel_rfl) (by kernel_rfl) ?_
    simp only [List.take_succ_cons, List.take_zero, List.drop_succ_cons, List.drop_zero]
    repeat (go_big_quiet_step ((go_at_call 16; exact Calls.jk_of_same (within22_any _ _ _ (by decide) (by decide)))))
    refine wpQuiet_nil ?_
    intro _ hw'
    obtain ⟨kq, rfl⟩ := hw'
    try rw [ex]
    try rw [er]
    try rw [el]
    rcases HPP.out with ⟨h1, rfl⟩ | ⟨h1, h2, rfl⟩ | ⟨h1, h2, h3, rfl⟩ | ⟨h1, h2, h3, h4, rfl⟩ | ⟨h1, h2, h3, h4, rfl⟩
    all_goals
      go_wp2_with (first | (go_at_call 17; (with_reducible refine (MU.out _).mono ?_); rintro e w' ⟨rfl, kj, rfl⟩) | (go_at_call 18; (with_reducible refine (IN.out _).mono ?_); rintro e w' ⟨rfl, kj, rfl⟩))
      go_ret
      refine ⟨by first | rfl | (show Ending.returned (Value.bool (!decide (-L1 ≤ R))) = _; rw [show decide (-L1 ≤ R) = false from decide_eq_false (by omega)]; rfl), ?_⟩
      repeat' (first | exact Q.refl _ | refine Q.alloc ?_ _ | refine Q.jk ?_ _ | refine Q.drew ?_)
theorem imp_walk (i : Cy) (r x : Int) (on fwd : Bool) (zx zr zl zd : Int) (w : World) :
    Calls Try.prog 4 #[.agg #[.int .i64 i.a, .int .i64 i.b, .int .i64 i.c, .int .i64 i.d, .int .i64 r, .int .i64 x, .bool on, .bool fwd, .int .i64 zx, .int .i64 zr, .int .i64 zl, .int .i64 zd]] w fun e w' => e = .returned (.bool true) ∧ Q w w' := by
  have hI : (smallC i).In 4095 := smallC_in i
  have hR := tmod_bd r 1000 (by decide)
  have hX := tmod_bd x 1000 (by decide)
  have hK : (Cy.mk (r.tmod 1000) 0 0 (x.tmod 1000)).In 1000 := by unfold Cy.In; dsimp only; omega
  have hM : ((smallC i).mul ⟨r.tmod 1000, 0, 0, x.tmod 1000⟩).In 33554432 := (Cy.mul_in' hI hK).mono (by decide)
  have hz : Zn.OK ⟨false, true, zx % 1000, zr % 1000, zl % 1000, 0⟩ := ⟨by dsimp only; omega, by dsimp only; omega, by dsimp only; omega, by dsimp only; omega, by dsimp only; omega, by dsimp only; omega⟩
  have hin := ins_imp (smallC i) (r.tmod 1000) (x.tmod 1000) ⟨false, true, zx % 1000, zr % 1000, zl % 1000, 0⟩ rfl
  refine imp_core i (smallC i) ((smallC i).mul ⟨r.tmod 1000, 0, 0, x.tmod 1000⟩) r x (r.tmod 1000) (x.tmod 1000) zx zr zl zd (zx % 1000) (zr % 1000) (zl % 1000) on fwd _ w rfl rfl rfl rfl rfl rfl rfl rfl rfl (by omega) (by omega)
    (Lib.hid fun w => mul_c (smallC i) ⟨r.tmod 1000, 0, 0, x.tmod 1000⟩ w (hI.mono (by decide)) (hK.mono (by decide)))
    (Lib.hid fun w => inside_c ((smallC i).mul ⟨r.tmod 1000, 0, 0, x.tmod 1000⟩) (smallC i) ⟨false, true, zx % 1000, zr % 1000, zl % 1000, 0⟩ w hM (hI.mono (by decide)) hz) ?_
  rw [hin]
  show (Cy.eqB (smallC i) ⟨0, 0, 0, 0⟩ = true ∧ _) ∨ (Cy.eqB (smallC i) ⟨0, 0, 0, 0⟩ = false ∧ _) ∨ (Cy.eqB (smallC i) ⟨0, 0, 0, 0⟩ = false ∧ _) ∨ (Cy.eqB (smallC i) ⟨0, 0, 0, 0⟩ = false ∧ _) ∨ (Cy.eqB (smallC i) ⟨0, 0, 0, 0⟩ = false ∧ _)
  dsimp only
  generalize r.tmod 1000 = R
  generalize x.tmod 1000 = X
  generalize zx % 1000 = X1
  generalize zr % 1000 = R1
  generalize zl % 1000 = L1
  cases Cy.eqB (smallC i) ⟨0, 0, 0, 0⟩
  · rcases Int.lt_or_le X1 X with h1 | h1
    · exact .inr (.inl ⟨rfl, h1, by simp; omega⟩)
    · rcases Int.lt_or_le R1 R with h2 | h2
      · exact .inr (.inr (.inl ⟨rfl, h1, h2, by simp; omega⟩))
      · rcases Int.lt_or_le R (-L1) with h3 | h3
        · exact .inr (.inr (.inr (.inl ⟨rfl, h1, h2, h3, by simp; omega⟩)))
        · exact .inr (.inr (.inr (.inr ⟨rfl, h1, h2, h3, by simp; omega⟩)))
  · exact .inl ⟨rfl, by simp⟩
end Go.Proofs.Ytomodppdolfinaa
