
/- What within, total, combine, Split and Residual of package sequence return for numbers that are not too great. -/
import Derived.Test.YtbonaopcoeconaaDoorCyL2
namespace Go.Sub
/-- One of the sums of combine. -/
def comb (t k : Int) (x y z : Cy) : Cy := ((x.turn 0).add (y.turn (4 * t * k))).add (z.turn (4 * t * k * 2))
theorem addR_zero {x : Cy} (hx : x.In 100000000000000000) : addR ⟨0, 0, 0, 0⟩ x = ⟨x, 0⟩ := by
  rw [Go.Proofs.YtbonaopcoeconaaDoor.addR_ok (x := ⟨0, 0, 0, 0⟩) (by unfold Cy.In; decide) hx]
  simp [Cy.add]
theorem old_of_cell {w : World} {b i : Nat} {v : Value} (h : w.cell? ⟨b, i, none⟩ = some v) : Old b w := by
  refine ⟨?_⟩
  rcases Nat.lt_or_ge b w.heap.size with h1 | h1
  · exact h1
  · simp [World.cell?, Array.getElem?_eq_none h1] at h
end Go.Sub
namespace Go.Proofs.YtbonaopcoeconaaDoor
open Go.RowKit Go.Sub

set_option maxHeartbeats 2000000 in
theorem sqwithin_c (bk : Nat) (x y z : Cy) (w : World) (c0 : w.cell? ⟨bk, 0, none⟩ = some (.int .i64 x.a)) (c1 : w.cell? ⟨bk, 1, none⟩ = some (.int .i64 x.b)) (c2 : w.cell? ⟨bk, 2, none⟩ = some (.int .i64 x.c)) (c3 : w.cell? ⟨bk, 3, none⟩ = some (.int .i64 x.d)) (c4 : w.cell? ⟨bk, 4, none⟩ = some (.int .i64 y.a)) (c5 : w.cell? ⟨bk, 5, none⟩ = some (.int .i64 y.b)) (c6 : w.cell? ⟨bk, 6, none⟩ = some (.int .i64 y.c)) (c7 : w.cell? ⟨bk, 7, none⟩ = some (.int .i64 y.d)) (c8 : w.cell? ⟨bk, 8, none⟩ = some (.int .i64 z.a)) (c9 : w.cell? ⟨bk, 9, none⟩ = some (.int .i64 z.b)) (c10 : w.cell? ⟨bk, 10, none⟩ = some (.int .i64 z.c)) (c11 : w.cell? ⟨bk, 11, none⟩ = some (.int .i64 z.d)) (hx : x.In 1125899906842624) (hy : y.In 1125899906842624) (hz : z.In 1125899906842624) :
    Calls Tryd.prog 48 #[.int .i64 1125899906842624, .slice (some ⟨bk, 0, none⟩) 3 3] w fun e w' => e = .returned (.bool true) ∧ Q w w' := by
  haveI : Old bk w := old_of_cell c0
  obtain ⟨x1, x2, x3, x4, x5, x6, x7, x8⟩ := hx
  obtain ⟨y1, y2, y3, y4, y5, y6, y7, y8⟩ := hy
  obtain ⟨z1, z2, z3, z4, z5, z6, z7, z8⟩ := hz
  go_enter Tryd.func48, Tryd.ntmps48
  go_wp2
  refine wp_loop_rounds 4 ?_
  rw [rounds_succ]; go_wp2
  go_rounds 5
  go_rounds 5
  go_rounds 5
  go_ret
  refine ⟨rfl, ?_⟩
  repeat' (first | exact Q.refl _ | refine Q.alloc ?_ _ | refine Q.jk ?_ _ | refine Q.drew ?_)

set_option maxHeartbeats 2000000 in
theorem sqtotal_c (bk : Nat) (x y z : Cy) (w : World) (c0 : w.cell? ⟨bk, 0, none⟩ = some (.int .i64 x.a)) (c1 : w.cell? ⟨bk, 1, none⟩ = some (.int .i64 x.b)) (c2 : w.cell? ⟨bk, 2, none⟩ = some (.int .i64 x.c)) (c3 : w.cell? ⟨bk, 3, none⟩ = some (.int .i64 x.d)) (c4 : w.cell? ⟨bk, 4, none⟩ = some (.int .i64 y.a)) (c5 : w.cell? ⟨bk, 5, none⟩ = some (.int .i64 y.b)) (c6 : w.cell? ⟨bk, 6, none⟩ = some (.int .i64 y.c)) (c7 : w.cell? ⟨bk, 7, none⟩ = some (.int .i64 y.d)) (c8 : w.cell? ⟨bk, 8, none⟩ = some (.int .i64 z.a)) (c9 : w.cell? ⟨bk, 9, none⟩ = some (.int .i64 z.b)) (c10 : w.cell? ⟨bk, 10, none⟩ = some (.int .i64 z.c)) (c11 : w.cell? ⟨bk, 11, none⟩ = some (.int .i64 z.d)) (hx : x.In 10000000000000000) (hy : y.In 10000000000000000) (hz : z.In 10000000000000000) :
    Calls Tryd.prog 49 #[.slice (some ⟨bk, 0, none⟩) 3 3] w fun e w' => e = .returned (.tuple #[.agg #[.int .i64 ((x.add y).add z).a, .int .i64 ((x.add y).add z).b, .int .i64 ((x.add y).add z).c, .int .i64 ((x.add y).add z).d], .int .i64 0]) ∧ Q w w' := by
  haveI : Old bk w := old_of_cell c0
  have h0 : addR ⟨0, 0, 0, 0⟩ ⟨x.a, x.b, x.c, x.d⟩ = ⟨x, 0⟩ := addR_zero (hx.mono (by decide))
  have h1 : addR ⟨x.a, x.b, x.c, x.d⟩ ⟨y.a, y.b, y.c, y.d⟩ = ⟨x.add y, 0⟩ := addR_ok (x := x) (y := y) (hx.mono (by decide)) (hy.mono (by decide))
  have h2 : addR ⟨(x.add y).a, (x.add y).b, (x.add y).c, (x.add y).d⟩ ⟨z.a, z.b, z.c, z.d⟩ = ⟨(x.add y).add z, 0⟩ := addR_ok (x := x.add y) (y := z) ((Cy.add_in hx hy).mono (by decide)) (hz.mono (by decide))
  clear hx hy hz
  go_enter Tryd.func49, Tryd.ntmps49
  go_wp2
  refine wp_loop_rounds 4 ?_
  repeat any_goals (rw [rounds_succ]; go_wp2_with (go_at_call 26; refine (add_any _ _ _ _ _ _ _ _ _).mono ?_; rintro e w' ⟨rfl, kj, rfl⟩))
  refine bodyPost_ret (v := .tuple #[.agg #[.int .i64 ((x.add y).add z).a, .int .i64 ((x.add y).add z).b, .int .i64 ((x.add y).add z).c, .int .i64 ((x.add y).add z).d], .int .i64 0]) (by simp [results, Tryd.results49, go_sem]) rfl ⟨rfl, ?_⟩
  repeat' (first | exact Q.refl _ | refine Q.alloc ?_ _ | refine Q.jk ?_ _ | refine Q.drew ?_)

set_option maxHeartbeats 8000000 in
theorem combine_1 (x y z : Cy) (w : World) (hx : x.In 1125899906842624) (hy : y.In 1125899906842624) (hz : z.In 1125899906842624) :
    Calls Tryd.prog 47 #[.agg #[.int .i64 x.a, .int .i64 x.b, .int .i64 x.c, .int .i64 x.d, .int .i64 y.a, .int .i64 y.b, .int .i64 y.c, .int .i64 y.d, .int .i64 z.a, .int .i64 z.b, .int .i64 z.c, .int .i64 z.d], .int .i64 1] w fun e w' => e = .returned (.tuple #[.agg #[.int .i64 (comb 1 0 x y z).a, .int .i64 (comb 1 0 x y z).b, .int .i64 (comb 1 0 x y z).c, .int .i64 (comb 1 0 x y z).d, .int .i64 (comb 1 1 x y z).a, .int .i64 (comb 1 1 x y z).b, .int .i64 (comb 1 1 x y z).c, .int .i64 (comb 1 1 x y z).d, .int .i64 (comb 1 2 x y z).a, .int .i64 (comb 1 2 x y z).b, .int .i64 (comb 1 2 x y z).c, .int .i64 (comb 1 2 x y z).d], .int .i64 0]) ∧ Q w w' := by
  have e0 : comb 1 0 x y z = ((x.turn 0).add (y.turn 0)).add (z.turn 0) := rfl
  have e1 : comb 1 1 x y z = ((x.turn 0).add (y.turn 4)).add (z.turn 8) := rfl
  have e2 : comb 1 2 x y z = ((x.turn 0).add (y.turn 8)).add (z.turn 16) := rfl
  rw [e0, e1, e2]
  clear e0 e1 e2
  have t0 : turnR ⟨x.a, x.b, x.c, x.d⟩ 0 = ⟨x.turn 0, 0⟩ := turnR_ok 0 (hx.mono (by decide))
  have t1 : turnR ⟨y.a, y.b, y.c, y.d⟩ 0 = ⟨y.turn 0, 0⟩ := turnR_ok 0 (hy.mono (by decide))
  have t2 : turnR ⟨z.a, z.b, z.c, z.d⟩ 0 = ⟨z.turn 0, 0⟩ := turnR_ok 0 (hz.mono (by decide))
  have t3 : turnR ⟨y.a, y.b, y.c, y.d⟩ 4 = ⟨y.turn 4, 0⟩ := turnR_ok 4 (hy.mono (by decide))
  have t4 : turnR ⟨z.a, z.b, z.c, z.d⟩ 8 = ⟨z.turn 8, 0⟩ := turnR_ok 8 (hz.mono (by decide))
  have t5 : turnR ⟨y.a, y.b, y.c, y.d⟩ 8 = ⟨y.turn 8, 0⟩ := turnR_ok 8 (hy.mono (by decide))
  have t6 : turnR ⟨z.a, z.b, z.c, z.d⟩ 16 = ⟨z.turn 16, 0⟩ := turnR_ok 16 (hz.mono (by decide))
  have i0 := (turn_in 0 hx).mono (show 2 * 1125899906842624 ≤ (10000000000000000 : Int) by decide)
  have i1 := (turn_in 0 hy).mono (show 2 * 1125899906842624 ≤ (10000000000000000 : Int) by decide)
  have i2 := (turn_in 0 hz).mono (show 2 * 1125899906842624 ≤ (10000000000000000 : Int) by decide)
  have i3 := (turn_in 4 hy).mono (show 2 * 1125899906842624 ≤ (10000000000000000 : Int) by decide)
  have i4 := (turn_in 8 hz).mono (show 2 * 1125899906842624 ≤ (10000000000000000 : Int) by decide)
  have i5 := (turn_in 8 hy).mono (show 2 * 1125899906842624 ≤ (10000000000000000 : Int) by decide)
  have i6 := (turn_in 16 hz).mono (show 2 * 1125899906842624 ≤ (10000000000000000 : Int) by decide)
  go_enter Tryd.func47, Tryd.ntmps47
  go_wp2_with (go_at_call 48; refine (sqwithin_c _ x y z _ (by simp [go_sem]) (by simp [go_sem]) (by simp [go_sem]) (by simp [go_sem]) (by simp [go_sem]) (by simp [go_sem]) (by simp [go_sem]) (by simp [go_sem]) (by simp [go_sem]) (by simp [go_sem]) (by simp [go_sem]) (by simp [go_sem]) hx hy hz).mono ?_; rintro e w' ⟨rfl, kj, rfl⟩)
  refine wp_loop_rounds 4 ?_
  rw [rounds_succ]; go_wp2
  refine wp_loop_rounds 4 ?_
  repeat any_goals (rw [rounds_succ]; go_wp2_with (first | (go_at_call 37; refine (turn_any _ _ _ _ _ _).mono ?_; rintro e w' ⟨rfl, kj, rfl⟩) | (go_at_call 49; refine (sqtotal_c _ (x.turn 0) (y.turn 0) (z.turn 0) _ (by simp [go_sem]) (by simp [go_sem]) (by simp [go_sem]) (by simp [go_sem]) (by simp [go_sem]) (by simp [go_sem]) (by simp [go_sem]) (by simp [go_sem]) (by simp [go_sem]) (by simp [go_sem]) (by simp [go_sem]) (by simp [go_sem]) (by assumption) (by assumption) (by assumption)).mono ?_; rintro e w' ⟨rfl, kj, rfl⟩)))
  refine wp_loop_rounds 4 ?_
  repeat any_goals (rw [rounds_succ]; go_wp2_with (first | (go_at_call 37; refine (turn_any _ _ _ _ _ _).mono ?_; rintro e w' ⟨rfl, kj, rfl⟩) | (go_at_call 49; refine (sqtotal_c _ (x.turn 0) (y.turn 4) (z.turn 8) _ (by simp [go_sem]) (by simp [go_sem]) (by simp [go_sem]) (by simp [go_sem]) (by simp [go_sem]) (by simp [go_sem]) (by simp [go_sem]) (by simp [go_sem]) (by simp [go_sem]) (by simp [go_sem]) (by simp [go_sem]) (by simp [go_sem]) (by assumption) (by assumption) (by assumption)).mono ?_; rintro e w' ⟨rfl, kj, rfl⟩)))
  refine wp_loop_rounds 4 ?_
  repeat any_goals (rw [rounds_succ]; go_wp2_with (first | (go_at_call 37; refine (turn_any _ _ _ _ _ _).mono ?_; rintro e w' ⟨rfl, kj, rfl⟩) | (go_at_call 49; refine (sqtotal_c _ (x.turn 0) (y.turn 8) (z.turn 16) _ (by simp [go_sem]) (by simp [go_sem]) (by simp [go_sem]) (by simp [go_sem]) (by simp [go_sem]) (by simp [go_sem]) (by simp [go_sem]) (by simp [go_sem]) (by simp [go_sem]) (by simp [go_sem]) (by simp [go_sem]) (by simp [go_sem]) (by assumption) (by assumption) (by assumption)).mono ?_; rintro e w' ⟨rfl, kj, rfl⟩)))
  refine bodyPost_ret (v := .tuple #[.agg #[.int .i64 (((x.turn 0).add (y.turn 0)).add (z.turn 0)).a, .int .i64 (((x.turn 0).add (y.turn 0)).add (z.turn 0)).b, .int .i64 (((x.turn 0).add (y.turn 0)).add (z.turn 0)).c, .int .i64 (((x.turn 0).add (y.turn 0)).add (z.turn 0)).d, .int .i64 (((x.turn 0).add (y.turn 4)).add (z.turn 8)).a, .int .i64 (((x.turn 0).add (y.turn 4)).add (z.turn 8)).b, .int .i64 (((x.turn 0).add (y.turn 4)).add (z.turn 8)).c, .int .i64 (((x.turn 0).add (y.turn 4)).add (z.turn 8)).d, .int .i64 (((x.turn 0).add (y.turn 8)).add (z.turn 16)).a, .int .i64 (((x.turn 0).add (y.turn 8)).add (z.turn 16)).b, .int .i64 (((x.turn 0).add (y.turn 8)).add (z.turn 16)).c, .int .i64 (((x.turn 0).add (y.turn 8)).add (z.turn 16)).d], .int .i64 0]) (by simp [results, Tryd.results47, go_sem]) rfl ⟨rfl, ?_⟩
  repeat' (first | exact Q.refl _ | refine Q.alloc ?_ _ | refine Q.jk ?_ _ | refine Q.drew ?_)

end Go.Proofs.YtbonaopcoeconaaDoor
