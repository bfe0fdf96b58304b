
/- What Strong and sees of package distance return for arguments in their range. -/
import Derived.Test.YtomodppdolfinaaGreatDsF
namespace Go.Proofs.YtomodppdolfinaaGreat
open Go.RowKit Go.Sub
@[go_sem] theorem ix24_0 (f : Nat → Cy) (w : World) : (Instr.index 53 (.agg (c24 f)) (.int .i64 0)).run Tryz.prog w = .ok (.agg #[.int .i64 (f 0).a, .int .i64 (f 0).b, .int .i64 (f 0).c, .int .i64 (f 0).d]) w := index24_0 f w
@[go_sem] theorem ix24_1 (f : Nat → Cy) (w : World) : (Instr.index 53 (.agg (c24 f)) (.int .i64 1)).run Tryz.prog w = .ok (.agg #[.int .i64 (f 1).a, .int .i64 (f 1).b, .int .i64 (f 1).c, .int .i64 (f 1).d]) w := index24_1 f w
@[go_sem] theorem ix24_2 (f : Nat → Cy) (w : World) : (Instr.index 53 (.agg (c24 f)) (.int .i64 2)).run Tryz.prog w = .ok (.agg #[.int .i64 (f 2).a, .int .i64 (f 2).b, .int .i64 (f 2).c, .int .i64 (f 2).d]) w := index24_2 f w
@[go_sem] theorem ix24_3 (f : Nat → Cy) (w : World) : (Instr.index 53 (.agg (c24 f)) (.int .i64 3)).run Tryz.prog w = .ok (.agg #[.int .i64 (f 3).a, .int .i64 (f 3).b, .int .i64 (f 3).c, .int .i64 (f 3).d]) w := index24_3 f w
@[go_sem] theorem ix24_4 (f : Nat → Cy) (w : World) : (Instr.index 53 (.agg (c24 f)) (.int .i64 4)).run Tryz.prog w = .ok (.agg #[.int .i64 (f 4).a, .int .i64 (f 4).b, .int .i64 (f 4).c, .int .i64 (f 4).d]) w := index24_4 f w
@[go_sem] theorem ix24_5 (f : Nat → Cy) (w : World) : (Instr.index 53 (.agg (c24 f)) (.int .i64 5)).run Tryz.prog w = .ok (.agg #[.int .i64 (f 5).a, .int .i64 (f 5).b, .int .i64 (f 5).c, .int .i64 (f 5).d]) w := index24_5 f w
set_option maxRecDepth 100000 in
set_option maxHeartbeats 4000000 in
theorem strong_c (x y z : Cy) (m : Int) (w : World) (hx : x.In 65536) (hy : y.In 65536) (hz : z.In 65536) (m0 : 1 ≤ m) (m1 : m ≤ 16383) :
    Calls Tryz.prog 8 #[.agg #[.int .i64 x.a, .int .i64 x.b, .int .i64 x.c, .int .i64 x.d, .int .i64 y.a, .int .i64 y.b, .int .i64 y.c, .int .i64 y.d, .int .i64 z.a, .int .i64 z.b, .int .i64 z.c, .int .i64 z.d], .int .i64 m] w fun e w' => e = .returned (.tuple #[.agg #[.bool (aboveB (sixC x y z 0) m), .bool (aboveB (sixC x y z 1) m), .bool (aboveB (sixC x y z 2) m), .bool (aboveB (sixC x y z 3) m), .bool (aboveB (sixC x y z 4) m), .bool (aboveB (sixC x y z 5) m)], .int .i64 0]) ∧ Q w w' := by
  have p2 : ph3 x y z = true := (ph3_iff _ _ _).2 ⟨hx, hy, hz⟩
  have AB := Lib.hid (fun (n : Nat) (w : World) => phabove_c (sixC x y z n) m w ((six_in hx hy hz n).mono (by decide)) (by omega) m1)
  go_enter Tryz.func8, Tryz.ntmps8
  go_wp2_with (first | (go_at_call 12; (with_reducible refine (dphases_any x y z _).mono ?_); rintro e w' ⟨rfl, kj, rfl⟩) | (go_at_call 13; refine (dbetween_any _ _ _ _).mono ?_; rintro e w' ⟨rfl, rfl⟩) | (go_at_call 16; refine (ksix_c _ x y z _ (Calc.mk (by simp [go_sem]) (by simp [go_sem])) hx hy hz).mono ?_; rintro e w' ⟨rfl, kj, rfl⟩))
  refine wp_loop_rounds 7 ?_
  rw [rounds_succ]; go_wp2_with (go_at_call 23; (with_reducible refine (AB.out 0 _).mono ?_); rintro e w' ⟨rfl, kj, rfl⟩)
  rw [rounds_succ]; go_wp2_with (go_at_call 23; (with_reducible refine (AB.out 1 _).mono ?_); rintro e w' ⟨rfl, kj, rfl⟩)
  rw [rounds_succ]; go_wp2_with (go_at_call 23; (with_reducible refine (AB.out 2 _).mono ?_); rintro e w' ⟨rfl, kj, rfl⟩)
  rw [rounds_succ]; go_wp2_with (go_at_call 23; (with_reducible refine (AB.out 3 _).mono ?_); rintro e w' ⟨rfl, kj, rfl⟩)
  rw [rounds_succ]; go_wp2_with (go_at_call 23; (with_reducible refine (AB.out 4 _).mono ?_); rintro e w' ⟨rfl, kj, rfl⟩)
  rw [rounds_succ]; go_wp2_with (go_at_call 23; (with_reducible refine (AB.out 5 _).mono ?_); rintro e w' ⟨rfl, kj, rfl⟩)
  rw [rounds_succ]; go_wp2_with fail
  refine bodyPost_ret (v := .tuple #[.agg #[.bool (aboveB (sixC x y z 0) m), .bool (aboveB (sixC x y z 1) m), .bool (aboveB (sixC x y z 2) m), .bool (aboveB (sixC x y z 3) m), .bool (aboveB (sixC x y z 4) m), .bool (aboveB (sixC x y z 5) m)], .int .i64 0]) (by simp [results, Tryz.results8, go_sem]) rfl ⟨rfl, ?_⟩
  repeat' (first | exact Q.refl _ | refine Q.alloc ?_ _ | refine Q.jk ?_ _ | refine Q.drew ?_)
end Go.Proofs.YtomodppdolfinaaGreat
