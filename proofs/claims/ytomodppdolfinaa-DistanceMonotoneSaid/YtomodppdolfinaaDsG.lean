
/- What Strong and sees of package distance return for arguments in their range. -/
import Derived.Test.YtomodppdolfinaaDsF
namespace Go.Proofs.Ytomodppdolfinaa
open Go.RowKit Go.Sub
@[go_sem] theorem ix24_0 (f : Nat → Cy) (w : World) : (Instr.index 100 (.agg (c24 f)) (.int .i64 0)).run Try.prog w = .ok (.agg #[.int .i64 (f 0).a, .int .i64 (f 0).b, .int .i64 (f 0).c, .int .i64 (f 0).d]) w := index24_0 f w
@[go_sem] theorem ix24_1 (f : Nat → Cy) (w : World) : (Instr.index 100 (.agg (c24 f)) (.int .i64 1)).run Try.prog w = .ok (.agg #[.int .i64 (f 1).a, .int .i64 (f 1).b, .int .i64 (f 1).c, .int .i64 (f 1).d]) w := index24_1 f w
@[go_sem] theorem ix24_2 (f : Nat → Cy) (w : World) : (Instr.index 100 (.agg (c24 f)) (.int .i64 2)).run Try.prog w = .ok (.agg #[.int .i64 (f 2).a, .int .i64 (f 2).b, .int .i64 (f 2).c, .int .i64 (f 2).d]) w := index24_2 f w
@[go_sem] theorem ix24_3 (f : Nat → Cy) (w : World) : (Instr.index 100 (.agg (c24 f)) (.int .i64 3)).run Try.prog w = .ok (.agg #[.int .i64 (f 3).a, .int .i64 (f 3).b, .int .i64 (f 3).c, .int .i64 (f 3).d]) w := index24_3 f w
@[go_sem] theorem ix24_4 (f : Nat → Cy) (w : World) : (Instr.index 100 (.agg (c24 f)) (.int .i64 4)).run Try.prog w = .ok (.agg #[.int .i64 (f 4).a, .int .i64 (f 4).b, .int .i64 (f 4).c, .int .i64 (f 4).d]) w := index24_4 f w
@[go_sem] theorem ix24_5 (f : Nat → Cy) (w : World) : (Instr.index 100 (.agg (c24 f)) (.int .i64 5)).run Try.prog w = .ok (.agg #[.int .i64 (f 5).a, .int .i64 (f 5).b, .int .i64 (f 5).c, .int .i64 (f 5).d]) w := index24_5 f w
set_option maxRecDepth 100000 in
set_option maxHeartbeats 4000000 in
theorem strong_c (x y z : Cy) (m : Int) (w : World) (hx : x.In 65536) (hy : y.In 65536) (hz : z.In 65536) (m0 : 1 ≤ m) (m1 : m ≤ 16383) :
    Calls Try.prog 61 #[.agg #[.int .i64 x.a, .int .i64 x.b, .int .i64 x.c, .int .i64 x.d, .int .i64 y.a, .int .i64 y.b, .int .i64 y.c, .int .i64 y.d, .int .i64 z.a, .int .i64 z.b, .int .i64 z.c, .int .i64 z.d], .int .i64 m] w fun e w' => e = .returned (.tuple #[.agg #[.bool (aboveB (sixC x y z 0) m), .bool (aboveB (sixC x y z 1) m), .bool (aboveB (sixC x y z 2) m), .bool (aboveB (sixC x y z 3) m), .bool (aboveB (sixC x y z 4) m), .bool (aboveB (sixC x y z 5) m)], .int .i64 0]) ∧ Q w w' := by
  have p2 : ph3 x y z = true := (ph3_iff _ _ _).2 ⟨hx, hy, hz⟩
  have AB := Lib.hid (fun (n : Nat) (w : World) => phabove_c (sixC x y z n) m w ((six_in hx hy hz n).mono (by decide)) (by omega) m1)
  go_enter Try.func61, Try.ntmps61
  go_wp2_with (first | (go_at_call 56; (with_reducible refine (dphases_any x y z _).mono ?_); rintro e w' ⟨rfl, kj, rfl⟩) | (go_at_call 57; refine (dbetween_any _ _ _ _).mono ?_; rintro e w' ⟨rfl, rfl⟩) | (go_at_call 59; refine (ksix_c _ x y z _ (Calc.mk (by simp [go_sem]) (by simp [go_sem])) hx hy hz).mono ?_; rintro e w' ⟨rfl, kj, rfl⟩))
  refine wp_loop_rounds 7 ?_
  rw [rounds_succ]; go_wp2_with (go_at_call 83; (with_reducible refine (AB.out 0 _).mono ?_); rintro e w' ⟨rfl, kj, rfl⟩)
  rw [rounds_succ]; go_wp2_with (go_at_call 83; (with_reducible refine (AB.out 1 _).mono ?_); rintro e w' ⟨rfl, kj, rfl⟩)
  rw [rounds_succ]; go_wp2_with (go_at_call 83; (with_reducible refine (AB.out 2 _).mono ?_); rintro e w' ⟨rfl, kj, rfl⟩)
  rw [rounds_succ]; go_wp2_with (go_at_call 83; (with_reducible refine (AB.out 3 _).mono ?_); rintro e w' ⟨rfl, kj, rfl⟩)
  rw [rounds_succ]; go_wp2_with (go_at_call 83; (with_reducible refine (AB.out 4 _).mono ?_); rintro e w' ⟨rfl, kj, rfl⟩)
  rw [rounds_succ]; go_wp2_with (go_at_call 83; (with_reducible refine (AB.out 5 _).mono ?_); rintro e w' ⟨rfl, kj, rfl⟩)
  rw [rounds_succ]; go_wp2_with fail
  refine bodyPost_ret (v := .tuple #[.agg #[.bool (aboveB (sixC x y z 0) m), .bool (aboveB (sixC x y z 1) m), .bool (aboveB (sixC x y z 2) m), .bool (aboveB (sixC x y z 3) m), .bool (aboveB (sixC x y z 4) m), .bool (aboveB (sixC x y z 5) m)], .int .i64 0]) (by simp [results, Try.results61, go_sem]) rfl ⟨rfl, ?_⟩
  repeat' (first | exact Q.refl _ | refine Q.alloc ?_ _ | refine Q.jk ?_ _ | refine Q.drew ?_)
set_option maxRecDepth 100000 in
set_option maxHeartbeats 4000000 in
theorem sees_core (v i p : Cy) (on fwd b : Bool) (zx zr zl zd d s : Int) (w : World) (hs : (fwd = true ∧ s = 1) ∨ (fwd = false ∧ s = -1))
    (DR : Hid (∀ w, Calls Try.prog 21 #[.agg #[.int .i64 p.a, .int .i64 p.b, .int .i64 p.c, .int .i64 p.d], .agg #[.int .i64 i.a, .int .i64 i.b, .int .i64 i.c, .int .i64 i.d]] w fun e w' => e = .returned (.tuple #[.int .i64 d, .int .i64 0]) ∧ Q w w'))
    (IN : Hid (∀ w, Calls Try.prog 18 #[.agg #[.int .i64 v.a, .int .i64 v.b, .int .i64 v.c, .int .i64 v.d, .int .i64 i.a, .int .i64 i.b, .int .i64 i.c, .int .i64 i.d], .agg #[.bool on, .bool fwd, .int .i64 zx, .int .i64 zr, .int .i64 zl, .int .i64 zd]] w fun e w' => e = .returned (.tuple #[.bool b, .int .i64 0]) ∧ Q w w')) :
    Calls Try.prog 62 #[.agg #[.bool on, .bool fwd, .int .i64 zx, .int .i64 zr, .int .i64 zl, .int .i64 zd], .agg #[.int .i64 v.a, .int .i64 v.b, .int .i64 v.c, .int .i64 v.d, .int .i64 i.a, .int .i64 i.b, .int .i64 i.c, .int .i64 i.d], .agg #[.int .i64 p.a, .int .i64 p.b, .int .i64 p.c, .int .i64 p.d]] w fun e w' => e = .returned (.tuple #[.bool (decide (d = s) && b), .int .i64 0]) ∧ Q w w' := by
  rcases hs with ⟨rfl, rfl⟩ | ⟨rfl, rfl⟩
  · by_cases hd : d = 1
    · subst hd
      go_enter Try.func62, Try.ntmps62
      go_wp2_with (first | (go_at_call 21; (with_reducible refine (DR.out _).mono ?_); rintro e w' ⟨rfl, kj, rfl⟩) | (go_at_call 18; (with_reducible refine (IN.out _).mono ?_); rintro e w' ⟨rfl, kj, rfl⟩))
      go_ret2
      refine ⟨by simp, ?_⟩
      repeat' (first | exact Q.refl _ | refine Q.alloc ?_ _ | refine Q.jk ?_ _ | refine Q.drew ?_)
    · have h1 : (d != 1) = true := by simpa using hd
      have h2 : (d == 1) = false := by simpa using hd
      have HD := Lib.hid hd
      clear hd
      go_enter Try.func62, Try.ntmps62
      go_wp2_with (go_at_call 21; (with_reducible refine (DR.out _).mono ?_); rintro e w' ⟨rfl, kj, rfl⟩)
      go_ret2
      refine ⟨by simp [HD.out], ?_⟩
      repeat' (first | exact Q.refl _ | refine Q.alloc ?_ _ | refine Q.jk ?_ _ | refine Q.drew ?_)
  · by_cases hd : d = -1
    · subst hd
      go_enter Try.func62, Try.ntmps62
      go_wp2_with (first | (go_at_call 21; (with_reducible refine (DR.out _).mono ?_); rintro e w' ⟨rfl, kj, rfl⟩) | (go_at_call 18; (with_reducible refine (IN.out _).mono ?_); rintro e w' ⟨rfl, kj, rfl⟩))
      go_ret2
      refine ⟨by simp, ?_⟩
      repeat' (first | exact Q.refl _ | refine Q.alloc ?_ _ | refine Q.jk ?_ _ | refine Q.drew ?_)
    · have h1 : (d != -1) = true := by simpa using hd
      have h2 : (d == -1) = false := by simpa using hd
      have HD := Lib.hid hd
      clear hd
      go_enter Try.func62, Try.ntmps62
      go_wp2_with (go_at_call 21; (with_reducible refine (DR.out _).mono ?_); rintro e w' ⟨rfl, kj, rfl⟩)
      go_ret2
      refine ⟨by simp [HD.out], ?_⟩
      repeat' (first | exact Q.refl _ | refine Q.alloc ?_ _ | refine Q.jk ?_ _ | refine Q.drew ?_)
theorem sees_c (z : Zn) (v i p : Cy) (w : World) (hv : v.In 33554432) (hi : i.In 134217728) (hp : p.In 1048576) (hz : Zn.OK z) :
    Calls Try.prog 62 #[.agg #[.bool z.on, .bool z.fwd, .int .i64 z.x, .int .i64 z.r, .int .i64 z.l, .int .i64 z.d], .agg #[.int .i64 v.a, .int .i64 v.b, .int .i64 v.c, .int .i64 v.d, .int .i64 i.a, .int .i64 i.b, .int .i64 i.c, .int .i64 i.d], .agg #[.int .i64 p.a, .int .i64 p.b, .int .i64 p.c, .int .i64 p.d]] w fun e w' => e = .returned (.tuple #[.bool (seesB v i p z), .int .i64 0]) ∧ Q w w' := by
  have hs : (z.fwd = true ∧ z.s = 1) ∨ (z.fwd = false ∧ z.s = -1) := by
    unfold Zn.s
    cases z.fwd
    · exact .inr ⟨rfl, rfl⟩
    · exact .inl ⟨rfl, rfl⟩
  unfold seesB
  exact sees_core v i p z.on z.fwd (insB v i z) z.x z.r z.l z.d (dirI p i) z.s w hs (Lib.hid fun w => direction_c p i w hp hi) (Lib.hid fun w => inside_c v i z w hv hi hz)
end Go.Proofs.Ytomodppdolfinaa
