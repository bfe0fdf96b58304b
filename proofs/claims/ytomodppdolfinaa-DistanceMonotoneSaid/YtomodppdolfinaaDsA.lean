
/- What the small functions of package distance return: between, within, phases, reaches, and the methods of a calculation that has not failed. -/
import Derived.Test.YtomodppdolfinaaDsPlain
import Derived.Test.YtomodppdolfinaaVsF
import Derived.Test.YtomodppdolfinaaAl
import Derived.Test.YtomodppdolfinaaBlk
namespace Go
instance Sz.setCell {w : World} {s : Nat} (p : Addr) (v : Value) [h : Sz w s] : Sz (w.setCell p v) s := ⟨by have := h.eq; simpa using this⟩
theorem set_own {c : Array Value} {i : Nat} {v : Value} (h : c[i]? = some v) : c.setIfInBounds i v = c := by
  apply Array.ext_getElem?
  intro j
  rw [Array.getElem?_setIfInBounds]
  by_cases hj : i = j
  · subst hj
    have := (Array.getElem?_eq_some_iff.1 h).1
    rw [if_pos rfl, if_pos this, h]
  · simp [hj]
theorem World.setCell_own {w : World} {b i : Nat} {v : Value} (h : w.cell? ⟨b, i, none⟩ = some v) : w.setCell ⟨b, i, none⟩ v = w := by
  unfold World.setCell
  unfold World.cell? at h
  show World.mk _ _ _ _ _ = World.mk _ _ _ _ _
  congr 1
  apply Array.ext_getElem?
  intro j
  simp only [Array.getElem?_modify]
  by_cases hj : b = j
  · subst hj
    simp only [if_true]
    simp only at h
    revert h
    cases hb : w.heap[b]? with
    | none => intro h; cases h
    | some o =>
      cases o with
      | cells c t fr =>
        intro h
        have h2 : c[i]? = some v := by simpa using h
        simp [set_own h2]
      | _ => intro h; cases h
  · simp [hj]
end Go
namespace Go.Proofs.Ytomodppdolfinaa
open Go.RowKit Go.Sub
/-- A calculation at block b that has not failed. -/
structure Calc (w : World) (b : Nat) : Prop where
  zero : w.cell? ⟨b, 0, none⟩ = some (.int .i64 0)
  soft : w.frozen? ⟨b, 0, none⟩ = false
theorem Calc.old {w : World} {b : Nat} (h : Calc w b) : Old b w := ⟨World.block_lt_of_cell? w ⟨b, 0, none⟩ h.zero⟩
theorem Calc.q {w w' : World} {b : Nat} (h : Calc w b) (hq : Q w w') : Calc w' b := by
  obtain ⟨k, rfl⟩ := hq
  haveI := h.old
  exact ⟨by rw [World.cell?_jk]; exact h.zero, by rw [World.frozen?_jk]; exact h.soft⟩

set_option maxHeartbeats 1000000 in
theorem dbetween_any (n l h : Int) (w : World) :
    Calls Try.prog 57 #[.int .i64 n, .int .i64 l, .int .i64 h] w fun e w' => e = .returned (.bool (decide (l ≤ n) && decide (n ≤ h))) ∧ w = w' := by
  go_enter Try.func57, Try.ntmps57
  go_wp2
  all_goals go_ret
  all_goals
    refine ⟨?_, rfl⟩
    show Ending.returned (Value.bool _) = _
    refine congrArg (fun x => Ending.returned (Value.bool x)) ?_
    rw [Bool.eq_iff_iff]
    simp [*]
    try omega
theorem btw_brk (l n : Int) : (decide (-l ≤ n) && decide (n ≤ l)) = !brkB l n := by
  rw [Bool.eq_iff_iff]
  simp [brkB]
set_option maxHeartbeats 1000000 in
theorem dwithin_any (a b c d l : Int) (w : World) (h0 : 0 ≤ l) (h1 : l ≤ 1000000000000000000) :
    Calls Try.prog 40 #[.agg #[.int .i64 a, .int .i64 b, .int .i64 c, .int .i64 d], .int .i64 l] w fun e w' => e = .returned (.bool (wiB ⟨a, b, c, d⟩ l)) ∧ Q w w' := by
  go_enter Try.func40, Try.ntmps40
  go_wp2
  refine wp_loop_rounds 5 ?_
  repeat any_goals (rw [rounds_succ]; go_wp2_with (go_at_call 57; refine (dbetween_any _ _ _ _).mono ?_; rintro e w' ⟨rfl, rfl⟩; rw [btw_brk]))
  all_goals go_ret
  all_goals (refine ⟨?_, (Q.refl _).alloc _⟩; simp [wiB, *]; done)
theorem dwithin_c (x : Cy) (l : Int) (w : World) (h0 : 0 ≤ l) (h1 : l ≤ 1000000000000000000) :
    Calls Try.prog 40 #[.agg #[.int .i64 x.a, .int .i64 x.b, .int .i64 x.c, .int .i64 x.d], .int .i64 l] w fun e w' => e = .returned (.bool (wiB x l)) ∧ Q w w' := dwithin_any x.a x.b x.c x.d l w h0 h1
def ph3 (x y z : Cy) : Bool := wiB x 65536 && wiB y 65536 && wiB z 65536
theorem ph3_iff (x y z : Cy) : ph3 x y z = true ↔ x.In 65536 ∧ y.In 65536 ∧ z.In 65536 := by
  simp only [ph3, Bool.and_eq_true, wiB_iff, and_assoc]
set_option maxHeartbeats 1000000 in
theorem dphases_any (x y z : Cy) (w : World) :
    Calls Try.prog 56 #[.agg #[.int .i64 x.a, .int .i64 x.b, .int .i64 x.c, .int .i64 x.d, .int .i64 y.a, .int .i64 y.b, .int .i64 y.c, .int .i64 y.d, .int .i64 z.a, .int .i64 z.b, .int .i64 z.c, .int .i64 z.d]] w fun e w' => e = .returned (.bool (ph3 x y z)) ∧ Q w w' := by
  have HW := Lib.hid fun (x : Cy) (w : World) => dwithin_c x 65536 w (by decide) (by decide)
  unfold ph3
  cases h1 : wiB x 65536
  · go_enter Try.func56, Try.ntmps56
    go_wp2_with (go_at_call 40; (with_reducible refine (HW.out _ _).mono ?_); rintro e w' ⟨rfl, kj, rfl⟩)
    go_ret
    refine ⟨by simp, ?_⟩
    repeat' (first | exact Q.refl _ | refine Q.alloc ?_ _ | refine Q.jk ?_ _ | refine Q.drew ?_)
  · cases h2 : wiB y 65536
    · go_enter Try.func56, Try.ntmps56
      go_wp2_with (go_at_call 40; (with_reducible refine (HW.out _ _).mono ?_); rintro e w' ⟨rfl, kj, rfl⟩)
      go_ret
      refine ⟨by simp, ?_⟩
      repeat' (first | exact Q.refl _ | refine Q.alloc ?_ _ | refine Q.jk ?_ _ | refine Q.drew ?_)
    · go_enter Try.func56, Try.ntmps56
      go_wp2_with (go_at_call 40; (with_reducible refine (HW.out _ _).mono ?_); rintro e w' ⟨rfl, kj, rfl⟩)
      go_ret
      refine ⟨by simp, ?_⟩
      repeat' (first | exact Q.refl _ | refine Q.alloc ?_ _ | refine Q.jk ?_ _ | refine Q.drew ?_)
structure Zn.OK (z : Zn) : Prop where
  x0 : 0 ≤ z.x
  x1 : z.x ≤ 4000
  r0 : 0 ≤ z.r
  r1 : z.r ≤ 4000
  l0 : 0 ≤ z.l
  l1 : z.l ≤ 4000
set_option maxHeartbeats 1000000 in
theorem dreaches_c (z : Zn) (w : World) (h : Zn.OK z) :
    Calls Try.prog 41 #[.agg #[.bool z.on, .bool z.fwd, .int .i64 z.x, .int .i64 z.r, .int .i64 z.l, .int .i64 z.d]] w fun e w' => e = .returned (.bool true) ∧ Q w w' := by
  obtain ⟨x0, x1, r0, r1, l0, l1⟩ := h
  go_enter Try.func41, Try.ntmps41
  go_wp2_with (go_at_call 57; refine (dbetween_any _ _ _ _).mono ?_; rintro e w' ⟨rfl, rfl⟩)
  go_ret
  refine ⟨by simp [*], ?_⟩
  repeat' (first | exact Q.refl _ | refine Q.alloc ?_ _ | refine Q.jk ?_ _ | refine Q.drew ?_)
set_option maxHeartbeats 1000000 in
theorem keep_c (b : Nat) (x : Cy) (w : World) (hb : Calc w b) :
    Calls Try.prog 72 #[.pointer (some ⟨b, 0, none⟩), .agg #[.int .i64 x.a, .int .i64 x.b, .int .i64 x.c, .int .i64 x.d], .int .i64 0] w fun e w' => e = .returned (.agg #[.int .i64 x.a, .int .i64 x.b, .int .i64 x.c, .int .i64 x.d]) ∧ Q w w' := by
  haveI := hb.old
  have c0 := hb.zero
  have c1 := hb.soft
  have hs := World.setCell_own c0
  go_enter Try.func72, Try.ntmps72
  go_wp2
  refine bodyPost_ret (v := .agg #[.int .i64 x.a, .int .i64 x.b, .int .i64 x.c, .int .i64 x.d]) (by simp [results, Try.results72, go_sem]) rfl ⟨rfl, ?_⟩
  repeat' (first | exact Q.refl _ | refine Q.alloc ?_ _ | refine Q.jk ?_ _ | refine Q.drew ?_)
set_option maxHeartbeats 1000000 in
theorem kadd_c (b : Nat) (x y : Cy) (w : World) (hb : Calc w b) (hx : x.In 100000000000000000) (hy : y.In 100000000000000000) :
    Calls Try.prog 58 #[.pointer (some ⟨b, 0, none⟩), .agg #[.int .i64 x.a, .int .i64 x.b, .int .i64 x.c, .int .i64 x.d], .agg #[.int .i64 y.a, .int .i64 y.b, .int .i64 y.c, .int .i64 y.d]] w fun e w' => e = .returned (.agg #[.int .i64 (x.add y).a, .int .i64 (x.add y).b, .int .i64 (x.add y).c, .int .i64 (x.add y).d]) ∧ Q w w' := by
  have HB := Lib.hid hb
  clear hb
  go_enter Try.func58, Try.ntmps58
  go_wp2_with (first | (go_at_call 24; (with_reducible refine (add_c x y _ hx hy).mono ?_); rintro e w' ⟨rfl, kj, rfl⟩) | (go_at_call 72; (with_reducible refine (keep_c b (x.add y) _ (HB.out.q (by repeat' (first | exact Q.refl _ | refine Q.alloc ?_ _ | refine Q.jk ?_ _ | refine Q.drew ?_)))).mono ?_); rintro e w' ⟨rfl, kj, rfl⟩))
  refine bodyPost_ret (v := .agg #[.int .i64 (x.add y).a, .int .i64 (x.add y).b, .int .i64 (x.add y).c, .int .i64 (x.add y).d]) (by simp [results, Try.results58, go_sem]) rfl ⟨rfl, ?_⟩
  repeat' (first | exact Q.refl _ | refine Q.alloc ?_ _ | refine Q.jk ?_ _ | refine Q.drew ?_)
set_option maxHeartbeats 1000000 in
theorem ksub_c (b : Nat) (x y : Cy) (w : World) (hb : Calc w b) (hx : x.In 100000000000000000) (hy : y.In 100000000000000000) :
    Calls Try.prog 82 #[.pointer (some ⟨b, 0, none⟩), .agg #[.int .i64 x.a, .int .i64 x.b, .int .i64 x.c, .int .i64 x.d], .agg #[.int .i64 y.a, .int .i64 y.b, .int .i64 y.c, .int .i64 y.d]] w fun e w' => e = .returned (.agg #[.int .i64 (x.sub y).a, .int .i64 (x.sub y).b, .int .i64 (x.sub y).c, .int .i64 (x.sub y).d]) ∧ Q w w' := by
  have HB := Lib.hid hb
  clear hb
  go_enter Try.func82, Try.ntmps82
  go_wp2_with (first | (go_at_call 25; (with_reducible refine (sub_c x y _ hx hy).mono ?_); rintro e w' ⟨rfl, kj, rfl⟩) | (go_at_call 72; (with_reducible refine (keep_c b (x.sub y) _ (HB.out.q (by repeat' (first | exact Q.refl _ | refine Q.alloc ?_ _ | refine Q.jk ?_ _ | refine Q.drew ?_)))).mono ?_); rintro e w' ⟨rfl, kj, rfl⟩))
  refine bodyPost_ret (v := .agg #[.int .i64 (x.sub y).a, .int .i64 (x.sub y).b, .int .i64 (x.sub y).c, .int .i64 (x.sub y).d]) (by simp [results, Try.results82, go_sem]) rfl ⟨rfl, ?_⟩
  repeat' (first | exact Q.refl _ | refine Q.alloc ?_ _ | refine Q.jk ?_ _ | refine Q.drew ?_)
set_option maxHeartbeats 1000000 in
theorem kmul_c (b : Nat) (x y : Cy) (w : World) (hb : Calc w b) (hx : x.In 268435456) (hy : y.In 268435456) :
    Calls Try.prog 42 #[.pointer (some ⟨b, 0, none⟩), .agg #[.int .i64 x.a, .int .i64 x.b, .int .i64 x.c, .int .i64 x.d], .agg #[.int .i64 y.a, .int .i64 y.b, .int .i64 y.c, .int .i64 y.d]] w fun e w' => e = .returned (.agg #[.int .i64 (x.mul y).a, .int .i64 (x.mul y).b, .int .i64 (x.mul y).c, .int .i64 (x.mul y).d]) ∧ Q w w' := by
  have HB := Lib.hid hb
  clear hb
  go_enter Try.func42, Try.ntmps42
  go_wp2_with (first | (go_at_call 17; (with_reducible refine (mul_c x y _ hx hy).mono ?_); rintro e w' ⟨rfl, kj, rfl⟩) | (go_at_call 72; (with_reducible refine (keep_c b (x.mul y) _ (HB.out.q (by repeat' (first | exact Q.refl _ | refine Q.alloc ?_ _ | refine Q.jk ?_ _ | refine Q.drew ?_)))).mono ?_); rintro e w' ⟨rfl, kj, rfl⟩))
  refine bodyPost_ret (v := .agg #[.int .i64 (x.mul y).a, .int .i64 (x.mul y).b, .int .i64 (x.mul y).c, .int .i64 (x.mul y).d]) (by simp [results, Try.results42, go_sem]) rfl ⟨rfl, ?_⟩
  repeat' (first | exact Q.refl _ | refine Q.alloc ?_ _ | refine Q.jk ?_ _ | refine Q.drew ?_)
set_option maxHeartbeats 1000000 in
theorem kscale_c (b : Nat) (x : Cy) (k : Int) (w : World) (hb : Calc w b) (hx : x.In 1000000) (k0 : -1000 ≤ k) (k1 : k ≤ 1000) :
    Calls Try.prog 60 #[.pointer (some ⟨b, 0, none⟩), .agg #[.int .i64 x.a, .int .i64 x.b, .int .i64 x.c, .int .i64 x.d], .int .i64 k] w fun e w' => e = .returned (.agg #[.int .i64 (x.sc k).a, .int .i64 (x.sc k).b, .int .i64 (x.sc k).c, .int .i64 (x.sc k).d]) ∧ Q w w' := by
  have HB := Lib.hid hb
  clear hb
  go_enter Try.func60, Try.ntmps60
  go_wp2_with (first | (go_at_call 20; (with_reducible refine (scale_fit x k 1000000 1000 _ hx k0 k1 (by decide) (by decide) (by decide)).mono ?_); rintro e w' ⟨rfl, kj, rfl⟩) | (go_at_call 72; (with_reducible refine (keep_c b (x.sc k) _ (HB.out.q (by repeat' (first | exact Q.refl _ | refine Q.alloc ?_ _ | refine Q.jk ?_ _ | refine Q.drew ?_)))).mono ?_); rintro e w' ⟨rfl, kj, rfl⟩))
  refine bodyPost_ret (v := .agg #[.int .i64 (x.sc k).a, .int .i64 (x.sc k).b, .int .i64 (x.sc k).c, .int .i64 (x.sc k).d]) (by simp [results, Try.results60, go_sem]) rfl ⟨rfl, ?_⟩
  repeat' (first | exact Q.refl _ | refine Q.alloc ?_ _ | refine Q.jk ?_ _ | refine Q.drew ?_)
set_option maxHeartbeats 1000000 in
theorem kturn_c (b : Nat) (x : Cy) (k : Int) (w : World) (hb : Calc w b) (hx : x.In 100000000000000000) :
    Calls Try.prog 53 #[.pointer (some ⟨b, 0, none⟩), .agg #[.int .i64 x.a, .int .i64 x.b, .int .i64 x.c, .int .i64 x.d], .int .i64 k] w fun e w' => e = .returned (.agg #[.int .i64 (x.turn k).a, .int .i64 (x.turn k).b, .int .i64 (x.turn k).c, .int .i64 (x.turn k).d]) ∧ Q w w' := by
  have HB := Lib.hid hb
  clear hb
  go_enter Try.func53, Try.ntmps53
  go_wp2_with (first | (go_at_call 19; (with_reducible refine (turn_c x k _ hx).mono ?_); rintro e w' ⟨rfl, kj, rfl⟩) | (go_at_call 72; (with_reducible refine (keep_c b (x.turn k) _ (HB.out.q (by repeat' (first | exact Q.refl _ | refine Q.alloc ?_ _ | refine Q.jk ?_ _ | refine Q.drew ?_)))).mono ?_); rintro e w' ⟨rfl, kj, rfl⟩))
  refine bodyPost_ret (v := .agg #[.int .i64 (x.turn k).a, .int .i64 (x.turn k).b, .int .i64 (x.turn k).c, .int .i64 (x.turn k).d]) (by simp [results, Try.results53, go_sem]) rfl ⟨rfl, ?_⟩
  repeat' (first | exact Q.refl _ | refine Q.alloc ?_ _ | refine Q.jk ?_ _ | refine Q.drew ?_)
set_option maxHeartbeats 1000000 in
theorem kconj_c (b : Nat) (x : Cy) (w : World) (hb : Calc w b) (hx : x.In 100000000000000000) :
    Calls Try.prog 43 #[.pointer (some ⟨b, 0, none⟩), .agg #[.int .i64 x.a, .int .i64 x.b, .int .i64 x.c, .int .i64 x.d]] w fun e w' => e = .returned (.agg #[.int .i64 (x.conj).a, .int .i64 (x.conj).b, .int .i64 (x.conj).c, .int .i64 (x.conj).d]) ∧ Q w w' := by
  have HB := Lib.hid hb
  clear hb
  go_enter Try.func43, Try.ntmps43
  go_wp2_with (first | (go_at_call 73; (with_reducible refine (conj_c x _ hx).mono ?_); rintro e w' ⟨rfl, kj, rfl⟩) | (go_at_call 72; (with_reducible refine (keep_c b (x.conj) _ (HB.out.q (by repeat' (first | exact Q.refl _ | refine Q.alloc ?_ _ | refine Q.jk ?_ _ | refine Q.drew ?_)))).mono ?_); rintro e w' ⟨rfl, kj, rfl⟩))
  refine bodyPost_ret (v := .agg #[.int .i64 (x.conj).a, .int .i64 (x.conj).b, .int .i64 (x.conj).c, .int .i64 (x.conj).d]) (by simp [results, Try.results43, go_sem]) rfl ⟨rfl, ?_⟩
  repeat' (first | exact Q.refl _ | refine Q.alloc ?_ _ | refine Q.jk ?_ _ | refine Q.drew ?_)
set_option maxHeartbeats 1000000 in
theorem kreal_c (b : Nat) (x : Cy) (w : World) (hb : Calc w b) (hx : x.In 100000000000000000) :
    Calls Try.prog 44 #[.pointer (some ⟨b, 0, none⟩), .func (.func 45) #[] #[], .agg #[.int .i64 x.a, .int .i64 x.b, .int .i64 x.c, .int .i64 x.d]] w fun e w' => e = .returned (.agg #[.int .i64 (x.real).a, .int .i64 (x.real).b]) ∧ Q w w' := by
  haveI := hb.old
  have c0 := hb.zero
  have c1 := hb.soft
  have hs := World.setCell_own c0
  go_enter Try.func44, Try.ntmps44
  go_wp2_with (go_at_call 45; (with_reducible refine (real_c x _ hx).mono ?_); rintro e w' ⟨rfl, kj, rfl⟩)
  refine bodyPost_ret (v := .agg #[.int .i64 (x.real).a, .int .i64 (x.real).b]) (by simp [results, Try.results44, go_sem]) rfl ⟨rfl, ?_⟩
  repeat' (first | exact Q.refl _ | refine Q.alloc ?_ _ | refine Q.jk ?_ _ | refine Q.drew ?_)
set_option maxHeartbeats 1000000 in
theorem kimag_c (b : Nat) (x : Cy) (w : World) (hb : Calc w b) (hx : x.In 100000000000000000) :
    Calls Try.prog 44 #[.pointer (some ⟨b, 0, none⟩), .func (.func 46) #[] #[], .agg #[.int .i64 x.a, .int .i64 x.b, .int .i64 x.c, .int .i64 x.d]] w fun e w' => e = .returned (.agg #[.int .i64 (x.imag).a, .int .i64 (x.imag).b]) ∧ Q w w' := by
  haveI := hb.old
  have c0 := hb.zero
  have c1 := hb.soft
  have hs := World.setCell_own c0
  go_enter Try.func44, Try.ntmps44
  go_wp2_with (go_at_call 46; (with_reducible refine (imag_c x _ hx).mono ?_); rintro e w' ⟨rfl, kj, rfl⟩)
  refine bodyPost_ret (v := .agg #[.int .i64 (x.imag).a, .int .i64 (x.imag).b]) (by simp [results, Try.results44, go_sem]) rfl ⟨rfl, ?_⟩
  repeat' (first | exact Q.refl _ | refine Q.alloc ?_ _ | refine Q.jk ?_ _ | refine Q.drew ?_)
set_option maxHeartbeats 1000000 in
theorem knorm_c (b : Nat) (x : Cy) (w : World) (hb : Calc w b) (hx : x.In 268435456) :
    Calls Try.prog 44 #[.pointer (some ⟨b, 0, none⟩), .func (.func 47) #[] #[], .agg #[.int .i64 x.a, .int .i64 x.b, .int .i64 x.c, .int .i64 x.d]] w fun e w' => e = .returned (.agg #[.int .i64 (x.norm).a, .int .i64 (x.norm).b]) ∧ Q w w' := by
  haveI := hb.old
  have c0 := hb.zero
  have c1 := hb.soft
  have hs := World.setCell_own c0
  go_enter Try.func44, Try.ntmps44
  go_wp2_with (go_at_call 47; (with_reducible refine (norm_c x _ hx).mono ?_); rintro e w' ⟨rfl, kj, rfl⟩)
  refine bodyPost_ret (v := .agg #[.int .i64 (x.norm).a, .int .i64 (x.norm).b]) (by simp [results, Try.results44, go_sem]) rfl ⟨rfl, ?_⟩
  repeat' (first | exact Q.refl _ | refine Q.alloc ?_ _ | refine Q.jk ?_ _ | refine Q.drew ?_)
set_option maxHeartbeats 1000000 in
theorem kvers_c (b : Nat) (x : Su) (j : Int) (y : Su) (k : Int) (w : World) (hb : Calc w b) (h4 : wi4 1152921504606846976 x.a x.b y.a y.b = true) (h2 : wi2 1073741824 j k = true) :
    Calls Try.prog 48 #[.pointer (some ⟨b, 0, none⟩), .agg #[.int .i64 x.a, .int .i64 x.b], .int .i64 j, .agg #[.int .i64 y.a, .int .i64 y.b], .int .i64 k] w fun e w' => e = .returned (.int .i64 (versS x j y k)) ∧ Q w w' := by
  haveI := hb.old
  have c0 := hb.zero
  have c1 := hb.soft
  have hs := World.setCell_own c0
  go_enter Try.func48, Try.ntmps48
  go_wp2_with (go_at_call 74; (with_reducible refine (vers_ok x j y k _ h4 h2).mono ?_); rintro e w' ⟨rfl, kj, rfl⟩)
  go_ret
  refine ⟨rfl, ?_⟩
  repeat' (first | exact Q.refl _ | refine Q.alloc ?_ _ | refine Q.jk ?_ _ | refine Q.drew ?_)
/-- The cells of six numbers. -/
def c24 (f : Nat → Cy) : Array Value := #[.int .i64 (f 0).a, .int .i64 (f 0).b, .int .i64 (f 0).c, .int .i64 (f 0).d, .int .i64 (f 1).a, .int .i64 (f 1).b, .int .i64 (f 1).c, .int .i64 (f 1).d, .int .i64 (f 2).a, .int .i64 (f 2).b, .int .i64 (f 2).c, .int .i64 (f 2).d, .int .i64 (f 3).a, .int .i64 (f 3).b, .int .i64 (f 3).c, .int .i64 (f 3).d, .int .i64 (f 4).a, .int .i64 (f 4).b, .int .i64 (f 4).c, .int .i64 (f 4).d, .int .i64 (f 5).a, .int .i64 (f 5).b, .int .i64 (f 5).c, .int .i64 (f 5).d]
@[go_sem] theorem c24_size (f : Nat → Cy) : (c24 f).size = 24 := rfl
instance c24_one (f : Nat → Cy) : Ones (c24 f) := by unfold c24; infer_instance
theorem c24_get (f : Nat → Cy) (k : Nat) (hk : k < 6) : (c24 f)[k * 4]? = some (.int .i64 (f k).a) ∧ (c24 f)[k * 4 + 1]? = some (.int .i64 (f k).b) ∧ (c24 f)[k * 4 + 2]? = some (.int .i64 (f k).c) ∧ (c24 f)[k * 4 + 3]? = some (.int .i64 (f k).d) := by
  have hk' : k = 0 ∨ k = 1 ∨ k = 2 ∨ k = 3 ∨ k = 4 ∨ k = 5 := by omega
  rcases hk' with rfl | rfl | rfl | rfl | rfl | rfl <;> exact ⟨rfl, rfl, rfl, rfl⟩
@[go_sem ↓ high] theorem lv24 (a : Addr) : loadVar 100 a = bigLoad 100 a := rfl
@[go_sem ↓ high] theorem sv24 (a : Addr) (v : Value) : storeVar 100 a v = bigStore 100 a v := rfl
theorem info24 : (Try.prog.info? 100).map (·.size) = some 24 := by kernel_rfl
@[go_sem] theorem run_load24 {w : World} {n : Nat} {cs : Array Value} {t : TypeId} {fr : Nat × Nat} [h : Blk w n (.cells cs t fr)] (hs : cs.size = 24) :
    (bigLoad 100 ⟨n, 0, none⟩).run Try.prog w = .ok (.agg cs) w := run_bigLoad Try.underlying100 rfl (by rw [hs]; exact info24)
@[go_sem] theorem run_store24 {w : World} {n : Nat} {cs cs' : Array Value} {t : TypeId} [h : Blk w n (.cells cs t (0, 0))] (hs : cs.size = 24) (hs' : cs'.size = 24) [h1 : Ones cs'] :
    (bigStore 100 ⟨n, 0, none⟩ (.agg cs')).run Try.prog w = .ok () (w.setBlk n (.cells cs' t)) := run_bigStore (by rw [hs']; exact info24) (by rw [hs, hs'])

theorem index24_0 (f : Nat → Cy) (w : World) : (Instr.index 100 (.agg (c24 f)) (.int .i64 0)).run Try.prog w = .ok (.agg #[.int .i64 (f 0).a, .int .i64 (f 0).b, .int .i64 (f 0).c, .int .i64 (f 0).d]) w := by kernel_rfl
theorem index24_1 (f : Nat → Cy) (w : World) : (Instr.index 100 (.agg (c24 f)) (.int .i64 1)).run Try.prog w = .ok (.agg #[.int .i64 (f 1).a, .int .i64 (f 1).b, .int .i64 (f 1).c, .int .i64 (f 1).d]) w := by kernel_rfl
theorem index24_2 (f : Nat → Cy) (w : World) : (Instr.index 100 (.agg (c24 f)) (.int .i64 2)).run Try.prog w = .ok (.agg #[.int .i64 (f 2).a, .int .i64 (f 2).b, .int .i64 (f 2).c, .int .i64 (f 2).d]) w := by kernel_rfl
theorem index24_3 (f : Nat → Cy) (w : World) : (Instr.index 100 (.agg (c24 f)) (.int .i64 3)).run Try.prog w = .ok (.agg #[.int .i64 (f 3).a, .int .i64 (f 3).b, .int .i64 (f 3).c, .int .i64 (f 3).d]) w := by kernel_rfl
theorem index24_4 (f : Nat → Cy) (w : World) : (Instr.index 100 (.agg (c24 f)) (.int .i64 4)).run Try.prog w = .ok (.agg #[.int .i64 (f 4).a, .int .i64 (f 4).b, .int .i64 (f 4).c, .int .i64 (f 4).d]) w := by kernel_rfl
theorem index24_5 (f : Nat → Cy) (w : World) : (Instr.index 100 (.agg (c24 f)) (.int .i64 5)).run Try.prog w = .ok (.agg #[.int .i64 (f 5).a, .int .i64 (f 5).b, .int .i64 (f 5).c, .int .i64 (f 5).d]) w := by kernel_rfl
theorem index24 (f : Nat → Cy) (k : Nat) (hk : k < 6) (w : World) : (Instr.index 100 (.agg (c24 f)) (.int .i64 (k : Int))).run Try.prog w = .ok (.agg #[.int .i64 (f k).a, .int .i64 (f k).b, .int .i64 (f k).c, .int .i64 (f k).d]) w := by
  have hk' : k = 0 ∨ k = 1 ∨ k = 2 ∨ k = 3 ∨ k = 4 ∨ k = 5 := by omega
  rcases hk' with rfl | rfl | rfl | rfl | rfl | rfl
  · exact index24_0 f w
  · exact index24_1 f w
  · exact index24_2 f w
  · exact index24_3 f w
  · exact index24_4 f w
  · exact index24_5 f w
set_option maxHeartbeats 2000000 in
theorem ksix_c (b : Nat) (x y z : Cy) (w : World) (hb : Calc w b) (hx : x.In 65536) (hy : y.In 65536) (hz : z.In 65536) :
    Calls Try.prog 59 #[.pointer (some ⟨b, 0, none⟩), .agg #[.int .i64 x.a, .int .i64 x.b, .int .i64 x.c, .int .i64 x.d, .int .i64 y.a, .int .i64 y.b, .int .i64 y.c, .int .i64 y.d, .int .i64 z.a, .int .i64 z.b, .int .i64 z.c, .int .i64 z.d]] w fun e w' => e = .returned (.agg (c24 (sixC x y z))) ∧ Q w w' := by
  have HB := Lib.hid hb
  clear hb
  go_enter Try.func59, Try.ntmps59
  go_wp2
  try simp only [List.append]
  refine wp_region_tail 25 (by kernel_rfl) (by kernel_rfl) ?_
  simp only [List.take_succ_cons, List.take_zero, List.drop_succ_cons, List.drop_zero]
  repeat (go_big_quiet_step ((go_at_call 82; exact Calls.jk_of (ksub_c b _ _ _ (HB.out.q (by repeat' (first | exact Q.refl _ | refine Q.alloc ?_ _ | refine Q.jk ?_ _ | refine Q.drew ?_))) (Cy.In.mono (by with_reducible assumption) (by decide)) (Cy.In.mono (by with_reducible assumption) (by decide))))))
  refine wpQuiet_nil ?_
  intro _ hw'
  obtain ⟨kq, rfl⟩ := hw'
  go_wp2
  refine bodyPost_ret (v := .agg (c24 (sixC x y z))) (results_blk1 Try.results59 rfl Try.underlying100 rfl info24) rfl ⟨rfl, ?_⟩
  repeat' (first | exact Q.refl _ | refine Q.alloc ?_ _ | refine Q.jk ?_ _ | refine Q.drew ?_)
end Go.Proofs.Ytomodppdolfinaa
