
/- What Mul, Root and Turn of package cyclo return. -/
import Derived.Test.YtfdpnephjpcnbaaDoorBz02
import Derived.Test.YtfdpnephjpcnbaaDoorBz01
import Derived.Test.YtfdpnephjpcnbaaDoorRows
set_option linter.unusedSimpArgs false
set_option linter.unusedVariables false
/- What Add, Sub, Conj, Real, Imag and Norm of package cyclo return. -/
namespace Go.Proofs.YtfdpnephjpcnbaaDoor
open Go.RowKit Go.Sub

set_option maxHeartbeats 1000000 in
theorem add_any (a b c d a' b' c' d' : Int) (w : World) :
    Calls Tryd.prog 38 #[.agg #[.int .i64 a, .int .i64 b, .int .i64 c, .int .i64 d], .agg #[.int .i64 a', .int .i64 b', .int .i64 c', .int .i64 d']] w fun e w' => e = .returned (.tuple #[.agg #[.int .i64 (addR ⟨a, b, c, d⟩ ⟨a', b', c', d'⟩).v.a, .int .i64 (addR ⟨a, b, c, d⟩ ⟨a', b', c', d'⟩).v.b, .int .i64 (addR ⟨a, b, c, d⟩ ⟨a', b', c', d'⟩).v.c, .int .i64 (addR ⟨a, b, c, d⟩ ⟨a', b', c', d'⟩).v.d], .int .i64 (addR ⟨a, b, c, d⟩ ⟨a', b', c', d'⟩).e]) ∧ Q w w' := by
  by_cases h : wiB ⟨a, b, c, d⟩ 576460752303423488 = true
  · by_cases h' : wiB ⟨a', b', c', d'⟩ 576460752303423488 = true
    · obtain ⟨l1, l2, l3, l4, l5, l6, l7, l8⟩ := wiB_in h
      obtain ⟨m1, m2, m3, m4, m5, m6, m7, m8⟩ := wiB_in h'
      dsimp only at l1 l2 l3 l4 l5 l6 l7 l8 m1 m2 m3 m4 m5 m6 m7 m8
      have hR : addR ⟨a, b, c, d⟩ ⟨a', b', c', d'⟩ = limR ⟨a + a', b + b', c + c', d + d'⟩ := by simp [addR, h, h', Cy.add]
      rw [hR]
      clear hR
      go_enter Tryd.func38, Tryd.ntmps38
      go_wp2_with (go_at_call 60; refine (within_any _ _ _ _ _ _ (by omega) (by omega)).mono ?_; rintro e w' ⟨rfl, kj, rfl⟩)
      refine wp_loop_rounds 5 ?_
      rw [rounds_succ]; go_wp2; go_region; go_wp2
      rw [rounds_succ]; go_wp2; go_region; go_wp2
      rw [rounds_succ]; go_wp2; go_region; go_wp2
      rw [rounds_succ]; go_wp2; go_region; go_wp2
      rw [rounds_succ]; go_wp2_with (go_at_call 67; refine (limited_any _ _ _ _ _).mono ?_; rintro e w' ⟨rfl, kj, rfl⟩)
      refine bodyPost_ret (v := .tuple #[.agg #[.int .i64 (limR ⟨a + a', b + b', c + c', d + d'⟩).v.a, .int .i64 (limR ⟨a + a', b + b', c + c', d + d'⟩).v.b, .int .i64 (limR ⟨a + a', b + b', c + c', d + d'⟩).v.c, .int .i64 (limR ⟨a + a', b + b', c + c', d + d'⟩).v.d], .int .i64 (limR ⟨a + a', b + b', c + c', d + d'⟩).e]) (by simp [results, Tryd.results38, go_sem]) rfl ⟨rfl, ?_⟩
      repeat' (first | exact Q.refl _ | refine Q.alloc ?_ _ | refine Q.jk ?_ _ | refine Q.drew ?_)
    · have h' : wiB ⟨a', b', c', d'⟩ 576460752303423488 = false := by simpa using h'
      go_enter Tryd.func38, Tryd.ntmps38
      go_wp2_with (go_at_call 60; refine (within_any _ _ _ _ _ _ (by omega) (by omega)).mono ?_; rintro e w' ⟨rfl, kj, rfl⟩)
      refine bodyPost_ret (v := .tuple #[.agg #[.int .i64 (R4.mk zeroC 1).v.a, .int .i64 (R4.mk zeroC 1).v.b, .int .i64 (R4.mk zeroC 1).v.c, .int .i64 (R4.mk zeroC 1).v.d], .int .i64 (R4.mk zeroC 1).e]) (by simp [results, Tryd.results38, go_sem, zeroC]) rfl ⟨by simp [addR, h, h'], ?_⟩
      repeat' (first | exact Q.refl _ | refine Q.alloc ?_ _ | refine Q.jk ?_ _ | refine Q.drew ?_)
  · have h : wiB ⟨a, b, c, d⟩ 576460752303423488 = false := by simpa using h
    go_enter Tryd.func38, Tryd.ntmps38
    go_wp2_with (go_at_call 60; refine (within_any _ _ _ _ _ _ (by omega) (by omega)).mono ?_; rintro e w' ⟨rfl, kj, rfl⟩)
    refine bodyPost_ret (v := .tuple #[.agg #[.int .i64 (R4.mk zeroC 1).v.a, .int .i64 (R4.mk zeroC 1).v.b, .int .i64 (R4.mk zeroC 1).v.c, .int .i64 (R4.mk zeroC 1).v.d], .int .i64 (R4.mk zeroC 1).e]) (by simp [results, Tryd.results38, go_sem, zeroC]) rfl ⟨by simp [addR, h], ?_⟩
    repeat' (first | exact Q.refl _ | refine Q.alloc ?_ _ | refine Q.jk ?_ _ | refine Q.drew ?_)

set_option maxHeartbeats 1000000 in
theorem norm_any (a b c d : Int) (w : World) :
    Calls Tryd.prog 33 #[.agg #[.int .i64 a, .int .i64 b, .int .i64 c, .int .i64 d]] w fun e w' => e = .returned (.tuple #[.agg #[.int .i64 (normR ⟨a, b, c, d⟩).v.a, .int .i64 (normR ⟨a, b, c, d⟩).v.b], .int .i64 (normR ⟨a, b, c, d⟩).e]) ∧ Q w w' := by
  by_cases h : wiB ⟨a, b, c, d⟩ 268435456 = true
  · obtain ⟨l1, l2, l3, l4, l5, l6, l7, l8⟩ := wiB_in h
    dsimp only at l1 l2 l3 l4 l5 l6 l7 l8
    obtain ⟨p0, p1⟩ := bd_mul l1 l2 l1 l2
    obtain ⟨p2, p3⟩ := bd_mul l3 l4 l3 l4
    obtain ⟨p4, p5⟩ := bd_mul l5 l6 l5 l6
    obtain ⟨p6, p7⟩ := bd_mul l7 l8 l7 l8
    obtain ⟨p8, p9⟩ := bd_mul l1 l2 l5 l6
    obtain ⟨p10, p11⟩ := bd_mul l3 l4 l7 l8
    obtain ⟨p12, p13⟩ := bd_mul l1 l2 l3 l4
    obtain ⟨p14, p15⟩ := bd_mul l3 l4 l5 l6
    obtain ⟨p16, p17⟩ := bd_mul l5 l6 l7 l8
    simp only [Int.reduceMul, Int.reduceNeg] at p0 p1 p2 p3 p4 p5 p6 p7 p8 p9 p10 p11 p12 p13 p14 p15 p16 p17
    go_enter Tryd.func33, Tryd.ntmps33
    go_wp2_with (go_at_call 60; refine (within_any _ _ _ _ _ _ (by omega) (by omega)).mono ?_; rintro e w' ⟨rfl, kj, rfl⟩)
    refine wp_region_jk (by kernel_rfl) (by kernel_rfl) ?_
    repeat (go_big_quiet_step (fail))
    refine wpQuiet_nil ?_
    intro _ hw'
    obtain ⟨kq, rfl⟩ := hw'
    go_wp2
    refine bodyPost_ret (v := .tuple #[.agg #[.int .i64 (a*a + b*b + c*c + d*d + a*c + b*d), .int .i64 (a*b + b*c + c*d)], .int .i64 0]) (by simp [results, Tryd.results33, go_sem]) rfl ⟨by simp [normR, h, Cy.norm], ?_⟩
    repeat' (first | exact Q.refl _ | refine Q.alloc ?_ _ | refine Q.jk ?_ _ | refine Q.drew ?_)
  · have h : wiB ⟨a, b, c, d⟩ 268435456 = false := by simpa using h
    go_enter Tryd.func33, Tryd.ntmps33
    go_wp2_with (go_at_call 60; refine (within_any _ _ _ _ _ _ (by omega) (by omega)).mono ?_; rintro e w' ⟨rfl, kj, rfl⟩)
    refine bodyPost_ret (v := .tuple #[.agg #[.int .i64 0, .int .i64 0], .int .i64 1]) (by simp [results, Tryd.results33, go_sem]) rfl ⟨by simp [normR, h], ?_⟩
    repeat' (first | exact Q.refl _ | refine Q.alloc ?_ _ | refine Q.jk ?_ _ | refine Q.drew ?_)

end Go.Proofs.YtfdpnephjpcnbaaDoor
/- What '==' says of two arrays of integers: as the lists are. -/
namespace Go
open Go.Sub

theorem all_range_ints : ∀ (xs ys : List Int), xs.length = ys.length → ((List.range xs.length).all fun i => xs.getD i 0 == ys.getD i 0) = (xs == ys)
  | [], [], _ => rfl
  | x :: xs, y :: ys, h => by
    have ih := all_range_ints xs ys (by simpa using h)
    rw [List.length_cons, List.range_succ_eq_map, List.all_cons, List.all_map]
    simp only [List.getD_cons_zero, Function.comp_def, List.getD_cons_succ, ih]
    simp [List.cons_beq_cons]
  | [], _ :: _, h => by simp at h
  | _ :: _, [], h => by simp at h

section
variable {P : Program} (w : World)
theorem run_equalIn_ints (d : Nat) (t e : TypeId) (n : Nat) (ht : P.underlying t = some (.array n e)) (he : P.underlying e = some (.int .i64)) (hsz : ∀ w, (sizeOf e).run P w = .ok 1 w)
    (xs ys : List Int) (hx : xs.length = n) (hy : ys.length = n) :
    (Op.equalIn (d + 2) t (.agg (xs.map (Value.int .i64)).toArray) (.agg (ys.map (Value.int .i64)).toArray)).run P w = .ok (xs == ys) w := by
  rw [← all_range_ints xs ys (hx.trans hy.symm), hx, List.range_eq_range', Op.equalIn]
  simp only [Sem.run_bind, run_underlying ht, Result.andThen_ok, hsz, Std.Legacy.Range.forIn_eq_forIn_range', Std.Legacy.Range.size, Nat.sub_zero, Nat.add_sub_cancel, Nat.div_one]
  have hl : ∀ i ∈ List.range' 0 n 1, i < n := fun i hi => by simpa using (List.mem_range'_1.1 hi).2
  generalize List.range' 0 n 1 = l at hl ⊢
  induction l with
  | nil => simp
  | cons i l ih =>
    have hi : i < n := hl i (by simp)
    have px : (part e (xs.map (Value.int .i64)).toArray (i * 1)).run P w = .ok (.int .i64 (xs.getD i 0)) w := by
      simp [part, isAgg, run_underlying he, List.getD, List.getElem?_eq_getElem (show i < xs.length by omega)]
    have py : (part e (ys.map (Value.int .i64)).toArray (i * 1)).run P w = .ok (.int .i64 (ys.getD i 0)) w := by
      simp [part, isAgg, run_underlying he, List.getD, List.getElem?_eq_getElem (show i < ys.length by omega)]
    have pe : (Op.equalIn (d + 1) e (.int .i64 (xs.getD i 0)) (.int .i64 (ys.getD i 0))).run P w = .ok (xs.getD i 0 == ys.getD i 0) w :=
      run_equalIn_int w d e .i64 .i64 _ _ he
    simp only [List.forIn_cons, Sem.run_bind, px, py, pe, Result.andThen_ok, List.all_cons]
    cases hb : (xs.getD i 0 == ys.getD i 0)
    · simp
    · simp only [Bool.not_true, Bool.false_eq_true, if_false, Sem.run_pure, Result.andThen_ok, Bool.true_and]
      exact ih fun j hj => hl j (by simp [hj])
theorem run_eql_ints (t e : TypeId) (n : Nat) (ht : P.underlying t = some (.array n e)) (he : P.underlying e = some (.int .i64)) (hsz : ∀ w, (sizeOf e).run P w = .ok 1 w)
    (xs ys : List Int) (hx : xs.length = n) (hy : ys.length = n) :
    (binOp .eql t (.agg (xs.map (Value.int .i64)).toArray) (.agg (ys.map (Value.int .i64)).toArray)).run P w = .ok (.bool (xs == ys)) w := by
  rw [run_eql_struct, run_equalIn_ints w 9998 t e n ht he hsz xs ys hx hy]
  rfl
theorem run_neq_ints (t e : TypeId) (n : Nat) (ht : P.underlying t = some (.array n e)) (he : P.underlying e = some (.int .i64)) (hsz : ∀ w, (sizeOf e).run P w = .ok 1 w)
    (xs ys : List Int) (hx : xs.length = n) (hy : ys.length = n) :
    (binOp .neq t (.agg (xs.map (Value.int .i64)).toArray) (.agg (ys.map (Value.int .i64)).toArray)).run P w = .ok (.bool (!(xs == ys))) w := by
  rw [run_neq_struct, run_equalIn_ints w 9998 t e n ht he hsz xs ys hx hy]
  rfl
end
namespace Sub
def Cy.eqB (x y : Cy) : Bool := ([x.a, x.b, x.c, x.d] == [y.a, y.b, y.c, y.d])
theorem Cy.eqB_iff (x y : Cy) : x.eqB y = true ↔ x = y := by
  cases x; cases y; simp [Cy.eqB]
@[go_sem] theorem Cy.eqB_self (x : Cy) : x.eqB x = true := (Cy.eqB_iff x x).2 rfl
theorem Cy.eqB_of {x y : Cy} (h : x = y) : x.eqB y = true := (Cy.eqB_iff x y).2 h
theorem Cy.eqB_false {x y : Cy} (h : x ≠ y) : x.eqB y = false := by
  cases e : x.eqB y
  · rfl
  · exact absurd ((Cy.eqB_iff x y).1 e) h
end Sub
end Go
/- '==' between two numbers of the ring, in this program. -/
namespace Go.Proofs.YtfdpnephjpcnbaaDoor
open Go.RowKit Go.Sub
@[go_sem high] theorem eqlCyc (w : World) (a b c d a' b' c' d' : Int) :
    (binOp .eql 41 (.agg #[.int .i64 a, .int .i64 b, .int .i64 c, .int .i64 d]) (.agg #[.int .i64 a', .int .i64 b', .int .i64 c', .int .i64 d'])).run Tryd.prog w = .ok (.bool (Cy.eqB ⟨a, b, c, d⟩ ⟨a', b', c', d'⟩)) w :=
  run_eql_ints (P := Tryd.prog) w 41 3 4 Tryd.underlying41 Tryd.underlying3 (fun _ => by kernel_rfl) [a, b, c, d] [a', b', c', d'] rfl rfl
@[go_sem high] theorem neqCyc (w : World) (a b c d a' b' c' d' : Int) :
    (binOp .neq 41 (.agg #[.int .i64 a, .int .i64 b, .int .i64 c, .int .i64 d]) (.agg #[.int .i64 a', .int .i64 b', .int .i64 c', .int .i64 d'])).run Tryd.prog w = .ok (.bool (!(Cy.eqB ⟨a, b, c, d⟩ ⟨a', b', c', d'⟩))) w :=
  run_neq_ints (P := Tryd.prog) w 41 3 4 Tryd.underlying41 Tryd.underlying3 (fun _ => by kernel_rfl) [a, b, c, d] [a', b', c', d'] rfl rfl
@[go_sem] theorem indexCyc0 (x0 x1 x2 x3 : Value) (w : World) : (Instr.index 41 (.agg #[x0, x1, x2, x3]) (.int .i64 0)).run Tryd.prog w = .ok x0 w := by kernel_rfl
@[go_sem] theorem indexCyc1 (x0 x1 x2 x3 : Value) (w : World) : (Instr.index 41 (.agg #[x0, x1, x2, x3]) (.int .i64 1)).run Tryd.prog w = .ok x1 w := by kernel_rfl
@[go_sem] theorem indexCyc2 (x0 x1 x2 x3 : Value) (w : World) : (Instr.index 41 (.agg #[x0, x1, x2, x3]) (.int .i64 2)).run Tryd.prog w = .ok x2 w := by kernel_rfl
@[go_sem] theorem indexCyc3 (x0 x1 x2 x3 : Value) (w : World) : (Instr.index 41 (.agg #[x0, x1, x2, x3]) (.int .i64 3)).run Tryd.prog w = .ok x3 w := by kernel_rfl
end Go.Proofs.YtfdpnephjpcnbaaDoor
namespace Go.Proofs.YtfdpnephjpcnbaaDoor
open Go.RowKit Go.Sub

theorem limR_mul (a b c d a' b' c' d' : Int) (h : wiB ⟨a, b, c, d⟩ 268435456 = true) (h' : wiB ⟨a', b', c', d'⟩ 268435456 = true) :
    limR ⟨a * a' - (b * d' + c * c' + d * b') - d * d', a * b' + b * a' - (c * d' + d * c'), a * c' + b * b' + c * a' + (b * d' + c * c' + d * b'), a * d' + b * c' + c * b' + d * a' + (c * d' + d * c')⟩ = mulR ⟨a, b, c, d⟩ ⟨a', b', c', d'⟩ := by
  have e : (Cy.mk (a * a' - (b * d' + c * c' + d * b') - d * d') (a * b' + b * a' - (c * d' + d * c')) (a * c' + b * b' + c * a' + (b * d' + c * c' + d * b')) (a * d' + b * c' + c * b' + d * a' + (c * d' + d * c'))) = Cy.mul ⟨a, b, c, d⟩ ⟨a', b', c', d'⟩ := by
    simp only [Cy.mul]
  rw [e]
  have hi := (mul_in (prods_of (wiB_in h) (wiB_in h'))).mono (show 6 * (268435456 * 268435456) ≤ (576460752303423488 : Int) by decide)
  simp [limR, mulR, h, h', wiB_of hi]

theorem turn_close (a b c d k t1 t2 t3 t4 : Int) (h : wiB ⟨a, b, c, d⟩ 576460752303423488 = true) (e1 : t1 = (Cy.turn ⟨a, b, c, d⟩ k).a) (e2 : t2 = (Cy.turn ⟨a, b, c, d⟩ k).b) (e3 : t3 = (Cy.turn ⟨a, b, c, d⟩ k).c) (e4 : t4 = (Cy.turn ⟨a, b, c, d⟩ k).d) :
    limR ⟨t1, t2, t3, t4⟩ = turnR ⟨a, b, c, d⟩ k := by
  have e : Cy.mk t1 t2 t3 t4 = Cy.turn ⟨a, b, c, d⟩ k := Cy.ext' e1 e2 e3 e4
  simp [turnR, h, e]

/-- The table of package cyclo lies in its place. -/
def rootTab : List Int := [1, 0, 0, 0, 0, 1, 0, 0, 0, 0, 1, 0, 0, 0, 0, 1, -1, 0, 1, 0, 0, -1, 0, 1]
def RootsOK (w : World) : Prop := 0 < w.heap.size ∧ ∀ i, i < 24 → w.cell? ⟨0, i, none⟩ = some (.int .i64 (rootTab.getD i 0))
theorem RootsOK.alloc {w : World} (h : RootsOK w) (o : Obj) : RootsOK (w.alloc o) :=
  ⟨Nat.lt_of_lt_of_le h.1 (by simp), fun i hi => by rw [World.cell?_alloc_past o _ i h.1]; exact h.2 i hi⟩
theorem RootsOK.jk {w : World} (h : RootsOK w) (k : Jk) : RootsOK (w.jk k) :=
  ⟨Nat.lt_of_lt_of_le h.1 (by rw [World.size_jk]; omega), fun i hi => by rw [World.cell?_jk_lt k _ i h.1]; exact h.2 i hi⟩
theorem RootsOK.drew {w : World} (h : RootsOK w) : RootsOK w.drew := h
theorem RootsOK.q {w w' : World} (h : RootsOK w) (hq : Q w w') : RootsOK w' := by
  obtain ⟨k, rfl⟩ := hq
  exact h.jk k

set_option maxHeartbeats 400000 in
theorem root_0 (k : Int) (w : World) (hr : RootsOK w) (hk : k % 12 = 0) :
    Calls Tryd.prog 43 #[.int .i64 k] w fun e w' => e = .returned (.agg #[.int .i64 (1), .int .i64 (0), .int .i64 (0), .int .i64 (0)]) ∧ Q w w' := by
  have t0 := hr.2 0 (by omega)
  have t1 := hr.2 1 (by omega)
  have t2 := hr.2 2 (by omega)
  have t3 := hr.2 3 (by omega)
  simp only [rootTab, List.getD_cons_zero, List.getD_cons_succ] at t0 t1 t2 t3
  haveI : Old 0 w := ⟨hr.1⟩
  clear hr
  go_enter Tryd.func43, Tryd.ntmps43
  go_wp2_with (first | (go_at_call 70; refine (dozen_any _ _).mono ?_; rintro e w' ⟨rfl, rfl⟩) | (go_at_call 71; refine (minus_any _ _ _ _ _ (by omega) (by omega) (by omega) (by omega) (by omega) (by omega) (by omega) (by omega)).mono ?_; rintro e w' ⟨rfl, kj, rfl⟩))
  refine bodyPost_ret (v := .agg #[.int .i64 (1), .int .i64 (0), .int .i64 (0), .int .i64 (0)]) (by simp [results, Tryd.results43, go_sem]) rfl ⟨rfl, ?_⟩
  repeat' (first | exact Q.refl _ | refine Q.alloc ?_ _ | refine Q.jk ?_ _ | refine Q.drew ?_)

set_option maxHeartbeats 400000 in
theorem root_1 (k : Int) (w : World) (hr : RootsOK w) (hk : k % 12 = 1) :
    Calls Tryd.prog 43 #[.int .i64 k] w fun e w' => e = .returned (.agg #[.int .i64 (0), .int .i64 (1), .int .i64 (0), .int .i64 (0)]) ∧ Q w w' := by
  have t0 := hr.2 4 (by omega)
  have t1 := hr.2 5 (by omega)
  have t2 := hr.2 6 (by omega)
  have t3 := hr.2 7 (by omega)
  simp only [rootTab, List.getD_cons_zero, List.getD_cons_succ] at t0 t1 t2 t3
  haveI : Old 0 w := ⟨hr.1⟩
  clear hr
  go_enter Tryd.func43, Tryd.ntmps43
  go_wp2_with (first | (go_at_call 70; refine (dozen_any _ _).mono ?_; rintro e w' ⟨rfl, rfl⟩) | (go_at_call 71; refine (minus_any _ _ _ _ _ (by omega) (by omega) (by omega) (by omega) (by omega) (by omega) (by omega) (by omega)).mono ?_; rintro e w' ⟨rfl, kj, rfl⟩))
  refine bodyPost_ret (v := .agg #[.int .i64 (0), .int .i64 (1), .int .i64 (0), .int .i64 (0)]) (by simp [results, Tryd.results43, go_sem]) rfl ⟨rfl, ?_⟩
  repeat' (first | exact Q.refl _ | refine Q.alloc ?_ _ | refine Q.jk ?_ _ | refine Q.drew ?_)

set_option maxHeartbeats 400000 in
theorem root_2 (k : Int) (w : World) (hr : RootsOK w) (hk : k % 12 = 2) :
    Calls Tryd.prog 43 #[.int .i64 k] w fun e w' => e = .returned (.agg #[.int .i64 (0), .int .i64 (0), .int .i64 (1), .int .i64 (0)]) ∧ Q w w' := by
  have t0 := hr.2 8 (by omega)
  have t1 := hr.2 9 (by omega)
  have t2 := hr.2 10 (by omega)
  have t3 := hr.2 11 (by omega)
  simp only [rootTab, List.getD_cons_zero, List.getD_cons_succ] at t0 t1 t2 t3
  haveI : Old 0 w := ⟨hr.1⟩
  clear hr
  go_enter Tryd.func43, Tryd.ntmps43
  go_wp2_with (first | (go_at_call 70; refine (dozen_any _ _).mono ?_; rintro e w' ⟨rfl, rfl⟩) | (go_at_call 71; refine (minus_any _ _ _ _ _ (by omega) (by omega) (by omega) (by omega) (by omega) (by omega) (by omega) (by omega)).mono ?_; rintro e w' ⟨rfl, kj, rfl⟩))
  refine bodyPost_ret (v := .agg #[.int .i64 (0), .int .i64 (0), .int .i64 (1), .int .i64 (0)]) (by simp [results, Tryd.results43, go_sem]) rfl ⟨rfl, ?_⟩
  repeat' (first | exact Q.refl _ | refine Q.alloc ?_ _ | refine Q.jk ?_ _ | refine Q.drew ?_)

set_option maxHeartbeats 400000 in
theorem root_3 (k : Int) (w : World) (hr : RootsOK w) (hk : k % 12 = 3) :
    Calls Tryd.prog 43 #[.int .i64 k] w fun e w' => e = .returned (.agg #[.int .i64 (0), .int .i64 (0), .int .i64 (0), .int .i64 (1)]) ∧ Q w w' := by
  have t0 := hr.2 12 (by omega)
  have t1 := hr.2 13 (by omega)
  have t2 := hr.2 14 (by omega)
  have t3 := hr.2 15 (by omega)
  simp only [rootTab, List.getD_cons_zero, List.getD_cons_succ] at t0 t1 t2 t3
  haveI : Old 0 w := ⟨hr.1⟩
  clear hr
  go_enter Tryd.func43, Tryd.ntmps43
  go_wp2_with (first | (go_at_call 70; refine (dozen_any _ _).mono ?_; rintro e w' ⟨rfl, rfl⟩) | (go_at_call 71; refine (minus_any _ _ _ _ _ (by omega) (by omega) (by omega) (by omega) (by omega) (by omega) (by omega) (by omega)).mono ?_; rintro e w' ⟨rfl, kj, rfl⟩))
  refine bodyPost_ret (v := .agg #[.int .i64 (0), .int .i64 (0), .int .i64 (0), .int .i64 (1)]) (by simp [results, Tryd.results43, go_sem]) rfl ⟨rfl, ?_⟩
  repeat' (first | exact Q.refl _ | refine Q.alloc ?_ _ | refine Q.jk ?_ _ | refine Q.drew ?_)

set_option maxHeartbeats 400000 in
theorem root_4 (k : Int) (w : World) (hr : RootsOK w) (hk : k % 12 = 4) :
    Calls Tryd.prog 43 #[.int .i64 k] w fun e w' => e = .returned (.agg #[.int .i64 (-1), .int .i64 (0), .int .i64 (1), .int .i64 (0)]) ∧ Q w w' := by
  have t0 := hr.2 16 (by omega)
  have t1 := hr.2 17 (by omega)
  have t2 := hr.2 18 (by omega)
  have t3 := hr.2 19 (by omega)
  simp only [rootTab, List.getD_cons_zero, List.getD_cons_succ] at t0 t1 t2 t3
  haveI : Old 0 w := ⟨hr.1⟩
  clear hr
  go_enter Tryd.func43, Tryd.ntmps43
  go_wp2_with (first | (go_at_call 70; refine (dozen_any _ _).mono ?_; rintro e w' ⟨rfl, rfl⟩) | (go_at_call 71; refine (minus_any _ _ _ _ _ (by omega) (by omega) (by omega) (by omega) (by omega) (by omega) (by omega) (by omega)).mono ?_; rintro e w' ⟨rfl, kj, rfl⟩))
  refine bodyPost_ret (v := .agg #[.int .i64 (-1), .int .i64 (0), .int .i64 (1), .int .i64 (0)]) (by simp [results, Tryd.results43, go_sem]) rfl ⟨rfl, ?_⟩
  repeat' (first | exact Q.refl _ | refine Q.alloc ?_ _ | refine Q.jk ?_ _ | refine Q.drew ?_)

set_option maxHeartbeats 400000 in
theorem root_5 (k : Int) (w : World) (hr : RootsOK w) (hk : k % 12 = 5) :
    Calls Tryd.prog 43 #[.int .i64 k] w fun e w' => e = .returned (.agg #[.int .i64 (0), .int .i64 (-1), .int .i64 (0), .int .i64 (1)]) ∧ Q w w' := by
  have t0 := hr.2 20 (by omega)
  have t1 := hr.2 21 (by omega)
  have t2 := hr.2 22 (by omega)
  have t3 := hr.2 23 (by omega)
  simp only [rootTab, List.getD_cons_zero, List.getD_cons_succ] at t0 t1 t2 t3
  haveI : Old 0 w := ⟨hr.1⟩
  clear hr
  go_enter Tryd.func43, Tryd.ntmps43
  go_wp2_with (first | (go_at_call 70; refine (dozen_any _ _).mono ?_; rintro e w' ⟨rfl, rfl⟩) | (go_at_call 71; refine (minus_any _ _ _ _ _ (by omega) (by omega) (by omega) (by omega) (by omega) (by omega) (by omega) (by omega)).mono ?_; rintro e w' ⟨rfl, kj, rfl⟩))
  refine bodyPost_ret (v := .agg #[.int .i64 (0), .int .i64 (-1), .int .i64 (0), .int .i64 (1)]) (by simp [results, Tryd.results43, go_sem]) rfl ⟨rfl, ?_⟩
  repeat' (first | exact Q.refl _ | refine Q.alloc ?_ _ | refine Q.jk ?_ _ | refine Q.drew ?_)

set_option maxHeartbeats 400000 in
theorem root_6 (k : Int) (w : World) (hr : RootsOK w) (hk : k % 12 = 6) :
    Calls Tryd.prog 43 #[.int .i64 k] w fun e w' => e = .returned (.agg #[.int .i64 (-1), .int .i64 (0), .int .i64 (0), .int .i64 (0)]) ∧ Q w w' := by
  have t0 := hr.2 0 (by omega)
  have t1 := hr.2 1 (by omega)
  have t2 := hr.2 2 (by omega)
  have t3 := hr.2 3 (by omega)
  simp only [rootTab, List.getD_cons_zero, List.getD_cons_succ] at t0 t1 t2 t3
  haveI : Old 0 w := ⟨hr.1⟩
  clear hr
  go_enter Tryd.func43, Tryd.ntmps43
  go_wp2_with (first | (go_at_call 70; refine (dozen_any _ _).mono ?_; rintro e w' ⟨rfl, rfl⟩) | (go_at_call 71; refine (minus_any _ _ _ _ _ (by omega) (by omega) (by omega) (by omega) (by omega) (by omega) (by omega) (by omega)).mono ?_; rintro e w' ⟨rfl, kj, rfl⟩))
  refine bodyPost_ret (v := .agg #[.int .i64 (-1), .int .i64 (0), .int .i64 (0), .int .i64 (0)]) (by simp [results, Tryd.results43, go_sem]) rfl ⟨rfl, ?_⟩
  repeat' (first | exact Q.refl _ | refine Q.alloc ?_ _ | refine Q.jk ?_ _ | refine Q.drew ?_)

set_option maxHeartbeats 400000 in
theorem root_7 (k : Int) (w : World) (hr : RootsOK w) (hk : k % 12 = 7) :
    Calls Tryd.prog 43 #[.int .i64 k] w fun e w' => e = .returned (.agg #[.int .i64 (0), .int .i64 (-1), .int .i64 (0), .int .i64 (0)]) ∧ Q w w' := by
  have t0 := hr.2 4 (by omega)
  have t1 := hr.2 5 (by omega)
  have t2 := hr.2 6 (by omega)
  have t3 := hr.2 7 (by omega)
  simp only [rootTab, List.getD_cons_zero, List.getD_cons_succ] at t0 t1 t2 t3
  haveI : Old 0 w := ⟨hr.1⟩
  clear hr
  go_enter Tryd.func43, Tryd.ntmps43
  go_wp2_with (first | (go_at_call 70; refine (dozen_any _ _).mono ?_; rintro e w' ⟨rfl, rfl⟩) | (go_at_call 71; refine (minus_any _ _ _ _ _ (by omega) (by omega) (by omega) (by omega) (by omega) (by omega) (by omega) (by omega)).mono ?_; rintro e w' ⟨rfl, kj, rfl⟩))
  refine bodyPost_ret (v := .agg #[.int .i64 (0), .int .i64 (-1), .int .i64 (0), .int .i64 (0)]) (by simp [results, Tryd.results43, go_sem]) rfl ⟨rfl, ?_⟩
  repeat' (first | exact Q.refl _ | refine Q.alloc ?_ _ | refine Q.jk ?_ _ | refine Q.drew ?_)

set_option maxHeartbeats 400000 in
theorem root_8 (k : Int) (w : World) (hr : RootsOK w) (hk : k % 12 = 8) :
    Calls Tryd.prog 43 #[.int .i64 k] w fun e w' => e = .returned (.agg #[.int .i64 (0), .int .i64 (0), .int .i64 (-1), .int .i64 (0)]) ∧ Q w w' := by
  have t0 := hr.2 8 (by omega)
  have t1 := hr.2 9 (by omega)
  have t2 := hr.2 10 (by omega)
  have t3 := hr.2 11 (by omega)
  simp only [rootTab, List.getD_cons_zero, List.getD_cons_succ] at t0 t1 t2 t3
  haveI : Old 0 w := ⟨hr.1⟩
  clear hr
  go_enter Tryd.func43, Tryd.ntmps43
  go_wp2_with (first | (go_at_call 70; refine (dozen_any _ _).mono ?_; rintro e w' ⟨rfl, rfl⟩) | (go_at_call 71; refine (minus_any _ _ _ _ _ (by omega) (by omega) (by omega) (by omega) (by omega) (by omega) (by omega) (by omega)).mono ?_; rintro e w' ⟨rfl, kj, rfl⟩))
  refine bodyPost_ret (v := .agg #[.int .i64 (0), .int .i64 (0), .int .i64 (-1), .int .i64 (0)]) (by simp [results, Tryd.results43, go_sem]) rfl ⟨rfl, ?_⟩
  repeat' (first | exact Q.refl _ | refine Q.alloc ?_ _ | refine Q.jk ?_ _ | refine Q.drew ?_)

set_option maxHeartbeats 400000 in
theorem root_9 (k : Int) (w : World) (hr : RootsOK w) (hk : k % 12 = 9) :
    Calls Tryd.prog 43 #[.int .i64 k] w fun e w' => e = .returned (.agg #[.int .i64 (0), .int .i64 (0), .int .i64 (0), .int .i64 (-1)]) ∧ Q w w' := by
  have t0 := hr.2 12 (by omega)
  have t1 := hr.2 13 (by omega)
  have t2 := hr.2 14 (by omega)
  have t3 := hr.2 15 (by omega)
  simp only [rootTab, List.getD_cons_zero, List.getD_cons_succ] at t0 t1 t2 t3
  haveI : Old 0 w := ⟨hr.1⟩
  clear hr
  go_enter Tryd.func43, Tryd.ntmps43
  go_wp2_with (first | (go_at_call 70; refine (dozen_any _ _).mono ?_; rintro e w' ⟨rfl, rfl⟩) | (go_at_call 71; refine (minus_any _ _ _ _ _ (by omega) (by omega) (by omega) (by omega) (by omega) (by omega) (by omega) (by omega)).mono ?_; rintro e w' ⟨rfl, kj, rfl⟩))
  refine bodyPost_ret (v := .agg #[.int .i64 (0), .int .i64 (0), .int .i64 (0), .int .i64 (-1)]) (by simp [results, Tryd.results43, go_sem]) rfl ⟨rfl, ?_⟩
  repeat' (first | exact Q.refl _ | refine Q.alloc ?_ _ | refine Q.jk ?_ _ | refine Q.drew ?_)

set_option maxHeartbeats 400000 in
theorem root_10 (k : Int) (w : World) (hr : RootsOK w) (hk : k % 12 = 10) :
    Calls Tryd.prog 43 #[.int .i64 k] w fun e w' => e = .returned (.agg #[.int .i64 (1), .int .i64 (0), .int .i64 (-1), .int .i64 (0)]) ∧ Q w w' := by
  have t0 := hr.2 16 (by omega)
  have t1 := hr.2 17 (by omega)
  have t2 := hr.2 18 (by omega)
  have t3 := hr.2 19 (by omega)
  simp only [rootTab, List.getD_cons_zero, List.getD_cons_succ] at t0 t1 t2 t3
  haveI : Old 0 w := ⟨hr.1⟩
  clear hr
  go_enter Tryd.func43, Tryd.ntmps43
  go_wp2_with (first | (go_at_call 70; refine (dozen_any _ _).mono ?_; rintro e w' ⟨rfl, rfl⟩) | (go_at_call 71; refine (minus_any _ _ _ _ _ (by omega) (by omega) (by omega) (by omega) (by omega) (by omega) (by omega) (by omega)).mono ?_; rintro e w' ⟨rfl, kj, rfl⟩))
  refine bodyPost_ret (v := .agg #[.int .i64 (1), .int .i64 (0), .int .i64 (-1), .int .i64 (0)]) (by simp [results, Tryd.results43, go_sem]) rfl ⟨rfl, ?_⟩
  repeat' (first | exact Q.refl _ | refine Q.alloc ?_ _ | refine Q.jk ?_ _ | refine Q.drew ?_)

set_option maxHeartbeats 400000 in
theorem root_11 (k : Int) (w : World) (hr : RootsOK w) (hk : k % 12 = 11) :
    Calls Tryd.prog 43 #[.int .i64 k] w fun e w' => e = .returned (.agg #[.int .i64 (0), .int .i64 (1), .int .i64 (0), .int .i64 (-1)]) ∧ Q w w' := by
  have t0 := hr.2 20 (by omega)
  have t1 := hr.2 21 (by omega)
  have t2 := hr.2 22 (by omega)
  have t3 := hr.2 23 (by omega)
  simp only [rootTab, List.getD_cons_zero, List.getD_cons_succ] at t0 t1 t2 t3
  haveI : Old 0 w := ⟨hr.1⟩
  clear hr
  go_enter Tryd.func43, Tryd.ntmps43
  go_wp2_with (first | (go_at_call 70; refine (dozen_any _ _).mono ?_; rintro e w' ⟨rfl, rfl⟩) | (go_at_call 71; refine (minus_any _ _ _ _ _ (by omega) (by omega) (by omega) (by omega) (by omega) (by omega) (by omega) (by omega)).mono ?_; rintro e w' ⟨rfl, kj, rfl⟩))
  refine bodyPost_ret (v := .agg #[.int .i64 (0), .int .i64 (1), .int .i64 (0), .int .i64 (-1)]) (by simp [results, Tryd.results43, go_sem]) rfl ⟨rfl, ?_⟩
  repeat' (first | exact Q.refl _ | refine Q.alloc ?_ _ | refine Q.jk ?_ _ | refine Q.drew ?_)

theorem root_any (k : Int) (w : World) (hr : RootsOK w) :
    Calls Tryd.prog 43 #[.int .i64 k] w fun e w' => e = .returned (.agg #[.int .i64 (rootC k).a, .int .i64 (rootC k).b, .int .i64 (rootC k).c, .int .i64 (rootC k).d]) ∧ Q w w' := by
  rcases dz_cases k with hk | hk | hk | hk | hk | hk | hk | hk | hk | hk | hk | hk
  · rw [show rootC k = (Cy.mk 1 0 0 0).tn 0 by simp [rootC, hk]]; exact root_0 k w hr hk
  · rw [show rootC k = (Cy.mk 1 0 0 0).tn 1 by simp [rootC, hk]]; exact root_1 k w hr hk
  · rw [show rootC k = (Cy.mk 1 0 0 0).tn 2 by simp [rootC, hk]]; exact root_2 k w hr hk
  · rw [show rootC k = (Cy.mk 1 0 0 0).tn 3 by simp [rootC, hk]]; exact root_3 k w hr hk
  · rw [show rootC k = (Cy.mk 1 0 0 0).tn 4 by simp [rootC, hk]]; exact root_4 k w hr hk
  · rw [show rootC k = (Cy.mk 1 0 0 0).tn 5 by simp [rootC, hk]]; exact root_5 k w hr hk
  · rw [show rootC k = (Cy.mk 1 0 0 0).tn 6 by simp [rootC, hk]]; exact root_6 k w hr hk
  · rw [show rootC k = (Cy.mk 1 0 0 0).tn 7 by simp [rootC, hk]]; exact root_7 k w hr hk
  · rw [show rootC k = (Cy.mk 1 0 0 0).tn 8 by simp [rootC, hk]]; exact root_8 k w hr hk
  · rw [show rootC k = (Cy.mk 1 0 0 0).tn 9 by simp [rootC, hk]]; exact root_9 k w hr hk
  · rw [show rootC k = (Cy.mk 1 0 0 0).tn 10 by simp [rootC, hk]]; exact root_10 k w hr hk
  · rw [show rootC k = (Cy.mk 1 0 0 0).tn 11 by simp [rootC, hk]]; exact root_11 k w hr hk

end Go.Proofs.YtfdpnephjpcnbaaDoor
